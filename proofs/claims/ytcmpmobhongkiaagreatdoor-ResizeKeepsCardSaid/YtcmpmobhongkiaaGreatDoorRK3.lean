/- joined. -/
import Derived.Test.YtcmpmobhongkiaaGreatDoorRK0
import Derived.Test.YtcmpmobhongkiaaGreatDoorRK1
import Derived.Test.YtcmpmobhongkiaaGreatDoorRK2
import Derived.Deep.RegionWith
import Derived.Deep.RegionHeld3
import Derived.Deep.DeepCutAuto
import Derived.StillTailTactics
import Derived.Lib.Overlaps
import Derived.Laws.Externs
set_option linter.unusedVariables false
set_option linter.unusedSimpArgs false
namespace Go.Proofs.YtcmpmobhongkiaaGreatDoor
section
open Go.RowKit
set_option maxHeartbeats 2000000 in
set_option maxRecDepth 100000 in
theorem BH (a1 a2:Option Addr)(n1 n2 c1 c2:Nat)(f e:Nat)(z:Zn)(w:World)(hat:Hf w a1 a2 n1 n2 z)(hl1:n1<=1000)(hl2:n2<=1000):
 Calls Tryz.prog 133 #[.agg #[.int .i64 f,.int .i64 e,.slice a1 n1 c1,.slice a2 n2 c2]] w fun ev w'=>∃a1' a2' c1' c2',ev= .returned (.agg #[.int .i64 f,.int .i64 e,.slice a1' n1 c1',.slice a2' n2 c2'])/\gY w' w.heap.size a1' a2' n1 n2 c1' c2' z/\Below w.heap.size w w':=by
 obtain⟨K0,K1,F0,F1,hsz,hbw⟩:=boxes2 w #[.int .i64 (f:Int),.int .i64 (e:Int),.slice a1 n1 c1,.slice a2 n2 c2] 102 #[.int .i64 0,.int .i64 0,.slice none 0 0,.slice none 0 0] 102;obtain⟨l1,l2,q1,q2⟩:=hat.below hbw;clear hat
 go_enter Tryz.func133,Tryz.ntmps133
 go_wp2_with fail
 generalize (w.alloc _).alloc _=w0 at*
 go_region_with (first | (go_at_call 132;refine(Qk _ _ _ z.l _ l1 (by omega) (q1.below (by first | exact Below.drew Hg | exact Hg | exact(Below.refl _ _).drew))).mono ?_;rintro ev wm ⟨am,cm,rfl,BF,hbm⟩;first | (have Km:=aB (w1:=wk) Kk Sk hbm;have Fm:=aH (w1:=wk) Fk Sk hbm;have Sm:w.heap.size<wm.heap.size:=gI Sk hbm.size;have Hl:Below w0.heap.size w0 wm:=Below.step Hg hbm) | (have Km:=aB (w1:=wk.drew) (fun o=>Kk o) Sk hbm;have Fm:=aH (w1:=wk.drew) (fun o=>Fk o) Sk hbm;have Sm:w.heap.size<wm.heap.size:=gI Sk hbm.size;have Hl:Below w0.heap.size w0 wm:=Below.step (Below.drew Hg) hbm) | (have Km:=aB (w1:=w0.drew) (fun o=>K0 o) (show w.heap.size<w0.heap.size by omega) hbm;have Fm:=aH (w1:=w0.drew) (fun o=>F0 o) (show w.heap.size<w0.heap.size by omega) hbm;have Sm:w.heap.size<wm.heap.size:=gI (show w.heap.size<w0.heap.size by omega) hbm.size;have Hl:Below w0.heap.size w0 wm:=Below.step ((Below.refl _ _).drew) hbm)) | (go_at_call 85;refine(He _ _ _ z.y _ l2 (by omega) (q2.below (by first | exact Below.drew Hl | exact Hl | exact(Below.refl _ _).drew))).mono ?_;rintro ev wk ⟨ak,ck,rfl,hok,hbk⟩;first | (have Kk:=aB (w1:=wm) Km Sm hbk;have Fk:=aH (w1:=wm) Fm Sm hbk;have Sk:w.heap.size<wk.heap.size:=gI Sm hbk.size;have Hg:Below w0.heap.size w0 wk:=Below.step Hl hbk) | (have Kk:=aB (w1:=wm.drew) (fun o=>Km o) Sm hbk;have Fk:=aH (w1:=wm.drew) (fun o=>Fm o) Sm hbk;have Sk:w.heap.size<wk.heap.size:=gI Sm hbk.size;have Hg:Below w0.heap.size w0 wk:=Below.step (Below.drew Hl) hbk) | (have Kk:=aB (w1:=w0.drew) (fun o=>K0 o) (show w.heap.size<w0.heap.size by omega) hbk;have Fk:=aH (w1:=w0.drew) (fun o=>F0 o) (show w.heap.size<w0.heap.size by omega) hbk;have Sk:w.heap.size<wk.heap.size:=gI (show w.heap.size<w0.heap.size by omega) hbk.size;have Hg:Below w0.heap.size w0 wk:=Below.step ((Below.refl _ _).drew) hbk)))
 all_goals first
  |(
   have OF:=own_below BF hbk (Nat.le_refl _);have K1k:=aB K1 (by omega) Hg;have F1k:=aH F1 (by omega) Hg;have hz0:w.heap.size+1<w0.drew.heap.size:=hsz;have hzm:w0.drew.heap.size<=wm.heap.size:=hbm.size;have nm1:=own_ne BF (b:=w.heap.size) (.inl (by omega));have nm2:=own_ne BF (b:=w.heap.size+1) (.inl (by omega));have nk1:=own_ne hok (b:=w.heap.size) (.inl (by omega));have nk2:=own_ne hok (b:=w.heap.size+1) (.inl (by omega));have HZ:=gO ((show gY wk w.heap.size am ak n1 n2 cm ck z from⟨l1,l2,own_base OF (by omega),own_base hok (by omega)⟩).set (g:=w.heap.size) ⟨nm1,nk1⟩ 2 (.slice am n1 cm) |>.set (g:=w.heap.size) ⟨nm1,nk1⟩ 3 (.slice ak n2 ck));have hbw3:=Below.setCell (Below.setCell (Below.step hbw Hg) (show w.heap.size<=(⟨w.heap.size,2,none⟩:Addr).block from Nat.le_refl _) (.slice am n1 cm)) (show w.heap.size<=(⟨w.heap.size,3,none⟩:Addr).block from Nat.le_refl _) (.slice ak n2 ck);have KX:=aI (aI Kk 2 (.slice am n1 cm)) 3 (.slice ak n2 ck);have K1x:=aA (aA K1k (c:=w.heap.size) (by omega) 2 (.slice am n1 cm)) (c:=w.heap.size) (by omega) 3 (.slice ak n2 ck);have F1x:=aG (aG F1k ⟨w.heap.size,2,none⟩ (.slice am n1 cm)) ⟨w.heap.size,3,none⟩ (.slice ak n2 ck);clear K0 K1 F0 F1 Km Fm OF BF hok q1 q2 Kk Fk K1k F1k;generalize (wk.setCell _ _).setCell _ _=wx at*;change ∀o,wx.cell? ⟨w.heap.size,o,none⟩=(#[.int .i64 (f:Int),.int .i64 (e:Int),.slice am n1 cm,.slice ak n2 ck]:Array Value)[o]? at KX;go_wp2
   refine bodyPost_ret (v:= .agg #[.int .i64 f,.int .i64 e,.slice am n1 cm,.slice ak n2 ck]) (by simp[results,Tryz.results133,go_sem,K1x]) rfl ⟨am,ak,cm,ck,rfl,?_,?_⟩
   ·exact(((HZ.out.set ⟨nm2,nk2⟩ _ _).set ⟨nm2,nk2⟩ _ _).set ⟨nm2,nk2⟩ _ _).set ⟨nm2,nk2⟩ _ _
   ·exact Below.setCell (Below.setCell (Below.setCell (Below.setCell hbw3 (by simp only;omega) _) (by simp only;omega) _) (by simp only;omega) _) (by simp only;omega) _
   )
  |(
   have OF:=own_below hok hbm (Nat.le_refl _);have K1k:=aB K1 (by omega) Hl;have F1k:=aH F1 (by omega) Hl;have hz0:w.heap.size+1<w0.drew.heap.size:=hsz;have hzm:w0.drew.heap.size<=wk.heap.size:=hbk.size;have nm1:=own_ne BF (b:=w.heap.size) (.inl (by omega));have nm2:=own_ne BF (b:=w.heap.size+1) (.inl (by omega));have nk1:=own_ne hok (b:=w.heap.size) (.inl (by omega));have nk2:=own_ne hok (b:=w.heap.size+1) (.inl (by omega));have HZ:=gO ((show gY wm w.heap.size am ak n1 n2 cm ck z from⟨l1,l2,own_base BF (by omega),own_base OF (by omega)⟩).set (g:=w.heap.size) ⟨nm1,nk1⟩ 2 (.slice am n1 cm) |>.set (g:=w.heap.size) ⟨nm1,nk1⟩ 3 (.slice ak n2 ck));have hbw3:=Below.setCell (Below.setCell (Below.step hbw Hl) (show w.heap.size<=(⟨w.heap.size,2,none⟩:Addr).block from Nat.le_refl _) (.slice am n1 cm)) (show w.heap.size<=(⟨w.heap.size,3,none⟩:Addr).block from Nat.le_refl _) (.slice ak n2 ck);have KX:=aI (aI Km 2 (.slice am n1 cm)) 3 (.slice ak n2 ck);have K1x:=aA (aA K1k (c:=w.heap.size) (by omega) 2 (.slice am n1 cm)) (c:=w.heap.size) (by omega) 3 (.slice ak n2 ck);have F1x:=aG (aG F1k ⟨w.heap.size,2,none⟩ (.slice am n1 cm)) ⟨w.heap.size,3,none⟩ (.slice ak n2 ck);clear K0 K1 F0 F1 Km Fm OF BF hok q1 q2 Kk Fk K1k F1k;generalize (wm.setCell _ _).setCell _ _=wx at*;change ∀o,wx.cell? ⟨w.heap.size,o,none⟩=(#[.int .i64 (f:Int),.int .i64 (e:Int),.slice am n1 cm,.slice ak n2 ck]:Array Value)[o]? at KX;go_wp2
   refine bodyPost_ret (v:= .agg #[.int .i64 f,.int .i64 e,.slice am n1 cm,.slice ak n2 ck]) (by simp[results,Tryz.results133,go_sem,K1x]) rfl ⟨am,ak,cm,ck,rfl,?_,?_⟩
   ·exact(((HZ.out.set ⟨nm2,nk2⟩ _ _).set ⟨nm2,nk2⟩ _ _).set ⟨nm2,nk2⟩ _ _).set ⟨nm2,nk2⟩ _ _
   ·exact Below.setCell (Below.setCell (Below.setCell (Below.setCell hbw3 (by simp only;omega) _) (by simp only;omega) _) (by simp only;omega) _) (by simp only;omega) _
   )
end
section
open Go.RowKit
attribute [local go_sem ↓] jG
theorem XW (w:World):(zeroValue 63).run Tryz.prog w= .ok (.agg #[.int .i64 0,.int .i64 0,.int .i64 0]) w:=by
 obtain⟨i,hi,hz,hs,hb⟩:=info_parts rW;simp[zeroValue,typeInfo,hi,hz]
set_option maxRecDepth 100000 in
theorem qV (base:Nat)(a:Option Addr)(n c:Nat)(l:List Bk)(i:Nat)(w:World)(hown:w.ownsRow base 63 3 (.slice a n c) n (flat aO l))(hi:i<n)(hn:n<=1000)(hbase:base<=w.heap.size):
 Calls Tryz.prog 134 #[.slice a n c,.int .i64 i,.int .i64 (i+1)] w fun ev w'=>ev= .returned (.slice a (n-1) c)/\w'.ownsRow base 63 3 (.slice a (n-1) c) (n-1) (flat aO (l.eraseIdx i))/\w.grownBy w' (Value.ownBlock (.slice a n c)):=by
 have hln:l.length=n:=bC aJ (by decide) hown;have hnc:=dQ hown;have hcm:c<=9223372036854775807:=by
  rcases hown.2 with ⟨h',h2⟩ | ⟨g,cap,cur,h',_,_,_,hcm,_⟩
  ·simp at h';omega
  ·have:c=cap:=by simp at h';exact h'.2
   unfold maxLen at hcm;omega
 have HO:=gO hown;clear hown;have b0:(i:Int)<=n:=by omega
 have b1:(i:Int)+1<=n:=by omega
 have b2:(i:Int)<=c:=by omega
 have b3:(i:Int)+1<=c:=by omega
 have b4:(n:Int)<=c:=by omega
 have b5:(0:Int)<=(i:Int)+1:=by omega
 have b6:((i:Int)+1).toNat=i+1:=by omega
 go_enter Tryz.func134,Tryz.ntmps134
 go_wp2_with fail
 go_still_tail 6,(by kernel_rfl)
 change wpList _ _ _ _ _ w.drew;have HO2:=own_below HO.out ((Below.refl w.heap.size w).drew) (Nat.le_refl _);have hrow:=(aY HO2).cut (i+1) c 3 ((n-(i+1))*3) (by omega);have hfl:=flat_length aJ l;rw[List.take_of_length_le (by rw[List.length_drop,hfl];omega),eP aJ]at hrow;have hpre:=jK HO2 (show i<=n by omega);rw[eH aJ]at hpre;have HG:Hid (∀w',w.drew.grownBy w' (Value.ownBlock (.slice a i c))->w.grownBy w' (Value.ownBlock (.slice a n c))):=fun w' h=>⟨h.os,h.tape,h.output,h.size,fun k hk hne=>h.block k hk (by cases a with | none=>simp[Value.ownBlock] | some x=>simpa[Value.ownBlock]using hne)⟩
 have hdw:w.drew.heap.size=w.heap.size:=rfl;clear HO2;generalize w.drew=w1 at*;refine uN rfl _ _ 42 rfl base 63 (.agg #[.int .i64 0,.int .i64 0,.int .i64 0]) 3 24 Tryz.underlying42 rW (by decide) a i c _ rfl hpre (bY a (i+1) c 3) (n-(i+1)) (c-(i+1)) (flat aO (l.drop (i+1))) rfl (by rw[flat_length aJ,List.length_drop,hln]) hrow (oG _) (by omega) ?_;intro w2 hown2 hg2;have hG2:=HG.out w2 hg2;rw[<- aT,<- List.eraseIdx_eq_take_drop_succ]at hown2;have e1:i+(n-(i+1))=n-1:=by omega
 rw[e1]at hown2 ⊢;have HO3:=gO hown2;have b7:(n:Int)-1<=n:=by omega
 have b8:((n-1:Nat):Int)<=n:=by omega
 have b9:n-(n-1)=1:=by omega
 clear hown2 hg2 hrow hpre HO hfl;obtain⟨w3,aCx,hown3,hg3⟩:=Ho (P:=Tryz.prog) 42 0 63 Tryz.underlying42 3 (.agg #[.int .i64 0,.int .i64 0,.int .i64 0]) XW rfl (by decide) base (n-1) 1 c (c-(n-1)) a _ HO3.out (by omega);have HO4:=gO hown3;have HG4:Hid (w.grownBy w3 (Value.ownBlock (.slice a n c))):=⟨hg3.os.trans hG2.os,hg3.tape.trans hG2.tape,hg3.output.trans hG2.output,gQ hG2.size hg3.size,fun k hk hne=>(hg3.block k (gI hk hG2.size) (by cases a with | none=>simp[Value.ownBlock] | some x=>simpa[Value.ownBlock]using hne)).trans (hG2.block k hk hne)⟩
 clear hown3 HO3 hG2 hg3;go_wp2
 go_ret
 exact⟨rfl,HO4.out,HG4.out⟩
end
section
open Go.RowKit
attribute [local go_sem ↓] jG
theorem uO {P:Program}{w:World}(t tn ty e:TypeId)(ht:P.underlying t=some (.slice e))(htn:P.underlying tn=some (.int .i64))(z:Value)(size bytes:Nat)(hinfo:(P.info? e).map (fun i=>(i.zero,i.size,i.bytes))=some (some z,size,bytes))(hzs:z.cells.size=size)(hsz:0<size)
 (as_:Option Addr) (n cs:Nat) (xs:List Value) (base:Nat) (hown:w.ownsRow base e size (.slice as_ n cs) n xs) (k:Nat) (hk:0<k) (hg:cs<n+k) (hbytes:(n+k)*bytes<=140737488355328) (hbp:0<bytes):
 ∃G zs w',(Builtin.append_ #[t,tn] ty #[.slice as_ n cs,.int .i64 k]).run P w= .ok (.slice (some ⟨w.heap.size,0,none⟩) (n+k) G) w'/\zs.length=k*size/\w'.ownsRow w.heap.size e size (.slice (some ⟨w.heap.size,0,none⟩) (n+k) G) (n+k) (xs++zs)/\w.grownBy w' none:=by
 obtain⟨i,hi,hz,hsize,hby⟩:=info_parts hinfo;subst hsize;subst hby;have h63:n+k<=maxLen:=by
  have:n+k<=(n+k)*i.bytes:=Nat.le_mul_of_pos_right _ hbp;simp only[maxLen];omega
 have hold:(Builtin.firstCells i.size n (.slice as_ n cs)).run P w.drew= .ok xs.toArray w.drew:=lN i.size n as_ n cs xs hown.1 (aY (own_below hown ((Below.refl w.heap.size w).drew) (Nat.le_refl _)));have h:=Lib.run_append_grow_zeros (P:=P) w t tn ty e i z .i64 .i64 ht htn hi hz as_ n cs xs hold k hk hsz hg (by unfold maxLen at h63;omega) (by have:=Nat.mul_le_mul_right i.bytes (show k<=n+k by omega);omega) (growslice_fits hg hbytes);have hge:=grownCap_ge w (n+k) cs e;have hcm:grownCap w (n+k) cs e<=maxLen:=grownCap_le_maxLen w (n+k) cs e h63;refine⟨_,(Builtin.zeroCells z.cells k).toList,_,h,?_,⟨?_,.inr ⟨w.heap.size,_,_,rfl,Nat.le_refl _,heap_alloc_new w.drew _,hge,hcm,?_,?_⟩⟩,⟨rfl,rfl,rfl,by simp,fun j hj _=>heap_alloc_old w.drew _ hj⟩⟩
 ·rw[Array.length_toList,size_zeroCells,hzs]
 ·rw[List.length_append,hown.1,Array.length_toList,size_zeroCells,hzs,Nat.add_mul]
 ·simp only[Array.size_append,List.size_toArray,size_zeroCells,hzs,hown.1,<- Nat.add_mul];congr 1;omega
 ·have hl:(xs++(Builtin.zeroCells z.cells k).toList).length=(n+k)*i.size:=by rw[List.length_append,hown.1,Array.length_toList,size_zeroCells,hzs,Nat.add_mul]
  simp only[Array.toList_append];rw[<- hl];exact List.take_left
theorem jX {P:Program}{w:World}{ops:Array Oper}{rest:List Oper}{o:Oper}{a:Act}{Q:Exit->Act->World->Prop}(hgd:o.guard=none)(s x:Operand)(t tn:TypeId)
 (ho:o.op= .call {callee:= .builtin .append,args:=#[s,x],argTypes:=#[t,tn]}) (v u:Value) (hs:a.eval s=v) (hx:a.eval x=u) {v':Value} {w':World}
 (hr:(Builtin.append_ #[t,tn] o.type #[v,u]).run P w= .ok v' w') (h:wpList P ops Q rest (a.put o.dst v') w'):wpList P ops Q (o::rest) a w:=by
 refine wpList_plain hgd fun K hK=> ?_
 unfold Oper.wp execOp;simp only[ho,resolve,invoke,builtin,Sem.run_bind,Sem.run_pure,Result.andThen_ok,List.map_toArray,List.map_cons,List.map_nil,hs,hx,hr];exact hK _ _ h
set_option maxRecDepth 100000 in
theorem Ob (base:Nat)(a:Option Addr)(n c g:Nat)(l:List Bk)(b:Bk)(w:World)(hown:w.ownsRow base 63 3 (.slice a n c) n (flat aO l))(hn:n<=1000)(hbase:base<=w.heap.size)(hv:Row w (some ⟨g,0,none⟩) (aO b)):
 Calls Tryz.prog 109 #[.slice a n c,.int .i64 n,.slice (some ⟨g,0,none⟩) 1 1] w fun ev w'=>∃a' c',ev= .returned (.slice a' (n+1) c')/\w'.ownsRow base 63 3 (.slice a' (n+1) c') (n+1) (flat aO (l++[b]))/\w.grownBy w' (Value.ownBlock (.slice a n c)):=by
 have hnc:=dQ hown;have HO:=gO hown;clear hown;have b2:(n:Int)<=c:=by omega
 go_enter Tryz.func109,Tryz.ntmps109
 go_wp2_with (at_builtin;refine iI rfl _ _ 42 rfl base 63 (.agg #[.int .i64 0,.int .i64 0,.int .i64 0]) 3 24 Tryz.underlying42 rW rfl (by decide) (by decide) _ _ _ _ rfl HO.out (some ⟨g,0,none⟩) 1 1 (aO b) rfl rfl hv (by simp[aO,vI,Value.oneCell']) (by omega) hbase ?_)
 intro a' c' w1 hown1 hg;rw[show flat aO l++aO b=flat aO (l++[b])from by rw[aT,gX]]at hown1;have HO1:=gO hown1;clear hown1 HO;go_wp2
 go_ret
 exact⟨a',c',rfl,HO1.out,hg⟩
set_option maxRecDepth 100000 in
theorem JG (base:Nat)(a:Option Addr)(n c g i:Nat)(l:List Bk)(b:Bk)(w:World)(hown:w.ownsRow base 63 3 (.slice a n c) n (flat aO l))(hi:i<n)(hn:n<=1000)(hc:c<n+1)(hbase:base<=w.heap.size)(hv:Row w (some ⟨g,0,none⟩) (aO b)):
 Calls Tryz.prog 109 #[.slice a n c,.int .i64 i,.slice (some ⟨g,0,none⟩) 1 1] w fun ev w'=>∃a' c',ev= .returned (.slice a' (n+1) c')/\w'.ownsRow base 63 3 (.slice a' (n+1) c') (n+1) (flat aO (l.take i++b::l.drop i))/\w.grownBy w' (Value.ownBlock (.slice a n c)):=by
 have hnc:=dQ hown;have hln:l.length=n:=bC aJ (by decide) hown;have hfl:=flat_length aJ l;obtain⟨G,zs,w1,hrz,hzl,hown1,hg1⟩:=uO (P:=Tryz.prog) 42 3 42 63 Tryz.underlying42 Tryz.underlying3 (.agg #[.int .i64 0,.int .i64 0,.int .i64 0]) 3 24 rW rfl (by decide) a i c _ base (jK hown (show i<=n by omega)) (n+1-i) (by omega) (by omega) (by omega) (by omega);rw[show i+(n+1-i)=n+1 by omega]at hrz hown1;rw[show((n+1-i:Nat):Int)=(n:Int)+1-(i:Int)by omega]at hrz;rw[eH aJ]at hown1;have HR:=gO (aY hown);have hGn:=dQ hown1;have HO1:=gO hown1;have HG1:=gO hg1;have hbw:=gO ((Below.refl w.heap.size w).grown hg1 (Nat.le_refl _) (by simp));have b0:(i:Int)<=n:=by omega
 have b2:(i:Int)<=c:=by omega
 have b3:¬(i:Int)=n:=by omega
 have b4:(c:Int)<(n:Int)+1:=by omega
 have b5:(i:Int)<=(n:Int)+1:=by omega
 have b6:((n+1:Nat):Int)<=G:=by omega
 have hsz:(Tryz.prog.info? 63).map (·.size)=some 3:=by kernel_rfl
 have hv1:=hv.mono hbw.out (Nat.le_refl _);have htl:(flat aO (l.take i)).length=i*3:=by rw[flat_length aJ,List.length_take];omega
 have lU:bY (some ⟨w.heap.size,0,none⟩) i G 3=(some ⟨w.heap.size,0,none⟩:Option Addr).map (·.add (i*3)):=by unfold bY;rw[if_neg (by omega)]
 have lV:bY (some ⟨w.heap.size,0,none⟩) (i+1) G 3=(some ⟨w.heap.size,0,none⟩:Option Addr).map (·.add ((i+1)*3)):=by unfold bY;rw[if_neg (by omega)]
 obtain⟨w2,hcp1,hown2,hg2⟩:=iY (P:=Tryz.prog) 42 42 3 63 Tryz.underlying42 3 hsz (bY (some ⟨w.heap.size,0,none⟩) i G 3) (some ⟨g,0,none⟩) (n+1-i) (G-i) 1 1 (aO b) (by rw[show Nat.min 1 (n+1-i)=1 from Nat.min_eq_left (by omega)];rfl) hv1 (by simp[aO,vI,Value.oneCell']) w.heap.size (n+1) G i (some ⟨w.heap.size,0,none⟩) _ HO1.out (fun _=>lU) (fun h=>by rw[lU]at h;simp at h) (by rw[aJ];omega);rw[aJ,List.take_left' htl,<- Nat.succ_mul]at hown2;have hdrop:(flat aO (l.take i)++zs).drop ((i+1)*3)=zs.drop 3:=by rw[List.drop_append,List.drop_eq_nil_of_le (by omega),htl,List.nil_append];congr 1;omega
 rw[Nat.succ_eq_add_one,hdrop]at hown2;have hbw2:=(hbw.out.grown hg2 hbw.out.size (by intro k hk;simp[Value.ownBlock]at hk;omega)).drew;have lW:=own_below hown2 ((Below.refl w2.heap.size w2).drew) (Nat.le_refl _);have hrow:=((aY hown).mono hbw2 (Nat.le_refl _)).cut i c 3 ((n-i)*3) (by omega);rw[List.take_of_length_le (by rw[List.length_drop,hfl];omega),eP aJ]at hrow;have hdl:(flat aO (l.drop i)).length=(n-i)*3:=by rw[flat_length aJ,List.length_drop,hln]
 obtain⟨w3,hcp2,hown3,hg3⟩:=iY (P:=Tryz.prog) (w:=w2.drew) 42 42 3 63 Tryz.underlying42 3 hsz (bY (some ⟨w.heap.size,0,none⟩) (i+1) G 3) (bY a i c 3) (n-i) (G-(i+1)) (n-i) (c-i) (flat aO (l.drop i)) (by rw[hdl,show Nat.min (n-i) (n-i)=n-i from Nat.min_self _]) hrow (oG _) w.heap.size (n+1) G (i+1) (some ⟨w.heap.size,0,none⟩) _ lW (fun _=>lV) (fun h=>by rw[lV]at h;simp at h) (by rw[hdl];omega);rw[show(flat aO (l.take i)++aO b++zs.drop 3).take ((i+1)*3)=flat aO (l.take i)++aO b from List.take_left' (by rw[List.length_append,htl,aJ];omega),hdl,show(flat aO (l.take i)++aO b++zs.drop 3).drop ((i+1)*3+(n-i)*3)=[]from List.drop_eq_nil_of_le (by simp only[List.length_append,htl,aJ,List.length_drop,hzl];omega),List.append_nil,<- gX aO b,<- aT,<- aT,List.append_assoc,List.singleton_append]at hown3;have HO3:=gO (own_base hown3 hbase);have HG3:Hid (w.grownBy w3 (Value.ownBlock (.slice a n c))):=by
  have h1:=HG1.out;refine⟨hg3.os.trans (hg2.os.trans h1.os),hg3.tape.trans (hg2.tape.trans h1.tape),hg3.output.trans (hg2.output.trans h1.output),gQ h1.size (gQ hg2.size hg3.size),fun k hk hne=> ?_⟩;have e1:some k≠Value.ownBlock (.slice (some ⟨w.heap.size,0,none⟩) (n+1) G):=by simp[Value.ownBlock];omega
  exact(hg3.block k (gI hk (gQ h1.size hg2.size)) e1).trans ((hg2.block k (gI hk h1.size) e1).trans (h1.block k hk (by simp)))
 have b7:((i:Int)+1)<=G:=by omega
 have s1:IntKind.i64.wrap ((i:Int)+1)=(i:Int)+1:=IntWalk.i64_in _ (by omega);have b8:0<=(i:Int)+1:=by omega
 have b9:((i:Int)+1).toNat=i+1:=by omega
 have b10:(i:Int)+1<=(n:Int)+1:=by omega
 clear hown hown2 lW hown3 hg1 hg2 hg3 hown1 hrow hv1 hbw2 HO1 HR HG1 hdrop lU lV;go_enter Tryz.func109,Tryz.ntmps109
 go_wp2_with (at_builtin;refine jX rfl _ _ 42 3 rfl _ _ rfl rfl hrz ?_)
 go_still_tail 8,(by kernel_rfl)
 change wpList _ _ _ _ _ w2.drew;generalize w2.drew=w2d at*;go_wp2
 go_ret
 exact⟨_,_,rfl,HO3.out,HG3.out⟩
end
section
open Go.RowKit
attribute [local go_sem ↓] jG
theorem qW {w w':World}{b off:Nat}{cs:List Value}(h:Row w (some ⟨b,off,none⟩) cs){row:Option Nat}(hg:w.grownBy w' row)(hne:some b≠row):Row w' (some ⟨b,off,none⟩) cs:=by
 intro j v hj;obtain⟨b',off',e,h1,h2⟩:=h j v hj;obtain⟨rfl,rfl⟩:b=b'/\off=off':=by simpa using e
 refine⟨b,off,rfl,gI h1 hg.size,?_⟩;rw[World.cell?_of_block (hg.block b h1 hne)];exact h2
set_option maxHeartbeats 1000000 in
set_option maxRecDepth 100000 in
theorem Hq (base:Nat)(a:Option Addr)(n c g i:Nat)(l:List Bk)(b:Bk)(w:World)(hown:w.ownsRow base 63 3 (.slice a n c) n (flat aO l))(hi:i<n)(hn:n<=1000)(hc:n+1<=c)(hbase:base<=w.heap.size)(hgb:w.heap[g]? =some (.cells (aO b).toArray 63 (0,0)))(hne:some g≠Value.ownBlock (.slice a n c))(hv:Row w (some ⟨g,0,none⟩) (aO b)):
 Calls Tryz.prog 109 #[.slice a n c,.int .i64 i,.slice (some ⟨g,0,none⟩) 1 1] w fun ev w'=>∃a' c',ev= .returned (.slice a' (n+1) c')/\w'.ownsRow base 63 3 (.slice a' (n+1) c') (n+1) (flat aO (l.take i++b::l.drop i))/\w.grownBy w' (Value.ownBlock (.slice a n c)):=by
 have hln:l.length=n:=bC aJ (by decide) hown;have hfl:=flat_length aJ l;obtain⟨g0,cur,rfl,hg0,hcs,hcm⟩:∃g0 cur,a=some ⟨g0,0,none⟩/\w.heap[g0]? =some (.cells cur 63 (0,0))/\cur.size=c*3/\c<=maxLen:=by
  rcases hown.2 with ⟨h',h2⟩ | ⟨g0,cap,cur,h',_,hg,_,hcm,hs,_⟩
  ·omega
  ·obtain⟨rfl,rfl⟩:a=some ⟨g0,0,none⟩/\c=cap:=by simpa using h'
   exact⟨g0,cur,rfl,hg,hs,hcm⟩
 have hgg:g≠g0:=fun e=>hne (by rw[e];rfl)
 have hcut:∀j,j<=n->bY (some ⟨g0,0,none⟩) j c 3=(some ⟨g0,0,none⟩:Option Addr).map (·.add (j*3)):=fun j hj=>by unfold bY;rw[if_neg (by omega)]
 have pK:bY (some ⟨g0,0,none⟩) (i+1) c 3=some ⟨g0,(i+1)*3,none⟩:=by rw[hcut _ (by omega)];simp[Addr.add_lit]
 have hsz:(Tryz.prog.info? 63).map (·.size)=some 3:=by kernel_rfl
 have hov:(callFunc 154 #[.slice (some ⟨g,0,none⟩) 1 1,.slice (bY (some ⟨g0,0,none⟩) (i+1) c 3) (n-i) (c-(i+1))]).run Tryz.prog w= .ok (.value (.bool false)) w:=by
  rw[pK,run_callFunc_extern Tryz.func154 (by kernel_rfl) (by kernel_rfl) (by kernel_rfl) (e:=Extern.SlicesOverlaps.overlaps #[42,42] #[4]) (by kernel_rfl),
   Lib.run_overlaps_apart w 42 4 63 Tryz.underlying42 3 Tryz.sizeOf63 ⟨g,0,none⟩ ⟨g0,(i+1)*3,none⟩ 1 1 _ _ hgg 63 63 3 (c*3) (by simp[World.shape?,hgb,aO]) (by simp[World.shape?,hg0,hcs]) (by omega) (by simp[World.frozen?,hgb]) (by simp[World.frozen?,hgb])]
  rfl
 obtain⟨ys,hyl,hroom⟩:=uI hown (show n<=n+1 by omega) hc;rw[show(n+1-n)*3=3 by omega]at hyl;have hdl:(flat aO (l.drop i)).length=(n-i)*3:=by rw[flat_length aJ,List.length_drop,hln]
 have htl:(flat aO (l.take i)).length=i*3:=by rw[flat_length aJ,List.length_take];omega
 have hwd:Below w.heap.size w w.drew:=(Below.refl w.heap.size w).drew;have hroomd:=own_below hroom hwd (Nat.le_refl _);have hrow:=((aY hown).below hwd).cut i c 3 ((n-i)*3) (by omega);rw[List.take_of_length_le (by rw[List.length_drop,hfl];omega),eP aJ]at hrow;obtain⟨w2,hcp1,hown2,hg2⟩:=iY (P:=Tryz.prog) (w:=w.drew) 42 42 3 63 Tryz.underlying42 3 hsz (bY (some ⟨g0,0,none⟩) (i+1) c 3) (bY (some ⟨g0,0,none⟩) i c 3) (n-i) (c-(i+1)) (n+1-i) (c-i) (flat aO (l.drop i)) (by rw[hdl,show Nat.min (n+1-i) (n-i)=n-i from Nat.min_eq_right (by omega)]) hrow (oG _) base (n+1) c (i+1) (some ⟨g0,0,none⟩) _ hroomd (fun _=>hcut _ (by omega)) (fun h=>by rw[hcut _ (by omega)]at h;simp at h) (by rw[hdl];omega);have hX:((flat aO l++ys).take ((i+1)*3)++flat aO (l.drop i)++(flat aO l++ys).drop ((i+1)*3+(flat aO (l.drop i)).length))=(flat aO l++ys).take ((i+1)*3)++flat aO (l.drop i):=by
  rw[show(flat aO l++ys).drop ((i+1)*3+(flat aO (l.drop i)).length)=[]from List.drop_eq_nil_of_le (by rw[List.length_append,hfl,hdl];omega),List.append_nil]
 rw[hX]at hown2;have Hr:((flat aO l++ys).take ((i+1)*3)).length=(i+1)*3:=by rw[List.length_take,List.length_append,hfl];omega
 have hv2:=qW (hv.below hwd) hg2 hne;obtain⟨w3,hcp2,hown3,hg3⟩:=iY (P:=Tryz.prog) (w:=w2) 42 42 3 63 Tryz.underlying42 3 hsz (bY (some ⟨g0,0,none⟩) i c 3) (some ⟨g,0,none⟩) (n+1-i) (c-i) 1 1 (aO b) (by rw[show Nat.min 1 (n+1-i)=1 from Nat.min_eq_left (by omega)];rfl) hv2 (by simp[aO,vI,Value.oneCell']) base (n+1) c i (some ⟨g0,0,none⟩) _ hown2 (fun _=>hcut _ (by omega)) (fun h=>by rw[hcut _ (by omega)]at h;simp at h) (by rw[aJ];omega);have hY:((flat aO l++ys).take ((i+1)*3)++flat aO (l.drop i)).take (i*3)++aO b++((flat aO l++ys).take ((i+1)*3)++flat aO (l.drop i)).drop (i*3+(aO b).length)=flat aO (l.take i++b::l.drop i):=by
  rw[aJ,show i*3+3=(i+1)*3 by omega,List.drop_left' Hr,List.take_append_of_le_length (by rw[Hr];omega),List.take_take,show min (i*3) ((i+1)*3)=i*3 by omega,List.take_append_of_le_length (by rw[hfl];omega),eH aJ,aT,dM,List.append_assoc]
 rw[hY]at hown3;have HO3:=gO hown3;have HG3:Hid (w.grownBy w3 (Value.ownBlock (.slice (some ⟨g0,0,none⟩) n c))):=
  ⟨hg3.os.trans hg2.os,hg3.tape.trans hg2.tape,hg3.output.trans hg2.output,gQ hg2.size hg3.size,fun k hk hnk=>(hg3.block k (gI hk hg2.size) hnk).trans (hg2.block k hk hnk)⟩
 have b0:(i:Int)<=n:=by omega
 have b2:(i:Int)<=c:=by omega
 have b3:¬(i:Int)=n:=by omega
 have b4:¬(c:Int)<(n:Int)+1:=by omega
 have b5:(i:Int)<=(n:Int)+1:=by omega
 have b6:(n:Int)+1<=c:=by omega
 have b7:((i:Int)+1)<=c:=by omega
 have s1:IntKind.i64.wrap ((i:Int)+1)=(i:Int)+1:=IntWalk.i64_in _ (by omega);have b8:0<=(i:Int)+1:=by omega
 have b9:((i:Int)+1).toNat=i+1:=by omega
 have b10:(i:Int)+1<=(n:Int)+1:=by omega
 have b11:((n:Int)+1).toNat=n+1:=by omega
 have b12:c<=9223372036854775807:=by unfold maxLen at hcm;omega
 clear hown hroom hroomd hrow hown2 hown3 hg2 hg3 hX hY hv hv2 hcut pK hg0 hgb hcs;go_enter Tryz.func109,Tryz.ntmps109
 go_wp2_with (simp only[hov])
 go_still_tail 8,(by kernel_rfl)
 change wpList _ _ _ _ _ w.drew;go_wp2
 go_ret
 exact⟨_,_,rfl,HO3.out,HG3.out⟩
theorem mV (base:Nat)(a:Option Addr)(n c g i:Nat)(l:List Bk)(b:Bk)(w:World)(hown:w.ownsRow base 63 3 (.slice a n c) n (flat aO l))(hi:i<=n)(hn:n<=1000)(hbase:base<=w.heap.size)(hgb:w.heap[g]? =some (.cells (aO b).toArray 63 (0,0)))(hne:some g≠Value.ownBlock (.slice a n c)):
 Calls Tryz.prog 109 #[.slice a n c,.int .i64 i,.slice (some ⟨g,0,none⟩) 1 1] w fun ev w'=>∃a' c',ev= .returned (.slice a' (n+1) c')/\w'.ownsRow base 63 3 (.slice a' (n+1) c') (n+1) (flat aO (l.take i++b::l.drop i))/\w.grownBy w' (Value.ownBlock (.slice a n c)):=by
 have hlt:g<w.heap.size:=(Array.getElem?_eq_some_iff.1 hgb).1;have hv:Row w (some ⟨g,0,none⟩) (aO b):=by
  intro j v hj;exact⟨g,0,rfl,hlt,by rw[Nat.zero_add,cell_of_row _ _ _ _ _ _ hgb];simpa using hj⟩
 have hln:l.length=n:=bC aJ (by decide) hown;by_cases he:i=n
 ·subst he;have:=Ob base a i c g l b w hown hn hbase hv;rw[List.take_of_length_le (by omega),List.drop_eq_nil_of_le (by omega)];exact this
 ·by_cases hc:n+1<=c
  ·exact Hq base a n c g i l b w hown (by omega) hn hc hbase hgb hne hv
  ·exact JG base a n c g i l b w hown (by omega) hn (by omega) hbase hv
end
section
open Go.RowKit
theorem FI (y:List Nat)(i t:Nat):(flat gV y).set i (vI t)=flat gV (y.set i t):=by
 have h:∀y:List Nat,flat gV y=y.map fun(t:Nat)=>vI t:=fun y=>by
  unfold flat gV
  induction y with
  | nil=>rfl
  | cons x y ih=>rw[List.flatMap_cons,ih];rfl
 rw[h,h,List.map_set]
theorem RS (k v:Nat):flat gV (List.replicate k v)=List.replicate k (vI v):=by
 unfold flat gV
 induction k with
 | zero=>rfl
 | succ k ih=>rw[List.replicate_succ,List.flatMap_cons,ih];rfl
set_option maxHeartbeats 1000000 in
set_option maxRecDepth 100000 in
theorem Ol (f e k:Nat)(w:World)(h1:f<=e)(h2:e<=256)(h3:f%16=0)(h4:e%16=0)(hk:k=(e-f)/8):
 Calls Tryz.prog 103 #[.int .i64 f,.int .i64 e] w fun ev w'=>∃a2 c2,ev= .returned (.tuple #[.agg #[.int .i64 f,.int .i64 e,.slice none 0 0,.slice a2 k c2],.int .i64 0])/\gY w' w.heap.size none a2 0 k 0 c2 ⟨f,e,[],List.replicate k 1⟩/\Below w.heap.size w w':=by
 obtain⟨i0,hi,hz,hsize,hby⟩:=info_parts oN;have d1:decide ((256:Int)<e)=false:=decide_eq_false (by omega);have d2:decide (e<f)=false:=decide_eq_false (by omega);have d3:(f:Int)%16=0:=by omega
 have d4:(e:Int)%16=0:=by omega
 have d5:(f:Int)<=e:=by omega
 have HK:((e:Int)-f)/8=(k:Int):=by omega
 have hk2:k<=32:=by omega
 have hk8:(k:Int)<=32:=by omega
 clear hk;obtain⟨K0,F0,hsz0,hbw0⟩:=boxes1 w #[.int .i64 0,.int .i64 0,.slice none 0 0,.slice none 0 0] 102;go_enter Tryz.func103,Tryz.ntmps103
 go_wp2_with (at_make;refine wpList_make_full _ rfl _ _ 39 rfl (w.alloc (.cells #[.int .i64 0,.int .i64 0,.slice none 0 0,.slice none 0 0] 102)).heap.size 3 i0 (.int .i64 0) 1 Tryz.underlying39 hi hz hsize .i64 .i64 _ _ k rfl rfl HK HK ?q1 ?q2 ?q3 ?_)
 case q1=>rw[hby];omega
 case q2=>unfold maxLen;omega
 case q3=>exact Nat.le_refl _
 intro w1 hown hgrow;rw[toList_madeCells_one]at hown;have wV:=hbw0.grown hgrow (by simp) (by simp);have hs1:w.heap.size+1<w1.heap.size:=by have:=(hown.lt _ rfl).2;simpa using this
 have K4:∀o,w1.cell? ⟨w.heap.size,o,none⟩=(#[.int .i64 0,.int .i64 0,.slice none 0 0,.slice none 0 0]:Array Value)[o]? :=fun o=>by rw[World.cell?_of_block (hgrow.block w.heap.size (by simp) (by simp))];exact K0 o
 have F4:∀o,w1.frozen? ⟨w.heap.size,o,none⟩=false:=fun o=>by rw[World.frozen?_of_block (hgrow.block w.heap.size (by simp) (by simp))];exact F0 o
 have hb2:=aF w1 (.cells #[.int .i64 (f:Int),.int .i64 (e:Int),.slice none 0 0,.slice (some ⟨w.heap.size+1,0,none⟩) k k] 102);have hown2:=own_below hown hb2 (Nat.le_refl _);have K6:=aW w1 #[.int .i64 (f:Int),.int .i64 (e:Int),.slice none 0 0,.slice (some ⟨w.heap.size+1,0,none⟩) k k] 102;have K4b:=aB K4 (by omega) hb2;have F4b:=aH F4 (by omega) hb2;have hs2:w1.heap.size<(w1.alloc (.cells #[.int .i64 (f:Int),.int .i64 (e:Int),.slice none 0 0,.slice (some ⟨w.heap.size+1,0,none⟩) k k] 102)).heap.size:=by simp
 have hbw2:=Below.step wV hb2;rw[show List.replicate k (Value.int .i64 0)=flat gV (List.replicate k 0)from(RS k 0).symm]at hown2;have HO2:=gO hown2;clear hown hown2 hgrow K4 F4 wV hb2 K0 F0;go_wp2
 generalize w1.alloc _=w2 at*;generalize w1.heap.size=B6 at*;go_loopw [7,41] (fun _ s41 wr=>∃i:Nat,i<=k/\s41= .int .i64 i/\Hid (wr.ownsRow (w.heap.size+1) 3 1 (.slice (some ⟨w.heap.size+1,0,none⟩) k k) k (flat gV (List.replicate i 1++List.replicate (k-i) 0)))/\Hid (∀o,wr.cell? ⟨B6,o,none⟩=(#[.int .i64 (f:Int),.int .i64 (e:Int),.slice none 0 0,.slice (some ⟨w.heap.size+1,0,none⟩) k k]:Array Value)[o]?)/\Hid (∀o,wr.cell? ⟨w.heap.size,o,none⟩=(#[.int .i64 0,.int .i64 0,.slice none 0 0,.slice none 0 0]:Array Value)[o]?)/\Hid (∀o,wr.frozen? ⟨w.heap.size,o,none⟩=false)/\Below w.heap.size w wr) (fun _ s41 _=>k-(intOf s41).toNat)
 case atStart=>exact⟨0,Nat.zero_le _,rfl,by simpa[Hid]using HO2.out,K6,K4b,F4b,hbw2⟩
 case round=>
  obtain⟨i,hi,rfl,hown,HK6,HK4,HF4,hb3⟩:=hrel;clear HO2 K6 K4b F4b;by_cases hlt:i<k
  ·obtain⟨g,v,eg,hg,hgs,hc,hf⟩:=fA hown.out i (by rw[flat_length bQ];simp;omega);obtain rfl:w.heap.size+1=g:=by simpa using eg
   have K6r:=HK6.out;have h:=(World.ownsRow.stored hown.out i (vI 1)).1;have hset:(flat gV (List.replicate i 1++List.replicate (k-i) 0)).set i (vI 1)=flat gV (List.replicate (i+1) 1++List.replicate (k-(i+1)) 0):=by
    rw[show(vI 1)=vI ((1:Nat):Int)from rfl,FI];congr 1;rw[List.set_append_right _ _ (by simp),List.length_replicate,Nat.sub_self,show k-i=(k-(i+1))+1 by omega,List.replicate_succ,gG,List.replicate_succ',List.append_assoc];rfl
   rw[hset]at h;have HN:=gO h;have aFm:=gO (aA K6r (c:=w.heap.size+1) (by omega) i (.int .i64 1));have aFo:=gO (aA HK4.out (c:=w.heap.size+1) (by omega) i (.int .i64 1));have aFp:=gO (aG HF4.out ⟨w.heap.size+1,i,none⟩ (.int .i64 1));clear h hset hown HK4 HF4;go_wp2
   go_roundw
   case rel=>exact⟨i+1,by omega,by go_num,HN.out,aFm.out,aFo.out,aFp.out,hb3.setCell (by simp only;omega) _⟩
   case measure=>simp[intOf];omega
  ·obtain rfl:i=k:=by omega
   rw[Nat.sub_self,List.replicate_zero,List.append_nil]at hown;have K6r:=HK6.out;have K4r:=HK4.out;have F4r:=HF4.out;have HZ:=gO (show gY wr (w.heap.size+1) none (some ⟨w.heap.size+1,0,none⟩) 0 i 0 i ⟨f,e,[],List.replicate i 1⟩from⟨rfl,by simp,World.ownsRow_nil _ _ _ _,hown.out⟩);clear hown HK6 HK4 HF4;go_wp2
   have nn:=HZ.out.ne (g:=w.heap.size) (.inl (by omega));refine bodyPost_ret (v:= .tuple #[.agg #[.int .i64 f,.int .i64 e,.slice none 0 0,.slice (some ⟨w.heap.size+1,0,none⟩) i i],.int .i64 0]) (by simp[results,Tryz.results103,go_sem,K4r]) rfl ⟨some ⟨w.heap.size+1,0,none⟩,i,rfl,((((HZ.out.set nn _ _).set nn _ _).set nn _ _).set nn _ _).base (by omega),?_⟩;exact Below.setCell (Below.setCell (Below.setCell (Below.setCell hb3 (by simp only;omega) _) (by simp only;omega) _) (by simp only;omega) _) (by simp only;omega) _
end
end Go.Proofs.YtcmpmobhongkiaaGreatDoor
