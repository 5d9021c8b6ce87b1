/- joined. -/
import Derived.Test.YtcmpmobhongkiaaGreatDoorRK0
import Derived.Test.YtcmpmobhongkiaaGreatDoorRK12
import Derived.Test.YtcmpmobhongkiaaGreatDoorRK3
import Derived.Deep.AppendLies
set_option linter.unusedVariables false
set_option linter.unusedSimpArgs false
namespace Go.Proofs.YtcmpmobhongkiaaGreatDoor
section
open Go.RowKit
attribute [local go_sem ↓] jG
theorem yO:(Tryz.prog.info? 207).map (fun i=>(i.zero,i.size,i.bytes))=some (some (.agg #[.int .i64 0,.int .i64 0,.int .i64 0,.slice none 0 0]),4,48):=by kernel_rfl
theorem zW (l:List Lc):∀u∈flat bH l,u.oneCell'=true:=by
 intro u hu;simp only[flat,List.mem_flatMap]at hu;obtain⟨r,_,hr⟩:=hu;simp only[bH,List.mem_cons,List.not_mem_nil,or_false]at hr;rcases hr with rfl | rfl | rfl | rfl <;> rfl
theorem Yt (w:World):(zeroValue 207).run Tryz.prog w= .ok (.agg #[.int .i64 0,.int .i64 0,.int .i64 0,.slice none 0 0]) w:=by
 obtain⟨i,hi,hz,hs,hb⟩:=info_parts yO;simp[zeroValue,typeInfo,hi,hz]
set_option maxRecDepth 100000 in
theorem SQ (base:Nat)(a:Option Addr)(n c:Nat)(l:List Lc)(i:Nat)(w:World)(hown:w.ownsRow base 207 4 (.slice a n c) n (flat bH l))(hi:i<n)(hn:n<=1000)(hbase:base<=w.heap.size):
 Calls Tryz.prog 175 #[.slice a n c,.int .i64 i,.int .i64 (i+1)] w fun ev w'=>ev= .returned (.slice a (n-1) c)/\w'.ownsRow base 207 4 (.slice a (n-1) c) (n-1) (flat bH (l.eraseIdx i))/\w.grownBy w' (Value.ownBlock (.slice a n c)):=by
 have hln:l.length=n:=bC aP (by decide) hown;have hnc:=dQ hown;have hcm:c<=9223372036854775807:=by
  rcases hown.2 with ⟨h',h2⟩ | ⟨g,cap,cur,h',_,_,_,hcm,_⟩
  ·simp at h';omega
  ·have:c=cap:=by simp at h';exact h'.2
   unfold maxLen at hcm;omega
 have HO:=gO hown;clear hown;have b0:(i:Int)<=n:=by omega
 have b1:(i:Int)+1<=n:=by omega
 have b2:(i:Int)<=c:=by omega
 have b3:(i:Int)+1<=c:=by omega
 have b4:(n:Int)<=c:=by omega
 have b5:(0:Int)<=(i:Int)+1:=by omega
 have b6:((i:Int)+1).toNat=i+1:=by omega
 go_enter Tryz.func175,Tryz.ntmps175
 go_wp2_with fail
 go_still_tail 6,(by kernel_rfl)
 change wpList _ _ _ _ _ w.drew;have HO2:=own_below HO.out ((Below.refl w.heap.size w).drew) (Nat.le_refl _);have hrow:=(aY HO2).cut (i+1) c 4 ((n-(i+1))*4) (by omega);have hfl:=flat_length aP l;rw[List.take_of_length_le (by rw[List.length_drop,hfl];omega),eP aP]at hrow;have hpre:=jK HO2 (show i<=n by omega);rw[eH aP]at hpre;have HG:Hid (∀w',w.drew.grownBy w' (Value.ownBlock (.slice a i c))->w.grownBy w' (Value.ownBlock (.slice a n c))):=fun w' h=>⟨h.os,h.tape,h.output,h.size,fun k hk hne=>h.block k hk (by cases a with | none=>simp[Value.ownBlock] | some x=>simpa[Value.ownBlock]using hne)⟩
 have hdw:w.drew.heap.size=w.heap.size:=rfl;clear HO2;generalize w.drew=w1 at*;refine uN rfl _ _ 41 rfl base 207 (.agg #[.int .i64 0,.int .i64 0,.int .i64 0,.slice none 0 0]) 4 48 Tryz.underlying41 yO (by decide) a i c _ rfl hpre (bY a (i+1) c 4) (n-(i+1)) (c-(i+1)) (flat bH (l.drop (i+1))) rfl (by rw[flat_length aP,List.length_drop,hln]) hrow (zW _) (by omega) ?_;intro w2 hown2 hg2;have hG2:=HG.out w2 hg2;rw[<- aT,<- List.eraseIdx_eq_take_drop_succ]at hown2;have e1:i+(n-(i+1))=n-1:=by omega
 rw[e1]at hown2 ⊢;have HO3:=gO hown2;have b7:(n:Int)-1<=n:=by omega
 have b8:((n-1:Nat):Int)<=n:=by omega
 have b9:n-(n-1)=1:=by omega
 clear hown2 hg2 hrow hpre HO hfl;obtain⟨w3,aCx,hown3,hg3⟩:=Ho (P:=Tryz.prog) 41 0 207 Tryz.underlying41 4 (.agg #[.int .i64 0,.int .i64 0,.int .i64 0,.slice none 0 0]) Yt rfl (by decide) base (n-1) 1 c (c-(n-1)) a _ HO3.out (by omega);have HO4:=gO hown3;have HG4:Hid (w.grownBy w3 (Value.ownBlock (.slice a n c))):=⟨hg3.os.trans hG2.os,hg3.tape.trans hG2.tape,hg3.output.trans hG2.output,gQ hG2.size hg3.size,fun k hk hne=>(hg3.block k (gI hk hG2.size) (by cases a with | none=>simp[Value.ownBlock] | some x=>simpa[Value.ownBlock]using hne)).trans (hG2.block k hk hne)⟩
 clear hown3 HO3 hG2 hg3;go_wp2
 go_ret
 exact⟨rfl,HO4.out,HG4.out⟩
set_option maxRecDepth 100000 in
theorem KI (base:Nat)(a:Option Addr)(n c g:Nat)(l:List Lc)(b:Lc)(w:World)(hown:w.ownsRow base 207 4 (.slice a n c) n (flat bH l))(hn:n<=1000)(hbase:base<=w.heap.size)(hv:Row w (some ⟨g,0,none⟩) (bH b)):
 Calls Tryz.prog 167 #[.slice a n c,.int .i64 n,.slice (some ⟨g,0,none⟩) 1 1] w fun ev w'=>∃a' c',ev= .returned (.slice a' (n+1) c')/\w'.ownsRow base 207 4 (.slice a' (n+1) c') (n+1) (flat bH (l++[b]))/\w.grownBy w' (Value.ownBlock (.slice a n c))/\(∀k,(Value.slice a' (n+1) c').ownBlock=some k->(Value.slice a n c).ownBlock=some k∨w.heap.size<=k):=by
 have hnc:=dQ hown;have HO:=gO hown;clear hown;have b2:(n:Int)<=c:=by omega
 obtain⟨ti,hti,htz,hts,htb⟩:=info_parts yO;have hnews:∀j u,(bH b)[j]? =some u->w.cell? ((⟨g,0,none⟩:Addr).add j)=some u:=fun j u hj=>by
  obtain⟨b',off,e,_,h2⟩:=hv j u hj;obtain⟨rfl,rfl⟩:g=b'/\0=off:=by simpa using e
  rw[Addr.add_lit];exact h2
 go_enter Tryz.func167,Tryz.ntmps167
 go_wp2_with (at_builtin;refine wpList_append_lies _ rfl _ _ 41 rfl base 207 ti (.agg #[.int .i64 0,.int .i64 0,.int .i64 0,.slice none 0 0]) 4 48 Tryz.underlying41 hti htz hts htb rfl (by decide) _ n _ rfl HO.out ⟨g,0,none⟩ 1 1 (bH b) rfl rfl hnews (by simp[bH,vI,Value.oneCell']) (by decide) (by unfold maxLen;omega) (by omega) hbase _ rfl ?_)
 intro g1 c' w1 hown1 hg hlies hlt1;rw[show flat bH l++bH b=flat bH (l++[b])from by rw[aT,gX]]at hown1;have HO1:=gO hown1;have HL1:=gO hlies;clear hown1 HO hnews hlies;go_wp2
 go_ret
 exact⟨_,c',rfl,HO1.out,hg,fun k hk=>by
  obtain rfl:g1=k:=by simpa[Value.ownBlock]using hk
  rcases HL1.out with h | h
  ·exact .inl h
  ·exact .inr (Nat.le_of_eq h.symm)⟩
set_option maxRecDepth 100000 in
theorem Il (base:Nat)(a:Option Addr)(n c g i:Nat)(l:List Lc)(b:Lc)(w:World)(hown:w.ownsRow base 207 4 (.slice a n c) n (flat bH l))(hi:i<n)(hn:n<=1000)(hc:c<n+1)(hbase:base<=w.heap.size)(hv:Row w (some ⟨g,0,none⟩) (bH b)):
 Calls Tryz.prog 167 #[.slice a n c,.int .i64 i,.slice (some ⟨g,0,none⟩) 1 1] w fun ev w'=>∃a' c',ev= .returned (.slice a' (n+1) c')/\w'.ownsRow base 207 4 (.slice a' (n+1) c') (n+1) (flat bH (l.take i++b::l.drop i))/\w.grownBy w' (Value.ownBlock (.slice a n c))/\(∀k,(Value.slice a' (n+1) c').ownBlock=some k->(Value.slice a n c).ownBlock=some k∨w.heap.size<=k):=by
 have hnc:=dQ hown;have hln:l.length=n:=bC aP (by decide) hown;have hfl:=flat_length aP l;obtain⟨G,zs,w1,hrz,hzl,hown1,hg1⟩:=uO (P:=Tryz.prog) 41 3 41 207 Tryz.underlying41 Tryz.underlying3 (.agg #[.int .i64 0,.int .i64 0,.int .i64 0,.slice none 0 0]) 4 48 yO rfl (by decide) a i c _ base (jK hown (show i<=n by omega)) (n+1-i) (by omega) (by omega) (by omega) (by omega);rw[show i+(n+1-i)=n+1 by omega]at hrz hown1;rw[show((n+1-i:Nat):Int)=(n:Int)+1-(i:Int)by omega]at hrz;rw[eH aP]at hown1;have HR:=gO (aY hown);have hGn:=dQ hown1;have HO1:=gO hown1;have HG1:=gO hg1;have hbw:=gO ((Below.refl w.heap.size w).grown hg1 (Nat.le_refl _) (by simp));have b0:(i:Int)<=n:=by omega
 have b2:(i:Int)<=c:=by omega
 have b3:¬(i:Int)=n:=by omega
 have b4:(c:Int)<(n:Int)+1:=by omega
 have b5:(i:Int)<=(n:Int)+1:=by omega
 have b6:((n+1:Nat):Int)<=G:=by omega
 have hsz:(Tryz.prog.info? 207).map (·.size)=some 4:=by kernel_rfl
 have hv1:=hv.mono hbw.out (Nat.le_refl _);have htl:(flat bH (l.take i)).length=i*4:=by rw[flat_length aP,List.length_take];omega
 have lU:bY (some ⟨w.heap.size,0,none⟩) i G 4=(some ⟨w.heap.size,0,none⟩:Option Addr).map (·.add (i*4)):=by unfold bY;rw[if_neg (by omega)]
 have lV:bY (some ⟨w.heap.size,0,none⟩) (i+1) G 4=(some ⟨w.heap.size,0,none⟩:Option Addr).map (·.add ((i+1)*4)):=by unfold bY;rw[if_neg (by omega)]
 obtain⟨w2,hcp1,hown2,hg2⟩:=iY (P:=Tryz.prog) 41 41 3 207 Tryz.underlying41 4 hsz (bY (some ⟨w.heap.size,0,none⟩) i G 4) (some ⟨g,0,none⟩) (n+1-i) (G-i) 1 1 (bH b) (by rw[show Nat.min 1 (n+1-i)=1 from Nat.min_eq_left (by omega)];rfl) hv1 (by simp[bH,vI,Value.oneCell']) w.heap.size (n+1) G i (some ⟨w.heap.size,0,none⟩) _ HO1.out (fun _=>lU) (fun h=>by rw[lU]at h;simp at h) (by rw[aP];omega);rw[aP,List.take_left' htl,<- Nat.succ_mul]at hown2;have hdrop:(flat bH (l.take i)++zs).drop ((i+1)*4)=zs.drop 4:=by rw[List.drop_append,List.drop_eq_nil_of_le (by omega),htl,List.nil_append];congr 1;omega
 rw[Nat.succ_eq_add_one,hdrop]at hown2;have hbw2:=(hbw.out.grown hg2 hbw.out.size (by intro k hk;simp[Value.ownBlock]at hk;omega)).drew;have lW:=own_below hown2 ((Below.refl w2.heap.size w2).drew) (Nat.le_refl _);have hrow:=((aY hown).mono hbw2 (Nat.le_refl _)).cut i c 4 ((n-i)*4) (by omega);rw[List.take_of_length_le (by rw[List.length_drop,hfl];omega),eP aP]at hrow;have hdl:(flat bH (l.drop i)).length=(n-i)*4:=by rw[flat_length aP,List.length_drop,hln]
 obtain⟨w3,hcp2,hown3,hg3⟩:=iY (P:=Tryz.prog) (w:=w2.drew) 41 41 3 207 Tryz.underlying41 4 hsz (bY (some ⟨w.heap.size,0,none⟩) (i+1) G 4) (bY a i c 4) (n-i) (G-(i+1)) (n-i) (c-i) (flat bH (l.drop i)) (by rw[hdl,show Nat.min (n-i) (n-i)=n-i from Nat.min_self _]) hrow (zW _) w.heap.size (n+1) G (i+1) (some ⟨w.heap.size,0,none⟩) _ lW (fun _=>lV) (fun h=>by rw[lV]at h;simp at h) (by rw[hdl];omega);rw[show(flat bH (l.take i)++bH b++zs.drop 4).take ((i+1)*4)=flat bH (l.take i)++bH b from List.take_left' (by rw[List.length_append,htl,aP];omega),hdl,show(flat bH (l.take i)++bH b++zs.drop 4).drop ((i+1)*4+(n-i)*4)=[]from List.drop_eq_nil_of_le (by simp only[List.length_append,htl,aP,List.length_drop,hzl];omega),List.append_nil,<- gX bH b,<- aT,<- aT,List.append_assoc,List.singleton_append]at hown3;have HO3:=gO (own_base hown3 hbase);have HG3:Hid (w.grownBy w3 (Value.ownBlock (.slice a n c))):=by
  have h1:=HG1.out;refine⟨hg3.os.trans (hg2.os.trans h1.os),hg3.tape.trans (hg2.tape.trans h1.tape),hg3.output.trans (hg2.output.trans h1.output),gQ h1.size (gQ hg2.size hg3.size),fun k hk hne=> ?_⟩;have e1:some k≠Value.ownBlock (.slice (some ⟨w.heap.size,0,none⟩) (n+1) G):=by simp[Value.ownBlock];omega
  exact(hg3.block k (gI hk (gQ h1.size hg2.size)) e1).trans ((hg2.block k (gI hk h1.size) e1).trans (h1.block k hk (by simp)))
 have b7:((i:Int)+1)<=G:=by omega
 have s1:IntKind.i64.wrap ((i:Int)+1)=(i:Int)+1:=IntWalk.i64_in _ (by omega);have b8:0<=(i:Int)+1:=by omega
 have b9:((i:Int)+1).toNat=i+1:=by omega
 have b10:(i:Int)+1<=(n:Int)+1:=by omega
 clear hown hown2 lW hown3 hg1 hg2 hg3 hown1 hrow hv1 hbw2 HO1 HR HG1 hdrop lU lV;go_enter Tryz.func167,Tryz.ntmps167
 go_wp2_with (at_builtin;refine jX rfl _ _ 41 3 rfl _ _ rfl rfl hrz ?_)
 go_still_tail 8,(by kernel_rfl)
 change wpList _ _ _ _ _ w2.drew;generalize w2.drew=w2d at*;go_wp2
 go_ret
 exact⟨_,_,rfl,HO3.out,HG3.out,fun k hk=> .inr (by simp[Value.ownBlock]at hk;omega)⟩
set_option maxHeartbeats 1000000 in
set_option maxRecDepth 100000 in
theorem EF (base:Nat)(a:Option Addr)(n c g i:Nat)(l:List Lc)(b:Lc)(w:World)(hown:w.ownsRow base 207 4 (.slice a n c) n (flat bH l))(hi:i<n)(hn:n<=1000)(hc:n+1<=c)(hbase:base<=w.heap.size)(hgb:w.heap[g]? =some (.cells (bH b).toArray 207 (0,0)))(hne:some g≠Value.ownBlock (.slice a n c))(hv:Row w (some ⟨g,0,none⟩) (bH b)):
 Calls Tryz.prog 167 #[.slice a n c,.int .i64 i,.slice (some ⟨g,0,none⟩) 1 1] w fun ev w'=>∃a' c',ev= .returned (.slice a' (n+1) c')/\w'.ownsRow base 207 4 (.slice a' (n+1) c') (n+1) (flat bH (l.take i++b::l.drop i))/\w.grownBy w' (Value.ownBlock (.slice a n c))/\(∀k,(Value.slice a' (n+1) c').ownBlock=some k->(Value.slice a n c).ownBlock=some k∨w.heap.size<=k):=by
 have hln:l.length=n:=bC aP (by decide) hown;have hfl:=flat_length aP l;obtain⟨g0,cur,rfl,hg0,hcs,hcm⟩:∃g0 cur,a=some ⟨g0,0,none⟩/\w.heap[g0]? =some (.cells cur 207 (0,0))/\cur.size=c*4/\c<=maxLen:=by
  rcases hown.2 with ⟨h',h2⟩ | ⟨g0,cap,cur,h',_,hg,_,hcm,hs,_⟩
  ·omega
  ·obtain⟨rfl,rfl⟩:a=some ⟨g0,0,none⟩/\c=cap:=by simpa using h'
   exact⟨g0,cur,rfl,hg,hs,hcm⟩
 have hgg:g≠g0:=fun e=>hne (by rw[e];rfl)
 have hcut:∀j,j<=n->bY (some ⟨g0,0,none⟩) j c 4=(some ⟨g0,0,none⟩:Option Addr).map (·.add (j*4)):=fun j hj=>by unfold bY;rw[if_neg (by omega)]
 have pK:bY (some ⟨g0,0,none⟩) (i+1) c 4=some ⟨g0,(i+1)*4,none⟩:=by rw[hcut _ (by omega)];simp[Addr.add_lit]
 have hsz:(Tryz.prog.info? 207).map (·.size)=some 4:=by kernel_rfl
 have hov:(callFunc 183 #[.slice (some ⟨g,0,none⟩) 1 1,.slice (bY (some ⟨g0,0,none⟩) (i+1) c 4) (n-i) (c-(i+1))]).run Tryz.prog w= .ok (.value (.bool false)) w:=by
  rw[pK,run_callFunc_extern Tryz.func183 (by kernel_rfl) (by kernel_rfl) (by kernel_rfl) (e:=Extern.SlicesOverlaps.overlaps #[41,41] #[4]) (by kernel_rfl),
   Lib.run_overlaps_apart w 41 4 207 Tryz.underlying41 4 Tryz.sizeOf207 ⟨g,0,none⟩ ⟨g0,(i+1)*4,none⟩ 1 1 _ _ hgg 207 207 4 (c*4) (by simp[World.shape?,hgb,bH]) (by simp[World.shape?,hg0,hcs]) (by omega) (by simp[World.frozen?,hgb]) (by simp[World.frozen?,hgb])]
  rfl
 obtain⟨ys,hyl,hroom⟩:=uI hown (show n<=n+1 by omega) hc;rw[show(n+1-n)*4=4 by omega]at hyl;have hdl:(flat bH (l.drop i)).length=(n-i)*4:=by rw[flat_length aP,List.length_drop,hln]
 have htl:(flat bH (l.take i)).length=i*4:=by rw[flat_length aP,List.length_take];omega
 have hwd:Below w.heap.size w w.drew:=(Below.refl w.heap.size w).drew;have hroomd:=own_below hroom hwd (Nat.le_refl _);have hrow:=((aY hown).below hwd).cut i c 4 ((n-i)*4) (by omega);rw[List.take_of_length_le (by rw[List.length_drop,hfl];omega),eP aP]at hrow;obtain⟨w2,hcp1,hown2,hg2⟩:=iY (P:=Tryz.prog) (w:=w.drew) 41 41 3 207 Tryz.underlying41 4 hsz (bY (some ⟨g0,0,none⟩) (i+1) c 4) (bY (some ⟨g0,0,none⟩) i c 4) (n-i) (c-(i+1)) (n+1-i) (c-i) (flat bH (l.drop i)) (by rw[hdl,show Nat.min (n+1-i) (n-i)=n-i from Nat.min_eq_right (by omega)]) hrow (zW _) base (n+1) c (i+1) (some ⟨g0,0,none⟩) _ hroomd (fun _=>hcut _ (by omega)) (fun h=>by rw[hcut _ (by omega)]at h;simp at h) (by rw[hdl];omega);have hX:((flat bH l++ys).take ((i+1)*4)++flat bH (l.drop i)++(flat bH l++ys).drop ((i+1)*4+(flat bH (l.drop i)).length))=(flat bH l++ys).take ((i+1)*4)++flat bH (l.drop i):=by
  rw[show(flat bH l++ys).drop ((i+1)*4+(flat bH (l.drop i)).length)=[]from List.drop_eq_nil_of_le (by rw[List.length_append,hfl,hdl];omega),List.append_nil]
 rw[hX]at hown2;have Hr:((flat bH l++ys).take ((i+1)*4)).length=(i+1)*4:=by rw[List.length_take,List.length_append,hfl];omega
 have hv2:=qW (hv.below hwd) hg2 hne;obtain⟨w3,hcp2,hown3,hg3⟩:=iY (P:=Tryz.prog) (w:=w2) 41 41 3 207 Tryz.underlying41 4 hsz (bY (some ⟨g0,0,none⟩) i c 4) (some ⟨g,0,none⟩) (n+1-i) (c-i) 1 1 (bH b) (by rw[show Nat.min 1 (n+1-i)=1 from Nat.min_eq_left (by omega)];rfl) hv2 (by simp[bH,vI,Value.oneCell']) base (n+1) c i (some ⟨g0,0,none⟩) _ hown2 (fun _=>hcut _ (by omega)) (fun h=>by rw[hcut _ (by omega)]at h;simp at h) (by rw[aP];omega);have hY:((flat bH l++ys).take ((i+1)*4)++flat bH (l.drop i)).take (i*4)++bH b++((flat bH l++ys).take ((i+1)*4)++flat bH (l.drop i)).drop (i*4+(bH b).length)=flat bH (l.take i++b::l.drop i):=by
  rw[aP,show i*4+4=(i+1)*4 by omega,List.drop_left' Hr,List.take_append_of_le_length (by rw[Hr];omega),List.take_take,show min (i*4) ((i+1)*4)=i*4 by omega,List.take_append_of_le_length (by rw[hfl];omega),eH aP,aT,dM,List.append_assoc]
 rw[hY]at hown3;have HO3:=gO hown3;have HG3:Hid (w.grownBy w3 (Value.ownBlock (.slice (some ⟨g0,0,none⟩) n c))):=
  ⟨hg3.os.trans hg2.os,hg3.tape.trans hg2.tape,hg3.output.trans hg2.output,gQ hg2.size hg3.size,fun k hk hnk=>(hg3.block k (gI hk hg2.size) hnk).trans (hg2.block k hk hnk)⟩
 have b0:(i:Int)<=n:=by omega
 have b2:(i:Int)<=c:=by omega
 have b3:¬(i:Int)=n:=by omega
 have b4:¬(c:Int)<(n:Int)+1:=by omega
 have b5:(i:Int)<=(n:Int)+1:=by omega
 have b6:(n:Int)+1<=c:=by omega
 have b7:((i:Int)+1)<=c:=by omega
 have s1:IntKind.i64.wrap ((i:Int)+1)=(i:Int)+1:=IntWalk.i64_in _ (by omega);have b8:0<=(i:Int)+1:=by omega
 have b9:((i:Int)+1).toNat=i+1:=by omega
 have b10:(i:Int)+1<=(n:Int)+1:=by omega
 have b11:((n:Int)+1).toNat=n+1:=by omega
 have b12:c<=9223372036854775807:=by unfold maxLen at hcm;omega
 clear hown hroom hroomd hrow hown2 hown3 hg2 hg3 hX hY hv hv2 hcut pK hg0 hgb hcs;go_enter Tryz.func167,Tryz.ntmps167
 go_wp2_with (simp only[hov])
 go_still_tail 8,(by kernel_rfl)
 change wpList _ _ _ _ _ w.drew;go_wp2
 go_ret
 exact⟨_,_,rfl,HO3.out,HG3.out,fun k hk=> .inl hk⟩
theorem SV (base:Nat)(a:Option Addr)(n c g i:Nat)(l:List Lc)(b:Lc)(w:World)(hown:w.ownsRow base 207 4 (.slice a n c) n (flat bH l))(hi:i<=n)(hn:n<=1000)(hbase:base<=w.heap.size)(hgb:w.heap[g]? =some (.cells (bH b).toArray 207 (0,0)))(hne:some g≠Value.ownBlock (.slice a n c)):
 Calls Tryz.prog 167 #[.slice a n c,.int .i64 i,.slice (some ⟨g,0,none⟩) 1 1] w fun ev w'=>∃a' c',ev= .returned (.slice a' (n+1) c')/\w'.ownsRow base 207 4 (.slice a' (n+1) c') (n+1) (flat bH (l.take i++b::l.drop i))/\w.grownBy w' (Value.ownBlock (.slice a n c))/\(∀k,(Value.slice a' (n+1) c').ownBlock=some k->(Value.slice a n c).ownBlock=some k∨w.heap.size<=k):=by
 have hlt:g<w.heap.size:=(Array.getElem?_eq_some_iff.1 hgb).1;have hv:Row w (some ⟨g,0,none⟩) (bH b):=by
  intro j v hj;exact⟨g,0,rfl,hlt,by rw[Nat.zero_add,cell_of_row _ _ _ _ _ _ hgb];simpa using hj⟩
 have hln:l.length=n:=bC aP (by decide) hown;by_cases he:i=n
 ·subst he;have:=KI base a i c g l b w hown hn hbase hv;rw[List.take_of_length_le (by omega),List.drop_eq_nil_of_le (by omega)];exact this
 ·by_cases hc:n+1<=c
  ·exact EF base a n c g i l b w hown (by omega) hn hc hbase hgb hne hv
  ·exact Il base a n c g i l b w hown (by omega) hn (by omega) hbase hv
end
end Go.Proofs.YtcmpmobhongkiaaGreatDoor
