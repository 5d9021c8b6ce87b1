/- joined. -/
import Derived.Test.YtjaogfhcnmjkiaaGreatDoorAB2
import Derived.StillTailTactics
import Derived.Lib.Overlaps
import Derived.Laws.Externs
import Derived.Deep.AppendLies
set_option linter.all false
set_option maxRecDepth 100000
set_option maxHeartbeats 0
namespace Go.Proofs.YtjaogfhcnmjkiaaGreatDoor
open Go.RowKit
open Go.Value renaming slice->aA,int->aB,agg->aC,string->aF,tuple->aG,pointer->aH,ownBlock->gTh
open Go.IntKind renaming i64->aI
open Option renaming none->aJ,some->aK
open Go.Ending renaming returned->aN
open Go.Obj renaming cells->aO
open Go.Proofs.Tryz
variable {a1':Option Addr}{b c1' n1':Nat}{cs:List Value}{l':List Bk}{row:Option Nat}{vs:Array Value}{w w':World}
section
attribute [local go_sem ↓] jP
theorem wH {P:Program}{w:World}(t tn ty e:TypeId)(ht:P.underlying t=aK (.slice e))(htn:P.underlying tn=aK (.int .i64))(z:Value)(size bytes:Nat)(hinfo:(P.info? e).map (λi=>(i.zero,i.size,i.bytes))=aK (aK z,size,bytes))(hzs:z.cells.size=size)(hsz:0<size)
 (as_:Option Addr) (n cs:Nat) (xs:List Value) (base:Nat) (hown:w.ownsRow base e size (aA as_ n cs) n xs) (k:Nat) (hk:0<k) (hg:cs<n+k) (hbytes:(n+k)*bytes<=140737488355328) (hbp:0<bytes):
 ∃G zs w',(Builtin.append_ #[t,tn] ty #[aA as_ n cs,aB aI k]).run P w= .ok (aA (aK ⟨w.heap.size,0,aJ⟩) (n+k) G) w'/\zs.length=k*size/\w'.ownsRow w.heap.size e size (aA (aK ⟨w.heap.size,0,aJ⟩) (n+k) G) (n+k) (xs++zs)/\w.grownBy w' aJ:=by
 obtain⟨i,o,p,a,f⟩:=info_parts hinfo;subst a;subst f;have c:n+k<=maxLen:=by
  have:n+k<=(n+k)*i.bytes:=Nat.le_mul_of_pos_right _ hbp;simp only[maxLen];omega
 have b:(Builtin.firstCells i.size n (aA as_ n cs)).run P w.drew= .ok xs.toArray w.drew:=nR i.size n as_ n cs xs hown.1 (bJ (own_below hown ((gX w.heap.size w).drew) (gT _)));have h:=Lib.run_append_grow_zeros (P:=P) w t tn ty e i z .i64 .i64 ht htn o p as_ n cs xs b k hk hsz hg (by unfold maxLen at c;omega) (by have:=Nat.mul_le_mul_right i.bytes (show k<=n+k by omega);omega) (growslice_fits hg hbytes);have d:=grownCap_ge w (n+k) cs e;have g:grownCap w (n+k) cs e<=maxLen:=grownCap_le_maxLen w (n+k) cs e c;refine⟨_,(Builtin.zeroCells z.cells k).toList,_,h,?_,⟨?_,.inr ⟨w.heap.size,_,_,rfl,gT _,heap_alloc_new w.drew _,d,g,?_,?_⟩⟩,⟨rfl,rfl,rfl,by simp,λj m _=>heap_alloc_old w.drew _ m⟩⟩
 ·rw[Array.length_toList,size_zeroCells,hzs]
 ·rw[gTb,hown.1,Array.length_toList,size_zeroCells,hzs,Nat.add_mul]
 ·simp only[Array.size_append,List.size_toArray,size_zeroCells,hzs,hown.1,<- Nat.add_mul];congr 1;omega
 ·have l:(xs++(Builtin.zeroCells z.cells k).toList).length=(n+k)*i.size:=by rw[gTb,hown.1,Array.length_toList,size_zeroCells,hzs,Nat.add_mul]
  simp only[Array.toList_append];rw[<- l];exact List.take_left
theorem lJ {P:Program}{w:World}{ops:Array Oper}{rest:List Oper}{o:Oper}{a:Act}{Q:Exit->Act->World->Prop}(hgd:o.guard=aJ)(s x:Operand)(t tn:TypeId)
 (ho:o.op= .call {callee:= .builtin .append,args:=#[s,x],argTypes:=#[t,tn]}) (v u:Value) (hs:a.eval s=v) (hx:a.eval x=u) {v':Value} {w':World}
 (hr:(Builtin.append_ #[t,tn] o.type #[v,u]).run P w= .ok v' w') (h:wpList P ops Q rest (a.put o.dst v') w'):wpList P ops Q (o::rest) a w:=by
 refine wpList_plain hgd λK b=> ?_
 unfold Oper.wp execOp;simp only[ho,resolve,invoke,builtin,Sem.run_bind,Sem.run_pure,Result.andThen_ok,List.map_toArray,List.map_cons,List.map_nil,hs,hx,hr];exact b _ _ h
theorem tK {off:Nat}(h:Row w (aK ⟨b,off,aJ⟩) cs)(hg:w.grownBy w' row)(hne:aK b≠row):Row w' (aK ⟨b,off,aJ⟩) cs:=by
 intro j v d;obtain⟨g,a,e,c,f⟩:=h j v d;obtain⟨rfl,rfl⟩:b=g/\off=a:=by simpa using e
 refine⟨b,off,rfl,gI c hg.size,?_⟩;rw[World.cell?_of_block (hg.block b c hne)];exact f
structure Hu {α:Type}(enc:α->List Value)(s e:TypeId)(k y:Nat)(z:Value):Prop where
 len:∀x,(enc x).length=k
 k0:0<k
 u:prog.underlying s=aK (.slice e)
 info:(prog.info? e).map (λi=>(i.zero,i.size,i.bytes))=aK (aK z,k,y)
 y0:0<y/\y<=1000
 zs:z.cells.size=k
 one:∀x,∀u∈enc x,u.oneCell'=true
 zo:∀u∈z.cells,u.oneCell'=true
 sz:∀w,(Go.sizeOf e).run prog w= .ok k w
section
variable {α:Type}{enc:α->List Value}{s e:TypeId}{k y:Nat}{z:Value}{base n c g i:Nat}{a:Option Addr}{l:List α}{b:α}{w:World}
theorem Hu.ones (E:Hu enc s e k y z)(l:List α):∀u∈flat enc l,u.oneCell'=true:=λu a=>by
 obtain⟨x,_,b⟩:=List.mem_flatMap.1 a;exact E.one x u b
theorem Hu.size (E:Hu enc s e k y z):(prog.info? e).map (·.size)=aK k:=by
 obtain⟨i,b,c,a,hb⟩:=info_parts E.info;simp[b,a]
theorem Hu.zero (E:Hu enc s e k y z)(w:World):(zeroValue e).run prog w= .ok z w:=by
 obtain⟨i,a,b,c,hb⟩:=info_parts E.info;simp[zeroValue,typeInfo,a,b]
theorem Hu.grow (E:Hu enc s e k y z)(hown:w.ownsRow base e k (aA a n c) n (flat enc l))(hi:i<n)(hn:n<=1000)(hc:c<n+1)(hbase:base<=w.heap.size)(hv:Row w (aK ⟨g,0,aJ⟩) (enc b)):
 ∃G w1 w2 w3,(Builtin.append_ #[s,3] s #[aA a i c,aB aI ((n:Int)+1-(i:Int))]).run prog w= .ok (aA (aK ⟨w.heap.size,0,aJ⟩) (n+1) G) w1/\((n+1:Nat):Int)<=G/\
  (Builtin.copy_ #[s,s] 3 #[aA (dJ (aK ⟨w.heap.size,0,aJ⟩) i G k) (n+1-i) (G-i),aA (aK ⟨g,0,aJ⟩) 1 1]).run prog w1= .ok (goInt (Nat.min 1 (n+1-i):Nat)) w2/\
  (Builtin.copy_ #[s,s] 3 #[aA (dJ (aK ⟨w.heap.size,0,aJ⟩) (i+1) G k) (n-i) (G-(i+1)),aA (dJ a i c k) (n-i) (c-i)]).run prog w2.drew= .ok (goInt (Nat.min (n-i) (n-i):Nat)) w3/\
  Hid (w3.ownsRow base e k (aA (aK ⟨w.heap.size,0,aJ⟩) (n+1) G) (n+1) (flat enc (l.take i++b::l.drop i)))/\Hid (w.grownBy w3 (gTh (aA a n c))):=by
 have p1:(i+1)*k=i*k+k:=Nat.succ_mul i k;have W:(n+1)*k=n*k+k:=Nat.succ_mul n k;have p3:(n-i)*k+i*k=n*k:=by rw[<- Nat.add_mul,Nat.sub_add_cancel (by omega)]
 have p4:(n+1-i)*k+i*k=n*k+k:=by rw[<- Nat.add_mul,Nat.sub_add_cancel (by omega),W]
 have p5:i*k<=n*k:=Nat.mul_le_mul_right k (by omega);have p6:(i+1)*k<=n*k:=Nat.mul_le_mul_right k (by omega);have X:=eU hown;have I:l.length=n:=bT E.len E.k0 hown;have O:=flat_length E.len l;have p7:(n-i)*k<=(c-i)*k:=Nat.mul_le_mul_right k (by have:=eU hown;omega);have p8:l.length*k=n*k:=by rw[I]
 obtain⟨G,zs,w1,v,L,d,F⟩:=wH (P:=prog) s 3 s e E.u underlying3 z k y E.info E.zs E.k0 a i c _ base (jQ hown (show i<=n by omega)) (n+1-i) (by omega) (by omega) (by rw[show i+(n+1-i)=n+1 by omega];exact gQ (Nat.mul_le_mul (show n+1<=1001 by omega) E.y0.2) (by omega)) E.y0.1;rw[show i+(n+1-i)=n+1 by omega]at v d;rw[show((n+1-i:Nat):Int)=(n:Int)+1-(i:Int)by omega]at v;rw[fQ E.len]at d;have HR:=gO (bJ hown);have Y:=eU d;have Q:=gO d;have R:=gO F;have t:=gO ((gX w.heap.size w).grown F (gT _) (by simp));have H:(prog.info? e).map (·.size)=aK k:=E.size;have K:=hv.mono t.out (gT _);have p:(flat enc (l.take i)).length=i*k:=by rw[flat_length E.len,gTc,Nat.min_eq_left (by omega)]
 have U:dJ (aK ⟨w.heap.size,0,aJ⟩) i G k=(aK ⟨w.heap.size,0,aJ⟩:Option Addr).map (·.add (i*k)):=by unfold dJ;rw[if_neg (by omega)]
 have S:dJ (aK ⟨w.heap.size,0,aJ⟩) (i+1) G k=(aK ⟨w.heap.size,0,aJ⟩:Option Addr).map (·.add ((i+1)*k)):=by unfold dJ;rw[if_neg (by omega)]
 obtain⟨w2,C,f,j⟩:=kF (P:=prog) s s 3 e E.u k H (dJ (aK ⟨w.heap.size,0,aJ⟩) i G k) (aK ⟨g,0,aJ⟩) (n+1-i) (G-i) 1 1 (enc b) (by rw[show Nat.min 1 (n+1-i)=1 from Nat.min_eq_left (by omega),E.len,Nat.one_mul]) K (E.one _) w.heap.size (n+1) G i (aK ⟨w.heap.size,0,aJ⟩) _ Q.out (λ_=>U) (λh=>by rw[U]at h;simp at h) (by rw[E.len];omega);rw[E.len,List.take_left' p,<- Nat.succ_mul]at f;have r:(flat enc (l.take i)++zs).drop ((i+1)*k)=zs.drop k:=by rw[List.drop_append,List.drop_eq_nil_of_le (by omega),p,List.nil_append,show(i+1)*k-i*k=k by omega]
 rw[Nat.succ_eq_add_one,r]at f;have J:=(t.out.grown j t.out.size (by intro k D;simp[gTh]at D;omega)).drew;have Z:=own_below f ((gX w2.heap.size w2).drew) (gT _);have q:=((bJ hown).mono J (gT _)).cut i c k ((n-i)*k) (by omega);rw[gTf (by rw[gTd,O];omega),fU E.len]at q;have A:(flat enc (l.drop i)).length=(n-i)*k:=by rw[flat_length E.len,gTd,I]
 obtain⟨w3,B,m,o⟩:=kF (P:=prog) (w:=w2.drew) s s 3 e E.u k H (dJ (aK ⟨w.heap.size,0,aJ⟩) (i+1) G k) (dJ a i c k) (n-i) (G-(i+1)) (n-i) (c-i) (flat enc (l.drop i)) (by rw[A,show Nat.min (n-i) (n-i)=n-i from Nat.min_self _]) q (E.ones _) w.heap.size (n+1) G (i+1) (aK ⟨w.heap.size,0,aJ⟩) _ Z (λ_=>S) (λh=>by rw[S]at h;simp at h) (by rw[A];omega);rw[show(flat enc (l.take i)++enc b++zs.drop k).take ((i+1)*k)=flat enc (l.take i)++enc b from List.take_left' (by rw[gTb,p,E.len];omega),A,show(flat enc (l.take i)++enc b++zs.drop k).drop ((i+1)*k+(n-i)*k)=[]from List.drop_eq_nil_of_le (by simp only[gTb,p,E.len,gTd,L];omega),List.append_nil,<- iC enc b,<- bG,<- bG,List.append_assoc,List.singleton_append]at m;have M:=gO (own_base m hbase);have N:Hid (w.grownBy w3 (gTh (aA a n c))):=by
  have x:=R.out;refine⟨o.os.trans (j.os.trans x.os),o.tape.trans (j.tape.trans x.tape),o.output.trans (j.output.trans x.output),gQ x.size (gQ j.size o.size),λk D V=> ?_⟩;have T:aK k≠gTh (aA (aK ⟨w.heap.size,0,aJ⟩) (n+1) G):=by simp[gTh];omega
  exact(o.block k (gI D (gQ x.size j.size)) T).trans ((j.block k (gI D x.size) T).trans (x.block k D (by simp)))
 exact⟨G,w1,w2,w3,v,by omega,C,B,M,N⟩
theorem Hu.shift (E:Hu enc s e k y z)(hown:w.ownsRow base e k (aA a n c) n (flat enc l))(hi:i<n)(hn:n<=1000)(hc:n+1<=c)(hgb:w.heap[g]? =aK (.cells (enc b).toArray e (0,0)))(hne:aK g≠gTh (aA a n c))(hv:Row w (aK ⟨g,0,aJ⟩) (enc b)):
 ∃g0 w2 w3,a=aK ⟨g0,0,aJ⟩/\c<=9223372036854775807/\
  (Extern.SlicesOverlaps.overlaps #[s,s] #[4] #[aA (aK ⟨g,0,aJ⟩) 1 1,aA (dJ a (i+1) c k) (n-i) (c-(i+1))]).run prog w= .ok (.bool false) w/\
  (Builtin.copy_ #[s,s] 3 #[aA (dJ a (i+1) c k) (n-i) (c-(i+1)),aA (dJ a i c k) (n+1-i) (c-i)]).run prog w.drew= .ok (goInt (Nat.min (n+1-i) (n-i):Nat)) w2/\
  (Builtin.copy_ #[s,s] 3 #[aA (dJ a i c k) (n+1-i) (c-i),aA (aK ⟨g,0,aJ⟩) 1 1]).run prog w2= .ok (goInt (Nat.min 1 (n+1-i):Nat)) w3/\
  Hid (w3.ownsRow base e k (aA a (n+1) c) (n+1) (flat enc (l.take i++b::l.drop i)))/\Hid (w.grownBy w3 (gTh (aA a n c))):=by
 have p1:(i+1)*k=i*k+k:=Nat.succ_mul i k;have Y:(n+1)*k=n*k+k:=Nat.succ_mul n k;have p3:(n-i)*k+i*k=n*k:=by rw[<- Nat.add_mul,Nat.sub_add_cancel (by omega)]
 have p4:(n+1-i)*k+i*k=n*k+k:=by rw[<- Nat.add_mul,Nat.sub_add_cancel (by omega),Y]
 have p5:i*k<=n*k:=Nat.mul_le_mul_right k (by omega);have p6:(i+1)*k<=n*k:=Nat.mul_le_mul_right k (by omega);have H:l.length=n:=bT E.len E.k0 hown;have q:=flat_length E.len l;have p7:(n-i)*k<=(c-i)*k:=Nat.mul_le_mul_right k (by have:=eU hown;omega);have p8:l.length*k=n*k:=by rw[H]
 obtain⟨g0,p,rfl,U,T,v⟩:∃g0 p,a=aK ⟨g0,0,aJ⟩/\w.heap[g0]? =aK (.cells p e (0,0))/\p.size=c*k/\c<=maxLen:=by
  rcases hown.2 with ⟨W,h2⟩ | ⟨g0,O,p,W,_,Z,_,v,hs,_⟩
  ·omega
  ·obtain⟨rfl,rfl⟩:a=aK ⟨g0,0,aJ⟩/\c=O:=by simpa using W
   exact⟨g0,p,rfl,Z,hs,v⟩
 have S:g≠g0:=λe=>hne (by rw[e];rfl)
 have hcut:∀j,j<=n->dJ (aK ⟨g0,0,aJ⟩) j c k=(aK ⟨g0,0,aJ⟩:Option Addr).map (·.add (j*k)):=λj hj=>by unfold dJ;rw[if_neg (by omega)]
 have rH:dJ (aK ⟨g0,0,aJ⟩) (i+1) c k=aK ⟨g0,(i+1)*k,aJ⟩:=by rw[hcut _ (by omega)];simp[Addr.add_lit]
 have G:(prog.info? e).map (·.size)=aK k:=E.size;have N:=E.len b;have M:=E.k0;have J:(Extern.SlicesOverlaps.overlaps #[s,s] #[4] #[aA (aK ⟨g,0,aJ⟩) 1 1,aA (dJ (aK ⟨g0,0,aJ⟩) (i+1) c k) (n-i) (c-(i+1))]).run prog w= .ok (.bool false) w:=by
  rw[rH];exact Lib.run_overlaps_apart w s 4 e E.u k E.sz ⟨g,0,aJ⟩ ⟨g0,(i+1)*k,aJ⟩ 1 1 _ _ S e e k (c*k) (by simp[World.shape?,hgb,N]) (by simp[World.shape?,U,T]) (by have:=Nat.mul_pos (show 0<c by omega) M;omega) (by simp[World.frozen?,hgb]) (by simp[World.frozen?,hgb])
 obtain⟨B,L,x⟩:=wC hown (show n<=n+1 by omega) hc;rw[show(n+1-n)*k=k by rw[Nat.add_sub_cancel_left,Nat.one_mul]]at L;have A:(flat enc (l.drop i)).length=(n-i)*k:=by rw[flat_length E.len,gTd,H]
 have htl:(flat enc (l.take i)).length=i*k:=by rw[flat_length E.len,gTc,Nat.min_eq_left (by omega)]
 have C:Below w.heap.size w w.drew:=(gX w.heap.size w).drew;have r:=own_below x C (gT _);have t:=((bJ hown).below C).cut i c k ((n-i)*k) (by omega);rw[gTf (by rw[gTd,q];omega),fU E.len]at t;obtain⟨w2,F,o,d⟩:=kF (P:=prog) (w:=w.drew) s s 3 e E.u k G (dJ (aK ⟨g0,0,aJ⟩) (i+1) c k) (dJ (aK ⟨g0,0,aJ⟩) i c k) (n-i) (c-(i+1)) (n+1-i) (c-i) (flat enc (l.drop i)) (by rw[A,show Nat.min (n+1-i) (n-i)=n-i from Nat.min_eq_right (by omega)]) t (E.ones _) base (n+1) c (i+1) (aK ⟨g0,0,aJ⟩) _ r (λ_=>hcut _ (by omega)) (λh=>by rw[hcut _ (by omega)]at h;simp at h) (by rw[A];omega);have hX:((flat enc l++B).take ((i+1)*k)++flat enc (l.drop i)++(flat enc l++B).drop ((i+1)*k+(flat enc (l.drop i)).length))=(flat enc l++B).take ((i+1)*k)++flat enc (l.drop i):=by
  rw[show(flat enc l++B).drop ((i+1)*k+(flat enc (l.drop i)).length)=[]from List.drop_eq_nil_of_le (by rw[gTb,q,A];omega),List.append_nil]
 rw[hX]at o;have X:((flat enc l++B).take ((i+1)*k)).length=(i+1)*k:=by rw[gTc,gTb,q];omega
 have K:=tK (hv.below C) d hne;obtain⟨w3,D,f,m⟩:=kF (P:=prog) (w:=w2) s s 3 e E.u k G (dJ (aK ⟨g0,0,aJ⟩) i c k) (aK ⟨g,0,aJ⟩) (n+1-i) (c-i) 1 1 (enc b) (by rw[show Nat.min 1 (n+1-i)=1 from Nat.min_eq_left (by omega),E.len,Nat.one_mul]) K (E.one _) base (n+1) c i (aK ⟨g0,0,aJ⟩) _ o (λ_=>hcut _ (by omega)) (λh=>by rw[hcut _ (by omega)]at h;simp at h) (by rw[E.len];omega);have hY:((flat enc l++B).take ((i+1)*k)++flat enc (l.drop i)).take (i*k)++enc b++((flat enc l++B).take ((i+1)*k)++flat enc (l.drop i)).drop (i*k+(enc b).length)=flat enc (l.take i++b::l.drop i):=by
  rw[E.len,show i*k+k=(i+1)*k by omega,List.drop_left' X,List.take_append_of_le_length (by rw[X];omega),List.take_take,show min (i*k) ((i+1)*k)=i*k by omega,List.take_append_of_le_length (by rw[q];omega),fQ E.len,bG,eX,List.append_assoc]
 rw[hY]at f;have Q:=gO f;have R:Hid (w.grownBy w3 (gTh (aA (aK ⟨g0,0,aJ⟩) n c))):=
  ⟨m.os.trans d.os,m.tape.trans d.tape,m.output.trans d.output,gQ d.size m.size,λk V I=>(m.block k (gI V d.size) I).trans (d.block k V I)⟩
 exact⟨g0,w2,w3,rfl,by unfold maxLen at v;omega,J,F,D,Q,R⟩
theorem Hu.del (E:Hu enc s e k y z)(hown:w.ownsRow base e k (aA a n c) n (flat enc l))(hi:i<n):
 c<=9223372036854775807/\∃w2 w3,(Builtin.append_ #[s,s] s #[aA a i c,aA (dJ a (i+1) c k) (n-(i+1)) (c-(i+1))]).run prog w.drew= .ok (aA a (n-1) c) w2/\
  (Builtin.clear_ #[s] 0 #[aA (dJ a (n-1) c k) 1 (c-(n-1))]).run prog w2= .ok (aG #[]) w3/\
  Hid (w3.ownsRow base e k (aA a (n-1) c) (n-1) (flat enc (l.eraseIdx i)))/\Hid (w.grownBy w3 (gTh (aA a n c))):=by
 have q:c<=9223372036854775807:=by
  rcases hown.2 with ⟨C,M⟩ | ⟨g,D,I,C,_,_,_,q,_⟩
  ·simp at C;omega
  ·have:c=D:=by simp at C;exact C.2
   unfold maxLen at q;omega
 have J:=eU hown;have B:l.length=n:=bT E.len E.k0 hown;have G:=flat_length E.len l;have O:(i+1)*k+(n-(i+1))*k=n*k:=by rw[<- Nat.add_mul];congr 1;omega
 have N:l.length*k=n*k:=by rw[B]
 have L:(n-(i+1))*k<=(c-(i+1))*k:=Nat.mul_le_mul_right k (by omega);have A:=own_below hown ((gX w.heap.size w).drew) (gT _);have p:=(bJ A).cut (i+1) c k ((n-(i+1))*k) (by omega);rw[gTf (by rw[gTd,G];omega),fU E.len]at p;have o:=jQ A (show i<=n by omega);rw[fQ E.len]at o;obtain⟨w2,v,b,d⟩:=JU (P:=prog) (w:=w.drew) s s base e z k y E.u E.info E.k0 a i c _ o (dJ a (i+1) c k) (n-(i+1)) (c-(i+1)) (flat enc (l.drop (i+1))) (by rw[flat_length E.len,gTd,B]) p (E.ones _) (by omega);have t:∀m,(∀j,aK j≠gTh (aA a n c)->aK j≠gTh (aA a m c)):=λm j h=>by cases a with | none=>simp[gTh] | some x=>simpa[gTh]using h
 rw[<- bG,<- List.eraseIdx_eq_take_drop_succ]at b;have K:i+(n-(i+1))=n-1:=by omega
 rw[K]at b v;obtain⟨w3,F,r,f⟩:=Ei (P:=prog) s 0 e E.u k z E.zero E.zs E.zo base (n-1) 1 c (c-(n-1)) a _ b (by omega);exact⟨q,w2,w3,v,F,r,⟨f.os.trans d.os,f.tape.trans d.tape,f.output.trans d.output,gQ d.size f.size,λj H h=>(f.block j (gI H d.size) (t _ j h)).trans (d.block j H (t _ j h))⟩⟩
theorem rG (hi:i<n)(hn:n<=1000):(i:Int)<=n/\¬(i:Int)=n/\(i:Int)<=(n:Int)+1/\IntKind.i64.wrap ((i:Int)+1)=(i:Int)+1/\0<=(i:Int)+1/\((i:Int)+1).toNat=i+1/\(i:Int)+1<=(n:Int)+1/\((n:Int)+1).toNat=n+1:=⟨by omega,by omega,by omega,IntWalk.i64_in _ (by omega),by omega,by omega,by omega,by omega⟩
theorem Hu.head (E:Hu enc s e k y z)(hown:w.ownsRow base e k (aA a n c) n (flat enc l))(hgb:w.heap[g]? =aK (.cells (enc b).toArray e (0,0))):l.length=n/\n<=c/\Row w (aK ⟨g,0,aJ⟩) (enc b)/\∀j u,(enc b)[j]? =aK u->w.cell? ((⟨g,0,aJ⟩:Addr).add j)=aK u:=by
 have d:g<w.heap.size:=(Array.getElem?_eq_some_iff.1 hgb).1;refine⟨bT E.len E.k0 hown,eU hown,λj v f=>⟨g,0,rfl,d,by rw[Nat.zero_add,cell_of_row _ _ _ _ _ _ hgb];simpa using f⟩,λj u f=> ?_⟩;rw[Addr.add_lit,Nat.zero_add,cell_of_row _ _ _ _ _ _ hgb];simpa using f
end
end
section
attribute [local go_sem ↓] jP
theorem He:Hu bC 37 82 3 24 (aC #[aB aI 0,aB aI 0,aB aI 0]):=⟨aX,by decide,underlying37,uN,by decide,rfl,λx=>by simp[bC,vI,Value.oneCell'],by simp[Value.cells,Value.oneCell'],Tryz.sizeOf82⟩
theorem xX (base:Nat)(a:Option Addr)(n c:Nat)(l:List (Bk))(i:Nat)(w:World)(hown:w.ownsRow base 82 3 (aA a n c) n (flat bC l))(hi:i<n)(hn:n<=1000)(hbase:base<=w.heap.size):
 Calls prog 85 #[aA a n c,aB aI i,aB aI (i+1)] w λev w'=>ev=aN (aA a (n-1) c)/\w'.ownsRow base 82 3 (aA a (n-1) c) (n-1) (flat bC (l.eraseIdx i))/\w.grownBy w' (gTh (aA a n c)):=by
 obtain⟨f,x,o,b,g,d,e⟩:=He.del hown hi;have h:=eU hown;obtain⟨r,_,_,_,m,p,_⟩:=rG hi hn;have k:(i:Int)+1<=n:=by omega
 have v:(i:Int)<=c:=by omega
 have q:(i:Int)+1<=c:=by omega
 have u:(n:Int)<=c:=by omega
 have t:(n:Int)-1<=n:=by omega
 have y:((n-1:Nat):Int)<=n:=by omega
 have s:n-(n-1)=1:=by omega
 clear hown;go_enter func85,ntmps85
 go_wp2_with fail
 go_still_tail 6,(by kernel_rfl)
 change wpList _ _ _ _ _ w.drew;generalize w.drew=j at*;refine lJ rfl _ _ 37 37 rfl _ _ rfl rfl b ?_;go_wp2
 go_ret
 exact⟨rfl,d.out,e.out⟩
end
section
attribute [local go_sem ↓] jP
theorem FN (base:Nat)(a:Option Addr)(n c g i:Nat)(l:List (Bk))(b:Bk)(w:World)(hown:w.ownsRow base 82 3 (aA a n c) n (flat bC l))(hi:i<=n)(hn:n<=1000)(hbase:base<=w.heap.size)(hgb:w.heap[g]? =aK (.cells (bC b).toArray 82 (0,0)))(hne:aK g≠gTh (aA a n c)):
 Calls prog 106 #[aA a n c,aB aI i,aA (aK ⟨g,0,aJ⟩) 1 1] w λev w'=>∃a' c',ev=aN (aA a' (n+1) c')/\w'.ownsRow base 82 3 (aA a' (n+1) c') (n+1) (flat bC (l.take i++b::l.drop i))/\w.grownBy w' (gTh (aA a n c))/\(∀k,(aA a' (n+1) c').ownBlock=aK k->(aA a n c).ownBlock=aK k∨w.heap.size<=k):=by
 obtain⟨Q,S,t,d⟩:=He.head hown hgb;have b2:(i:Int)<=c:=by omega
 by_cases V:i=n
 ·subst V;rw[gTf (by omega),List.drop_eq_nil_of_le (by omega)];obtain⟨U,y,u,B,D⟩:=info_parts He.info;have H:=gO hown;clear hown hgb t;go_enter func106,ntmps106
  go_wp2_with (at_builtin;refine wpList_append_lies _ rfl _ _ 37 rfl base 82 U _ 3 _ underlying37 y u B D He.zs (by decide) _ i _ rfl H.out ⟨g,0,aJ⟩ 1 1 (bC b) rfl rfl d (He.one b) (by decide) (by unfold maxLen;omega) (by omega) hbase _ rfl ?_)
  intro R c' I f N j E;rw[show flat bC l++bC b=flat bC (l++[b])from by rw[bG,iC]]at f;have z:=gO f;have A:=gO j;clear f H d j;go_wp2
  go_ret
  exact⟨_,c',rfl,z.out,N,λk s=>by
   obtain rfl:R=k:=by simpa[gTh]using s
   exact A.out.imp id λh=>Nat.le_of_eq h.symm⟩
 ·have p:i<n:=by omega
  obtain⟨b0,b3,Z,s1,b8,b9,M,J⟩:=rG p hn;by_cases Y:n+1<=c
  ·obtain⟨O,C,K,rfl,W,F,r,q,m,o⟩:=He.shift hown p hn Y hgb hne t;have v:(callFunc 137 #[aA (aK ⟨g,0,aJ⟩) 1 1,aA (dJ (aK ⟨O,0,aJ⟩) (i+1) c 3) (n-i) (c-(i+1))]).run prog w= .ok (.value (.bool false)) w:=by
    rw[run_callFunc_extern func137 (by kernel_rfl) (by kernel_rfl) (by kernel_rfl) (e:=Extern.SlicesOverlaps.overlaps #[37,37] #[4]) (by kernel_rfl),F];rfl
   have T:¬(c:Int)<(n:Int)+1:=by omega
   have L:(n:Int)+1<=c:=by omega
   have P:((i:Int)+1)<=c:=by omega
   clear hown hgb t F d;go_enter func106,ntmps106
   go_wp2_with (simp only[v])
   go_still_tail 8,(by kernel_rfl)
   change wpList _ _ _ _ _ w.drew;go_wp2
   go_ret
   exact⟨_,_,rfl,m.out,o.out,λk s=> .inl s⟩
  ·obtain⟨G,I,C,K,x,L,r,q,m,o⟩:=He.grow hown p hn (by omega) hbase t;have T:(c:Int)<(n:Int)+1:=by omega
   have P:((i:Int)+1)<=G:=by omega
   clear hown hgb t d;go_enter func106,ntmps106
   go_wp2_with (at_builtin;refine lJ rfl _ _ 37 3 rfl _ _ rfl rfl x ?_)
   go_still_tail 8,(by kernel_rfl)
   change wpList _ _ _ _ _ C.drew;generalize C.drew=X at*;go_wp2
   go_ret
   exact⟨_,_,rfl,m.out,o.out,λk s=> .inr (by simp[gTh]at s;omega)⟩
theorem BH (base:Nat)(a:Option Addr)(n c g i:Nat)(l:List Bk)(b:Bk)(w:World)(hown:w.ownsRow base 82 3 (aA a n c) n (flat bC l))(hi:i<=n)(hn:n<=1000)(hbase:base<=w.heap.size)(hgb:w.heap[g]? =aK (.cells (bC b).toArray 82 (0,0)))(hne:aK g≠gTh (aA a n c)):
 Calls prog 106 #[aA a n c,aB aI i,aA (aK ⟨g,0,aJ⟩) 1 1] w λev w'=>∃a' c',ev=aN (aA a' (n+1) c')/\w'.ownsRow base 82 3 (aA a' (n+1) c') (n+1) (flat bC (l.take i++b::l.drop i))/\w.grownBy w' (gTh (aA a n c)):=
 (FN base a n c g i l b w hown hi hn hbase hgb hne).mono λ_ _ ⟨a',c',e,d,f,_⟩=>⟨a',c',e,d,f⟩
end
theorem XK (x b:Bk)(B:Nat)(W:World)(hx:x.o<=4)(hxa:x.a<=1000)(hb:b.o<=4)(hba:b.a<=1000)(hB:B<W.heap.size)(h0:W.cell? ⟨B,0,aJ⟩=aK (aB aI b.a))(h1:W.cell? ⟨B,1,aJ⟩=aK (aB aI b.o))(h2:W.cell? ⟨B,2,aJ⟩=aK (aB aI b.t)):
 Calls prog 145 (#[.agg (bC x).toArray]++#[aH (aK ⟨B,0,aJ⟩)]) W λev w'=>ev=aN (.bool (decide (x.a<b.fin/\b.a<x.fin)))/\Below W.heap.size W w':=by
 show Calls prog 145 #[aC #[aB aI x.a,aB aI x.o,aB aI x.t],aH (aK ⟨B,0,aJ⟩)] W _;have c:=aT W (aO #[aB aI (x.a:Int),aB aI (x.o:Int),aB aI (x.t:Int)] 82);have K:=bI W #[aB aI (x.a:Int),aB aI (x.o:Int),aB aI (x.t:Int)] 82;have l:W.heap.size<(W.alloc (aO #[aB aI (x.a:Int),aB aI (x.o:Int),aB aI (x.t:Int)] 82)).heap.size:=by simp
 have g:B<(W.alloc (aO #[aB aI (x.a:Int),aB aI (x.o:Int),aB aI (x.t:Int)] 82)).heap.size:=by omega
 have k:=(c.cell (p:=⟨B,0,aJ⟩) hB).trans h0;have j:=(c.cell (p:=⟨B,1,aJ⟩) hB).trans h1;have i:=(c.cell (p:=⟨B,2,aJ⟩) hB).trans h2;have h:=K 0;have k1:=K 1;have k2:=K 2;simp only[gB,gC,gD]at h k1 k2;have m:((x.a:Int)<(b.fin:Int))↔x.a<b.fin:=by omega
 clear h0 h1 h2 K;cases hd:decide (x.a<b.fin)with
 | true=>
  have e:decide ((x.a:Int)<(b.fin:Int))=true:=gTg (by have:=of_decide_eq_true hd;omega);go_enter func145,ntmps145
  go_wp2_with fail
  generalize W.alloc _=f at*;refine bH (by kernel_rfl) (by kernel_rfl) ?_
  repeat (first | go_big_quiet_step ((go_at_call 116;first | with_reducible exact Calls.dF (mD b _ hb hba) | with_reducible exact Calls.dF (mD x _ hx hxa))) | quiet_step ((go_at_call 116;first | with_reducible exact Calls.dF (mD b _ hb hba) | with_reducible exact Calls.dF (mD x _ hx hxa))))
  refine wpQuiet_nil ?_;rintro _ ⟨wx,rfl⟩;have d:=gW c (bD f wx);go_wp2
  go_ret
  exact⟨bP (by rw[Bool.decide_and,hd,Bool.true_and]),d⟩
 | false=>
  have e:decide ((x.a:Int)<(b.fin:Int))=false:=gV (by have:=of_decide_eq_false hd;omega);go_enter func145,ntmps145
  go_wp2_with fail
  generalize W.alloc _=f at*;refine bH (by kernel_rfl) (by kernel_rfl) ?_
  repeat (first | go_big_quiet_step ((go_at_call 116;first | with_reducible exact Calls.dF (mD b _ hb hba) | with_reducible exact Calls.dF (mD x _ hx hxa))) | quiet_step ((go_at_call 116;first | with_reducible exact Calls.dF (mD b _ hb hba) | with_reducible exact Calls.dF (mD x _ hx hxa))))
  refine wpQuiet_nil ?_;rintro _ ⟨wx,rfl⟩;have d:=gW c (bD f wx);go_wp2
  go_ret
  exact⟨bP (by rw[Bool.decide_and,hd,Bool.false_and]),d⟩
theorem aFt (b:Bk)(o t B C:Nat)(W:World)(hB:B<W.heap.size)(hc:W.cell? ⟨B,0,aJ⟩=aK (aB aI o))(hC:C<W.heap.size)(hc2:W.cell? ⟨C,0,aJ⟩=aK (aB aI t)):
 Calls prog 184 (#[.agg (bC b).toArray]++#[aH (aK ⟨B,0,aJ⟩),aH (aK ⟨C,0,aJ⟩)]) W λev w'=>ev=aN (.bool (decide (b.o=o/\b.t=t)))/\Below W.heap.size W w':=by
 have f:B≠W.heap.size:=by omega
 have e:C≠W.heap.size:=by omega
 show Calls prog 184 #[aC #[aB aI b.a,aB aI b.o,aB aI b.t],aH (aK ⟨B,0,aJ⟩),aH (aK ⟨C,0,aJ⟩)] W _;by_cases c:b.o=o
 ·by_cases d:b.t=t
  ·subst c d;go_enter func184,ntmps184
   go_wp2
   go_ret
   exact⟨bP (by simp),aT _ _⟩
  ·have g:((b.t:Int) == (t:Int))=false:=by rw[beq_eq_false_iff_ne];omega
   subst c;go_enter func184,ntmps184
   go_wp2
   go_ret
   exact⟨bP (by symm;exact gV (λh=>d h.2)),aT _ _⟩
 ·have i:((b.o:Int) == (o:Int))=false:=by rw[beq_eq_false_iff_ne];omega
  go_enter func184,ntmps184
  go_wp2
  go_ret
  exact⟨bP (by symm;exact gV (λh=>c h.1)),aT _ _⟩
theorem BI (a1 a2:Option Addr)(n1 n2 c1 c2:Nat)(f e:Nat)(z:Zn)(o t:Nat)(w:World)(hat:IJ w a1 a2 n1 n2 z)(hl:n1<=1000):
 Calls prog 173 #[aC #[aB aI f,aB aI e,aA a1 n1 c1,aA a2 n2 c2],aB aI o,aB aI t] w λev w'=>ev=aN (aB aI (dV (λb=>decide (b.o=o/\b.t=t)) z.l))/\Below w.heap.size w w':=by
 obtain⟨r,j,h,y,q,n,v,c⟩:=boxes3 w #[aB aI (f:Int),aB aI (e:Int),aA a1 n1 c1,aA a2 n2 c2] 79 #[aB aI (o:Int)] 3 #[aB aI (t:Int)] 3;have u:=hat.below c;have l1:=hat.l1;have m:=j 0;have i:=h 0;simp only[gB,gC]at m i;clear hat r j h y q n;have s:∀a w,(callFunc 184 a).run prog w= .ok (.enter 184 a) w:=enters_of func184 (by kernel_rfl) rfl;go_enter func173,ntmps173
 go_wp2_with fail
 generalize ((w.alloc _).alloc _).alloc _=k at*;refine(Dp _ _ _ z.l _ _ (λb=>decide (b.o=o/\b.t=t)) _ l1 (by omega) u.r1 s (λW d x B=>aFt x o t _ _ W (gI (show w.heap.size+1<k.heap.size by omega) d.size) ((d.cell (p:=⟨w.heap.size+1,0,aJ⟩) (by show w.heap.size+1<_;omega)).trans m) (gI (show w.heap.size+1+1<k.heap.size by omega) d.size) ((d.cell (p:=⟨w.heap.size+1+1,0,aJ⟩) (by show w.heap.size+1+1<_;omega)).trans i))).mono ?_;rintro ev A ⟨rfl,g⟩;go_wp2
 go_ret
 exact⟨fC (by simp only[Bool.decide_and]),gW c g⟩
theorem IK (y:List Nat)(i t:Nat):(flat jA y).set i (vI t)=flat jA (y.set i t):=by
 have h:∀y:List Nat,flat jA y=y.map fun(t:Nat)=>vI t:=λy=>by
  unfold flat jA
  induction y with
  | nil=>rfl
  | cons x y ih=>rw[List.flatMap_cons,ih];rfl
 rw[h,h,List.map_set]
theorem UY (k v:Nat):flat jA (List.replicate k v)=List.replicate k (vI v):=by
 unfold flat jA
 induction k with
 | zero=>rfl
 | succ k ih=>rw[List.replicate_succ,List.flatMap_cons,ih];rfl
theorem QF (f e k:Nat)(w:World)(h1:f<=e)(h2:e<=256)(h3:f%16=0)(h4:e%16=0)(hk:k=(e-f)/8):
 Calls prog 97 #[aB aI f,aB aI e] w λev w'=>∃a2 c2,ev=aN (aG #[aC #[aB aI f,aB aI e,aA aJ 0 0,aA a2 k c2],aB aI 0])/\jC w' w.heap.size aJ a2 0 k 0 c2 ⟨f,e,[],List.replicate k 1⟩/\Below w.heap.size w w':=by
 obtain⟨Y,Q,X,q,G⟩:=info_parts mO;have d1:decide ((256:Int)<e)=false:=gV (by omega);have d2:decide (e<f)=false:=gV (by omega);have d3:(f:Int)%16=0:=by omega
 have d4:(e:Int)%16=0:=by omega
 have d5:(f:Int)<=e:=by omega
 have P:((e:Int)-f)/8=(k:Int):=by omega
 have T:k<=32:=by omega
 have W:(k:Int)<=32:=by omega
 clear hk;obtain⟨J,K,O,t⟩:=boxes1 w #[aB aI 0,aB aI 0,aA aJ 0 0,aA aJ 0 0] 79;go_enter func97,ntmps97
 go_wp2_with (at_make;refine wpList_make_full _ rfl _ _ 34 rfl (w.alloc (aO #[aB aI 0,aB aI 0,aA aJ 0 0,aA aJ 0 0] 79)).heap.size 3 Y (aB aI 0) 1 underlying34 Q X q .i64 .i64 _ _ k rfl rfl P P ?q1 ?q2 ?q3 ?_)
 case q1=>rw[G];omega
 case q2=>unfold maxLen;omega
 case q3=>exact gT _
 intro l a b;rw[toList_madeCells_one]at a;have M:=t.grown b (by simp) (by simp);have Z:w.heap.size+1<l.heap.size:=by have:=(a.lt _ rfl).2;simpa using this
 have N:∀o,l.cell? ⟨w.heap.size,o,aJ⟩=(#[aB aI 0,aB aI 0,aA aJ 0 0,aA aJ 0 0]:Array Value)[o]? :=λo=>by rw[World.cell?_of_block (b.block w.heap.size (by simp) (by simp))];exact J o
 have I:∀o,l.frozen? ⟨w.heap.size,o,aJ⟩=false:=λo=>by rw[World.frozen?_of_block (b.block w.heap.size (by simp) (by simp))];exact K o
 have j:=aT l (aO #[aB aI (f:Int),aB aI (e:Int),aA aJ 0 0,aA (aK ⟨w.heap.size+1,0,aJ⟩) k k] 79);have d:=own_below a j (gT _);have L:=bI l #[aB aI (f:Int),aB aI (e:Int),aA aJ 0 0,aA (aK ⟨w.heap.size+1,0,aJ⟩) k k] 79;have B:=aQ N (by omega) j;have x:=aU I (by omega) j;have hs2:l.heap.size<(l.alloc (aO #[aB aI (f:Int),aB aI (e:Int),aA aJ 0 0,aA (aK ⟨w.heap.size+1,0,aJ⟩) k k] 79)).heap.size:=by simp
 have y:=gW M j;rw[show List.replicate k (aB aI 0)=flat jA (List.replicate k 0)from(UY k 0).symm]at d;have u:=gO d;clear a d b N I M j J K;go_wp2
 generalize l.alloc _=w2 at*;generalize l.heap.size=B6 at*;go_loopw [7,41] (λ_ r wr=>∃i:Nat,i<=k/\r=aB aI i/\Hid (wr.ownsRow (w.heap.size+1) 3 1 (aA (aK ⟨w.heap.size+1,0,aJ⟩) k k) k (flat jA (List.replicate i 1++List.replicate (k-i) 0)))/\Hid (∀o,wr.cell? ⟨B6,o,aJ⟩=(#[aB aI (f:Int),aB aI (e:Int),aA aJ 0 0,aA (aK ⟨w.heap.size+1,0,aJ⟩) k k]:Array Value)[o]?)/\Hid (∀o,wr.cell? ⟨w.heap.size,o,aJ⟩=(#[aB aI 0,aB aI 0,aA aJ 0 0,aA aJ 0 0]:Array Value)[o]?)/\Hid (∀o,wr.frozen? ⟨w.heap.size,o,aJ⟩=false)/\Below w.heap.size w wr) (λ_ r _=>k-(intOf r).toNat)
 case atStart=>exact⟨0,gU _,rfl,by simpa[Hid]using u.out,L,B,x,y⟩
 case round=>
  obtain⟨i,Q,rfl,a,s,m,n,A⟩:=hrel;clear u L B x;by_cases S:i<k
  ·obtain⟨g,v,V,hg,hgs,hc,hf⟩:=iJ a.out i (by rw[flat_length dH];simp;omega);obtain rfl:w.heap.size+1=g:=by simpa using V
   have z:=s.out;have h:=(World.ownsRow.stored a.out i (vI 1)).1;have p:(flat jA (List.replicate i 1++List.replicate (k-i) 0)).set i (vI 1)=flat jA (List.replicate (i+1) 1++List.replicate (k-(i+1)) 0):=by
    rw[show(vI 1)=vI ((1:Nat):Int)from rfl,IK];congr 1;rw[List.set_append_right _ _ (by simp),List.length_replicate,Nat.sub_self,show k-i=(k-(i+1))+1 by omega,List.replicate_succ,gG,List.replicate_succ',List.append_assoc];rfl
   rw[p]at h;have HN:=gO h;have E:=gO (aS z (c:=w.heap.size+1) (by omega) i (aB aI 1));have D:=gO (aS m.out (c:=w.heap.size+1) (by omega) i (aB aI 1));have H:=gO (aV n.out ⟨w.heap.size+1,i,aJ⟩ (aB aI 1));clear h p a m n;go_wp2
   go_roundw
   case rel=>exact⟨i+1,by omega,by go_num,HN.out,E.out,D.out,H.out,A.setCell (by simp only;omega) _⟩
   case measure=>simp[intOf];omega
  ·obtain rfl:i=k:=by omega
   rw[Nat.sub_self,List.replicate_zero,List.append_nil]at a;have z:=s.out;have F:=m.out;have U:=n.out;have R:=gO (show jC wr (w.heap.size+1) aJ (aK ⟨w.heap.size+1,0,aJ⟩) 0 i 0 i ⟨f,e,[],List.replicate i 1⟩from⟨rfl,by simp,World.ownsRow_nil _ _ _ _,a.out⟩);clear a s m n;go_wp2
   have C:=R.out.ne (g:=w.heap.size) (.inl (by omega));refine bodyPost_ret (v:=aG #[aC #[aB aI f,aB aI e,aA aJ 0 0,aA (aK ⟨w.heap.size+1,0,aJ⟩) i i],aB aI 0]) (by simp[results,results97,go_sem,F]) rfl ⟨aK ⟨w.heap.size+1,0,aJ⟩,i,rfl,((((R.out.set C _ _).set C _ _).set C _ _).set C _ _).base (by omega),?_⟩;exact Below.setCell (Below.setCell (Below.setCell (Below.setCell A (by simp only;omega) _) (by simp only;omega) _) (by simp only;omega) _) (by simp only;omega) _
theorem aAP:∀a:Nat,a<256->∀o:Nat,o<5->a%2^o=0->bits .xor .i64 (a:Int) (2^o)=((nG a o:Nat):Int):=by decide+kernel
theorem XU {a o:Nat}(ha:a<256)(ho:o<=4)(hm:a%2^o=0):bits .xor .i64 (a:Int) (2^o)=((nG a o:Nat):Int):=aAP a ha o (by omega) hm
theorem Tn (t:Nat)(w:World)(ht:t<3):
 Calls prog 114 (#[aB aI (t:Int)]++#[]) w λev w'=>ev=aN (.bool false)/\Below w.heap.size w w':=by
 show Calls prog 114 #[aB aI (t:Int)] w _;go_enter func114,ntmps114
 go_wp2
 go_ret
 refine⟨bP (gV (by omega)),gX _ _⟩
theorem zY (t:Nat)(w:World)(ht:t<3):
 Calls prog 114 #[aB aI (t:Int)] w λev w'=>ev=aN (.bool false)/\Below w.heap.size w w':=Tn t w ht
theorem qP (a1 a2:Option Addr)(n1 n2 c1 c2:Nat)(z:Zn)(w:World)(hat:IJ w a1 a2 n1 n2 z)(hz:z.ok):
 Calls prog 63 #[aC #[aB aI z.f,aB aI z.e,aA a1 n1 c1,aA a2 n2 c2]] w λev w'=>ev=aN (aB aI 0)/\Below w.heap.size w w':=by
 obtain⟨hZ,L⟩:=hz;obtain⟨z1,N,z3,z4,z5,z6⟩:=hZ;have hlen:z.l.length<=256:=gQ (sQ.length_le L (λb hb=>(L.fit b hb).1.2.2.1)) N;obtain⟨K1,F1,T,Q⟩:=boxes1 w #[aB aI (z.f:Int),aB aI (z.e:Int),aA a1 n1 c1,aA a2 n2 c2] 79;have pX:=hat.below Q;have l1:=hat.l1;have l2:=hat.l2;have hn2:n2=(z.e-z.f)/8:=by rw[<- l2,z5]
 clear hat
 have hcall:∀(w:World),Calls prog 97 #[aB aI z.f,aB aI z.e] w λev w'=>∃a2 c2,ev=aN (aG #[aC #[aB aI z.f,aB aI z.e,aA aJ 0 0,aA a2 n2 c2],aB aI 0])/\Below w.heap.size w w':=λw=>(QF z.f z.e n2 w z1 N z3 z4 hn2).mono λ_ _ ⟨a2,c2,h1,_,h3⟩=>⟨a2,c2,h1,h3⟩
 have hN3:((n2:Int) == ((z.e:Int)-z.f)/8)=true:=by rw[beq_iff_eq];omega
 have hN4:((n2:Int) != ((z.e:Int)-z.f)/8)=false:=by simp only[bne,hN3,Bool.not_true]
 clear hn2;go_enter func63,ntmps63
 go_wp2_with fail
 generalize w.alloc _=w0 at*;refine(hcall _).mono ?_;rintro ev w1 ⟨a3,c3,rfl,hb1⟩;have hb2:=aT w1 (aO #[aB aI (z.f:Int),aB aI (z.e:Int),aA aJ 0 0,aA a3 n2 c3] 79);have Z:=gW hb1 hb2;have Bc:=aQ K1 T Z;have UZ:=pX.below Z;have hbw2:=gW Q Z;have D:w.heap.size<(w1.alloc (aO #[aB aI (z.f:Int),aB aI (z.e:Int),aA aJ 0 0,aA a3 n2 c3] 79)).heap.size:=gI T Z.size;clear K1 F1 hb1 hb2 Z pX hcall;have B:(z.y.any λt=>decide (3<=t))=false:=by
  rw[List.any_eq_false];intro t ht h;have:=z6 t ht;have:=of_decide_eq_true h;omega
 have eg:∀C w,(callFunc 114 C).run prog w= .ok (.enter 114 C) w:=enters_of func114 (by kernel_rfl) rfl;have hyl:z.y.length<=32:=by omega
 go_wp2_with fail
 generalize w1.alloc _=w2 at*;refine(rX _ _ _ z.y _ _ (λt=>decide (3<=t)) _ l2 (by omega) UZ.r2 eg (λW hW t ht=>(Tn t W (z6 t ht)).mono λ_ _ ⟨h1,h2⟩=>⟨h1.trans (bP (gV (by have:=z6 t ht;omega)).symm),h2⟩)).mono ?_;rw[B];rintro ev G ⟨rfl,m⟩;have K1c:=aQ Bc D m;have Va:=UZ.below m;have P:=gW hbw2 m;have A:w.heap.size<G.heap.size:=gI D m.size;clear Bc UZ m B eg;go_wp2
 go_loopw [6,7,37] (λ_ _ E wr=>∃i:Nat,i<=n1/\E=aB aI i/\Below G.heap.size G wr) (λ_ _ E _=>n1-(intOf E).toNat)
 case atStart=>exact⟨0,gU _,rfl,gX _ _⟩
 case round=>
  obtain⟨i,hi,rfl,k⟩:=hrel;by_cases hlt:i<n1
  ·have d:i<z.l.length:=by omega
   obtain⟨bb,off,ha1,hb,hc⟩:=aZ aX (by decide) (Va.r1.below k) d;obtain rfl:=ha1;obtain⟨n,v,I⟩:=bZ hc;have c:=L.fit _ (gL d);have U:=aQ K1c A k;have XV:w.heap.size<wr.heap.size:=gI A k.size;go_wp2_with fail
   have s:=aT wr (aO #[aB aI (z.l[i].a:Int),aB aI (z.l[i].o:Int),aB aI (z.l[i].t:Int)] 82);have K7:=bI wr #[aB aI (z.l[i].a:Int),aB aI (z.l[i].o:Int),aB aI (z.l[i].t:Int)] 82;have hs5:wr.heap.size<(wr.alloc (aO #[aB aI (z.l[i].a:Int),aB aI (z.l[i].o:Int),aB aI (z.l[i].t:Int)] 82)).heap.size:=by simp
   have g:=aQ U XV s;have F:=gW k s;have aI6:=Va.below F;clear hc n v I U;generalize wr.alloc _=r at*;have R:bb<r.heap.size:=gI hb s.size;have hs6:w.heap.size<r.heap.size:=gI XV s.size;have S:=g 0;have X:=g 1;have J:=g 2;have Y:=g 3;have H:=K7 0;have K:=K7 1;have V:=K7 2;simp only[gB,gC,gD]at S X J Y H K V;clear K7 g;by_cases hi0:0<i
   ·have d0:decide (0<(i:Int))=true:=gTg (by omega);have u:i-1<z.l.length:=by omega
    obtain⟨b',O,e',hb',hc'⟩:=aZ aX (by decide) aI6.r1 u;obtain⟨rfl,rfl⟩:bb=b'/\off=O:=by simpa using e'
    obtain⟨n,v,I⟩:=bZ hc';have q:=L.fit _ (gL u);have hsep:=gN.1 L.sep (i-1) i u d (by omega);have yG:=L.nob z.l[i] (gL d) z.l[i-1] (gL u);have hi1:0<=(i:Int)-1:=by omega
    have hi2:(i:Int)-1<(n1:Int):=by omega
    have hi3:((i:Int)-1).toNat=i-1:=by omega
    have hi4:IntKind.i64.wrap ((i:Int)-1)=(i:Int)-1:=IntWalk.i64_in _ (by omega);generalize z.l[i]=x at*;generalize z.l[i-1]=y at*;have d1:decide ((x.a:Int)<(y.fin:Int))=false:=gV (by omega);have d2:decide (x.a<y.fin)=false:=gV (by omega);clear hc';refine bH (by kernel_rfl) (by kernel_rfl) ?_
    repeat (first | go_big_quiet_step ((first | (go_at_call 115;exact Calls.dF (wF z.f z.e _ _ _ _ _ _ x _ c.1 N)) | (go_at_call 114;exact Calls.dF (zY x.t _ c.2)) | (go_at_call 116;exact Calls.dF (mD y _ q.1.1 (by have:=q.1.2.2.1;omega))))) | quiet_step ((first | (go_at_call 115;exact Calls.dF (wF z.f z.e _ _ _ _ _ _ x _ c.1 N)) | (go_at_call 114;exact Calls.dF (zY x.t _ c.2)) | (go_at_call 116;exact Calls.dF (mD y _ q.1.1 (by have:=q.1.2.2.1;omega))))))
    refine wpQuiet_nil ?_;rintro _ ⟨wx,rfl⟩;have j:Below G.heap.size G (ext r wx):=gW F (bD r wx);have M:=bD r wx;have m12:=(M.cell (p:=⟨w.heap.size,2,aJ⟩) hs6).trans J;have m70:=(M.cell (p:=⟨wr.heap.size,0,aJ⟩) hs5).trans H;have m71:=(M.cell (p:=⟨wr.heap.size,1,aJ⟩) hs5).trans K;have n0:=(M.cell (p:=⟨bb,off+(i-1)*3,aJ⟩) R).trans n;have n1':=(M.cell (p:=⟨bb,off+(i-1)*3+1,aJ⟩) R).trans v;clear S X J Y H K V n v I M;go_wp2_with fail
    generalize ext r wx=w6 at*;by_cases ho4:x.o<4
    ·have d3:decide ((x.o:Int)<4)=true:=gTg (by omega);by_cases hoe:y.o=x.o
     ·have d4:((y.o:Int) == (x.o:Int))=true:=by rw[beq_iff_eq];omega
      have hsh:=wE c.1.1;have d5:((y.a:Int) == bits .xor .i64 (x.a:Int) (2^x.o))=false:=by
       rw[XU (by have:=c.1.2.2.1;omega) c.1.1 c.1.2.2.2,beq_eq_false_iff_ne];intro e2;exact yG hoe.symm ho4 (by omega)
      go_quiet (fail)
      go_wp2
      go_roundw
      case rel=>exact⟨i+1,by omega,by go_num,below_drewN j _⟩
      case measure=>simp[intOf];omega
     ·have d4:((y.o:Int) == (x.o:Int))=false:=by rw[beq_eq_false_iff_ne];omega
      go_quiet (fail)
      go_wp2
      go_roundw
      case rel=>exact⟨i+1,by omega,by go_num,below_drewN j _⟩
      case measure=>simp[intOf];omega
    ·have d3:decide ((x.o:Int)<4)=false:=gV (by omega)
     go_quiet (fail)
     go_wp2
     go_roundw
     case rel=>exact⟨i+1,by omega,by go_num,below_drewN j _⟩
     case measure=>simp[intOf];omega
   ·have d0:decide (0<(i:Int))=false:=gV (by omega);generalize z.l[i]=x at*;refine bH (by kernel_rfl) (by kernel_rfl) ?_
    repeat (first | go_big_quiet_step ((first | (go_at_call 115;exact Calls.dF (wF z.f z.e _ _ _ _ _ _ x _ c.1 N)) | (go_at_call 114;exact Calls.dF (zY x.t _ c.2)))) | quiet_step ((first | (go_at_call 115;exact Calls.dF (wF z.f z.e _ _ _ _ _ _ x _ c.1 N)) | (go_at_call 114;exact Calls.dF (zY x.t _ c.2)))))
    refine wpQuiet_nil ?_;rintro _ ⟨wx,rfl⟩;have j:Below G.heap.size G (ext r wx):=gW F (bD r wx);go_wp2_with fail
    generalize ext r wx=w6 at*
    go_quiet (fail)
    go_wp2
    go_roundw
    case rel=>exact⟨i+1,by omega,by go_num,below_drewN j _⟩
    case measure=>simp[intOf];omega
  ·obtain rfl:i=n1:=by omega
   go_wp2
   go_ret
   exact⟨rfl,gW P k⟩
theorem zZ {b1 b2:Nat}{e1 e2:TypeId}{s1 s2:Nat}{v1 v2:Value}{n1 n2:Nat}{xs ys:List Value}(h1:w.ownsRow b1 e1 s1 v1 n1 xs)(h2:w.ownsRow b2 e2 s2 v2 n2 ys)(he:e1≠e2)(k:Nat)(hk:v1.ownBlock=aK k):v2.ownBlock≠aK k:=by
 intro a;rcases h1.2 with ⟨d,_⟩ | ⟨g,i,h,d,_,j,_⟩
 ·rw[d]at hk;cases hk
 ·rcases h2.2 with ⟨c,_⟩ | ⟨l,f,e,c,_,b,_⟩
  ·rw[c]at a;cases a
  ·rw[d]at hk;rw[c]at a;simp only[gTh,Option.some.injEq]at hk a;subst hk;subst a;rw[j]at b;simp only[Option.some.injEq,Obj.cells.injEq]at b;exact he b.2.1
theorem bV (h:∀o,w.cell? ⟨b,o,aJ⟩=vs[o]?)(hlt:b<w.heap.size)(hg:w.grownBy w' row)(hne:aK b≠row)(o:Nat):w'.cell? ⟨b,o,aJ⟩=vs[o]? :=by
 rw[World.cell?_of_block (hg.block b hlt hne)];exact h o
theorem bY (h:∀o,w.frozen? ⟨b,o,aJ⟩=false)(hlt:b<w.heap.size)(hg:w.grownBy w' row)(hne:aK b≠row)(o:Nat):w'.frozen? ⟨b,o,aJ⟩=false:=by
 rw[World.frozen?_of_block (hg.block b hlt hne)];exact h o
structure EP (w W:World)(B:Nat)(a1 a2:Option Addr)(n1 n2 c1 c2:Nat)(z:Zn)(a o t:Nat):Prop where
 k3:∀i,W.cell? ⟨w.heap.size,i,aJ⟩=(#[aB aI z.f,aB aI z.e,aA a1 n1 c1,aA a2 n2 c2]:Array Value)[i]?
 f3:∀i,W.frozen? ⟨w.heap.size,i,aJ⟩=false
 k6:∀i,W.cell? ⟨w.heap.size+1,i,aJ⟩=(#[aB aI 0,aB aI 0,aA aJ 0 0,aA aJ 0 0]:Array Value)[i]?
 f6:∀i,W.frozen? ⟨w.heap.size+1,i,aJ⟩=false
 k9:∀i,W.cell? ⟨B,i,aJ⟩=(#[aB aI a,aB aI o,aB aI t]:Array Value)[i]?
 f9:∀i,W.frozen? ⟨B,i,aJ⟩=false
 own:jC W (B+1) a1 a2 n1 n2 c1 c2 z
 lo:w.heap.size+2<=B
 hi:B<W.heap.size
 bw:Below w.heap.size w W
section
variable {w W W':World}{B:Nat}{a1 a2:Option Addr}{n1 n2 c1 c2:Nat}{z:Zn}{a o t:Nat}
theorem EP.below (h:EP w W B a1 a2 n1 n2 c1 c2 z a o t)(hb:Below W.heap.size W W'):EP w W' B a1 a2 n1 n2 c1 c2 z a o t:=by
 have c:=h.lo;have b:=h.hi;exact⟨aQ h.k3 (by omega) hb,aU h.f3 (by omega) hb,aQ h.k6 (by omega) hb,aU h.f6 (by omega) hb,aQ h.k9 b hb,aU h.f9 b hb,h.own.below hb,c,gI b hb.size,gW h.bw hb⟩
theorem EP.put9 (h:EP w W B a1 a2 n1 n2 c1 c2 z a o t)(i:Nat)(u:Int){a' o' t':Nat}(he:(#[aB aI a,aB aI o,aB aI t]:Array Value).setIfInBounds i (aB aI u)=#[aB aI a',aB aI o',aB aI t']):EP w (W.setCell ⟨B,i,aJ⟩ (aB aI u)) B a1 a2 n1 n2 c1 c2 z a' o' t':=by
 have b:=h.lo;have c:=h.hi;exact⟨aS h.k3 (by omega) _ _,aV h.f3 _ _,aS h.k6 (by omega) _ _,aV h.f6 _ _,he▸aW h.k9 i _,aV h.f9 _ _,h.own.set (h.own.ne (.inl (by omega))) _ _,b,by simpa using c,h.bw.setCell (by simp only;omega) _⟩
structure aC9 (w W:World)(B:Nat)(a1 a2:Option Addr)(n1 n2 c1 c2:Nat)(z:Zn)(a o t:Nat)(a1':Option Addr)(n1' c1':Nat)(l':List Bk):Prop where
 k3:∀i,W.cell? ⟨w.heap.size,i,aJ⟩=(#[aB aI z.f,aB aI z.e,aA a1 n1 c1,aA a2 n2 c2]:Array Value)[i]?
 f3:∀i,W.frozen? ⟨w.heap.size,i,aJ⟩=false
 k6:∀i,W.cell? ⟨w.heap.size+1,i,aJ⟩=(#[aB aI 0,aB aI 0,aA aJ 0 0,aA aJ 0 0]:Array Value)[i]?
 f6:∀i,W.frozen? ⟨w.heap.size+1,i,aJ⟩=false
 k9:∀i,W.cell? ⟨B,i,aJ⟩=(#[aB aI a,aB aI o,aB aI t]:Array Value)[i]?
 f9:∀i,W.frozen? ⟨B,i,aJ⟩=false
 own:jC W (B+1) a1' a2 n1' n2 c1' c2 {z with l:=l'}
 lo:w.heap.size+2<=B
 hi:B<W.heap.size
 bw:Below w.heap.size w W
theorem EP.grown (h:EP w W B a1 a2 n1 n2 c1 c2 z a o t)(hg:W.grownBy W' (gTh (aA a1 n1 c1)))(hl:l'.length=n1')(ho:W'.ownsRow (B+1) 82 3 (aA a1' n1' c1') n1' (flat bC l')):aC9 w W' B a1 a2 n1 n2 c1 c2 z a o t a1' n1' c1' l':=by
 have j:=h.lo;have c:=h.hi;have i:=(h.own.ne (g:=w.heap.size) (.inl (by omega))).1;have f:=(h.own.ne (g:=w.heap.size+1) (.inl (by omega))).1;have d:=(h.own.ne (g:=B) (.inl (by omega))).1;refine⟨bV h.k3 (by omega) hg (λe=>i e.symm),bY h.f3 (by omega) hg (λe=>i e.symm),bV h.k6 (by omega) hg (λe=>f e.symm),bY h.f6 (by omega) hg (λe=>f e.symm),bV h.k9 c hg (λe=>d e.symm),bY h.f9 c hg (λe=>d e.symm),⟨hl,h.own.l2,ho,kE h.own.o2 hg (λk b e=>zZ h.own.o2 h.own.o1 (by decide) k b e)⟩,j,gI c hg.size,?_⟩;exact h.bw.grown hg h.bw.size (λk b=>by have:=(h.own.o1.lt k b).1;omega)
theorem aC9.put3 (h:aC9 w W B a1 a2 n1 n2 c1 c2 z a o t a1' n1' c1' l'):EP w (W.setCell ⟨w.heap.size,2,aJ⟩ (aA a1' n1' c1')) B a1' a2 n1' n2 c1' c2 {z with l:=l'} a o t:=by
 have b:=h.lo;have c:=h.hi;exact⟨aW h.k3 2 _,aV h.f3 _ _,aS h.k6 (by omega) _ _,aV h.f6 _ _,aS h.k9 (by omega) _ _,aV h.f9 _ _,h.own.set (h.own.ne (.inl (by omega))) _ _,b,by simpa using c,h.bw.setCell (gT _) _⟩
end
end Go.Proofs.YtjaogfhcnmjkiaaGreatDoor
