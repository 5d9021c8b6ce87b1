/- joined. -/
import Derived.Test.YtjaogfhcnmjkiaaGreatDoorAB4
import Derived.Test.YtjaogfhcnmjkiaaGreatDoorAB5
set_option linter.all false
set_option maxRecDepth 100000
set_option maxHeartbeats 0
namespace Go.Proofs.YtjaogfhcnmjkiaaGreatDoor
open Go.RowKit
open Go.Value renaming slice->aA,int->aB,agg->aC,string->aF,tuple->aG,pointer->aH,ownBlock->gTh
open Go.IntKind renaming i64->aI
open Option renaming none->aJ,some->aK
open Go.Ending renaming returned->aN
open Go.Obj renaming cells->aO
open Go.Proofs.Tryz
variable {W W' w:World}{a a1 a1' a2:Option Addr}{c1 c1' c2 n1 n1' n2 o order t:Nat}{l l':List Bk}{z:Zn}
structure GInv (w W:World)(a1 a2:Option Addr)(n1 n2 c1 c2:Nat)(z:Zn):Prop where
 k3:∀i,W.cell? ⟨w.heap.size,i,aJ⟩=(#[aB aI z.f,aB aI z.e,aA a1 n1 c1,aA a2 n2 c2]:Array Value)[i]?
 f3:∀i,W.frozen? ⟨w.heap.size,i,aJ⟩=false
 k6:∀i,W.cell? ⟨w.heap.size+1,i,aJ⟩=(#[aB aI 0,aB aI 0,aA aJ 0 0,aA aJ 0 0]:Array Value)[i]?
 f6:∀i,W.frozen? ⟨w.heap.size+1,i,aJ⟩=false
 own:jC W (w.heap.size+2) a1 a2 n1 n2 c1 c2 z
 hi:w.heap.size+2<=W.heap.size
 bw:Below w.heap.size w W
theorem GInv.below (h:GInv w W a1 a2 n1 n2 c1 c2 z)(hb:Below W.heap.size W W'):GInv w W' a1 a2 n1 n2 c1 c2 z:=by
 have a:=h.hi;exact⟨aQ h.k3 (by omega) hb,aU h.f3 (by omega) hb,aQ h.k6 (by omega) hb,aU h.f6 (by omega) hb,h.own.below hb,gQ a hb.size,gW h.bw hb⟩
theorem GInv.put (h:GInv w W a1 a2 n1 n2 c1 c2 z){b1 b2:Option Addr}{m1 m2 d1 d2:Nat}{y:Zn}(ho:jC W (w.heap.size+2) b1 b2 m1 m2 d1 d2 y):
 GInv w ((((W.setCell ⟨w.heap.size,0,aJ⟩ (aB aI y.f)).setCell ⟨w.heap.size,1,aJ⟩ (aB aI y.e)).setCell ⟨w.heap.size,2,aJ⟩ (aA b1 m1 d1)).setCell ⟨w.heap.size,3,aJ⟩ (aA b2 m2 d2)) b1 b2 m1 m2 d1 d2 y:=by
 have b:=h.hi;have a:=ho.ne (g:=w.heap.size) (.inl (by omega));exact⟨aW (aW (aW (aW h.k3 0 _) 1 _) 2 _) 3 _,aV (aV (aV (aV h.f3 _ _) _ _) _ _) _ _,aS (aS (aS (aS h.k6 (by omega) _ _) (by omega) _ _) (by omega) _ _) (by omega) _ _,aV (aV (aV (aV h.f6 _ _) _ _) _ _) _ _,((((ho.set a _ _).set a _ _).set a _ _).set a _ _),by simpa using b,Below.setCell (Below.setCell (Below.setCell (Below.setCell h.bw (by simp only;omega) _) (by simp only;omega) _) (by simp only;omega) _) (by simp only;omega) _⟩
theorem QI {f e a:Nat}(he:e%16=0)(ht:t<3)(hl:sQ f e l)(hb:dM f e a (o+1))(hd:∀x∈l,apartB a (o+1) x):
 sQ f e (dG l ⟨a+2^o,o,t⟩)/\dM f e a o/\∀x∈dG l ⟨a+2^o,o,t⟩,apartB a o x:=by
 obtain⟨i,h,j⟩:=Bo he hb;have k:=dN o;have c:2^(o+1)=2^o+2^o:=by rw[Nat.pow_succ];omega
 refine⟨hl.put h ht (λx b=> ?_) (λ_ x b d=> ?_),i,λx b=> ?_⟩
 ·have:=hd x b;unfold apartB Bk.fin at*;rw[c]at this;simp only;omega
 ·simp only at d ⊢;rw[j];have:=hd x b;have g:=dN x.o;unfold apartB Bk.fin at this;omega
 ·unfold dG at b;rw[gZ,gY]at b;rcases b with b | rfl | b
  ·have:=hd x (List.mem_of_mem_take b);unfold apartB at*;omega
  ·unfold apartB;simp only;omega
  ·have:=hd x (List.mem_of_mem_drop b);unfold apartB at*;omega
theorem NI {a:Nat}{x:Bk}(h:apartB a o x):x.a≠a:=by
 unfold apartB Bk.fin at h;have:=dN o;have:=dN x.o;omega
def Ad:Option Nat->Int
 | none=> -1
 | some i=>i
theorem BK (l:List Bk)(o t:Nat):dV (λb=>decide (b.o=o/\b.t=t)) l=Ad (pW l o t):=by
 unfold dV pW Ad;cases l.findIdx? λb=>decide (b.o=o/\b.t=t) <;> rfl
structure vP (w:World):Prop where
 sz:1<w.heap.size
 c:∀i v,(#[aB aI 2,aB aI 1,aB aI 2,aB aI 0,aB aI 0,aB aI 1]:Array Value)[i]? =aK v->w.cell? ⟨1,i,aJ⟩=aK v
theorem vP.mono {w':World}(h:vP w){B:Nat}(hb:Below B w w')(hB:w.heap.size<=B):vP w':=
 ⟨gI h.sz hb.size,λi v a=>((hb.mono hB).cell (p:=⟨1,i,aJ⟩) h.sz).trans (h.c i v a)⟩
theorem vP.at (h:vP w)(ht:t<3):w.cell? ⟨1,t*2,aJ⟩=aK (aB aI (oth1 t:Int))/\w.cell? ⟨1,t*2+1,aJ⟩=aK (aB aI (oth2 t:Int)):=by
 obtain rfl | rfl | rfl:t=0∨t=1∨t=2:=by omega
 ·exact⟨h.c 0 _ rfl,h.c 1 _ rfl⟩
 ·exact⟨h.c 2 _ rfl,h.c 3 _ rfl⟩
 ·exact⟨h.c 4 _ rfl,h.c 5 _ rfl⟩
theorem NJ {B base n c:Nat}{x y u:Value}(hK:∀i,w.cell? ⟨B,i,aJ⟩=(#[x,y,u]:Array Value)[i]?)(hown:w.ownsRow base 82 3 (aA a n c) n (flat bC l))(hl:0<l.length)(hx:∀b∈l,x≠ aB aI (b.a:Int)):(aA a n c).ownBlock≠aK B:=by
 intro e;have h:=flat_length aX l;obtain⟨g,f,_,_,d,_⟩:=oI hown 0 (by omega);subst f;obtain rfl:g=B:=by simpa[gTh]using e
 cases l with
 | nil=>simp at hl
 | cons b l=>
  have k:=hK 0;rw[k]at d;have j:x=(flat bC (b::l))[0]:=by simpa using d
  exact hx b (by simp) j
theorem GInv.Ya {y:Zn}(h:GInv w W a1 a2 n1 n2 c1 c2 z)(ho:jC W' (w.heap.size+2) a1 a2 n1 n2 c1 c2 y)(hb:Below (w.heap.size+2) W W')(hf:y.f=z.f)(he:y.e=z.e):GInv w W' a1 a2 n1 n2 c1 c2 y:=by
 have a:=h.hi;refine⟨λi=> ?_,λi=>(hb.frozen (p:=⟨w.heap.size,i,aJ⟩) (by show w.heap.size<_;omega)).trans (h.f3 i),λi=>(hb.cell (p:=⟨w.heap.size+1,i,aJ⟩) (by show w.heap.size+1<_;omega)).trans (h.k6 i),λi=>(hb.frozen (p:=⟨w.heap.size+1,i,aJ⟩) (by show w.heap.size+1<_;omega)).trans (h.f6 i),ho,gQ a hb.size,h.bw.trans (hb.mono (by omega))⟩;rw[hf,he];exact(hb.cell (p:=⟨w.heap.size,i,aJ⟩) (by show w.heap.size<_;omega)).trans (h.k3 i)
structure yI (w W:World)(B:Nat)(a1 a2:Option Addr)(n1 n2 c1 c2:Nat)(z:Zn)(a o t:Nat):Prop where
 g:GInv w W a1 a2 n1 n2 c1 c2 z
 k15:∀i,W.cell? ⟨B,i,aJ⟩=(#[aB aI a,aB aI o,aB aI t]:Array Value)[i]?
 f15:∀i,W.frozen? ⟨B,i,aJ⟩=false
 lo:w.heap.size+2<=B
 hB:B<W.heap.size
 nb:(aA a1 n1 c1).ownBlock≠aK B/\(aA a2 n2 c2).ownBlock≠aK B
section
variable {w W W':World}{B:Nat}{a1 a2:Option Addr}{n1 n2 c1 c2:Nat}{z:Zn}{a o t:Nat}
theorem yI.below (h:yI w W B a1 a2 n1 n2 c1 c2 z a o t)(hb:Below W.heap.size W W'):yI w W' B a1 a2 n1 n2 c1 c2 z a o t:=
 ⟨h.g.below hb,aQ h.k15 h.hB hb,aU h.f15 h.hB hb,h.lo,gI h.hB hb.size,h.nb⟩
theorem yI.put15 (h:yI w W B a1 a2 n1 n2 c1 c2 z a o t)(i:Nat)(u:Int){a' o' t':Nat}(he:(#[aB aI a,aB aI o,aB aI t]:Array Value).setIfInBounds i (aB aI u)=#[aB aI a',aB aI o',aB aI t']):yI w (W.setCell ⟨B,i,aJ⟩ (aB aI u)) B a1 a2 n1 n2 c1 c2 z a' o' t':=by
 have b:=h.lo;have c:=h.hB;exact⟨⟨aS h.g.k3 (by omega) _ _,aV h.g.f3 _ _,aS h.g.k6 (by omega) _ _,aV h.g.f6 _ _,h.g.own.set h.nb _ _,by simpa using h.g.hi,h.g.bw.setCell (by simp only;omega) _⟩,he▸aW h.k15 i _,aV h.f15 _ _,b,by simpa using c,h.nb⟩
theorem yI.QJ (h:yI w W B a1 a2 n1 n2 c1 c2 z a o t){G:Nat}(h1:w.heap.size+2<=G)(h2:G≠B)(h3:(aA a1 n1 c1).ownBlock≠aK G/\(aA a2 n2 c2).ownBlock≠aK G)(i:Nat)(u:Value):yI w (W.setCell ⟨G,i,aJ⟩ u) B a1 a2 n1 n2 c1 c2 z a o t:=
 ⟨⟨aS h.g.k3 (by omega) _ _,aV h.g.f3 _ _,aS h.g.k6 (by omega) _ _,aV h.g.f6 _ _,h.g.own.set h3 _ _,by simpa using h.g.hi,h.g.bw.setCell (by simp only;omega) _⟩,aS h.k15 (Ne.symm h2) _ _,aV h.f15 _ _,h.lo,by simpa using h.hB,h.nb⟩
structure aDl (w W:World)(B:Nat)(a1 a2:Option Addr)(n1 n2 c1 c2:Nat)(z:Zn)(a o t:Nat)(a1':Option Addr)(n1' c1':Nat)(l':List Bk):Prop where
 k3:∀i,W.cell? ⟨w.heap.size,i,aJ⟩=(#[aB aI z.f,aB aI z.e,aA a1 n1 c1,aA a2 n2 c2]:Array Value)[i]?
 f3:∀i,W.frozen? ⟨w.heap.size,i,aJ⟩=false
 k6:∀i,W.cell? ⟨w.heap.size+1,i,aJ⟩=(#[aB aI 0,aB aI 0,aA aJ 0 0,aA aJ 0 0]:Array Value)[i]?
 f6:∀i,W.frozen? ⟨w.heap.size+1,i,aJ⟩=false
 own:jC W (w.heap.size+2) a1' a2 n1' n2 c1' c2 {z with l:=l'}
 hi:w.heap.size+2<=W.heap.size
 bw:Below w.heap.size w W
 k15:∀i,W.cell? ⟨B,i,aJ⟩=(#[aB aI a,aB aI o,aB aI t]:Array Value)[i]?
 f15:∀i,W.frozen? ⟨B,i,aJ⟩=false
 lo:w.heap.size+2<=B
 hB:B<W.heap.size
 nb:(aA a1' n1' c1').ownBlock≠aK B/\(aA a2 n2 c2).ownBlock≠aK B
theorem yI.grown (h:yI w W B a1 a2 n1 n2 c1 c2 z a o t)(hg:W.grownBy W' (gTh (aA a1 n1 c1)))(hl:l'.length=n1')(ho:W'.ownsRow (w.heap.size+2) 82 3 (aA a1' n1' c1') n1' (flat bC l'))(hn:a1'=a1∨(0<l'.length/\∀b∈l',b.a≠a)):aDl w W' B a1 a2 n1 n2 c1 c2 z a o t a1' n1' c1' l':=by
 have p:=h.lo;have f:=h.hB;have q:=h.g.hi;have n:=(h.g.own.ne (g:=w.heap.size) (.inl (by omega))).1;have m:=(h.g.own.ne (g:=w.heap.size+1) (.inl (by omega))).1;have c:∀i,W'.cell? ⟨B,i,aJ⟩=(#[aB aI a,aB aI o,aB aI t]:Array Value)[i]? :=bV h.k15 f hg (λe=>h.nb.1 e.symm);refine⟨bV h.g.k3 (by omega) hg (λe=>n e.symm),bY h.g.f3 (by omega) hg (λe=>n e.symm),bV h.g.k6 (by omega) hg (λe=>m e.symm),bY h.g.f6 (by omega) hg (λe=>m e.symm),⟨hl,h.g.own.l2,ho,kE h.g.own.o2 hg (λk d e=>zZ h.g.own.o2 h.g.own.o1 (by decide) k d e)⟩,gQ q hg.size,?_,c,bY h.f15 f hg (λe=>h.nb.1 e.symm),p,gI f hg.size,?_,h.nb.2⟩
 ·exact h.g.bw.grown hg h.g.bw.size (λk d=>by have:=(h.g.own.o1.lt k d).1;omega)
 ·rcases hn with rfl | ⟨j,l⟩
  ·have:=h.nb.1;cases a1' with
   | none=>simp[gTh]
   | some x=>simpa[gTh]using this
  ·exact NJ c ho j (λb hb e=>l b hb (by simp only[Value.int.injEq]at e;omega))
theorem aDl.put3 (h:aDl w W B a1 a2 n1 n2 c1 c2 z a o t a1' n1' c1' l'):yI w (W.setCell ⟨w.heap.size,2,aJ⟩ (aA a1' n1' c1')) B a1' a2 n1' n2 c1' c2 {z with l:=l'} a o t:=by
 have b:=h.lo;have c:=h.hB;have d:=h.hi;exact⟨⟨aW h.k3 2 _,aV h.f3 _ _,aS h.k6 (by omega) _ _,aV h.f6 _ _,h.own.set (h.own.ne (.inl (by omega))) _ _,by simpa using d,h.bw.setCell (gT _) _⟩,aS h.k15 (by omega) _ _,aV h.f15 _ _,b,by simpa using c,h.nb⟩
end
theorem idx2 (x y:Value)(W:World)(hx:x.oneCell'=true)(hy:y.oneCell'=true):(Sem.run prog (Instr.index 239 (aC #[x,y]) (aB aI 0)) W= .ok x W)/\(Sem.run prog (Instr.index 239 (aC #[x,y]) (aB aI 1)) W= .ok y W):=by
 obtain⟨d,c,e,a,b⟩:=info_parts mO;constructor <;> simp[Instr.index,run_underlying underlying239,sizeOf,typeInfo,c,a,part,go_sem]
def uQ (z:Zn)(order t:Nat)(r:Option Nat)(y:Zn)(rest:Option Nat):Prop:=
 (r=aJ/\y=z/\l7 z.l t (5-order) order=aJ/\fB z.l t order 5=rest)∨
 (∃i b,r=aK i/\z.take order t=y.cut i order/\y.ok/\y.f=z.f/\y.e=z.e/\y.l[i]? =aK b/\order<=b.o/\y.y.length=z.y.length/\y.l.length=z.l.length)
theorem Ve (hz:z.ok){i:Nat}(h:l7 z.l t (5-order) order=aK i)(rest:Option Nat):uQ z order t (aK i) z rest:=by
 obtain⟨b,a,c,_⟩:=rD h;exact .inr ⟨i,b,rfl,by unfold Zn.take;rw[h],hz,rfl,rfl,a,c,rfl,rfl⟩
theorem Du (hz:z.ok){i:Nat}(ht:t<3)(h:l7 z.l t (5-order) order=aJ)(hd:fB z.l t order 5=aK i)(hi:i<z.l.length)(rest:Option Nat):uQ z order t (aK i) (z.steal z.l[i] t) rest:=by
 obtain⟨b,c,o⟩:=oV hd;have hb:z.l[i]=b:=by
  have:=gJ hi;rw[c]at this;exact(gP this).symm
 obtain⟨k,n,d,e,m⟩:=Zn.qK hz (b:=z.l[i]) ht;obtain⟨y,g,f,j⟩:=m i b c;have a:(z.steal z.l[i] t).y.length=z.y.length/\(z.steal z.l[i] t).l.length=z.l.length:=by
  unfold Zn.steal;split
  ·exact⟨rfl,rfl⟩
  ·exact⟨rE _ _ _ _ _,by simp⟩
 refine .inr ⟨i,y,rfl,?_,k,d,e,g,by omega,a.1,a.2⟩;unfold Zn.take;rw[h,hd];simp only[c,hb]
theorem aAT (a1 a2:Option Addr)(n1 n2 c1 c2:Nat)(z:Zn)(order t:Nat)(w:World)(hat:IJ w a1 a2 n1 n2 z)(hz:z.ok)(hor:order<=4)(ht:t<3)(hoth:vP w):
 Calls prog 156 #[aC #[aB aI z.f,aB aI z.e,aA a1 n1 c1,aA a2 n2 c2],aB aI order,aB aI t] w λev w'=>
  (z.take order t=aJ/\ev=aN (aG #[aC #[aB aI 0,aB aI 0,aA aJ 0 0,aA aJ 0 0],aB aI 0,aB aI 6])/\Below w.heap.size w w')∨
  (∃z' at_ a1' a2' n1' c1' c2',z.take order t=aK (z',at_)/\ev=aN (aG #[aC #[aB aI z.f,aB aI z.e,aA a1' n1' c1',aA a2' n2 c2'],aB aI (at_:Nat),aB aI 0])/\jC w' w.heap.size a1' a2' n1' n2 c1' c2' z'/\Below w.heap.size w w'):=by
 have hlen:z.l.length<=256:=gQ (sQ.length_le hz.2 (λb hb=>(hz.2.fit b hb).1.2.2.1)) hz.1.e2;have hee:=hz.1.e2;have l1:=hat.l1;have l2:=hat.l2;have hy32:z.y.length<=32:=by rw[hz.1.len];omega
 obtain⟨K3,K6,F3,F6,hsz,hbw⟩:=boxes2 w #[aB aI (z.f:Int),aB aI (z.e:Int),aA a1 n1 c1,aA a2 n2 c2] 79 #[aB aI 0,aB aI 0,aA aJ 0 0,aA aJ 0 0] 79;have pX:=hat.below hbw;have d1:decide ((4:Int)<order)=false:=gV (by omega);have d2:decide ((3:Int)<=t)=false:=gV (by omega);have d3:decide (4<order)=false:=gV (by omega);have d4:decide (3<=t)=false:=gV (by omega);have HOT:=gO hoth;clear hat hoth;go_enter func156,ntmps156
 go_wp2_with fail
 generalize (w.alloc _).alloc _=w0 at*;refine(qP _ _ _ _ _ _ z _ pX hz).mono ?_;rintro ev w1 ⟨rfl,T⟩;have K3b:=aQ K3 (by omega) T;have K6b:=aQ K6 (by omega) T;have F3b:=aU F3 (by omega) T;have F6b:=aU F6 (by omega) T;have GX:=pX.below T;have yV:=gW hbw T;have hB:w.heap.size+2<=w1.heap.size:=by have:=T.size;omega
 clear K3 K6 F3 F6 T pX hbw hsz;go_wp2_with fail
 refine(Eh _ _ _ _ _ _ z.f z.e z _ GX (by omega) (by omega)).mono ?_;rintro ev w5 ⟨a3,a4,c3,c4,rfl,hown,hb5⟩;have K3e:=aQ K3b (by omega) hb5;have K6e:=aQ K6b (by omega) hb5;have F3e:=aU F3b (by omega) hb5;have F6e:=aU F6b (by omega) hb5;have yH:=gW yV hb5;have Q:=(hown.ne (g:=w.heap.size) (.inl (by omega)))
 have I1:GInv w ((((w5.setCell ⟨w.heap.size,0,aJ⟩ (aB aI z.f)).setCell ⟨w.heap.size,1,aJ⟩ (aB aI z.e)).setCell ⟨w.heap.size,2,aJ⟩ (aA a3 n1 c3)).setCell ⟨w.heap.size,3,aJ⟩ (aA a4 n2 c4)) a3 a4 n1 n2 c3 c4 z:=by
  have h5:=hb5.size;exact⟨aW (aW (aW (aW K3e 0 _) 1 _) 2 _) 3 _,aV (aV (aV (aV F3e _ _) _ _) _ _) _ _,aS (aS (aS (aS K6e (by omega) _ _) (by omega) _ _) (by omega) _ _) (by omega) _ _,aV (aV (aV (aV F6e _ _) _ _) _ _) _ _,(((((hown.base hB).set Q _ _).set Q _ _).set Q _ _).set Q _ _),by simp only[World.size_setCell];omega,Below.setCell (Below.setCell (Below.setCell (Below.setCell yH (by simp only;omega) _) (by simp only;omega) _) (by simp only;omega) _) (by simp only;omega) _⟩
 have HI:=gO I1;clear I1 K6e F6e hown yH K3b K6b F3b F6b GX yV hb5 Q d1 d2 d3 d4;go_wp2
 clear K3e F3e;generalize (((w5.setCell _ _).setCell _ _).setCell _ _).setCell _ _=w6 at*;go_loopw [10,11] (λs10 s11 wr=>∃(r:Option Nat) (o:Nat),s10=aB aI (Ad r)/\s11=aB aI (o:Int)/\order<=o/\o<=5/\Hid ((r=aJ/\l7 z.l t (5-order) order=l7 z.l t (5-o) o)∨∃i,r=aK i/\l7 z.l t (5-order) order=aK i)/\Hid (GInv w wr a3 a4 n1 n2 c3 c4 z)) (λ_ s11 _=>6-(intOf s11).toNat)
 case atStart=>exact⟨aJ,order,rfl,rfl,gT _,by omega,.inl ⟨rfl,rfl⟩,HI⟩
 case round=>
  obtain⟨r,o,rfl,rfl,ho1,ho2,HR,I⟩:=hrel;clear HI;cases r
  case' none=>
   by_cases ho4:o<=4
   case pos=>
    have d1:decide ((o:Int)<=4)=true:=gTg (by omega);have d2:decide (o<=4)=true:=gTg (by omega);have E:=I.out.k3 0;have C:=I.out.k3 1;have c:=I.out.k3 2;have D:=I.out.k3 3;have hHi:=I.out.hi;simp only[gB,gC,gD]at E C c D;simp only[Ad];go_wp2_with fail
    refine(BI _ _ _ _ _ _ z.f z.e z o t _ I.out.own.at (by omega)).mono ?_;rintro ev w7 ⟨rfl,hb7⟩;have d:=gO (I.out.below hb7);rw[BK];have hfu:Hid (l7 z.l t (5-o) o=match pW z.l o t with | some i=>aK i | none=>l7 z.l t (5-(o+1)) (o+1)):=by
     unfold Hid;rw[show 5-o=(5-(o+1))+1 by omega];rfl
    clear hb7 I E C c D;go_wp2
    go_roundw
    case rel=>
     refine⟨pW z.l o t,o+1,rfl,by go_num,by omega,by omega,?_,d⟩;rcases HR.out with ⟨_,h⟩ | ⟨i,h,_⟩
     ·rw[hfu.out]at h;cases hc:pW z.l o t with
      | none=>rw[hc]at h;exact .inl ⟨rfl,h⟩
      | some i=>rw[hc]at h;exact .inr ⟨i,rfl,h⟩
     ·cases h
    case measure=>simp[intOf];omega
   case' neg=>
    have d1:decide ((o:Int)<=4)=false:=gV (by omega);have d2:decide (o<=4)=false:=gV (by omega);have HS:Hid (uQ z order t aJ z (fB z.l t order 5)):=by
     refine .inl ⟨rfl,rfl,?_,rfl⟩;rcases HR.out with ⟨_,h⟩ | ⟨i,h,_⟩
     ·rw[h,show 5-o=0 by omega];rfl
     ·cases h
    simp only[Ad];clear HR;have HK0:=I;clear I;go_wp2
    generalize wr=wq at*;go_loopw [10,12] (λs10 s12 wr=>∃(r:Option Nat) (y:Zn) (n:Nat),s10=aB aI (Ad r)/\s12=aB aI ((n:Int)-1)/\n<=5/\Hid (uQ z order t r y (fB z.l t order n))/\Hid (GInv w wr a3 a4 n1 n2 c3 c4 y)) (λ_ s12 _=>(intOf s12+1).toNat)
    case atStart=>exact⟨aJ,z,5,rfl,rfl,gT _,HS,HK0⟩
    case' round=>
     clear HS HK0;obtain⟨r,y,n,rfl,rfl,hn5,HS,I⟩:=hrel;cases r
     case none=>
      obtain rfl:z=y:=by
       rcases HS.out with ⟨_,h,_⟩ | ⟨i,b,h,_⟩
       ·exact h.symm
       ·cases h
      by_cases hno:order+1<=n
      ·obtain⟨m,rfl⟩:∃m,n=m+1:=⟨n-1,by omega⟩
       have e1:((m+1:Nat):Int)-1=(m:Int):=by omega
       have d1:decide ((order:Int)<=m)=true:=gTg (by omega);have d2:decide (order<=m)=true:=gTg (by omega);have hOt:=(HOT.out.mono I.out.bw (gT _)).at ht;obtain⟨o1,o2⟩:=hOt;have hsz0:=(HOT.out.mono I.out.bw (gT _)).sz;have hfd:Hid (fB z.l t order (m+1)=match pW z.l m (oth1 t)with | some i=>aK i | none=>match pW z.l m (oth2 t)with | some i=>aK i | none=>fB z.l t order m):=by
        unfold Hid
        conv=>lhs;unfold fB
        rw[if_neg (by omega)];rfl
       have ht3:(t:Int)<3:=by omega
       rw[e1];simp only[Ad];go_wp2
       clear o1 o2;have hix:=fun(W:World)=>(idx2 (aB aI (oth1 t:Int)) (aB aI (oth2 t:Int)) W rfl rfl).1
       have hiy:=fun(W:World)=>(idx2 (aB aI (oth1 t:Int)) (aB aI (oth2 t:Int)) W rfl rfl).2
       generalize hO1:oth1 t=O1 at*;generalize hO2:oth2 t=O2 at*;generalize wr=wr1 at*;go_loopw [10,66] (λs10 s66 wr=>∃j:Nat,j<=2/\s66=aB aI (j:Int)/\s10=aB aI (-1)/\Hid (GInv w wr a3 a4 n1 n2 c3 c4 z)/\Hid (1<=j->pW z.l m O1=aJ)/\Hid (2<=j->pW z.l m O2=aJ)) (λ_ s66 _=>2-(intOf s66).toNat)
       case atStart=>exact⟨0,by omega,rfl,rfl,I,(λh=>by omega),(λh=>by omega)⟩
       case round=>
        obtain⟨j,hj2,rfl,rfl,Z,HN1,HN2⟩:=hrel;clear I;obtain rfl | rfl | rfl:j=0∨j=1∨j=2:=by omega
        ·have hJ:((0:Nat):Int)<2:=by omega
         -- the inner search, at the index 0, for the type O1
         have E:=Z.out.k3 0;have C:=Z.out.k3 1;have c:=Z.out.k3 2;have D:=Z.out.k3 3;have hHi:=Z.out.hi;simp only[gB,gC,gD]at E C c D;go_wp2_with fail
         refine(BI _ _ _ _ _ _ z.f z.e z m (O1) _ Z.out.own.at (by omega)).mono ?_;rintro ev w7 ⟨rfl,hb7⟩;have d:=gO (Z.out.below hb7);rw[BK];have k70:=d.out.k3 0;have k71:=d.out.k3 1;have k72:=d.out.k3 2;have k73:=d.out.k3 3;have aAU:=d.out.hi;simp only[gB,gC,gD]at k70 k71 k72 k73;clear hb7 Z E C c D;cases N:pW z.l m (O1)with
         | none=>
          have HLO:=gO N;clear N;simp only[Ad];go_wp2
          go_roundw
          case rel=>exact⟨0+1,by omega,by go_num,rfl,d,(λ_=>HLO.out),(λh=>by omega)⟩
          case measure=>simp[intOf]
         | some i=>
          have S:i<z.l.length:=by
           obtain⟨b,hb,_⟩:=sU N;exact(gK.1 hb).1
          have Y:Hid (uQ z order t (aK i) (z.steal z.l[i] t) (fB z.l t order m)):=by
           rcases HS.out with ⟨_,_,hu,hd⟩ | ⟨i',b',hr,_⟩
           ·refine Du hz ht hu (hd.trans ?_) S _;rw[hfd.out];rw[N]
           ·cases hr
          have hfe:=Zn.qK hz (b:=z.l[i]) ht;have HFE:=gO hfe;clear N hfe;simp only[Ad];go_wp2_with fail
          refine(qK (w.heap.size+2) _ _ _ _ _ _ z i t S _ d.out.own hz ht aAU).mono ?_;rintro ev R ⟨rfl,Dv,F⟩;have HK8:=gO (d.out.Ya Dv F HFE.out.2.2.1 HFE.out.2.2.2.1);clear Dv F HFE d k70 k71 k72 k73
          dsimp only
          go_wp2
          go_roundw
          case rel=>exact⟨aK i,_,m,rfl,by go_num,by omega,Y,HK8⟩
          case measure=>simp[intOf]
        ·have hJ:((1:Nat):Int)<2:=by omega
         -- the inner search, at the index 1, for the type O2
         have E:=Z.out.k3 0;have C:=Z.out.k3 1;have c:=Z.out.k3 2;have D:=Z.out.k3 3;have hHi:=Z.out.hi;simp only[gB,gC,gD]at E C c D;go_wp2_with fail
         refine(BI _ _ _ _ _ _ z.f z.e z m (O2) _ Z.out.own.at (by omega)).mono ?_;rintro ev w7 ⟨rfl,hb7⟩;have d:=gO (Z.out.below hb7);rw[BK];have k70:=d.out.k3 0;have k71:=d.out.k3 1;have k72:=d.out.k3 2;have k73:=d.out.k3 3;have aAU:=d.out.hi;simp only[gB,gC,gD]at k70 k71 k72 k73;clear hb7 Z E C c D;cases N:pW z.l m (O2)with
         | none=>
          have HLO:=gO N;clear N;simp only[Ad];go_wp2
          go_roundw
          case rel=>exact⟨1+1,by omega,by go_num,rfl,d,(λ_=>HN1.out (by omega)),(λ_=>HLO.out)⟩
          case measure=>simp[intOf]
         | some i=>
          have S:i<z.l.length:=by
           obtain⟨b,hb,_⟩:=sU N;exact(gK.1 hb).1
          have Y:Hid (uQ z order t (aK i) (z.steal z.l[i] t) (fB z.l t order m)):=by
           rcases HS.out with ⟨_,_,hu,hd⟩ | ⟨i',b',hr,_⟩
           ·refine Du hz ht hu (hd.trans ?_) S _;rw[hfd.out];rw[HN1.out (by omega),N]
           ·cases hr
          have hfe:=Zn.qK hz (b:=z.l[i]) ht;have HFE:=gO hfe;clear N hfe;simp only[Ad];go_wp2_with fail
          refine(qK (w.heap.size+2) _ _ _ _ _ _ z i t S _ d.out.own hz ht aAU).mono ?_;rintro ev R ⟨rfl,Dv,F⟩;have HK8:=gO (d.out.Ya Dv F HFE.out.2.2.1 HFE.out.2.2.2.1);clear Dv F HFE d k70 k71 k72 k73
          dsimp only
          go_wp2
          go_roundw
          case rel=>exact⟨aK i,_,m,rfl,by go_num,by omega,Y,HK8⟩
          case measure=>simp[intOf]
        ·have Y:Hid (uQ z order t aJ z (fB z.l t order m)):=by
          rcases HS.out with ⟨_,_,hu,hd⟩ | ⟨i',b',hr,_⟩
          ·refine .inl ⟨rfl,rfl,hu,hd.trans ?_⟩;rw[hfd.out,HN1.out (by omega),HN2.out (by omega)]
          ·cases hr
         go_wp2
         go_roundw
         case rel=>exact⟨aJ,z,m,rfl,by go_num,by omega,Y,Z⟩
         case measure=>simp[intOf]
      ·have d1:decide ((order:Int)<=(n:Int)-1)=false:=gV (by omega);have d5:¬(order:Int)<=(n:Int)-1:=by omega
       have HN:Hid (z.take order t=aJ):=by
        rcases HS.out with ⟨_,_,hu,hd⟩ | ⟨i',b',hr,_⟩
        ·unfold Hid Zn.take;rw[hu,hd];have:fB z.l t order n=aJ:=by
          cases n with
          | zero=>rfl
          | succ m=>unfold fB;rw[if_pos (by omega)]
         rw[this]
        ·cases hr
       have x6:=I.out.k6;have xf6:=I.out.f6;have hHi:=I.out.hi;simp only[Ad];go_wp2
       refine bodyPost_ret (v:=aG #[aC #[aB aI 0,aB aI 0,aA aJ 0 0,aA aJ 0 0],aB aI 0,aB aI 6]) (by simp[results,results156,go_sem,x6]) rfl (.inl ⟨HN.out,rfl,?_⟩);exact Below.setCell (Below.setCell (Below.setCell (Below.setCell I.out.bw (by simp only;omega) _) (by simp only;omega) _) (by simp only;omega) _) (by simp only;omega) _
     case' some i=>
      simp only[Ad]
  case' some i=>
   have HS:Hid (uQ z order t (aK i) z (fB z.l t order 5)):=by
    rcases HR.out with ⟨h,_⟩ | ⟨j,h,hj⟩
    ·cases h
    ·obtain rfl:i=j:=by simpa using h
     exact Ve hz hj _
   simp only[Ad];have HK0:=I;clear I;go_wp2
   generalize wr=wq at*;go_loopw [10,12] (λs10 s12 wr=>∃(y:Zn) (n:Nat),s10=aB aI (i:Int)/\s12=aB aI (n:Int)/\Hid (uQ z order t (aK i) y (fB z.l t order 5))/\Hid (GInv w wr a3 a4 n1 n2 c3 c4 y)) (λ_ _ _=>0)
   case atStart=>exact⟨z,4,rfl,rfl,HS,HK0⟩
   case' round=>
    clear HS HK0;obtain⟨y,n,rfl,rfl,HS,I⟩:=hrel;have hi0:¬(i:Int)<0:=by omega
  all_goals
   -- the block is found, in the zone y as it is by now
   obtain⟨b,hib,hcut,GY,hyf,hye,hyb,Uw,hyl,hll⟩:∃b,z.take order t=y.cut i order/\z.take order t=y.cut i order/\y.ok/\y.f=z.f/\y.e=z.e/\y.l[i]? =aK b/\order<=b.o/\y.y.length=z.y.length/\y.l.length=z.l.length:=by
    rcases HS.out with ⟨h,_⟩ | ⟨i',b,h,h1,h2,h3,h4,h5,h6,h7,h8⟩
    ·cases h
    ·obtain rfl:i=i':=by simpa using h
     exact⟨b,h1,h1,h2,h3,h4,h5,h6,h7,h8⟩
   have HYF:=gO hyf;have HYE:=gO hye;clear hyf hye;obtain⟨S,hbi⟩:=gK.1 hyb;obtain⟨bb,off,T,hbb,hc⟩:=aZ aX (by decide) I.out.own.at.r1 S;obtain rfl:=T;obtain⟨hc0,hc1,hc2⟩:=bZ hc;rw[hbi]at hc0 hc1 hc2;have hbm:b∈y.l:=by rw[<- hbi];exact gL S
   have hbf:=GY.2.fit b hbm;have hapart:∀x∈y.l.eraseIdx i,apartB b.a b.o x:=λx hx=>by
    obtain⟨j,hj,hne,rfl⟩:=List.mem_eraseIdx_iff_getElem.1 hx;have:=xP GY.2.sep hj S hne;rw[hbi]at this;exact this
   have aJd:Hid (z.take order t=aK ({y with l:=iD (y.l.eraseIdx i) b.a b.t order b.o},b.a)):=by
    unfold Hid;rw[hcut];unfold Zn.cut;rw[hyb]
   have MG:Hid (sQ y.f y.e (y.l.eraseIdx i)):=GY.2.sublist (List.eraseIdx_sublist _ _);have XW:Hid (dM y.f y.e b.a b.o):=hbf.1;have HAP:=gO hapart;have hl1:=I.out.own.l1;have hl2:=I.out.own.l2;have hin:(i:Int)<n1:=by omega
   have hin2:i<n1:=by omega
   have c:=I.out.k3 2;have hHi:=I.out.hi;simp only[gB,gC,gD]at c;have hwr0:w.heap.size<wr.heap.size:=by omega
   have hbn:=aT wr (aO #[aB aI (b.a:Int),aB aI (b.o:Int),aB aI (b.t:Int)] 82);have O:Hid (yI w (wr.alloc (aO #[aB aI (b.a:Int),aB aI (b.o:Int),aB aI (b.t:Int)] 82)) wr.heap.size (aK ⟨bb,off,aJ⟩) a4 n1 n2 c3 c4 y b.a b.o b.t):=
    ⟨I.out.below hbn,bI wr _ _,fP wr _ _,hHi,by simp,I.out.own.ne (.inr (gT _))⟩
   clear hbi hyb hapart hc hbm hcut hib HS;go_wp2_with fail
   clear hc0 hc1 hc2 c I hbn;generalize wr.alloc _=w7 at*;generalize wr.heap.size=B at*;refine(xX (w.heap.size+2) _ _ _ y.l i _ O.out.g.own.o1 hin2 (by omega) O.out.g.hi).mono ?_;rintro ev R ⟨rfl,hownd,hgd⟩;have HM:=gO (O.out.grown hgd (l':=y.l.eraseIdx i) (by rw[List.length_eraseIdx_of_lt S,hl1]) hownd (.inl rfl));have HF:=gO HM.out.put3;have m32:=HM.out.k3 2;have f32:=HM.out.f3 2;simp only[gB,gC,gD]at m32;clear hownd hgd O;go_wp2
   clear m32 f32 HM;generalize R.setCell _ _=w9 at*;go_loopw [16,17] (λ_ _ wr=>∃(l:List Bk) (o:Nat) (b1:Option Addr) (m1 d1:Nat),Hid (yI w wr B b1 a4 m1 n2 d1 c4 {y with l:=l} b.a o b.t)/\order<=o/\Hid (sQ y.f y.e l)/\Hid (dM y.f y.e b.a o)/\Hid (∀x∈l,apartB b.a o x)/\Hid (iD (y.l.eraseIdx i) b.a b.t order b.o=iD l b.a b.t order o)) (λ_ _ wr=>((wr.cell? ⟨B,1,aJ⟩).map λv=>(intOf v).toNat).getD 0)
   case atStart=>exact⟨y.l.eraseIdx i,b.o,_,n1-1,c3,HF,Uw,MG,XW,HAP,rfl⟩
   case round=>
    clear HF MG XW HAP;obtain⟨l,o',b1,m1,d1,O,hoo,MG,XW,HAP,Yb⟩:=hrel;have N:=O.out.lo;have hBr:=O.out.hB;have aNM:=O.out.g.hi;have J:=O.out.k15 0;have L:=O.out.k15 1;have K:=O.out.k15 2;have f151:=O.out.f15 1;simp only[gB,gC,gD]at J L K;by_cases hgt:order<o'
    ·obtain⟨m,rfl⟩:∃m,o'=m+1:=⟨o'-1,by omega⟩
     have dgt:(order:Int)<(m:Int)+1:=by omega
     have hm1:((m:Int)+1)-1=(m:Int):=by omega
     have X:=gO (O.out.put15 1 (m:Int) (a':=b.a) (o':=m) (t':=b.t) rfl);obtain⟨s1,s2,s3⟩:=QI GY.1.e16 hbf.2 MG.out XW.out HAP.out;have hm4:m+1<=4:=XW.out.1;have aCq:=XW.out;obtain⟨H,hH⟩:∃H,(⟨b.a,m,b.t⟩:Bk).fin=H:=⟨_,rfl⟩
     have hH2:b.a+2^m=H:=hH;have aNO:H<=300:=by have:=vY GY.1.e16 s2;have:=GY.1.e2;omega
     rw[hH2]at s1 s3;have HSQ:Hid (iD l b.a b.t order (m+1)=iD (dG l ⟨H,m,b.t⟩) b.a b.t order m):=by
      unfold Hid
      conv=>lhs;unfold iD
      rw[if_pos (by omega),hH2]
     have hlm:l.length=m1:=O.out.g.own.l1;have aFA:l.length<=256:=gQ (sQ.length_le MG.out (λx hx=>(MG.out.fit x hx).1.2.2.1)) GY.1.e2;have HS1:=gO s1;have Y:=gO s2;have HS3:=gO s3;clear s1 s2 s3;go_wp2_with fail
     have k15:=X.out.k15;have V:=X.out.hB;have aNP:=GY.1.e2;clear J L K f151;generalize wr.setCell _ _=M at*;have J:=k15 0;have L:=k15 1;have K:=k15 2;simp only[gB,gC,gD]at J L K;have k:B≠M.heap.size:=by omega
     go_region_held3 (λw'=>w'.cell? ⟨B,0,aJ⟩=aK (aB aI (b.a:Int))/\w'.cell? ⟨B,1,aJ⟩=aK (aB aI (m:Int))/\w'.cell? ⟨B,2,aJ⟩=aK (aB aI (b.t:Int))) (first | exact⟨J,L,K⟩ | exact⟨q0,q1,q2⟩ | exact⟨aS (aS (aS aAV k _ _) k _ _) k _ _ 0,aS (aS (aS aAV k _ _) k _ _) k _ _ 1,aS (aS (aS aAV k _ _) k _ _) k _ _ 2⟩ | go_keep) (first | (go_at_call 116;refine(mD ⟨b.a,m,b.t⟩ _ (by show m<=4;omega) (by show b.a<=1000;have:=aCq.2.2.1;omega)).mono ?_;rintro ev wk ⟨rfl,hbk⟩;have NM:=gW ((gX M.heap.size M).drew) hbk;have q0:=(NM.cell (p:=⟨B,0,aJ⟩) V).trans J;have q1:=(NM.cell (p:=⟨B,1,aJ⟩) V).trans L;have q2:=(NM.cell (p:=⟨B,2,aJ⟩) V).trans K;have QK:B<wk.heap.size:=gI V NM.size) | (go_at_call 116;refine(mD ⟨b.a,m,b.t⟩ _ (by show m<=4;omega) (by show b.a<=1000;have:=aCq.2.2.1;omega)).mono ?_;rintro ev wk ⟨rfl,hbk⟩;have hbB:=gW (aT M (aO #[aB aI 0,aB aI 0,aB aI 0] 82)) (gW ((gX _ _).drew) hbk);have q0:=(hbB.cell (p:=⟨B,0,aJ⟩) V).trans J;have q1:=(hbB.cell (p:=⟨B,1,aJ⟩) V).trans L;have q2:=(hbB.cell (p:=⟨B,2,aJ⟩) V).trans K;have QK:B<wk.heap.size:=gI V hbB.size;have aAV:=aQ k15 V hbB;have K16:=aQ (bI M #[aB aI 0,aB aI 0,aB aI 0] 82) (show M.heap.size<(M.alloc (aO #[aB aI 0,aB aI 0,aB aI 0] 82)).heap.size by simp) (gW ((gX _ _).drew) hbk);have F16:=aU (fP M #[aB aI 0,aB aI 0,aB aI 0] 82) (show M.heap.size<(M.alloc (aO #[aB aI 0,aB aI 0,aB aI 0] 82)).heap.size by simp) (gW ((gX _ _).drew) hbk);have hGk:M.heap.size<wk.heap.size:=gI (show M.heap.size<(M.alloc (aO #[aB aI 0,aB aI 0,aB aI 0] 82)).heap.size by simp) (gW ((gX _ _).drew) hbk).size))
     all_goals rename_i hHeld
     all_goals clear hHeld
     ·have u:Hid (yI w (wk.alloc (aO #[aB aI (H:Int),aB aI (m:Int),aB aI (b.t:Int)] 82)) B b1 a4 m1 n2 d1 c4 {y with l:=l} b.a m b.t):=(X.out.below NM).below (aT wk _);have ET:=bI wk #[aB aI (H:Int),aB aI (m:Int),aB aI (b.t:Int)] 82;have hGW:wk.heap.size<(wk.alloc (aO #[aB aI (H:Int),aB aI (m:Int),aB aI (b.t:Int)] 82)).heap.size:=by simp
      clear q0 q1 q2 NM hbk X J L K k15;generalize wk.heap.size=G at*;generalize wk.alloc _=wh at*
      -- the half is put back, from the world wh
      have E:=u.out.g.k3 0;have C:=u.out.g.k3 1;have c:=u.out.g.k3 2;have D:=u.out.g.k3 3;have aJe:=u.out.g.hi;have s:=ET 0;have A:=ET 1;have q:=ET 2;simp only[gB,gC,gD]at E C c D s A q;go_wp2_with fail
      refine(find_ok _ _ _ _ _ _ y.f y.e {y with l:=l} H _ u.out.g.own.at (by omega) MG.out.rise (λx hx=>by have:=(MG.out.fit x hx).1.2.2.1;have:=GY.1.e2;omega) (by omega)).mono ?_;rintro ev R ⟨rfl,F⟩;have P:=gO (u.out.below F);have JY:=aQ ET hGW F;have aDo:=gI hGW F.size;clear F u ET E C c D s A q hGW;have c:=P.out.g.k3 2;have aJf:=P.out.g.hi;have s:=JY 0;have A:=JY 1;have q:=JY 2;simp only[gB,gC,gD]at c s A q;have aDp:w.heap.size<R.heap.size:=by omega
      go_wp2_with fail
      have hbn:=aT R (aO #[aB aI (H:Int),aB aI (m:Int),aB aI (b.t:Int)] 82);have U:=gO (P.out.below hbn);have hnew:(R.alloc (aO #[aB aI (H:Int),aB aI (m:Int),aB aI (b.t:Int)] 82)).heap[R.heap.size]? =aK (.cells (bC ⟨H,m,b.t⟩).toArray 82 (0,0)):=heap_alloc_new R _;have Q:=(P.out.g.own.ne (g:=R.heap.size) (.inr (gT _))).1;clear P c s A q JY aDo aDp;have hlbm:lb l H<=m1:=by have:=vH l H;omega
      generalize R.heap.size=G2 at*;generalize R.alloc _=wn at*;refine(BH (w.heap.size+2) _ _ _ G2 (lb l H) l ⟨H,m,b.t⟩ _ U.out.g.own.o1 hlbm (by omega) U.out.g.hi hnew (λe=>Q e.symm)).mono ?_;rintro ev wi ⟨e1,f1,rfl,Dq,hgi⟩;have NH:(dG l ⟨H,m,b.t⟩).length=m1+1:=by unfold dG;rw[gTb,List.length_cons,gTc,gTd];have:=vH l H;simp only;omega
      have HM2:=gO (U.out.grown hgi (l':=dG l ⟨H,m,b.t⟩) NH Dq (.inr ⟨by omega,λx hx=>NI (HS3.out x hx)⟩));have HF2:=gO HM2.out.put3;have m32:=HM2.out.k3 2;have f32:=HM2.out.f3 2;simp only[gB,gC,gD]at m32;clear U hnew Q Dq hgi;go_wp2
      go_roundw
      case rel=>exact⟨dG l ⟨H,m,b.t⟩,m,e1,m1+1,f1,HF2,by omega,HS1,Y,HS3,Yb.out.trans HSQ.out⟩
      case measure=>
       rw[show wr.cell? ⟨B,1,aJ⟩=aK (aB aI ((m+1:Nat):Int))from O.out.k15 1,show(wi.setCell _ _).cell? ⟨B,1,aJ⟩=aK (aB aI (m:Int))from HF2.out.k15 1];simp[intOf]
     ·have aAW:=X.out.g.own.ne (g:=M.heap.size) (.inr (gT _));have hG2:w.heap.size+2<=M.heap.size:=X.out.g.hi;have u:Hid (yI w (((wk.setCell ⟨M.heap.size,0,aJ⟩ (aB aI (H:Int))).setCell ⟨M.heap.size,1,aJ⟩ (aB aI (m:Int))).setCell ⟨M.heap.size,2,aJ⟩ (aB aI (b.t:Int))) B b1 a4 m1 n2 d1 c4 {y with l:=l} b.a m b.t):=(((X.out.below hbB).QJ hG2 (Ne.symm k) aAW _ _).QJ hG2 (Ne.symm k) aAW _ _).QJ hG2 (Ne.symm k) aAW _ _;have ET:∀o,(((wk.setCell ⟨M.heap.size,0,aJ⟩ (aB aI (H:Int))).setCell ⟨M.heap.size,1,aJ⟩ (aB aI (m:Int))).setCell ⟨M.heap.size,2,aJ⟩ (aB aI (b.t:Int))).cell? ⟨M.heap.size,o,aJ⟩=(#[aB aI (H:Int),aB aI (m:Int),aB aI (b.t:Int)]:Array Value)[o]? :=aW (aW (aW K16 0 _) 1 _) 2 _;have hGW:M.heap.size<(((wk.setCell ⟨M.heap.size,0,aJ⟩ (aB aI (H:Int))).setCell ⟨M.heap.size,1,aJ⟩ (aB aI (m:Int))).setCell ⟨M.heap.size,2,aJ⟩ (aB aI (b.t:Int))).heap.size:=by simpa using hGk
      clear q0 q1 q2 hbB hbk X J L K k15 aAV K16 F16 hGk aAW hG2 k;generalize ((wk.setCell _ _).setCell _ _).setCell _ _=wh at*;generalize M.heap.size=G at*
      -- the half is put back, from the world wh
      have E:=u.out.g.k3 0;have C:=u.out.g.k3 1;have c:=u.out.g.k3 2;have D:=u.out.g.k3 3;have aJe:=u.out.g.hi;have s:=ET 0;have A:=ET 1;have q:=ET 2;simp only[gB,gC,gD]at E C c D s A q;go_wp2_with fail
      refine(find_ok _ _ _ _ _ _ y.f y.e {y with l:=l} H _ u.out.g.own.at (by omega) MG.out.rise (λx hx=>by have:=(MG.out.fit x hx).1.2.2.1;have:=GY.1.e2;omega) (by omega)).mono ?_;rintro ev R ⟨rfl,F⟩;have P:=gO (u.out.below F);have JY:=aQ ET hGW F;have aDo:=gI hGW F.size;clear F u ET E C c D s A q hGW;have c:=P.out.g.k3 2;have aJf:=P.out.g.hi;have s:=JY 0;have A:=JY 1;have q:=JY 2;simp only[gB,gC,gD]at c s A q;have aDp:w.heap.size<R.heap.size:=by omega
      go_wp2_with fail
      have hbn:=aT R (aO #[aB aI (H:Int),aB aI (m:Int),aB aI (b.t:Int)] 82);have U:=gO (P.out.below hbn);have hnew:(R.alloc (aO #[aB aI (H:Int),aB aI (m:Int),aB aI (b.t:Int)] 82)).heap[R.heap.size]? =aK (.cells (bC ⟨H,m,b.t⟩).toArray 82 (0,0)):=heap_alloc_new R _;have Q:=(P.out.g.own.ne (g:=R.heap.size) (.inr (gT _))).1;clear P c s A q JY aDo aDp;have hlbm:lb l H<=m1:=by have:=vH l H;omega
      generalize R.heap.size=G2 at*;generalize R.alloc _=wn at*;refine(BH (w.heap.size+2) _ _ _ G2 (lb l H) l ⟨H,m,b.t⟩ _ U.out.g.own.o1 hlbm (by omega) U.out.g.hi hnew (λe=>Q e.symm)).mono ?_;rintro ev wi ⟨e1,f1,rfl,Dq,hgi⟩;have NH:(dG l ⟨H,m,b.t⟩).length=m1+1:=by unfold dG;rw[gTb,List.length_cons,gTc,gTd];have:=vH l H;simp only;omega
      have HM2:=gO (U.out.grown hgi (l':=dG l ⟨H,m,b.t⟩) NH Dq (.inr ⟨by omega,λx hx=>NI (HS3.out x hx)⟩));have HF2:=gO HM2.out.put3;have m32:=HM2.out.k3 2;have f32:=HM2.out.f3 2;simp only[gB,gC,gD]at m32;clear U hnew Q Dq hgi;go_wp2
      go_roundw
      case rel=>exact⟨dG l ⟨H,m,b.t⟩,m,e1,m1+1,f1,HF2,by omega,HS1,Y,HS3,Yb.out.trans HSQ.out⟩
      case measure=>
       rw[show wr.cell? ⟨B,1,aJ⟩=aK (aB aI ((m+1:Nat):Int))from O.out.k15 1,show(wi.setCell _ _).cell? ⟨B,1,aJ⟩=aK (aB aI (m:Int))from HF2.out.k15 1];simp[intOf]
    ·obtain rfl:o'=order:=by omega
     have dgt:¬(o':Int)<o':=by omega
     have E:=O.out.g.k3 0;have C:=O.out.g.k3 1;have c:=O.out.g.k3 2;have D:=O.out.g.k3 3;have k6:=O.out.g.k6;have f6:=O.out.g.f6;simp only[gB,gC,gD]at E C c D;go_wp2_with fail
     have hsd:iD l b.a b.t o' o'=l:=by
      cases o' with
      | zero=>rfl
      | succ o'=>unfold iD;rw[if_neg (by omega)]
     have HTK:Hid (z.take o' t=aK ({y with l:=l},b.a)):=by
      unfold Hid;rw[aJd.out,Yb.out,hsd]
     clear hsd
     go_region
     go_wp2
     refine bodyPost_ret (v:=aG #[aC #[aB aI y.f,aB aI y.e,aA b1 m1 d1,aA a4 n2 c4],aB aI b.a,aB aI 0]) (by simp[results,results156,go_sem,k6]) rfl (.inr ⟨{y with l:=l},b.a,b1,a4,m1,d1,c4,HTK.out,by rw[HYF.out,HYE.out],?_,?_⟩)
     ·have no:=O.out.g.own.ne (g:=w.heap.size+1) (.inl (by omega));exact(((((O.out.g.own.set no _ _).set no _ _).set no _ _).set no _ _).below ((gX _ _).drew)).base (by omega)
     ·exact Below.drew (Below.setCell (Below.setCell (Below.setCell (Below.setCell O.out.g.bw (by simp only;omega) _) (by simp only;omega) _) (by simp only;omega) _) (by simp only;omega) _)
structure Zc where
 z:Zn
 a1:Option Addr
 a2:Option Addr
 n1:Nat
 n2:Nat
 c1:Nat
 c2:Nat
def oG (r:Zc):List Value:=[vI r.z.f,vI r.z.e,aA r.a1 r.n1 r.c1,aA r.a2 r.n2 r.c2]
theorem iV (r:Zc):(oG r).length=4:=rfl
theorem lK {b:Nat}{r:Zc}(hc:∀i v,(oG r)[i]? =aK v->w.cell? ⟨b,o+i,aJ⟩=aK v):w.cell? ⟨b,o,aJ⟩=aK (aB aI r.z.f)/\w.cell? ⟨b,o+1,aJ⟩=aK (aB aI r.z.e)/\w.cell? ⟨b,o+2,aJ⟩=aK (aA r.a1 r.n1 r.c1)/\w.cell? ⟨b,o+3,aJ⟩=aK (aA r.a2 r.n2 r.c2):=⟨hc 0 _ rfl,hc 1 _ rfl,hc 2 _ rfl,hc 3 _ rfl⟩
structure Lc where
 l:Ls
 a:Option Addr
 n:Nat
 c:Nat
def dB (r:Lc):List Value:=[vI r.l.c,vI r.l.z,vI r.l.t,aA r.a r.n r.c]
theorem bF (r:Lc):(dB r).length=4:=rfl
theorem o9 {b:Nat}{r:Lc}(hc:∀i v,(dB r)[i]? =aK v->w.cell? ⟨b,o+i,aJ⟩=aK v):w.cell? ⟨b,o,aJ⟩=aK (aB aI r.l.c)/\w.cell? ⟨b,o+1,aJ⟩=aK (aB aI r.l.z)/\w.cell? ⟨b,o+2,aJ⟩=aK (aB aI r.l.t)/\w.cell? ⟨b,o+3,aJ⟩=aK (aA r.a r.n r.c):=⟨hc 0 _ rfl,hc 1 _ rfl,hc 2 _ rfl,hc 3 _ rfl⟩
structure HAt (W:World)(az am al av:Option Addr)(nl nv:Nat)(y0 y1:Zc)(lc:List Lc)(h:Hp):Prop where
 zr:Row W az (flat oG [y0,y1])
 mr:Row W am (flat jA [h.m0,h.m1])
 lr:Row W al (flat dB lc)
 vr:Row W av (flat bC h.live)
 e0:y0.z=h.z0
 e1:y1.z=h.z1
 t0:IJ W y0.a1 y0.a2 y0.n1 y0.n2 h.z0
 t1:IJ W y1.a1 y1.a2 y1.n1 y1.n2 h.z1
 ll:lc.map Lc.l=h.ls
 nl:lc.length=nl
 nv:h.live.length=nv
 pr:∀r∈lc,r.l.p.length=r.n/\Row W r.a (flat jA r.l.p)
theorem HAt.below {az am al av:Option Addr}{nl nv:Nat}{y0 y1:Zc}{lc:List Lc}{h:Hp}(hh:HAt W az am al av nl nv y0 y1 lc h)(hb:Below W.heap.size W W'):HAt W' az am al av nl nv y0 y1 lc h:=
 ⟨hh.zr.below hb,hh.mr.below hb,hh.lr.below hb,hh.vr.below hb,hh.e0,hh.e1,hh.t0.below hb,hh.t1.below hb,hh.ll,hh.nl,hh.nv,λr a=>⟨(hh.pr r a).1,(hh.pr r a).2.below hb⟩⟩
theorem Ae (a b:Ls)(x1 x2:Option Addr)(k1 k2 d1 d2:Nat)(w:World)(ha:a.z<2/\a.t<3)(hb:b.z<2/\b.t<3):
 Calls prog 118 #[aC #[aB aI a.c,aB aI a.z,aB aI a.t,aA x1 k1 d1],aC #[aB aI b.c,aB aI b.z,aB aI b.t,aA x2 k2 d2]] w λev w'=>ev=aN (.bool (decide (a.key<b.key)))/\Below w.heap.size w w':=by
 by_cases e:a.c=b.c
 ·by_cases g:a.z=b.z
  ·have f:((a.c:Int) != (b.c:Int))=false:=by simp[e]
   have h:((a.z:Int) != (b.z:Int))=false:=by simp[g]
   have d:decide (a.key<b.key)=decide (a.t<b.t):=by
    unfold Ls.key;rw[e,g];exact decide_eq_decide.2 (by omega)
   go_enter func118,ntmps118
   go_wp2
   go_ret
   exact⟨bP d.symm,gW (aT _ _) (aT _ _)⟩
  ·have f:((a.c:Int) != (b.c:Int))=false:=by simp[e]
   have h:((a.z:Int) != (b.z:Int))=true:=by rw[bne_iff_ne];omega
   have d:decide (a.key<b.key)=decide (a.z<b.z):=by
    unfold Ls.key;rw[e];exact decide_eq_decide.2 (by omega)
   go_enter func118,ntmps118
   go_wp2
   go_ret
   exact⟨bP d.symm,gW (aT _ _) (aT _ _)⟩
 ·have f:((a.c:Int) != (b.c:Int))=true:=by rw[bne_iff_ne];omega
  have d:decide (a.key<b.key)=decide (a.c<b.c):=by
   unfold Ls.key;exact decide_eq_decide.2 (by omega)
  go_enter func118,ntmps118
  go_wp2
  go_ret
  exact⟨bP d.symm,gW (aT _ _) (aT _ _)⟩
theorem Ko (az am al av:Option Addr)(cz cm cl cv nl nv:Nat)(y0 y1:Zc)(lc:List Lc)(h:Hp)(p:Nat)(w:World)(hh:HAt w az am al av nl nv y0 y1 lc h):
 Calls prog 87 #[aC #[aA az 2 cz,aA am 2 cm,aB aI h.aP,aA al nl cl,aA av nv cv],aB aI p] w λev w'=>ev=aN (aB aI (h.jX p:Nat))/\Below w.heap.size w w':=by
 have hb:=aT w (aO #[aA az 2 cz,aA am 2 cm,aB aI (h.aP:Int),aA al nl cl,aA av nv cv] 39);obtain⟨n,off,c,k,i⟩:=aZ iV (by decide) (hh.zr.below hb) (j:=0) (by simp);obtain rfl:=c;obtain⟨a,b,d,f⟩:=lK i;have l:=hh.e0;simp only[List.getElem_cons_zero]at a b d f;rw[l]at a b;unfold Hp.jX;clear hh i;by_cases g:p<h.z0.e
 ·have m:(p:Int)<h.z0.e:=by omega
  rw[if_pos g];go_enter func87,ntmps87
  go_wp2
  go_ret
  exact⟨rfl,hb⟩
 ·have m:¬(p:Int)<h.z0.e:=by omega
  rw[if_neg g];go_enter func87,ntmps87
  go_wp2
  go_ret
  exact⟨rfl,hb⟩
def mP (flags:Nat):Nat:=if flags/2%2=1 then 1 else if flags/4%2=1 then 2 else 0
theorem Vf (flags:Nat)(w:World)(h1:flags<=15)(h2:¬(flags/2%2=1/\flags/4%2=1)):
 Calls prog 104 #[aB aI flags] w λev w'=>ev=aN (aG #[aB aI (mP flags:Nat),.bool true])/\w=w':=by
 have a:flags=0∨flags=1∨flags=2∨flags=3∨flags=4∨flags=5∨flags=8∨flags=9∨flags=10∨flags=11∨flags=12∨flags=13:=by omega
 have b:∀f:Nat,f<=15->bits .and .i64 (f:Int) 2=(if f/2%2=1 then 2 else 0)/\bits .and .i64 (f:Int) 4=(if f/4%2=1 then 4 else 0):=by decide+kernel
 rcases a with rfl | rfl | rfl | rfl | rfl | rfl | rfl | rfl | rfl | rfl | rfl | rfl;all_goals
  go_enter func104,ntmps104
  go_wp2
  go_ret2
  exact⟨rfl,rfl⟩
end Go.Proofs.YtjaogfhcnmjkiaaGreatDoor
