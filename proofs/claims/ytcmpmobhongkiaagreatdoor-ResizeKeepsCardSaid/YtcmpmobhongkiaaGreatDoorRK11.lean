/- joined. -/
import Derived.Test.YtcmpmobhongkiaaGreatDoorRK0
import Derived.Test.YtcmpmobhongkiaaGreatDoorRK10
import Derived.Test.YtcmpmobhongkiaaGreatDoorRK9
import Derived.Deep.RegionHeld3
set_option linter.unusedVariables false
set_option linter.unusedSimpArgs false
namespace Go.Proofs.YtcmpmobhongkiaaGreatDoor
section
open Go.RowKit
structure GInv (w W:World)(a1 a2:Option Addr)(n1 n2 c1 c2:Nat)(z:Zn):Prop where
 k3:∀i,W.cell? ⟨w.heap.size,i,none⟩=(#[.int .i64 z.f,.int .i64 z.e,.slice a1 n1 c1,.slice a2 n2 c2]:Array Value)[i]?
 f3:∀i,W.frozen? ⟨w.heap.size,i,none⟩=false
 k6:∀i,W.cell? ⟨w.heap.size+1,i,none⟩=(#[.int .i64 0,.int .i64 0,.slice none 0 0,.slice none 0 0]:Array Value)[i]?
 f6:∀i,W.frozen? ⟨w.heap.size+1,i,none⟩=false
 own:gY W (w.heap.size+2) a1 a2 n1 n2 c1 c2 z
 hi:w.heap.size+2<=W.heap.size
 bw:Below w.heap.size w W
theorem GInv.below {w W W':World}{a1 a2:Option Addr}{n1 n2 c1 c2:Nat}{z:Zn}(h:GInv w W a1 a2 n1 n2 c1 c2 z)(hb:Below W.heap.size W W'):GInv w W' a1 a2 n1 n2 c1 c2 z:=by
 have h2:=h.hi;exact⟨aB h.k3 (by omega) hb,aH h.f3 (by omega) hb,aB h.k6 (by omega) hb,aH h.f6 (by omega) hb,h.own.below hb,gQ h2 hb.size,Below.step h.bw hb⟩
theorem GInv.put {w W:World}{a1 a2:Option Addr}{n1 n2 c1 c2:Nat}{z:Zn}(h:GInv w W a1 a2 n1 n2 c1 c2 z){b1 b2:Option Addr}{m1 m2 d1 d2:Nat}{y:Zn}(ho:gY W (w.heap.size+2) b1 b2 m1 m2 d1 d2 y):
 GInv w ((((W.setCell ⟨w.heap.size,0,none⟩ (.int .i64 y.f)).setCell ⟨w.heap.size,1,none⟩ (.int .i64 y.e)).setCell ⟨w.heap.size,2,none⟩ (.slice b1 m1 d1)).setCell ⟨w.heap.size,3,none⟩ (.slice b2 m2 d2)) b1 b2 m1 m2 d1 d2 y:=by
 have h2:=h.hi;have nn:=ho.ne (g:=w.heap.size) (.inl (by omega));exact⟨aI (aI (aI (aI h.k3 0 _) 1 _) 2 _) 3 _,aG (aG (aG (aG h.f3 _ _) _ _) _ _) _ _,aA (aA (aA (aA h.k6 (by omega) _ _) (by omega) _ _) (by omega) _ _) (by omega) _ _,aG (aG (aG (aG h.f6 _ _) _ _) _ _) _ _,((((ho.set nn _ _).set nn _ _).set nn _ _).set nn _ _),by simpa using h2,Below.setCell (Below.setCell (Below.setCell (Below.setCell h.bw (by simp only;omega) _) (by simp only;omega) _) (by simp only;omega) _) (by simp only;omega) _⟩
end
section
open Go.RowKit
theorem CU {f e a t o:Nat}{l:List Bk}(he:e%16=0)(ht:t<3)(hl:rQ f e l)(hb:cZ f e a (o+1))(hd:∀x∈l,apartB a (o+1) x):
 rQ f e (bF l ⟨a+2^o,o,t⟩)/\cZ f e a o/\∀x∈bF l ⟨a+2^o,o,t⟩,apartB a o x:=by
 obtain⟨h1,h2,h3⟩:=EW he hb;have hp:=dR o;have hps:2^(o+1)=2^o+2^o:=by rw[Nat.pow_succ];omega
 refine⟨hl.put h2 ht (fun x hx=> ?_) (fun _ x hx hxo=> ?_),h1,fun x hx=> ?_⟩
 ·have:=hd x hx;unfold apartB Bk.fin at*;rw[hps]at this;simp only;omega
 ·simp only at hxo ⊢;rw[h3];have:=hd x hx;have hpx:=dR x.o;unfold apartB Bk.fin at this;omega
 ·unfold bF at hx;rw[List.mem_append,List.mem_cons]at hx;rcases hx with hx | rfl | hx
  ·have:=hd x (List.mem_of_mem_take hx);unfold apartB at*;omega
  ·unfold apartB;simp only;omega
  ·have:=hd x (List.mem_of_mem_drop hx);unfold apartB at*;omega
theorem yE {a o:Nat}{x:Bk}(h:apartB a o x):x.a≠a:=by
 unfold apartB Bk.fin at h;have:=dR o;have:=dR x.o;omega
def yF:Option Nat->Int
 | none=> -1
 | some i=>i
theorem zM (l:List Bk)(o t:Nat):dH (fun b=>decide (b.o=o/\b.t=t)) l=yF (nT l o t):=by
 unfold dH nT yF;cases l.findIdx? fun b=>decide (b.o=o/\b.t=t) <;> rfl
structure vT (w:World):Prop where
 sz:1<w.heap.size
 c:∀i v,(#[.int .i64 2,.int .i64 1,.int .i64 2,.int .i64 0,.int .i64 0,.int .i64 1]:Array Value)[i]? =some v->w.cell? ⟨1,i,none⟩=some v
theorem vT.mono {w w':World}(h:vT w){B:Nat}(hb:Below B w w')(hB:w.heap.size<=B):vT w':=
 ⟨gI h.sz hb.size,fun i v hv=>((hb.mono hB).cell (p:=⟨1,i,none⟩) h.sz).trans (h.c i v hv)⟩
theorem vT.at {w:World}(h:vT w){t:Nat}(ht:t<3):w.cell? ⟨1,t*2,none⟩=some (.int .i64 (oth1 t:Int))/\w.cell? ⟨1,t*2+1,none⟩=some (.int .i64 (oth2 t:Int)):=by
 obtain rfl | rfl | rfl:t=0∨t=1∨t=2:=by omega
 ·exact⟨h.c 0 _ rfl,h.c 1 _ rfl⟩
 ·exact⟨h.c 2 _ rfl,h.c 3 _ rfl⟩
 ·exact⟨h.c 4 _ rfl,h.c 5 _ rfl⟩
theorem JU {w:World}{B base n c:Nat}{a:Option Addr}{l:List Bk}{x y u:Value}(hK:∀i,w.cell? ⟨B,i,none⟩=(#[x,y,u]:Array Value)[i]?)(hown:w.ownsRow base 63 3 (.slice a n c) n (flat aO l))(hl:0<l.length)(hx:∀b∈l,x≠ .int .i64 (b.a:Int)):(Value.slice a n c).ownBlock≠some B:=by
 intro e;have hfl:=flat_length aJ l;obtain⟨g,ha,_,_,hc,_⟩:=oI hown 0 (by omega);subst ha;obtain rfl:g=B:=by simpa[Value.ownBlock]using e
 cases l with
 | nil=>simp at hl
 | cons b l=>
  have h0:=hK 0;rw[h0]at hc;have h1:x=(flat aO (b::l))[0]:=by simpa using hc
  exact hx b (by simp) h1
theorem GInv.Vl {w W W':World}{a1 a2:Option Addr}{n1 n2 c1 c2:Nat}{z y:Zn}(h:GInv w W a1 a2 n1 n2 c1 c2 z)(ho:gY W' (w.heap.size+2) a1 a2 n1 n2 c1 c2 y)(hb:Below (w.heap.size+2) W W')(hf:y.f=z.f)(he:y.e=z.e):GInv w W' a1 a2 n1 n2 c1 c2 y:=by
 have h2:=h.hi;refine⟨fun i=> ?_,fun i=>(hb.frozen (p:=⟨w.heap.size,i,none⟩) (by show w.heap.size<_;omega)).trans (h.f3 i),fun i=>(hb.cell (p:=⟨w.heap.size+1,i,none⟩) (by show w.heap.size+1<_;omega)).trans (h.k6 i),fun i=>(hb.frozen (p:=⟨w.heap.size+1,i,none⟩) (by show w.heap.size+1<_;omega)).trans (h.f6 i),ho,gQ h2 hb.size,h.bw.trans (hb.mono (by omega))⟩;rw[hf,he];exact(hb.cell (p:=⟨w.heap.size,i,none⟩) (by show w.heap.size<_;omega)).trans (h.k3 i)
structure qY (w W:World)(B:Nat)(a1 a2:Option Addr)(n1 n2 c1 c2:Nat)(z:Zn)(a o t:Nat):Prop where
 g:GInv w W a1 a2 n1 n2 c1 c2 z
 k15:∀i,W.cell? ⟨B,i,none⟩=(#[.int .i64 a,.int .i64 o,.int .i64 t]:Array Value)[i]?
 f15:∀i,W.frozen? ⟨B,i,none⟩=false
 lo:w.heap.size+2<=B
 hB:B<W.heap.size
 nb:(Value.slice a1 n1 c1).ownBlock≠some B/\(Value.slice a2 n2 c2).ownBlock≠some B
section
variable {w W W':World}{B:Nat}{a1 a2:Option Addr}{n1 n2 c1 c2:Nat}{z:Zn}{a o t:Nat}
theorem qY.below (h:qY w W B a1 a2 n1 n2 c1 c2 z a o t)(hb:Below W.heap.size W W'):qY w W' B a1 a2 n1 n2 c1 c2 z a o t:=
 ⟨h.g.below hb,aB h.k15 h.hB hb,aH h.f15 h.hB hb,h.lo,gI h.hB hb.size,h.nb⟩
theorem qY.put15 (h:qY w W B a1 a2 n1 n2 c1 c2 z a o t)(i:Nat)(u:Int){a' o' t':Nat}(he:(#[.int .i64 a,.int .i64 o,.int .i64 t]:Array Value).setIfInBounds i (.int .i64 u)=#[.int .i64 a',.int .i64 o',.int .i64 t']):qY w (W.setCell ⟨B,i,none⟩ (.int .i64 u)) B a1 a2 n1 n2 c1 c2 z a' o' t':=by
 have h1:=h.lo;have h2:=h.hB;exact⟨⟨aA h.g.k3 (by omega) _ _,aG h.g.f3 _ _,aA h.g.k6 (by omega) _ _,aG h.g.f6 _ _,h.g.own.set h.nb _ _,by simpa using h.g.hi,h.g.bw.setCell (by simp only;omega) _⟩,he▸aI h.k15 i _,aG h.f15 _ _,h1,by simpa using h2,h.nb⟩
theorem qY.zN (h:qY w W B a1 a2 n1 n2 c1 c2 z a o t){G:Nat}(h1:w.heap.size+2<=G)(h2:G≠B)(h3:(Value.slice a1 n1 c1).ownBlock≠some G/\(Value.slice a2 n2 c2).ownBlock≠some G)(i:Nat)(u:Value):qY w (W.setCell ⟨G,i,none⟩ u) B a1 a2 n1 n2 c1 c2 z a o t:=
 ⟨⟨aA h.g.k3 (by omega) _ _,aG h.g.f3 _ _,aA h.g.k6 (by omega) _ _,aG h.g.f6 _ _,h.g.own.set h3 _ _,by simpa using h.g.hi,h.g.bw.setCell (by simp only;omega) _⟩,aA h.k15 (Ne.symm h2) _ _,aG h.f15 _ _,h.lo,by simpa using h.hB,h.nb⟩
structure aAL (w W:World)(B:Nat)(a1 a2:Option Addr)(n1 n2 c1 c2:Nat)(z:Zn)(a o t:Nat)(a1':Option Addr)(n1' c1':Nat)(l':List Bk):Prop where
 k3:∀i,W.cell? ⟨w.heap.size,i,none⟩=(#[.int .i64 z.f,.int .i64 z.e,.slice a1 n1 c1,.slice a2 n2 c2]:Array Value)[i]?
 f3:∀i,W.frozen? ⟨w.heap.size,i,none⟩=false
 k6:∀i,W.cell? ⟨w.heap.size+1,i,none⟩=(#[.int .i64 0,.int .i64 0,.slice none 0 0,.slice none 0 0]:Array Value)[i]?
 f6:∀i,W.frozen? ⟨w.heap.size+1,i,none⟩=false
 own:gY W (w.heap.size+2) a1' a2 n1' n2 c1' c2 {z with l:=l'}
 hi:w.heap.size+2<=W.heap.size
 bw:Below w.heap.size w W
 k15:∀i,W.cell? ⟨B,i,none⟩=(#[.int .i64 a,.int .i64 o,.int .i64 t]:Array Value)[i]?
 f15:∀i,W.frozen? ⟨B,i,none⟩=false
 lo:w.heap.size+2<=B
 hB:B<W.heap.size
 nb:(Value.slice a1' n1' c1').ownBlock≠some B/\(Value.slice a2 n2 c2).ownBlock≠some B
theorem qY.grown (h:qY w W B a1 a2 n1 n2 c1 c2 z a o t)(hg:W.grownBy W' (Value.ownBlock (.slice a1 n1 c1))){a1':Option Addr}{n1' c1':Nat}{l':List Bk}(hl:l'.length=n1')(ho:W'.ownsRow (w.heap.size+2) 63 3 (.slice a1' n1' c1') n1' (flat aO l'))(hn:a1'=a1∨(0<l'.length/\∀b∈l',b.a≠a)):aAL w W' B a1 a2 n1 n2 c1 c2 z a o t a1' n1' c1' l':=by
 have h1:=h.lo;have h2:=h.hB;have h3:=h.g.hi;have m3:=(h.g.own.ne (g:=w.heap.size) (.inl (by omega))).1;have m6:=(h.g.own.ne (g:=w.heap.size+1) (.inl (by omega))).1;have aCI:∀i,W'.cell? ⟨B,i,none⟩=(#[.int .i64 a,.int .i64 o,.int .i64 t]:Array Value)[i]? :=bT h.k15 h2 hg (fun e=>h.nb.1 e.symm);refine⟨bT h.g.k3 (by omega) hg (fun e=>m3 e.symm),bU h.g.f3 (by omega) hg (fun e=>m3 e.symm),bT h.g.k6 (by omega) hg (fun e=>m6 e.symm),bU h.g.f6 (by omega) hg (fun e=>m6 e.symm),⟨hl,h.g.own.l2,ho,iW h.g.own.o2 hg (fun k hk e=>yB h.g.own.o2 h.g.own.o1 (by decide) k hk e)⟩,gQ h3 hg.size,?_,aCI,bU h.f15 h2 hg (fun e=>h.nb.1 e.symm),h1,gI h2 hg.size,?_,h.nb.2⟩
 ·exact h.g.bw.grown hg h.g.bw.size (fun k hk=>by have:=(h.g.own.o1.lt k hk).1;omega)
 ·rcases hn with rfl | ⟨hn1,hn2⟩
  ·have:=h.nb.1;cases a1' with
   | none=>simp[Value.ownBlock]
   | some x=>simpa[Value.ownBlock]using this
  ·exact JU aCI ho hn1 (fun b hb e=>hn2 b hb (by simp only[Value.int.injEq]at e;omega))
theorem aAL.put3 {a1':Option Addr}{n1' c1':Nat}{l':List Bk}(h:aAL w W B a1 a2 n1 n2 c1 c2 z a o t a1' n1' c1' l'):qY w (W.setCell ⟨w.heap.size,2,none⟩ (.slice a1' n1' c1')) B a1' a2 n1' n2 c1' c2 {z with l:=l'} a o t:=by
 have h1:=h.lo;have h2:=h.hB;have h3:=h.hi;exact⟨⟨aI h.k3 2 _,aG h.f3 _ _,aA h.k6 (by omega) _ _,aG h.f6 _ _,h.own.set (h.own.ne (.inl (by omega))) _ _,by simpa using h3,h.bw.setCell (Nat.le_refl _) _⟩,aA h.k15 (by omega) _ _,aG h.f15 _ _,h1,by simpa using h2,h.nb⟩
end
end
section
open Go.RowKit
theorem idx2 (x y:Value)(W:World)(hx:x.oneCell'=true)(hy:y.oneCell'=true):(Sem.run Tryz.prog (Instr.index 250 (.agg #[x,y]) (.int .i64 0)) W= .ok x W)/\(Sem.run Tryz.prog (Instr.index 250 (.agg #[x,y]) (.int .i64 1)) W= .ok y W):=by
 obtain⟨i0,hi,hz,hsize,hby⟩:=info_parts oN;constructor <;> simp[Instr.index,run_underlying Tryz.underlying250,sizeOf,typeInfo,hi,hsize,part,go_sem]
def sD (z:Zn)(order t:Nat)(r:Option Nat)(y:Zn)(rest:Option Nat):Prop:=
 (r=none/\y=z/\kM z.l t (5-order) order=none/\dO z.l t order 5=rest)∨
 (∃i b,r=some i/\z.take order t=y.cut i order/\y.ok/\y.f=z.f/\y.e=z.e/\y.l[i]? =some b/\order<=b.o/\y.y.length=z.y.length/\y.l.length=z.l.length)
theorem RY {z:Zn}(hz:z.ok){order t i:Nat}(h:kM z.l t (5-order) order=some i)(rest:Option Nat):sD z order t (some i) z rest:=by
 obtain⟨b,h1,h2,_⟩:=pG h;exact .inr ⟨i,b,rfl,by unfold Zn.take;rw[h],hz,rfl,rfl,h1,h2,rfl,rfl⟩
theorem AY {z:Zn}(hz:z.ok){order t i:Nat}(ht:t<3)(h:kM z.l t (5-order) order=none)(hd:dO z.l t order 5=some i)(hi:i<z.l.length)(rest:Option Nat):sD z order t (some i) (z.steal z.l[i] t) rest:=by
 obtain⟨b,h1,h2⟩:=nG hd;have hb:z.l[i]=b:=by
  have:=gJ hi;rw[h1]at this;exact(gP this).symm
 obtain⟨s1,s2,s3,s4,s5⟩:=Zn.oK hz (b:=z.l[i]) ht;obtain⟨y,hy,hya,hyo⟩:=s5 i b h1;have hlen:(z.steal z.l[i] t).y.length=z.y.length/\(z.steal z.l[i] t).l.length=z.l.length:=by
  unfold Zn.steal;split
  ·exact⟨rfl,rfl⟩
  ·exact⟨pI _ _ _ _ _,by simp⟩
 refine .inr ⟨i,y,rfl,?_,s1,s3,s4,hy,by omega,hlen.1,hlen.2⟩;unfold Zn.take;rw[h,hd];simp only[h1,hb]
set_option maxHeartbeats 4000000 in
set_option maxRecDepth 100000 in
theorem Yc (a1 a2:Option Addr)(n1 n2 c1 c2:Nat)(z:Zn)(order t:Nat)(w:World)(hat:Hf w a1 a2 n1 n2 z)(hz:z.ok)(hor:order<=4)(ht:t<3)(hoth:vT w):
 Calls Tryz.prog 178 #[.agg #[.int .i64 z.f,.int .i64 z.e,.slice a1 n1 c1,.slice a2 n2 c2],.int .i64 order,.int .i64 t] w fun ev w'=>
  (z.take order t=none/\ev= .returned (.tuple #[.agg #[.int .i64 0,.int .i64 0,.slice none 0 0,.slice none 0 0],.int .i64 0,.int .i64 6])/\Below w.heap.size w w')∨
  (∃z' at_ a1' a2' n1' c1' c2',z.take order t=some (z',at_)/\ev= .returned (.tuple #[.agg #[.int .i64 z.f,.int .i64 z.e,.slice a1' n1' c1',.slice a2' n2 c2'],.int .i64 (at_:Nat),.int .i64 0])/\gY w' w.heap.size a1' a2' n1' n2 c1' c2' z'/\Below w.heap.size w w'):=by
 have hlen:z.l.length<=256:=gQ (rQ.length_le hz.2 (fun b hb=>(hz.2.fit b hb).1.2.2.1)) hz.1.e2;have hee:=hz.1.e2;have l1:=hat.l1;have l2:=hat.l2;have hy32:z.y.length<=32:=by rw[hz.1.len];omega
 obtain⟨K3,K6,F3,F6,hsz,hbw⟩:=boxes2 w #[.int .i64 (z.f:Int),.int .i64 (z.e:Int),.slice a1 n1 c1,.slice a2 n2 c2] 102 #[.int .i64 0,.int .i64 0,.slice none 0 0,.slice none 0 0] 102;have nU:=hat.below hbw;have d1:decide ((4:Int)<order)=false:=decide_eq_false (by omega);have d2:decide ((3:Int)<=t)=false:=decide_eq_false (by omega);have d3:decide (4<order)=false:=decide_eq_false (by omega);have d4:decide (3<=t)=false:=decide_eq_false (by omega);have HOT:=gO hoth;clear hat hoth;go_enter Tryz.func178,Tryz.ntmps178
 go_wp2_with fail
 generalize (w.alloc _).alloc _=w0 at*;refine(oP _ _ _ _ _ _ z _ nU hz).mono ?_;rintro ev w1 ⟨rfl,hb1⟩;have Zx:=aB K3 (by omega) hb1;have Zy:=aB K6 (by omega) hb1;have Zz:=aH F3 (by omega) hb1;have ZA:=aH F6 (by omega) hb1;have Ew:=nU.below hb1;have wV:=Below.step hbw hb1;have hB:w.heap.size+2<=w1.heap.size:=by have:=hb1.size;omega
 clear K3 K6 F3 F6 hb1 nU hbw hsz;go_wp2_with fail
 refine(BH _ _ _ _ _ _ z.f z.e z _ Ew (by omega) (by omega)).mono ?_;rintro ev w5 ⟨a3,a4,c3,c4,rfl,hown,hb5⟩;have ZB:=aB Zx (by omega) hb5;have ZC:=aB Zy (by omega) hb5;have ZE:=aH Zz (by omega) hb5;have ZF:=aH ZA (by omega) hb5;have wE:=Below.step wV hb5;have hnn:=(hown.ne (g:=w.heap.size) (.inl (by omega)))
 have I1:GInv w ((((w5.setCell ⟨w.heap.size,0,none⟩ (.int .i64 z.f)).setCell ⟨w.heap.size,1,none⟩ (.int .i64 z.e)).setCell ⟨w.heap.size,2,none⟩ (.slice a3 n1 c3)).setCell ⟨w.heap.size,3,none⟩ (.slice a4 n2 c4)) a3 a4 n1 n2 c3 c4 z:=by
  have h5:=hb5.size;exact⟨aI (aI (aI (aI ZB 0 _) 1 _) 2 _) 3 _,aG (aG (aG (aG ZE _ _) _ _) _ _) _ _,aA (aA (aA (aA ZC (by omega) _ _) (by omega) _ _) (by omega) _ _) (by omega) _ _,aG (aG (aG (aG ZF _ _) _ _) _ _) _ _,(((((hown.base hB).set hnn _ _).set hnn _ _).set hnn _ _).set hnn _ _),by simp only[World.size_setCell];omega,Below.setCell (Below.setCell (Below.setCell (Below.setCell wE (by simp only;omega) _) (by simp only;omega) _) (by simp only;omega) _) (by simp only;omega) _⟩
 have HI:=gO I1;clear I1 ZC ZF hown wE Zx Zy Zz ZA Ew wV hb5 hnn d1 d2 d3 d4;go_wp2
 clear ZB ZE;generalize (((w5.setCell _ _).setCell _ _).setCell _ _).setCell _ _=w6 at*;go_loopw [10,11] (fun s10 s11 wr=>∃(r:Option Nat) (o:Nat),s10= .int .i64 (yF r)/\s11= .int .i64 (o:Int)/\order<=o/\o<=5/\Hid ((r=none/\kM z.l t (5-order) order=kM z.l t (5-o) o)∨∃i,r=some i/\kM z.l t (5-order) order=some i)/\Hid (GInv w wr a3 a4 n1 n2 c3 c4 z)) (fun _ s11 _=>6-(intOf s11).toNat)
 case atStart=>exact⟨none,order,rfl,rfl,Nat.le_refl _,by omega,.inl ⟨rfl,rfl⟩,HI⟩
 case round=>
  obtain⟨r,o,rfl,rfl,ho1,ho2,HR,HK⟩:=hrel;clear HI;cases r with
  | none=>
   by_cases ho4:o<=4
   ·have d1:decide ((o:Int)<=4)=true:=decide_eq_true (by omega);have d2:decide (o<=4)=true:=decide_eq_true (by omega);have k30:=HK.out.k3 0;have k31:=HK.out.k3 1;have k32:=HK.out.k3 2;have k33:=HK.out.k3 3;have hHi:=HK.out.hi;simp only[gB,gC,gD]at k30 k31 k32 k33;simp only[yF];go_wp2_with fail
    refine(zJ _ _ _ _ _ _ z.f z.e z o t _ HK.out.own.at (by omega)).mono ?_;rintro ev w7 ⟨rfl,hb7⟩;have HK7:=gO (HK.out.below hb7);rw[zM];have hfu:Hid (kM z.l t (5-o) o=match nT z.l o t with | some i=>some i | none=>kM z.l t (5-(o+1)) (o+1)):=by
     unfold Hid;rw[show 5-o=(5-(o+1))+1 by omega];rfl
    clear hb7 HK k30 k31 k32 k33;go_wp2
    go_roundw
    case rel=>
     refine⟨nT z.l o t,o+1,rfl,by go_num,by omega,by omega,?_,HK7⟩;rcases HR.out with ⟨_,h⟩ | ⟨i,h,_⟩
     ·rw[hfu.out]at h;cases hc:nT z.l o t with
      | none=>rw[hc]at h;exact .inl ⟨rfl,h⟩
      | some i=>rw[hc]at h;exact .inr ⟨i,rfl,h⟩
     ·cases h
    case measure=>simp[intOf];omega
   ·have d1:decide ((o:Int)<=4)=false:=decide_eq_false (by omega);have d2:decide (o<=4)=false:=decide_eq_false (by omega);have HS:Hid (sD z order t none z (dO z.l t order 5)):=by
     refine .inl ⟨rfl,rfl,?_,rfl⟩;rcases HR.out with ⟨_,h⟩ | ⟨i,h,_⟩
     ·rw[h,show 5-o=0 by omega];rfl
     ·cases h
    simp only[yF];clear HR;have HK0:=HK;clear HK;go_wp2
    generalize wr=wq at*;go_loopw [10,12] (fun s10 s12 wr=>∃(r:Option Nat) (y:Zn) (n:Nat),s10= .int .i64 (yF r)/\s12= .int .i64 ((n:Int)-1)/\n<=5/\Hid (sD z order t r y (dO z.l t order n))/\Hid (GInv w wr a3 a4 n1 n2 c3 c4 y)) (fun _ s12 _=>(intOf s12+1).toNat)
    case atStart=>exact⟨none,z,5,rfl,rfl,Nat.le_refl _,HS,HK0⟩
    case round=>
     clear HS HK0;obtain⟨r,y,n,rfl,rfl,hn5,HS,HK⟩:=hrel;cases r with
     | none=>
      obtain rfl:z=y:=by
       rcases HS.out with ⟨_,h,_⟩ | ⟨i,b,h,_⟩
       ·exact h.symm
       ·cases h
      by_cases hno:order+1<=n
      ·obtain⟨m,rfl⟩:∃m,n=m+1:=⟨n-1,by omega⟩
       have e1:((m+1:Nat):Int)-1=(m:Int):=by omega
       have d1:decide ((order:Int)<=m)=true:=decide_eq_true (by omega);have d2:decide (order<=m)=true:=decide_eq_true (by omega);have hOt:=(HOT.out.mono HK.out.bw (Nat.le_refl _)).at ht;obtain⟨o1,o2⟩:=hOt;have hsz0:=(HOT.out.mono HK.out.bw (Nat.le_refl _)).sz;have hfd:Hid (dO z.l t order (m+1)=match nT z.l m (oth1 t)with | some i=>some i | none=>match nT z.l m (oth2 t)with | some i=>some i | none=>dO z.l t order m):=by
        unfold Hid
        conv=>lhs;unfold dO
        rw[if_neg (by omega)];rfl
       have ht3:(t:Int)<3:=by omega
       rw[e1];simp only[yF];go_wp2
       clear o1 o2;have hix:=fun(W:World)=>(idx2 (.int .i64 (oth1 t:Int)) (.int .i64 (oth2 t:Int)) W rfl rfl).1
       have ZI:=fun(W:World)=>(idx2 (.int .i64 (oth1 t:Int)) (.int .i64 (oth2 t:Int)) W rfl rfl).2
       generalize hO1:oth1 t=O1 at*;generalize hO2:oth2 t=O2 at*;generalize wr=wr1 at*;go_loopw [10,66] (fun s10 s66 wr=>∃j:Nat,j<=2/\s66= .int .i64 (j:Int)/\s10= .int .i64 (-1)/\Hid (GInv w wr a3 a4 n1 n2 c3 c4 z)/\Hid (1<=j->nT z.l m O1=none)/\Hid (2<=j->nT z.l m O2=none)) (fun _ s66 _=>2-(intOf s66).toNat)
       case atStart=>exact⟨0,by omega,rfl,rfl,HK,(fun h=>by omega),(fun h=>by omega)⟩
       case round=>
        obtain⟨j,hj2,rfl,rfl,JV,HN1,HN2⟩:=hrel;clear HK;obtain rfl | rfl | rfl:j=0∨j=1∨j=2:=by omega
        ·have hJ:((0:Nat):Int)<2:=by omega
         -- the inner search, at the index 0, for the type O1
         have k30:=JV.out.k3 0;have k31:=JV.out.k3 1;have k32:=JV.out.k3 2;have k33:=JV.out.k3 3;have hHi:=JV.out.hi;simp only[gB,gC,gD]at k30 k31 k32 k33;go_wp2_with fail
         refine(zJ _ _ _ _ _ _ z.f z.e z m (O1) _ JV.out.own.at (by omega)).mono ?_;rintro ev w7 ⟨rfl,hb7⟩;have HK7:=gO (JV.out.below hb7);rw[zM];have k70:=HK7.out.k3 0;have k71:=HK7.out.k3 1;have k72:=HK7.out.k3 2;have k73:=HK7.out.k3 3;have Yd:=HK7.out.hi;simp only[gB,gC,gD]at k70 k71 k72 k73;clear hb7 JV k30 k31 k32 k33;cases hlo:nT z.l m (O1)with
         | none=>
          have HLO:=gO hlo;clear hlo;simp only[yF];go_wp2
          go_roundw
          case rel=>exact⟨0+1,by omega,by go_num,rfl,HK7,(fun _=>HLO.out),(fun h=>by omega)⟩
          case measure=>simp[intOf]
         | some i=>
          have hil:i<z.l.length:=by
           obtain⟨b,hb,_⟩:=qP hlo;exact(List.getElem?_eq_some_iff.1 hb).1
          have HS2:Hid (sD z order t (some i) (z.steal z.l[i] t) (dO z.l t order m)):=by
           rcases HS.out with ⟨_,_,hu,hd⟩ | ⟨i',b',hr,_⟩
           ·refine AY hz ht hu (hd.trans ?_) hil _;rw[hfd.out];rw[hlo]
           ·cases hr
          have hfe:=Zn.oK hz (b:=z.l[i]) ht;have HFE:=gO hfe;clear hlo hfe;simp only[yF];go_wp2_with fail
          refine(oK (w.heap.size+2) _ _ _ _ _ _ z i t hil _ HK7.out.own hz ht Yd).mono ?_;rintro ev w8 ⟨rfl,AZ,hb8⟩;have HK8:=gO (HK7.out.Vl AZ hb8 HFE.out.2.2.1 HFE.out.2.2.2.1);clear AZ hb8 HFE HK7 k70 k71 k72 k73
          dsimp only
          go_wp2
          go_roundw
          case rel=>exact⟨some i,_,m,rfl,by go_num,by omega,HS2,HK8⟩
          case measure=>simp[intOf]
        ·have hJ:((1:Nat):Int)<2:=by omega
         -- the inner search, at the index 1, for the type O2
         have k30:=JV.out.k3 0;have k31:=JV.out.k3 1;have k32:=JV.out.k3 2;have k33:=JV.out.k3 3;have hHi:=JV.out.hi;simp only[gB,gC,gD]at k30 k31 k32 k33;go_wp2_with fail
         refine(zJ _ _ _ _ _ _ z.f z.e z m (O2) _ JV.out.own.at (by omega)).mono ?_;rintro ev w7 ⟨rfl,hb7⟩;have HK7:=gO (JV.out.below hb7);rw[zM];have k70:=HK7.out.k3 0;have k71:=HK7.out.k3 1;have k72:=HK7.out.k3 2;have k73:=HK7.out.k3 3;have Yd:=HK7.out.hi;simp only[gB,gC,gD]at k70 k71 k72 k73;clear hb7 JV k30 k31 k32 k33;cases hlo:nT z.l m (O2)with
         | none=>
          have HLO:=gO hlo;clear hlo;simp only[yF];go_wp2
          go_roundw
          case rel=>exact⟨1+1,by omega,by go_num,rfl,HK7,(fun _=>HN1.out (by omega)),(fun _=>HLO.out)⟩
          case measure=>simp[intOf]
         | some i=>
          have hil:i<z.l.length:=by
           obtain⟨b,hb,_⟩:=qP hlo;exact(List.getElem?_eq_some_iff.1 hb).1
          have HS2:Hid (sD z order t (some i) (z.steal z.l[i] t) (dO z.l t order m)):=by
           rcases HS.out with ⟨_,_,hu,hd⟩ | ⟨i',b',hr,_⟩
           ·refine AY hz ht hu (hd.trans ?_) hil _;rw[hfd.out];rw[HN1.out (by omega),hlo]
           ·cases hr
          have hfe:=Zn.oK hz (b:=z.l[i]) ht;have HFE:=gO hfe;clear hlo hfe;simp only[yF];go_wp2_with fail
          refine(oK (w.heap.size+2) _ _ _ _ _ _ z i t hil _ HK7.out.own hz ht Yd).mono ?_;rintro ev w8 ⟨rfl,AZ,hb8⟩;have HK8:=gO (HK7.out.Vl AZ hb8 HFE.out.2.2.1 HFE.out.2.2.2.1);clear AZ hb8 HFE HK7 k70 k71 k72 k73
          dsimp only
          go_wp2
          go_roundw
          case rel=>exact⟨some i,_,m,rfl,by go_num,by omega,HS2,HK8⟩
          case measure=>simp[intOf]
        ·have HS2:Hid (sD z order t none z (dO z.l t order m)):=by
          rcases HS.out with ⟨_,_,hu,hd⟩ | ⟨i',b',hr,_⟩
          ·refine .inl ⟨rfl,rfl,hu,hd.trans ?_⟩;rw[hfd.out,HN1.out (by omega),HN2.out (by omega)]
          ·cases hr
         go_wp2
         go_roundw
         case rel=>exact⟨none,z,m,rfl,by go_num,by omega,HS2,JV⟩
         case measure=>simp[intOf]
      ·have d1:decide ((order:Int)<=(n:Int)-1)=false:=decide_eq_false (by omega);have d5:¬(order:Int)<=(n:Int)-1:=by omega
       have HN:Hid (z.take order t=none):=by
        rcases HS.out with ⟨_,_,hu,hd⟩ | ⟨i',b',hr,_⟩
        ·unfold Hid Zn.take;rw[hu,hd];have:dO z.l t order n=none:=by
          cases n with
          | zero=>rfl
          | succ m=>unfold dO;rw[if_pos (by omega)]
         rw[this]
        ·cases hr
       have x6:=HK.out.k6;have xf6:=HK.out.f6;have hHi:=HK.out.hi;simp only[yF];go_wp2
       refine bodyPost_ret (v:= .tuple #[.agg #[.int .i64 0,.int .i64 0,.slice none 0 0,.slice none 0 0],.int .i64 0,.int .i64 6]) (by simp[results,Tryz.results178,go_sem,x6]) rfl (.inl ⟨HN.out,rfl,?_⟩);exact Below.setCell (Below.setCell (Below.setCell (Below.setCell HK.out.bw (by simp only;omega) _) (by simp only;omega) _) (by simp only;omega) _) (by simp only;omega) _
     | some i=>
      simp only[yF]
      -- the block is found, in the zone y as it is by now
      obtain⟨b,hib,hcut,qG,hyf,hye,hyb,NP,hyl,hll⟩:∃b,z.take order t=y.cut i order/\z.take order t=y.cut i order/\y.ok/\y.f=z.f/\y.e=z.e/\y.l[i]? =some b/\order<=b.o/\y.y.length=z.y.length/\y.l.length=z.l.length:=by
       rcases HS.out with ⟨h,_⟩ | ⟨i',b,h,h1,h2,h3,h4,h5,h6,h7,h8⟩
       ·cases h
       ·obtain rfl:i=i':=by simpa using h
        exact⟨b,h1,h1,h2,h3,h4,h5,h6,h7,h8⟩
      have HYF:=gO hyf;have HYE:=gO hye;clear hyf hye;obtain⟨hil,hbi⟩:=List.getElem?_eq_some_iff.1 hyb;obtain⟨bb,off,hb1,hbb,hc⟩:=aN aJ (by decide) HK.out.own.at.r1 hil;obtain rfl:=hb1;obtain⟨hc0,hc1,hc2⟩:=bD hc;rw[hbi]at hc0 hc1 hc2;have hbm:b∈y.l:=by rw[<- hbi];exact gL hil
      have hbf:=qG.2.fit b hbm;have hapart:∀x∈y.l.eraseIdx i,apartB b.a b.o x:=fun x hx=>by
       obtain⟨j,hj,hne,rfl⟩:=List.mem_eraseIdx_iff_getElem.1 hx;have:=xR qG.2.sep hj hil hne;rw[hbi]at this;exact this
      have aAN:Hid (z.take order t=some ({y with l:=bZ (y.l.eraseIdx i) b.a b.t order b.o},b.a)):=by
       unfold Hid;rw[hcut];unfold Zn.cut;rw[hyb]
      have wW:Hid (rQ y.f y.e (y.l.eraseIdx i)):=qG.2.sublist (List.eraseIdx_sublist _ _);have Oo:Hid (cZ y.f y.e b.a b.o):=hbf.1;have Vh:=gO hapart;have hl1:=HK.out.own.l1;have hl2:=HK.out.own.l2;have hin:(i:Int)<n1:=by omega
      have hin2:i<n1:=by omega
      have k32:=HK.out.k3 2;have hHi:=HK.out.hi;simp only[gB,gC,gD]at k32;have hwr0:w.heap.size<wr.heap.size:=by omega
      have hbn:=aF wr (.cells #[.int .i64 (b.a:Int),.int .i64 (b.o:Int),.int .i64 (b.t:Int)] 63);have HQ:Hid (qY w (wr.alloc (.cells #[.int .i64 (b.a:Int),.int .i64 (b.o:Int),.int .i64 (b.t:Int)] 63)) wr.heap.size (some ⟨bb,off,none⟩) a4 n1 n2 c3 c4 y b.a b.o b.t):=
       ⟨HK.out.below hbn,aW wr _ _,eY wr _ _,hHi,by simp,HK.out.own.ne (.inr (Nat.le_refl _))⟩
      clear hbi hyb hapart hc hbm hcut hib HS;go_wp2_with fail
      clear hc0 hc1 hc2 k32 HK hbn;generalize wr.alloc _=w7 at*;generalize wr.heap.size=B at*;refine(qV (w.heap.size+2) _ _ _ y.l i _ HQ.out.g.own.o1 hin2 (by omega) HQ.out.g.hi).mono ?_;rintro ev w8 ⟨rfl,hownd,hgd⟩;have HM:=gO (HQ.out.grown hgd (l':=y.l.eraseIdx i) (by rw[List.length_eraseIdx_of_lt hil,hl1]) hownd (.inl rfl));have HF:=gO HM.out.put3;have m32:=HM.out.k3 2;have f32:=HM.out.f3 2;simp only[gB,gC,gD]at m32;clear hownd hgd HQ;go_wp2
      clear m32 f32 HM;generalize w8.setCell _ _=w9 at*;go_loopw [16,17] (fun _ _ wr=>∃(l:List Bk) (o:Nat) (b1:Option Addr) (m1 d1:Nat),Hid (qY w wr B b1 a4 m1 n2 d1 c4 {y with l:=l} b.a o b.t)/\order<=o/\Hid (rQ y.f y.e l)/\Hid (cZ y.f y.e b.a o)/\Hid (∀x∈l,apartB b.a o x)/\Hid (bZ (y.l.eraseIdx i) b.a b.t order b.o=bZ l b.a b.t order o)) (fun _ _ wr=>((wr.cell? ⟨B,1,none⟩).map fun v=>(intOf v).toNat).getD 0)
      case atStart=>exact⟨y.l.eraseIdx i,b.o,_,n1-1,c3,HF,NP,wW,Oo,Vh,rfl⟩
      case round=>
       clear HF wW Oo Vh;obtain⟨l,o',b1,m1,d1,HQ,hoo,wW,Oo,Vh,Ot⟩:=hrel;have hlo:=HQ.out.lo;have hBr:=HQ.out.hB;have aFz:=HQ.out.g.hi;have k150:=HQ.out.k15 0;have k151:=HQ.out.k15 1;have k152:=HQ.out.k15 2;have f151:=HQ.out.f15 1;simp only[gB,gC,gD]at k150 k151 k152;by_cases hgt:order<o'
       ·obtain⟨m,rfl⟩:∃m,o'=m+1:=⟨o'-1,by omega⟩
        have dgt:(order:Int)<(m:Int)+1:=by omega
        have hm1:((m:Int)+1)-1=(m:Int):=by omega
        have HQ2:=gO (HQ.out.put15 1 (m:Int) (a':=b.a) (o':=m) (t':=b.t) rfl);obtain⟨s1,s2,s3⟩:=CU qG.1.e16 hbf.2 wW.out Oo.out Vh.out;have hm4:m+1<=4:=Oo.out.1;have JW:=Oo.out;obtain⟨H,hH⟩:∃H,(⟨b.a,m,b.t⟩:Bk).fin=H:=⟨_,rfl⟩
        have hH2:b.a+2^m=H:=hH;have aFB:H<=300:=by have:=uF qG.1.e16 s2;have:=qG.1.e2;omega
        rw[hH2]at s1 s3;have Qr:Hid (bZ l b.a b.t order (m+1)=bZ (bF l ⟨H,m,b.t⟩) b.a b.t order m):=by
         unfold Hid
         conv=>lhs;unfold bZ
         rw[if_pos (by omega),hH2]
        have hlm:l.length=m1:=HQ.out.g.own.l1;have ZG:l.length<=256:=gQ (rQ.length_le wW.out (fun x hx=>(wW.out.fit x hx).1.2.2.1)) qG.1.e2;have HS1:=gO s1;have HS2:=gO s2;have HS3:=gO s3;clear s1 s2 s3;go_wp2_with fail
        have k15:=HQ2.out.k15;have hB2:=HQ2.out.hB;have aFC:=qG.1.e2;clear k150 k151 k152 f151;generalize wr.setCell _ _=wv at*;have k150:=k15 0;have k151:=k15 1;have k152:=k15 2;simp only[gB,gC,gD]at k150 k151 k152;have hBne:B≠wv.heap.size:=by omega
        go_region_held3 (fun w'=>w'.cell? ⟨B,0,none⟩=some (.int .i64 (b.a:Int))/\w'.cell? ⟨B,1,none⟩=some (.int .i64 (m:Int))/\w'.cell? ⟨B,2,none⟩=some (.int .i64 (b.t:Int))) (first | exact⟨k150,k151,k152⟩ | exact⟨q0,q1,q2⟩ | exact⟨aA (aA (aA Hz hBne _ _) hBne _ _) hBne _ _ 0,aA (aA (aA Hz hBne _ _) hBne _ _) hBne _ _ 1,aA (aA (aA Hz hBne _ _) hBne _ _) hBne _ _ 2⟩ | go_keep) (first | (go_at_call 164;refine(jQ ⟨b.a,m,b.t⟩ _ (by show m<=4;omega) (by show b.a<=1000;have:=JW.2.2.1;omega)).mono ?_;rintro ev wk ⟨rfl,hbk⟩;have zO:=Below.step ((Below.refl wv.heap.size wv).drew) hbk;have q0:=(zO.cell (p:=⟨B,0,none⟩) hB2).trans k150;have q1:=(zO.cell (p:=⟨B,1,none⟩) hB2).trans k151;have q2:=(zO.cell (p:=⟨B,2,none⟩) hB2).trans k152;have Ud:B<wk.heap.size:=gI hB2 zO.size) | (go_at_call 164;refine(jQ ⟨b.a,m,b.t⟩ _ (by show m<=4;omega) (by show b.a<=1000;have:=JW.2.2.1;omega)).mono ?_;rintro ev wk ⟨rfl,hbk⟩;have hbB:=Below.step (aF wv (.cells #[.int .i64 0,.int .i64 0,.int .i64 0] 63)) (Below.step ((Below.refl _ _).drew) hbk);have q0:=(hbB.cell (p:=⟨B,0,none⟩) hB2).trans k150;have q1:=(hbB.cell (p:=⟨B,1,none⟩) hB2).trans k151;have q2:=(hbB.cell (p:=⟨B,2,none⟩) hB2).trans k152;have Ud:B<wk.heap.size:=gI hB2 hbB.size;have Hz:=aB k15 hB2 hbB;have K16:=aB (aW wv #[.int .i64 0,.int .i64 0,.int .i64 0] 63) (show wv.heap.size<(wv.alloc (.cells #[.int .i64 0,.int .i64 0,.int .i64 0] 63)).heap.size by simp) (Below.step ((Below.refl _ _).drew) hbk);have F16:=aH (eY wv #[.int .i64 0,.int .i64 0,.int .i64 0] 63) (show wv.heap.size<(wv.alloc (.cells #[.int .i64 0,.int .i64 0,.int .i64 0] 63)).heap.size by simp) (Below.step ((Below.refl _ _).drew) hbk);have hGk:wv.heap.size<wk.heap.size:=gI (show wv.heap.size<(wv.alloc (.cells #[.int .i64 0,.int .i64 0,.int .i64 0] 63)).heap.size by simp) (Below.step ((Below.refl _ _).drew) hbk).size))
        all_goals rename_i hHeld
        all_goals clear hHeld
        ·have HQ4:Hid (qY w (wk.alloc (.cells #[.int .i64 (H:Int),.int .i64 (m:Int),.int .i64 (b.t:Int)] 63)) B b1 a4 m1 n2 d1 c4 {y with l:=l} b.a m b.t):=(HQ2.out.below zO).below (aF wk _);have oU:=aW wk #[.int .i64 (H:Int),.int .i64 (m:Int),.int .i64 (b.t:Int)] 63;have Ou:wk.heap.size<(wk.alloc (.cells #[.int .i64 (H:Int),.int .i64 (m:Int),.int .i64 (b.t:Int)] 63)).heap.size:=by simp
         clear q0 q1 q2 zO hbk HQ2 k150 k151 k152 k15;generalize wk.heap.size=G at*;generalize wk.alloc _=wh at*
         -- the half is put back, from the world wh
         have k30:=HQ4.out.g.k3 0;have k31:=HQ4.out.g.k3 1;have k32:=HQ4.out.g.k3 2;have k33:=HQ4.out.g.k3 3;have aAO:=HQ4.out.g.hi;have k160:=oU 0;have k161:=oU 1;have k162:=oU 2;simp only[gB,gC,gD]at k30 k31 k32 k33 k160 k161 k162;go_wp2_with fail
         refine(find_ok _ _ _ _ _ _ y.f y.e {y with l:=l} H _ HQ4.out.g.own.at (by omega) wW.out.rise (fun x hx=>by have:=(wW.out.fit x hx).1.2.2.1;have:=qG.1.e2;omega) (by omega)).mono ?_;rintro ev w8 ⟨rfl,hb8⟩;have HQ5:=gO (HQ4.out.below hb8);have sG:=aB oU Ou hb8;have Ov:=gI Ou hb8.size;clear hb8 HQ4 oU k30 k31 k32 k33 k160 k161 k162 Ou;have k32:=HQ5.out.g.k3 2;have aAP:=HQ5.out.g.hi;have k160:=sG 0;have k161:=sG 1;have k162:=sG 2;simp only[gB,gC,gD]at k32 k160 k161 k162;have Ox:w.heap.size<w8.heap.size:=by omega
         go_wp2_with fail
         have hbn:=aF w8 (.cells #[.int .i64 (H:Int),.int .i64 (m:Int),.int .i64 (b.t:Int)] 63);have HQ6:=gO (HQ5.out.below hbn);have hnew:(w8.alloc (.cells #[.int .i64 (H:Int),.int .i64 (m:Int),.int .i64 (b.t:Int)] 63)).heap[w8.heap.size]? =some (.cells (aO ⟨H,m,b.t⟩).toArray 63 (0,0)):=heap_alloc_new w8 _;have hnn:=(HQ5.out.g.own.ne (g:=w8.heap.size) (.inr (Nat.le_refl _))).1;clear HQ5 k32 k160 k161 k162 sG Ov Ox;have hlbm:lb l H<=m1:=by have:=lD l H;omega
         generalize w8.heap.size=G2 at*;generalize w8.alloc _=wn at*;refine(mV (w.heap.size+2) _ _ _ G2 (lb l H) l ⟨H,m,b.t⟩ _ HQ6.out.g.own.o1 hlbm (by omega) HQ6.out.g.hi hnew (fun e=>hnn e.symm)).mono ?_;rintro ev wi ⟨e1,f1,rfl,lH,hgi⟩;have qX:(bF l ⟨H,m,b.t⟩).length=m1+1:=by unfold bF;rw[List.length_append,List.length_cons,List.length_take,List.length_drop];have:=lD l H;simp only;omega
         have HM2:=gO (HQ6.out.grown hgi (l':=bF l ⟨H,m,b.t⟩) qX lH (.inr ⟨by omega,fun x hx=>yE (HS3.out x hx)⟩));have HF2:=gO HM2.out.put3;have m32:=HM2.out.k3 2;have f32:=HM2.out.f3 2;simp only[gB,gC,gD]at m32;clear HQ6 hnew hnn lH hgi;go_wp2
         go_roundw
         case rel=>exact⟨bF l ⟨H,m,b.t⟩,m,e1,m1+1,f1,HF2,by omega,HS1,HS2,HS3,Ot.out.trans Qr.out⟩
         case measure=>
          rw[show wr.cell? ⟨B,1,none⟩=some (.int .i64 ((m+1:Nat):Int))from HQ.out.k15 1,show(wi.setCell _ _).cell? ⟨B,1,none⟩=some (.int .i64 (m:Int))from HF2.out.k15 1];simp[intOf]
        ·have Ia:=HQ2.out.g.own.ne (g:=wv.heap.size) (.inr (Nat.le_refl _));have hG2:w.heap.size+2<=wv.heap.size:=HQ2.out.g.hi;have HQ4:Hid (qY w (((wk.setCell ⟨wv.heap.size,0,none⟩ (.int .i64 (H:Int))).setCell ⟨wv.heap.size,1,none⟩ (.int .i64 (m:Int))).setCell ⟨wv.heap.size,2,none⟩ (.int .i64 (b.t:Int))) B b1 a4 m1 n2 d1 c4 {y with l:=l} b.a m b.t):=(((HQ2.out.below hbB).zN hG2 (Ne.symm hBne) Ia _ _).zN hG2 (Ne.symm hBne) Ia _ _).zN hG2 (Ne.symm hBne) Ia _ _;have oU:∀o,(((wk.setCell ⟨wv.heap.size,0,none⟩ (.int .i64 (H:Int))).setCell ⟨wv.heap.size,1,none⟩ (.int .i64 (m:Int))).setCell ⟨wv.heap.size,2,none⟩ (.int .i64 (b.t:Int))).cell? ⟨wv.heap.size,o,none⟩=(#[.int .i64 (H:Int),.int .i64 (m:Int),.int .i64 (b.t:Int)]:Array Value)[o]? :=aI (aI (aI K16 0 _) 1 _) 2 _;have Ou:wv.heap.size<(((wk.setCell ⟨wv.heap.size,0,none⟩ (.int .i64 (H:Int))).setCell ⟨wv.heap.size,1,none⟩ (.int .i64 (m:Int))).setCell ⟨wv.heap.size,2,none⟩ (.int .i64 (b.t:Int))).heap.size:=by simpa using hGk
         clear q0 q1 q2 hbB hbk HQ2 k150 k151 k152 k15 Hz K16 F16 hGk Ia hG2 hBne;generalize ((wk.setCell _ _).setCell _ _).setCell _ _=wh at*;generalize wv.heap.size=G at*
         -- the half is put back, from the world wh
         have k30:=HQ4.out.g.k3 0;have k31:=HQ4.out.g.k3 1;have k32:=HQ4.out.g.k3 2;have k33:=HQ4.out.g.k3 3;have aAO:=HQ4.out.g.hi;have k160:=oU 0;have k161:=oU 1;have k162:=oU 2;simp only[gB,gC,gD]at k30 k31 k32 k33 k160 k161 k162;go_wp2_with fail
         refine(find_ok _ _ _ _ _ _ y.f y.e {y with l:=l} H _ HQ4.out.g.own.at (by omega) wW.out.rise (fun x hx=>by have:=(wW.out.fit x hx).1.2.2.1;have:=qG.1.e2;omega) (by omega)).mono ?_;rintro ev w8 ⟨rfl,hb8⟩;have HQ5:=gO (HQ4.out.below hb8);have sG:=aB oU Ou hb8;have Ov:=gI Ou hb8.size;clear hb8 HQ4 oU k30 k31 k32 k33 k160 k161 k162 Ou;have k32:=HQ5.out.g.k3 2;have aAP:=HQ5.out.g.hi;have k160:=sG 0;have k161:=sG 1;have k162:=sG 2;simp only[gB,gC,gD]at k32 k160 k161 k162;have Ox:w.heap.size<w8.heap.size:=by omega
         go_wp2_with fail
         have hbn:=aF w8 (.cells #[.int .i64 (H:Int),.int .i64 (m:Int),.int .i64 (b.t:Int)] 63);have HQ6:=gO (HQ5.out.below hbn);have hnew:(w8.alloc (.cells #[.int .i64 (H:Int),.int .i64 (m:Int),.int .i64 (b.t:Int)] 63)).heap[w8.heap.size]? =some (.cells (aO ⟨H,m,b.t⟩).toArray 63 (0,0)):=heap_alloc_new w8 _;have hnn:=(HQ5.out.g.own.ne (g:=w8.heap.size) (.inr (Nat.le_refl _))).1;clear HQ5 k32 k160 k161 k162 sG Ov Ox;have hlbm:lb l H<=m1:=by have:=lD l H;omega
         generalize w8.heap.size=G2 at*;generalize w8.alloc _=wn at*;refine(mV (w.heap.size+2) _ _ _ G2 (lb l H) l ⟨H,m,b.t⟩ _ HQ6.out.g.own.o1 hlbm (by omega) HQ6.out.g.hi hnew (fun e=>hnn e.symm)).mono ?_;rintro ev wi ⟨e1,f1,rfl,lH,hgi⟩;have qX:(bF l ⟨H,m,b.t⟩).length=m1+1:=by unfold bF;rw[List.length_append,List.length_cons,List.length_take,List.length_drop];have:=lD l H;simp only;omega
         have HM2:=gO (HQ6.out.grown hgi (l':=bF l ⟨H,m,b.t⟩) qX lH (.inr ⟨by omega,fun x hx=>yE (HS3.out x hx)⟩));have HF2:=gO HM2.out.put3;have m32:=HM2.out.k3 2;have f32:=HM2.out.f3 2;simp only[gB,gC,gD]at m32;clear HQ6 hnew hnn lH hgi;go_wp2
         go_roundw
         case rel=>exact⟨bF l ⟨H,m,b.t⟩,m,e1,m1+1,f1,HF2,by omega,HS1,HS2,HS3,Ot.out.trans Qr.out⟩
         case measure=>
          rw[show wr.cell? ⟨B,1,none⟩=some (.int .i64 ((m+1:Nat):Int))from HQ.out.k15 1,show(wi.setCell _ _).cell? ⟨B,1,none⟩=some (.int .i64 (m:Int))from HF2.out.k15 1];simp[intOf]
       ·obtain rfl:o'=order:=by omega
        have dgt:¬(o':Int)<o':=by omega
        have k30:=HQ.out.g.k3 0;have k31:=HQ.out.g.k3 1;have k32:=HQ.out.g.k3 2;have k33:=HQ.out.g.k3 3;have k6:=HQ.out.g.k6;have f6:=HQ.out.g.f6;simp only[gB,gC,gD]at k30 k31 k32 k33;go_wp2_with fail
        have hsd:bZ l b.a b.t o' o'=l:=by
         cases o' with
         | zero=>rfl
         | succ o'=>unfold bZ;rw[if_neg (by omega)]
        have HTK:Hid (z.take o' t=some ({y with l:=l},b.a)):=by
         unfold Hid;rw[aAN.out,Ot.out,hsd]
        clear hsd
        go_region
        go_wp2
        refine bodyPost_ret (v:= .tuple #[.agg #[.int .i64 y.f,.int .i64 y.e,.slice b1 m1 d1,.slice a4 n2 c4],.int .i64 b.a,.int .i64 0]) (by simp[results,Tryz.results178,go_sem,k6]) rfl (.inr ⟨{y with l:=l},b.a,b1,a4,m1,d1,c4,HTK.out,by rw[HYF.out,HYE.out],?_,?_⟩)
        ·have no:=HQ.out.g.own.ne (g:=w.heap.size+1) (.inl (by omega));exact(((((HQ.out.g.own.set no _ _).set no _ _).set no _ _).set no _ _).below ((Below.refl _ _).drew)).base (by omega)
        ·exact Below.drew (Below.setCell (Below.setCell (Below.setCell (Below.setCell HQ.out.g.bw (by simp only;omega) _) (by simp only;omega) _) (by simp only;omega) _) (by simp only;omega) _)
  | some i=>
   have HS:Hid (sD z order t (some i) z (dO z.l t order 5)):=by
    rcases HR.out with ⟨h,_⟩ | ⟨j,h,hj⟩
    ·cases h
    ·obtain rfl:i=j:=by simpa using h
     exact RY hz hj _
   simp only[yF];have HK0:=HK;clear HK;go_wp2
   generalize wr=wq at*;go_loopw [10,12] (fun s10 s12 wr=>∃(y:Zn) (n:Nat),s10= .int .i64 (i:Int)/\s12= .int .i64 (n:Int)/\Hid (sD z order t (some i) y (dO z.l t order 5))/\Hid (GInv w wr a3 a4 n1 n2 c3 c4 y)) (fun _ _ _=>0)
   case atStart=>exact⟨z,4,rfl,rfl,HS,HK0⟩
   case round=>
    clear HS HK0;obtain⟨y,n,rfl,rfl,HS,HK⟩:=hrel;have hi0:¬(i:Int)<0:=by omega
    first
     |skip
      have hdone:=trivial
      -- the block is found, in the zone y as it is by now
      obtain⟨b,hib,hcut,qG,hyf,hye,hyb,NP,hyl,hll⟩:∃b,z.take order t=y.cut i order/\z.take order t=y.cut i order/\y.ok/\y.f=z.f/\y.e=z.e/\y.l[i]? =some b/\order<=b.o/\y.y.length=z.y.length/\y.l.length=z.l.length:=by
       rcases HS.out with ⟨h,_⟩ | ⟨i',b,h,h1,h2,h3,h4,h5,h6,h7,h8⟩
       ·cases h
       ·obtain rfl:i=i':=by simpa using h
        exact⟨b,h1,h1,h2,h3,h4,h5,h6,h7,h8⟩
      have HYF:=gO hyf;have HYE:=gO hye;clear hyf hye;obtain⟨hil,hbi⟩:=List.getElem?_eq_some_iff.1 hyb;obtain⟨bb,off,hb1,hbb,hc⟩:=aN aJ (by decide) HK.out.own.at.r1 hil;obtain rfl:=hb1;obtain⟨hc0,hc1,hc2⟩:=bD hc;rw[hbi]at hc0 hc1 hc2;have hbm:b∈y.l:=by rw[<- hbi];exact gL hil
      have hbf:=qG.2.fit b hbm;have hapart:∀x∈y.l.eraseIdx i,apartB b.a b.o x:=fun x hx=>by
       obtain⟨j,hj,hne,rfl⟩:=List.mem_eraseIdx_iff_getElem.1 hx;have:=xR qG.2.sep hj hil hne;rw[hbi]at this;exact this
      have aAN:Hid (z.take order t=some ({y with l:=bZ (y.l.eraseIdx i) b.a b.t order b.o},b.a)):=by
       unfold Hid;rw[hcut];unfold Zn.cut;rw[hyb]
      have wW:Hid (rQ y.f y.e (y.l.eraseIdx i)):=qG.2.sublist (List.eraseIdx_sublist _ _);have Oo:Hid (cZ y.f y.e b.a b.o):=hbf.1;have Vh:=gO hapart;have hl1:=HK.out.own.l1;have hl2:=HK.out.own.l2;have hin:(i:Int)<n1:=by omega
      have hin2:i<n1:=by omega
      have k32:=HK.out.k3 2;have hHi:=HK.out.hi;simp only[gB,gC,gD]at k32;have hwr0:w.heap.size<wr.heap.size:=by omega
      have hbn:=aF wr (.cells #[.int .i64 (b.a:Int),.int .i64 (b.o:Int),.int .i64 (b.t:Int)] 63);have HQ:Hid (qY w (wr.alloc (.cells #[.int .i64 (b.a:Int),.int .i64 (b.o:Int),.int .i64 (b.t:Int)] 63)) wr.heap.size (some ⟨bb,off,none⟩) a4 n1 n2 c3 c4 y b.a b.o b.t):=
       ⟨HK.out.below hbn,aW wr _ _,eY wr _ _,hHi,by simp,HK.out.own.ne (.inr (Nat.le_refl _))⟩
      clear hbi hyb hapart hc hbm hcut hib HS;go_wp2_with fail
      clear hc0 hc1 hc2 k32 HK hbn;generalize wr.alloc _=w7 at*;generalize wr.heap.size=B at*;refine(qV (w.heap.size+2) _ _ _ y.l i _ HQ.out.g.own.o1 hin2 (by omega) HQ.out.g.hi).mono ?_;rintro ev w8 ⟨rfl,hownd,hgd⟩;have HM:=gO (HQ.out.grown hgd (l':=y.l.eraseIdx i) (by rw[List.length_eraseIdx_of_lt hil,hl1]) hownd (.inl rfl));have HF:=gO HM.out.put3;have m32:=HM.out.k3 2;have f32:=HM.out.f3 2;simp only[gB,gC,gD]at m32;clear hownd hgd HQ;go_wp2
      clear m32 f32 HM;generalize w8.setCell _ _=w9 at*;go_loopw [16,17] (fun _ _ wr=>∃(l:List Bk) (o:Nat) (b1:Option Addr) (m1 d1:Nat),Hid (qY w wr B b1 a4 m1 n2 d1 c4 {y with l:=l} b.a o b.t)/\order<=o/\Hid (rQ y.f y.e l)/\Hid (cZ y.f y.e b.a o)/\Hid (∀x∈l,apartB b.a o x)/\Hid (bZ (y.l.eraseIdx i) b.a b.t order b.o=bZ l b.a b.t order o)) (fun _ _ wr=>((wr.cell? ⟨B,1,none⟩).map fun v=>(intOf v).toNat).getD 0)
      case atStart=>exact⟨y.l.eraseIdx i,b.o,_,n1-1,c3,HF,NP,wW,Oo,Vh,rfl⟩
      case round=>
       clear HF wW Oo Vh;obtain⟨l,o',b1,m1,d1,HQ,hoo,wW,Oo,Vh,Ot⟩:=hrel;have hlo:=HQ.out.lo;have hBr:=HQ.out.hB;have aFz:=HQ.out.g.hi;have k150:=HQ.out.k15 0;have k151:=HQ.out.k15 1;have k152:=HQ.out.k15 2;have f151:=HQ.out.f15 1;simp only[gB,gC,gD]at k150 k151 k152;by_cases hgt:order<o'
       ·obtain⟨m,rfl⟩:∃m,o'=m+1:=⟨o'-1,by omega⟩
        have dgt:(order:Int)<(m:Int)+1:=by omega
        have hm1:((m:Int)+1)-1=(m:Int):=by omega
        have HQ2:=gO (HQ.out.put15 1 (m:Int) (a':=b.a) (o':=m) (t':=b.t) rfl);obtain⟨s1,s2,s3⟩:=CU qG.1.e16 hbf.2 wW.out Oo.out Vh.out;have hm4:m+1<=4:=Oo.out.1;have JW:=Oo.out;obtain⟨H,hH⟩:∃H,(⟨b.a,m,b.t⟩:Bk).fin=H:=⟨_,rfl⟩
        have hH2:b.a+2^m=H:=hH;have aFB:H<=300:=by have:=uF qG.1.e16 s2;have:=qG.1.e2;omega
        rw[hH2]at s1 s3;have Qr:Hid (bZ l b.a b.t order (m+1)=bZ (bF l ⟨H,m,b.t⟩) b.a b.t order m):=by
         unfold Hid
         conv=>lhs;unfold bZ
         rw[if_pos (by omega),hH2]
        have hlm:l.length=m1:=HQ.out.g.own.l1;have ZG:l.length<=256:=gQ (rQ.length_le wW.out (fun x hx=>(wW.out.fit x hx).1.2.2.1)) qG.1.e2;have HS1:=gO s1;have HS2:=gO s2;have HS3:=gO s3;clear s1 s2 s3;go_wp2_with fail
        have k15:=HQ2.out.k15;have hB2:=HQ2.out.hB;have aFC:=qG.1.e2;clear k150 k151 k152 f151;generalize wr.setCell _ _=wv at*;have k150:=k15 0;have k151:=k15 1;have k152:=k15 2;simp only[gB,gC,gD]at k150 k151 k152;have hBne:B≠wv.heap.size:=by omega
        go_region_held3 (fun w'=>w'.cell? ⟨B,0,none⟩=some (.int .i64 (b.a:Int))/\w'.cell? ⟨B,1,none⟩=some (.int .i64 (m:Int))/\w'.cell? ⟨B,2,none⟩=some (.int .i64 (b.t:Int))) (first | exact⟨k150,k151,k152⟩ | exact⟨q0,q1,q2⟩ | exact⟨aA (aA (aA Hz hBne _ _) hBne _ _) hBne _ _ 0,aA (aA (aA Hz hBne _ _) hBne _ _) hBne _ _ 1,aA (aA (aA Hz hBne _ _) hBne _ _) hBne _ _ 2⟩ | go_keep) (first | (go_at_call 164;refine(jQ ⟨b.a,m,b.t⟩ _ (by show m<=4;omega) (by show b.a<=1000;have:=JW.2.2.1;omega)).mono ?_;rintro ev wk ⟨rfl,hbk⟩;have zO:=Below.step ((Below.refl wv.heap.size wv).drew) hbk;have q0:=(zO.cell (p:=⟨B,0,none⟩) hB2).trans k150;have q1:=(zO.cell (p:=⟨B,1,none⟩) hB2).trans k151;have q2:=(zO.cell (p:=⟨B,2,none⟩) hB2).trans k152;have Ud:B<wk.heap.size:=gI hB2 zO.size) | (go_at_call 164;refine(jQ ⟨b.a,m,b.t⟩ _ (by show m<=4;omega) (by show b.a<=1000;have:=JW.2.2.1;omega)).mono ?_;rintro ev wk ⟨rfl,hbk⟩;have hbB:=Below.step (aF wv (.cells #[.int .i64 0,.int .i64 0,.int .i64 0] 63)) (Below.step ((Below.refl _ _).drew) hbk);have q0:=(hbB.cell (p:=⟨B,0,none⟩) hB2).trans k150;have q1:=(hbB.cell (p:=⟨B,1,none⟩) hB2).trans k151;have q2:=(hbB.cell (p:=⟨B,2,none⟩) hB2).trans k152;have Ud:B<wk.heap.size:=gI hB2 hbB.size;have Hz:=aB k15 hB2 hbB;have K16:=aB (aW wv #[.int .i64 0,.int .i64 0,.int .i64 0] 63) (show wv.heap.size<(wv.alloc (.cells #[.int .i64 0,.int .i64 0,.int .i64 0] 63)).heap.size by simp) (Below.step ((Below.refl _ _).drew) hbk);have F16:=aH (eY wv #[.int .i64 0,.int .i64 0,.int .i64 0] 63) (show wv.heap.size<(wv.alloc (.cells #[.int .i64 0,.int .i64 0,.int .i64 0] 63)).heap.size by simp) (Below.step ((Below.refl _ _).drew) hbk);have hGk:wv.heap.size<wk.heap.size:=gI (show wv.heap.size<(wv.alloc (.cells #[.int .i64 0,.int .i64 0,.int .i64 0] 63)).heap.size by simp) (Below.step ((Below.refl _ _).drew) hbk).size))
        all_goals rename_i hHeld
        all_goals clear hHeld
        ·have HQ4:Hid (qY w (wk.alloc (.cells #[.int .i64 (H:Int),.int .i64 (m:Int),.int .i64 (b.t:Int)] 63)) B b1 a4 m1 n2 d1 c4 {y with l:=l} b.a m b.t):=(HQ2.out.below zO).below (aF wk _);have oU:=aW wk #[.int .i64 (H:Int),.int .i64 (m:Int),.int .i64 (b.t:Int)] 63;have Ou:wk.heap.size<(wk.alloc (.cells #[.int .i64 (H:Int),.int .i64 (m:Int),.int .i64 (b.t:Int)] 63)).heap.size:=by simp
         clear q0 q1 q2 zO hbk HQ2 k150 k151 k152 k15;generalize wk.heap.size=G at*;generalize wk.alloc _=wh at*
         -- the half is put back, from the world wh
         have k30:=HQ4.out.g.k3 0;have k31:=HQ4.out.g.k3 1;have k32:=HQ4.out.g.k3 2;have k33:=HQ4.out.g.k3 3;have aAO:=HQ4.out.g.hi;have k160:=oU 0;have k161:=oU 1;have k162:=oU 2;simp only[gB,gC,gD]at k30 k31 k32 k33 k160 k161 k162;go_wp2_with fail
         refine(find_ok _ _ _ _ _ _ y.f y.e {y with l:=l} H _ HQ4.out.g.own.at (by omega) wW.out.rise (fun x hx=>by have:=(wW.out.fit x hx).1.2.2.1;have:=qG.1.e2;omega) (by omega)).mono ?_;rintro ev w8 ⟨rfl,hb8⟩;have HQ5:=gO (HQ4.out.below hb8);have sG:=aB oU Ou hb8;have Ov:=gI Ou hb8.size;clear hb8 HQ4 oU k30 k31 k32 k33 k160 k161 k162 Ou;have k32:=HQ5.out.g.k3 2;have aAP:=HQ5.out.g.hi;have k160:=sG 0;have k161:=sG 1;have k162:=sG 2;simp only[gB,gC,gD]at k32 k160 k161 k162;have Ox:w.heap.size<w8.heap.size:=by omega
         go_wp2_with fail
         have hbn:=aF w8 (.cells #[.int .i64 (H:Int),.int .i64 (m:Int),.int .i64 (b.t:Int)] 63);have HQ6:=gO (HQ5.out.below hbn);have hnew:(w8.alloc (.cells #[.int .i64 (H:Int),.int .i64 (m:Int),.int .i64 (b.t:Int)] 63)).heap[w8.heap.size]? =some (.cells (aO ⟨H,m,b.t⟩).toArray 63 (0,0)):=heap_alloc_new w8 _;have hnn:=(HQ5.out.g.own.ne (g:=w8.heap.size) (.inr (Nat.le_refl _))).1;clear HQ5 k32 k160 k161 k162 sG Ov Ox;have hlbm:lb l H<=m1:=by have:=lD l H;omega
         generalize w8.heap.size=G2 at*;generalize w8.alloc _=wn at*;refine(mV (w.heap.size+2) _ _ _ G2 (lb l H) l ⟨H,m,b.t⟩ _ HQ6.out.g.own.o1 hlbm (by omega) HQ6.out.g.hi hnew (fun e=>hnn e.symm)).mono ?_;rintro ev wi ⟨e1,f1,rfl,lH,hgi⟩;have qX:(bF l ⟨H,m,b.t⟩).length=m1+1:=by unfold bF;rw[List.length_append,List.length_cons,List.length_take,List.length_drop];have:=lD l H;simp only;omega
         have HM2:=gO (HQ6.out.grown hgi (l':=bF l ⟨H,m,b.t⟩) qX lH (.inr ⟨by omega,fun x hx=>yE (HS3.out x hx)⟩));have HF2:=gO HM2.out.put3;have m32:=HM2.out.k3 2;have f32:=HM2.out.f3 2;simp only[gB,gC,gD]at m32;clear HQ6 hnew hnn lH hgi;go_wp2
         go_roundw
         case rel=>exact⟨bF l ⟨H,m,b.t⟩,m,e1,m1+1,f1,HF2,by omega,HS1,HS2,HS3,Ot.out.trans Qr.out⟩
         case measure=>
          rw[show wr.cell? ⟨B,1,none⟩=some (.int .i64 ((m+1:Nat):Int))from HQ.out.k15 1,show(wi.setCell _ _).cell? ⟨B,1,none⟩=some (.int .i64 (m:Int))from HF2.out.k15 1];simp[intOf]
        ·have Ia:=HQ2.out.g.own.ne (g:=wv.heap.size) (.inr (Nat.le_refl _));have hG2:w.heap.size+2<=wv.heap.size:=HQ2.out.g.hi;have HQ4:Hid (qY w (((wk.setCell ⟨wv.heap.size,0,none⟩ (.int .i64 (H:Int))).setCell ⟨wv.heap.size,1,none⟩ (.int .i64 (m:Int))).setCell ⟨wv.heap.size,2,none⟩ (.int .i64 (b.t:Int))) B b1 a4 m1 n2 d1 c4 {y with l:=l} b.a m b.t):=(((HQ2.out.below hbB).zN hG2 (Ne.symm hBne) Ia _ _).zN hG2 (Ne.symm hBne) Ia _ _).zN hG2 (Ne.symm hBne) Ia _ _;have oU:∀o,(((wk.setCell ⟨wv.heap.size,0,none⟩ (.int .i64 (H:Int))).setCell ⟨wv.heap.size,1,none⟩ (.int .i64 (m:Int))).setCell ⟨wv.heap.size,2,none⟩ (.int .i64 (b.t:Int))).cell? ⟨wv.heap.size,o,none⟩=(#[.int .i64 (H:Int),.int .i64 (m:Int),.int .i64 (b.t:Int)]:Array Value)[o]? :=aI (aI (aI K16 0 _) 1 _) 2 _;have Ou:wv.heap.size<(((wk.setCell ⟨wv.heap.size,0,none⟩ (.int .i64 (H:Int))).setCell ⟨wv.heap.size,1,none⟩ (.int .i64 (m:Int))).setCell ⟨wv.heap.size,2,none⟩ (.int .i64 (b.t:Int))).heap.size:=by simpa using hGk
         clear q0 q1 q2 hbB hbk HQ2 k150 k151 k152 k15 Hz K16 F16 hGk Ia hG2 hBne;generalize ((wk.setCell _ _).setCell _ _).setCell _ _=wh at*;generalize wv.heap.size=G at*
         -- the half is put back, from the world wh
         have k30:=HQ4.out.g.k3 0;have k31:=HQ4.out.g.k3 1;have k32:=HQ4.out.g.k3 2;have k33:=HQ4.out.g.k3 3;have aAO:=HQ4.out.g.hi;have k160:=oU 0;have k161:=oU 1;have k162:=oU 2;simp only[gB,gC,gD]at k30 k31 k32 k33 k160 k161 k162;go_wp2_with fail
         refine(find_ok _ _ _ _ _ _ y.f y.e {y with l:=l} H _ HQ4.out.g.own.at (by omega) wW.out.rise (fun x hx=>by have:=(wW.out.fit x hx).1.2.2.1;have:=qG.1.e2;omega) (by omega)).mono ?_;rintro ev w8 ⟨rfl,hb8⟩;have HQ5:=gO (HQ4.out.below hb8);have sG:=aB oU Ou hb8;have Ov:=gI Ou hb8.size;clear hb8 HQ4 oU k30 k31 k32 k33 k160 k161 k162 Ou;have k32:=HQ5.out.g.k3 2;have aAP:=HQ5.out.g.hi;have k160:=sG 0;have k161:=sG 1;have k162:=sG 2;simp only[gB,gC,gD]at k32 k160 k161 k162;have Ox:w.heap.size<w8.heap.size:=by omega
         go_wp2_with fail
         have hbn:=aF w8 (.cells #[.int .i64 (H:Int),.int .i64 (m:Int),.int .i64 (b.t:Int)] 63);have HQ6:=gO (HQ5.out.below hbn);have hnew:(w8.alloc (.cells #[.int .i64 (H:Int),.int .i64 (m:Int),.int .i64 (b.t:Int)] 63)).heap[w8.heap.size]? =some (.cells (aO ⟨H,m,b.t⟩).toArray 63 (0,0)):=heap_alloc_new w8 _;have hnn:=(HQ5.out.g.own.ne (g:=w8.heap.size) (.inr (Nat.le_refl _))).1;clear HQ5 k32 k160 k161 k162 sG Ov Ox;have hlbm:lb l H<=m1:=by have:=lD l H;omega
         generalize w8.heap.size=G2 at*;generalize w8.alloc _=wn at*;refine(mV (w.heap.size+2) _ _ _ G2 (lb l H) l ⟨H,m,b.t⟩ _ HQ6.out.g.own.o1 hlbm (by omega) HQ6.out.g.hi hnew (fun e=>hnn e.symm)).mono ?_;rintro ev wi ⟨e1,f1,rfl,lH,hgi⟩;have qX:(bF l ⟨H,m,b.t⟩).length=m1+1:=by unfold bF;rw[List.length_append,List.length_cons,List.length_take,List.length_drop];have:=lD l H;simp only;omega
         have HM2:=gO (HQ6.out.grown hgi (l':=bF l ⟨H,m,b.t⟩) qX lH (.inr ⟨by omega,fun x hx=>yE (HS3.out x hx)⟩));have HF2:=gO HM2.out.put3;have m32:=HM2.out.k3 2;have f32:=HM2.out.f3 2;simp only[gB,gC,gD]at m32;clear HQ6 hnew hnn lH hgi;go_wp2
         go_roundw
         case rel=>exact⟨bF l ⟨H,m,b.t⟩,m,e1,m1+1,f1,HF2,by omega,HS1,HS2,HS3,Ot.out.trans Qr.out⟩
         case measure=>
          rw[show wr.cell? ⟨B,1,none⟩=some (.int .i64 ((m+1:Nat):Int))from HQ.out.k15 1,show(wi.setCell _ _).cell? ⟨B,1,none⟩=some (.int .i64 (m:Int))from HF2.out.k15 1];simp[intOf]
       ·obtain rfl:o'=order:=by omega
        have dgt:¬(o':Int)<o':=by omega
        have k30:=HQ.out.g.k3 0;have k31:=HQ.out.g.k3 1;have k32:=HQ.out.g.k3 2;have k33:=HQ.out.g.k3 3;have k6:=HQ.out.g.k6;have f6:=HQ.out.g.f6;simp only[gB,gC,gD]at k30 k31 k32 k33;go_wp2_with fail
        have hsd:bZ l b.a b.t o' o'=l:=by
         cases o' with
         | zero=>rfl
         | succ o'=>unfold bZ;rw[if_neg (by omega)]
        have HTK:Hid (z.take o' t=some ({y with l:=l},b.a)):=by
         unfold Hid;rw[aAN.out,Ot.out,hsd]
        clear hsd
        go_region
        go_wp2
        refine bodyPost_ret (v:= .tuple #[.agg #[.int .i64 y.f,.int .i64 y.e,.slice b1 m1 d1,.slice a4 n2 c4],.int .i64 b.a,.int .i64 0]) (by simp[results,Tryz.results178,go_sem,k6]) rfl (.inr ⟨{y with l:=l},b.a,b1,a4,m1,d1,c4,HTK.out,by rw[HYF.out,HYE.out],?_,?_⟩)
        ·have no:=HQ.out.g.own.ne (g:=w.heap.size+1) (.inl (by omega));exact(((((HQ.out.g.own.set no _ _).set no _ _).set no _ _).set no _ _).below ((Below.refl _ _).drew)).base (by omega)
        ·exact Below.drew (Below.setCell (Below.setCell (Below.setCell (Below.setCell HQ.out.g.bw (by simp only;omega) _) (by simp only;omega) _) (by simp only;omega) _) (by simp only;omega) _)
end
end Go.Proofs.YtcmpmobhongkiaaGreatDoor
