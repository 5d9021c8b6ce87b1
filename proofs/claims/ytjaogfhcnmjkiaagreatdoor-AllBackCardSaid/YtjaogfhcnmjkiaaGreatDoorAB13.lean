/- joined. -/
import Derived.Test.YtjaogfhcnmjkiaaGreatDoorAB12
set_option linter.all false
set_option maxRecDepth 100000
set_option maxHeartbeats 0
namespace Go.Proofs.YtjaogfhcnmjkiaaGreatDoor
open Go.RowKit
open Go.Value renaming slice->aA,int->aB,agg->aC,string->aF,tuple->aG,pointer->aH,ownBlock->gTh
open Go.IntKind renaming i64->aI
open Option renaming none->aJ,some->aK
open Go.Ending renaming returned->aN
open Go.Obj renaming cells->aO
open Go.Proofs.Tryz
variable {a:Option Addr}
theorem Yz (l:List Int):∀u∈flat encI l,u.oneCell'=true:=by
 intro u a;simp only[flat,List.mem_flatMap]at a;obtain⟨r,_,b⟩:=a;simp only[encI,gY,List.not_mem_nil,or_false]at b;rcases b with rfl <;> rfl
theorem cloneS (a:Option Addr)(n cap:Nat)(xs:List (List UInt8))(w:World)(hn:xs.length=n)(hl:n*16<=140737488355328)(hr:Row w a (flat encS xs)):
 Calls prog 37 #[aA a n cap] w λe w'=>∃a' c',e=aN (aA a' n c')/\w'.ownsRow w.heap.size 9 1 (aA a' n c') n (flat encS xs)/\Below w.heap.size w w':=by
 have m:∀(w:World) (a:Option Addr) (n c g c':Nat),(binOp .eql 64 (aA a n c) (aA aJ g c')).run prog w= .ok (.bool a.isNone) w:=λw a n c g c'=>Lib.run_eql_slice_nil w _ _ a n c g c' underlying64
 subst hn;cases a with
 | none=>
  have o:xs=[]:=by
   cases xs with
   | nil=>rfl
   | cons u l=>obtain⟨b,off,i,_⟩:=aZ bW (by decide) hr (j:=0) (by simp);cases i
  subst o;go_enter func37,ntmps37
  go_wp2
  go_ret
  exact⟨aJ,0,rfl,World.ownsRow_nil _ _ _ _,gX _ _⟩
 | some ad=>
  go_enter func37,ntmps37
  go_wp2_with (at_builtin;refine jO rfl _ _ 64 rfl w.heap.size 9 (.string ByteArray.empty) 1 16 underlying64 QM rfl (by decide) (by decide) _ _ _ _ rfl (World.ownsRow_made w #[] 0 (gT _) (gU _) (by simp)) (aK ad) xs.length cap (flat encS xs) rfl ?q1 ?q2 ?q3 ?q4 ?q5 ?_)
  case q1=>exact flat_length bW xs
  case q2=>exact hr.below (aT _ _)
  case q3=>exact EX xs
  case q4=>rw[Nat.zero_add];exact hl
  case q5=>simp
  intro a' c' p f d;go_wp2
  go_ret
  exact⟨a',c',rfl,f,(aT w _).grown d (by simp) (by intro k h;simp[gTh]at h;omega)⟩
theorem aBf (a:Option Addr)(n cap:Nat)(xs:List Sl)(w:World)(hn:xs.length=n)(hl:n*24<=140737488355328)(hr:Row w a (flat bQ xs)):
 Calls prog 38 #[aA a n cap] w λe w'=>∃a' c',e=aN (aA a' n c')/\w'.ownsRow w.heap.size 99 3 (aA a' n c') n (flat bQ xs)/\Below w.heap.size w w':=by
 have m:∀(w:World) (a:Option Addr) (n c g c':Nat),(binOp .eql 65 (aA a n c) (aA aJ g c')).run prog w= .ok (.bool a.isNone) w:=λw a n c g c'=>Lib.run_eql_slice_nil w _ _ a n c g c' underlying65
 subst hn;cases a with
 | none=>
  have o:xs=[]:=by
   cases xs with
   | nil=>rfl
   | cons u l=>obtain⟨b,off,i,_⟩:=aZ aY (by decide) hr (j:=0) (by simp);cases i
  subst o;go_enter func38,ntmps38
  go_wp2
  go_ret
  exact⟨aJ,0,rfl,World.ownsRow_nil _ _ _ _,gX _ _⟩
 | some ad=>
  go_enter func38,ntmps38
  go_wp2_with (at_builtin;refine jO rfl _ _ 65 rfl w.heap.size 99 (aC #[aB aI 0,aB aI 0,aB aI 0]) 3 24 underlying65 Ai rfl (by decide) (by decide) _ _ _ _ rfl (World.ownsRow_made w #[] 0 (gT _) (gU _) (by simp)) (aK ad) xs.length cap (flat bQ xs) rfl ?q1 ?q2 ?q3 ?q4 ?q5 ?_)
  case q1=>exact flat_length aY xs
  case q2=>exact hr.below (aT _ _)
  case q3=>exact xY xs
  case q4=>rw[Nat.zero_add];exact hl
  case q5=>simp
  intro a' c' p f d;go_wp2
  go_ret
  exact⟨a',c',rfl,f,(aT w _).grown d (by simp) (by intro k h;simp[gTh]at h;omega)⟩
theorem YA (a:Option Addr)(n cap:Nat)(xs:List Int)(w:World)(hn:xs.length=n)(hl:n*8<=140737488355328)(hr:Row w a (flat encI xs)):
 Calls prog 35 #[aA a n cap] w λe w'=>∃a' c',e=aN (aA a' n c')/\w'.ownsRow w.heap.size 3 1 (aA a' n c') n (flat encI xs)/\Below w.heap.size w w':=by
 have m:∀(w:World) (a:Option Addr) (n c g c':Nat),(binOp .eql 34 (aA a n c) (aA aJ g c')).run prog w= .ok (.bool a.isNone) w:=λw a n c g c'=>Lib.run_eql_slice_nil w _ _ a n c g c' underlying34
 subst hn;cases a with
 | none=>
  have o:xs=[]:=by
   cases xs with
   | nil=>rfl
   | cons u l=>obtain⟨b,off,i,_⟩:=aZ wM (by decide) hr (j:=0) (by simp);cases i
  subst o;go_enter func35,ntmps35
  go_wp2
  go_ret
  exact⟨aJ,0,rfl,World.ownsRow_nil _ _ _ _,gX _ _⟩
 | some ad=>
  go_enter func35,ntmps35
  go_wp2_with (at_builtin;refine jO rfl _ _ 34 rfl w.heap.size 3 (aB aI 0) 1 8 underlying34 mO rfl (by decide) (by decide) _ _ _ _ rfl (World.ownsRow_made w #[] 0 (gT _) (gU _) (by simp)) (aK ad) xs.length cap (flat encI xs) rfl ?q1 ?q2 ?q3 ?q4 ?q5 ?_)
  case q1=>exact flat_length wM xs
  case q2=>exact hr.below (aT _ _)
  case q3=>exact Yz xs
  case q4=>rw[Nat.zero_add];exact hl
  case q5=>simp
  intro a' c' p f d;go_wp2
  go_ret
  exact⟨a',c',rfl,f,(aT w _).grown d (by simp) (by intro k h;simp[gTh]at h;omega)⟩
theorem YD (y z:Cc)(B:Nat)(W:World)(hB:B<W.heap.size)(hc:W.cell? ⟨B,1,aJ⟩=aK (.int .i64 z.c.z)):
 Calls prog 33 (#[.agg (fD y).toArray]++#[aH (aK ⟨B,0,aJ⟩)]) W λev w'=>ev=aN (.bool (decide (y.c.z=z.c.z)))/\Below W.heap.size W w':=by
 show Calls prog 33 #[aC #[aA y.a1 y.n1 y.c1,.int .i64 y.c.z,.int .i64 y.c.r,.int .i64 y.c.o,aA y.a2 y.n2 y.c2,aA y.a3 y.n3 y.c3],aH (aK ⟨B,0,aJ⟩)] W _;have hb:=aT W (aO #[aA y.a1 y.n1 y.c1,.int .i64 (y.c.z:Int),.int .i64 (y.c.r:Int),.int .i64 (y.c.o:Int),aA y.a2 y.n2 y.c2,aA y.a3 y.n3 y.c3] 67);have K:=bI W #[aA y.a1 y.n1 y.c1,.int .i64 (y.c.z:Int),.int .i64 (y.c.r:Int),.int .i64 (y.c.o:Int),aA y.a2 y.n2 y.c2,aA y.a3 y.n3 y.c3] 67;have k1:=K 1;simp only[gB,gC,gD]at k1;have b:=(hb.cell (p:=⟨B,1,aJ⟩) hB).trans hc;have a:=gO hb;clear hb K hc;go_enter func33,ntmps33
 go_wp2
 go_ret
 exact⟨bP (by rw[Bool.eq_iff_iff];simp only[beq_iff_eq,decide_eq_true_eq];omega),a.out⟩
theorem YE {α:Type}{enc:α->List Value}{k:Nat}(hk:∀x,(enc x).length=k){w:World}{l:List α}(h:Row w a (flat enc l))(i:Nat):Row w a (flat enc (l.take i)):=λj v b=>h j v (by
 rw[<- fQ hk,List.getElem?_take]at b;split at b
 ·exact b
 ·cases b)
def Fv (s:Sy)(i:Nat)(x:Lit):Prop:=∃c∈s.cs.take i,∃n∈c.ns,x= .string n
def Fz (s:Sy)(i:Nat)(x:Lit):Prop:=∃c∈s.cs.take i,∃q∈c.sl,x= .int .i64 (q.p:Int)
theorem nJ (v:Sc)(s:Sy)(w:World)(hs:nO w v s)(hk:cZ s)(hf:∀c∈s.cs,c.ns.length<=1000):
 Calls prog 11 #[aC #[aA v.a1 v.n1 v.c1,aA v.hc.az 2 v.hc.cz,aA v.hc.am 2 v.hc.cm,.int .i64 s.h.aP,aA v.hc.al v.hc.lc.length v.hc.cl,aA v.hc.av s.h.live.length v.hc.cv,aA v.a2 v.ys.length v.c2]] w λev w'=>ev=aN (.int .i64 0)/\Below w.heap.size w w':=by
 obtain⟨K0,F0,hsz,hbw⟩:=boxes1 w #[aA v.a1 v.n1 v.c1,aA v.hc.az 2 v.hc.cz,aA v.hc.am 2 v.hc.cm,.int .i64 (s.h.aP:Int),aA v.hc.al v.hc.lc.length v.hc.cl,aA v.hc.av s.h.live.length v.hc.cv,aA v.a2 v.ys.length v.c2] 42;have HS:=gO (hs.below hbw);have HB:=gO hbw;have HK:=gO hk;have HK0:=gO K0;have hn1:(v.n1:Int)=4096:=by rw[<- hs.lw,hk.wl];rfl
 have q1:((v.n1:Int) != 4096)=false:=by rw[hn1];rfl
 have hyl:v.ys.length<=20:=by have:=congrArg List.length hs.cy;rw[gTe]at this;rw[this];exact hk.cl
 have hyi:¬(20:Int)<v.ys.length:=by omega
 have Kw:s.h.live.length<=1000:=gQ hk.hk.jM (by decide);have YF:v.hc.lc.length<=1000:=by
  have R:=congrArg List.length hs.hh.ll;rw[gTe]at R;rw[R];exact gQ hk.hk.pK (by decide)
 have Xa:=gO (fun(W:World) (hW:Below (w.alloc (aO #[aA v.a1 v.n1 v.c1,aA v.hc.az 2 v.hc.cz,aA v.hc.am 2 v.hc.cm,.int .i64 (s.h.aP:Int),aA v.hc.al v.hc.lc.length v.hc.cl,aA v.hc.av s.h.live.length v.hc.cv,aA v.a2 v.ys.length v.c2] 42)).heap.size (w.alloc (aO #[aA v.a1 v.n1 v.c1,aA v.hc.az 2 v.hc.cz,aA v.hc.am 2 v.hc.cm,.int .i64 (s.h.aP:Int),aA v.hc.al v.hc.lc.length v.hc.cl,aA v.hc.av s.h.live.length v.hc.cv,aA v.a2 v.ys.length v.c2] 42)) W)=>x9 _ _ _ _ v.hc.cz v.hc.cm v.hc.cl v.hc.cv _ _ _ _ _ s.h W ((hs.below hbw).hh.below hW) hk.hk YF Kw);obtain⟨c0,c1,c2,c3,c4,c5,c6⟩:=gA7 K0;have hmm:=@run_makeMap prog;clear hs hbw K0 F0 hk;go_enter func11,ntmps11
 go_upto_region 4 with (go_at_call 30;refine(Xa.out _ (gX _ _)).mono ?_;rintro ev g ⟨rfl,L⟩;have K:=gO L;have c6a:=(L.cell (p:=⟨w.heap.size,6,aJ⟩) hsz).trans c6)
 have Q:=aT g (.map #[] 0);have T:=aT (g.alloc (.map #[] 0)) (.map #[] 0);have S1:=(iF.made g prog 9 4).below T;have S2:=iF.made (g.alloc (.map #[] 0)) prog 3 4;have HB24:=gO (gW Q T);have hM2:(g.alloc (.map #[] 0)).heap.size=g.heap.size+1:=by simp
 rw[hM2]at S2;have HS1:Hid (iF _ prog 9 4 g.heap.size 0 (Fv s 0)):=S1.imp λx=>⟨λh=>h.elim,fun⟨c,hc,_⟩=>by simp at hc⟩
 have HS2:Hid (iF _ prog 3 4 (g.heap.size+1) 0 (Fz s 0)):=S2.imp λx=>⟨λh=>h.elim,fun⟨c,hc,_⟩=>by simp at hc⟩
 clear S1 S2 Q T hM2 hmm c0 c1 c2 c3 c4 c5 Xa q1;generalize (g.alloc _).alloc _=w4 at*;have U:=K.out.size;have hs4:=HB24.out.size;have hBs:w.heap.size<g.heap.size:=gI hsz U;have c6b:=(HB24.out.cell (p:=⟨w.heap.size,6,aJ⟩) hBs).trans c6a;clear c6 c6a;go_wp2_with fail
 clear c6b;go_loopw [32] (λs32 wr=>∃(i n m:Nat),i<=v.ys.length/\s32= .int .i64 (i:Int)/\n<=1000*i/\m<=256*i/\Hid (iF wr prog 9 4 g.heap.size n (Fv s i))/\Hid (iF wr prog 3 4 (g.heap.size+1) m (Fz s i))/\Hid (Below g.heap.size g wr)) (λs32 _=>v.ys.length-(intOf s32).toNat)
 case atStart=>exact⟨0,0,0,gU _,rfl,gU _,gU _,HS1,HS2,HB24⟩
 case round=>
  obtain⟨i,n,m,hi,rfl,A,hm,HN,HM,oH⟩:=hrel;by_cases D:i<v.ys.length
  ·have Hg:(i:Int)<v.ys.length:=by omega
   have t:i<s.cs.length:=by rw[<- HS.out.cy,gTe];exact D
   have O:v.ys[i].c=s.cs[i]:=by
    have R:=congrArg (·[i]?) HS.out.cy;simp[D,t]at R;exact R
   have lD:=gO (HS.out.below (K.out.trans (oH.out.mono U)));obtain⟨bb,off,Q,T,hbc⟩:=aZ eY (by decide) lD.out.rc D;have hcy:=lD.out.ca _ (gL D);have C:qY s v.ys[i].c:=by rw[O];exact HK.out.ck _ (gL t)
   have hfy:v.ys[i].c.ns.length<=1000:=by rw[O];exact hf _ (gL t)
   have hzd:((v.ys.take i).any λz=>decide (z.c.z=v.ys[i].c.z))=false:=by
    rw[List.any_eq_false];intro z hz;obtain⟨m,hm,e⟩:=List.mem_take_iff_getElem.1 hz;have P:m<s.cs.length:=by omega
    have R:v.ys[m].c=s.cs[m]:=by
     have N:=congrArg (·[m]?) HS.out.cy;simp[show m<v.ys.length by omega,P]at N;exact N
    have N:=gN.1 HK.out.zd m i P t (by omega);rw[<- e,R,O];simpa using N
   have hSS:∀x,Fv s (i+1) x↔(Fv s i x∨∃n∈v.ys[i].c.ns,x= .string n):=λx=>by
    unfold Fv;rw[List.take_succ_eq_append_getElem t,<- O];simp only[gZ,gTa];constructor
    ·rintro⟨c,hc | rfl,h⟩
     ·exact .inl ⟨c,hc,h⟩
     ·exact .inr h
    ·rintro(⟨c,hc,h⟩ | h)
     ·exact⟨c,.inl hc,h⟩
     ·exact⟨_,.inr rfl,h⟩
   have hPP:∀x,Fz s (i+1) x↔(Fz s i x∨∃q∈v.ys[i].c.sl,x= .int .i64 (q.p:Int)):=λx=>by
    unfold Fz;rw[List.take_succ_eq_append_getElem t,<- O];simp only[gZ,gTa];constructor
    ·rintro⟨c,hc | rfl,h⟩
     ·exact .inl ⟨c,hc,h⟩
     ·exact .inr h
    ·rintro(⟨c,hc,h⟩ | h)
     ·exact⟨c,.inl hc,h⟩
     ·exact⟨_,.inr rfl,h⟩
   have NR:=gO hSS;have HPP:=gO hPP;obtain⟨e0,e1,e2,e3,e4,e5⟩:=kM hbc;have HTK:Hid ((v.ys.take i).length=i):=by unfold Hid;rw[gTc];omega
   obtain⟨y,hy⟩:∃y,v.ys[i]=y:=⟨_,rfl⟩
   rw[hy]at e0 e1 e2 e3 e4 e5 hcy C hfy hzd;have HA:=gO Q;have M:=gO hy;rw[Q];clear hbc Q O hSS hPP hy;go_upto_region 7 with fail
   have S:=aT wr (aO #[aA y.a1 y.n1 y.c1,.int .i64 (y.c.z:Int),.int .i64 (y.c.r:Int),.int .i64 (y.c.o:Int),aA y.a2 y.n2 y.c2,aA y.a3 y.n3 y.c3] 67);have K6:=bI wr #[aA y.a1 y.n1 y.c1,.int .i64 (y.c.z:Int),.int .i64 (y.c.r:Int),.int .i64 (y.c.o:Int),aA y.a2 y.n2 y.c2,aA y.a3 y.n3 y.c3] 67;have G:=yA wr (aO #[aA y.a1 y.n1 y.c1,.int .i64 (y.c.z:Int),.int .i64 (y.c.r:Int),.int .i64 (y.c.o:Int),aA y.a2 y.n2 y.c2,aA y.a3 y.n3 y.c3] 67);have aJL:=HM.out.lt;have HN5:=gO (HN.out.below S);have HM5:=gO (HM.out.below S);have HB5:=gO (gW oH.out S);have HS5:=gO (lD.out.below S);have HY5:=gO (hcy.below S);clear S HN HM oH lD hcy e0 e1 e2 e3 e4 e5 T;obtain⟨we,rfl⟩:∃we,we=wr:=⟨_,rfl⟩
   generalize we.alloc _=w5 at*;obtain⟨BC,hBC⟩:∃B,we.heap.size=B:=⟨_,rfl⟩
   rw[hBC]at K6 G aJL ⊢;clear hBC;have aDN:=K.out.trans (HB5.out.mono U);have k0:=aQ HK0.out hsz aDN;have c0:=k0 0;have c1:=k0 1;have c2:=k0 2;have c3:=k0 3;have c4:=k0 4;have c5:=k0 5;have c6:=k0 6;have g0:=K6 0;have g1:=K6 1;have g2:=K6 2;have g3:=K6 3;have g4:=K6 4;have g5:=K6 5;simp only[gB,gC,gD]at c0 c1 c2 c3 c4 c5 c6 g0 g1 g2 g3 g4 g5;have hcall:=YC v s y w5 HS5.out HK.out.hk HK.out.wl HY5.out C;have HC1:=gO hcall;have eg:∀args w,(callFunc 33 args).run prog w= .ok (.enter 33 args) w:=enters_of func33 (by kernel_rfl) rfl;have hkc:=HS5.out.kc;have HC2:Hid (∀W,Below w5.heap.size w5 W->Calls prog 32 #[aA (aK ⟨bb,off,aJ⟩) i v.c2,.func (.func 33) #[] #[aH (aK ⟨BC,0,aJ⟩)]] W λev w'=>ev=aN (.bool false)/\Below W.heap.size W w'):=λW hW=>by
    have h9:=wK v.a2 i v.c2 (v.ys.take i) 33 #[aH (aK ⟨BC,0,aJ⟩)] (λz=>decide (z.c.z=y.c.z)) W HTK.out (by omega) (YE eY (HS5.out.rc.below hW) i) eg (λW2 hW2 z hz=>YD z y BC W2 (gI (gI G hW.size) hW2.size) ((hW2.cell (p:=⟨BC,1,aJ⟩) (gI G hW.size)).trans ((hW.cell (p:=⟨BC,1,aJ⟩) G).trans g1)));rw[hzd,HA.out]at h9;exact h9
   have aOs:(i:Int)<=v.c2:=by omega
   have aOt:i<=v.c2:=by omega
   have aJM:w.heap.size<w5.heap.size:=gI hsz aDN.size;rw[HA.out]at c6 HC1;clear hcall eg hzd k0;go_upto_region 9 with (first | (go_at_call 31;refine HC1.out.mono ?_;rintro ev w6 ⟨rfl,hb6⟩;have c6b:=(hb6.cell (p:=⟨w.heap.size,6,aJ⟩) aJM).trans c6) | (go_at_call 32;refine(HC2.out _ hb6).mono ?_;rintro ev w7 ⟨rfl,hb7⟩))
   have Rf:=gW hb6 hb7;have HN7:=gO (HN5.out.below Rf);have HM7:=gO (HM5.out.below Rf);have HB7:=gO (gW HB5.out Rf);have HY7:=gO (HY5.out.below Rf);have K7:=aQ K6 G Rf;have hs7:=gI G Rf.size;clear HC1 HC2 hb6 hb7 Rf c0 c1 c2 c3 c4 c5 c6 c6b g0 g1 g2 g3 g4 g5 HN5 HM5 HB5 HS5 HY5 K6 G aDN;have HK7:=gO K7;have k0:=K7 0;simp only[gB,gC,gD]at k0;have hn1:y.n1<=1000:=by rw[<- HY7.out.l1];exact hfy
   clear K7;go_wp2_with fail
   clear k0;obtain⟨wo,rfl⟩:∃wo,wo=w7:=⟨_,rfl⟩
   go_loopw [52] (λs52 wr=>∃(j k:Nat),j<=y.n1/\s52= .int .i64 (j:Int)/\k<=1000*i+j/\Hid (iF wr prog 9 4 g.heap.size k (λx=>Fv s i x∨∃n∈y.c.ns.take j,x= .string n))/\Hid (iF wr prog 3 4 (g.heap.size+1) m (Fz s i))/\Hid (∀o,wr.cell? ⟨BC,o,aJ⟩=(#[aA y.a1 y.n1 y.c1,.int .i64 (y.c.z:Int),.int .i64 (y.c.r:Int),.int .i64 (y.c.o:Int),aA y.a2 y.n2 y.c2,aA y.a3 y.n3 y.c3]:Array Value)[o]?)/\BC<wr.heap.size/\Hid (Below g.heap.size g wr)) (λs52 _=>y.n1-(intOf s52).toNat)
   case atStart=>exact⟨0,n,gU _,rfl,by omega,HN7.out.imp λx=>⟨.inl,λh=>h.resolve_right (by rintro⟨n,A,_⟩;simp at A)⟩,HM7,HK7,hs7,HB7⟩
   case round=>
    obtain⟨j,k,hj,rfl,hkn,VF,YG,Bf,u,rY⟩:=hrel;have Oq:=K.out.trans (rY.out.mono U);have F:=(HS.out.below Oq).ca _ (gL D);rw[M.out]at F;by_cases hjl:j<y.n1
    ·have hji:(j:Int)<y.n1:=by omega
     have d:j<y.c.ns.length:=by rw[F.l1];exact hjl
     obtain⟨b1,o1,H,aBg,VG⟩:=aZ bW (by decide) F.r1 d;have n0:=qO VG;have J:nameB y.c.ns[j]=true:=C.nm _ (gL d);have hl8:y.c.ns[j].length<=8:=by
      unfold nameB at J;simp only[Bool.and_eq_true,decide_eq_true_eq]at J;exact J.1.2
     have b:¬(Fv s i (.string y.c.ns[j])∨∃n∈y.c.ns.take j,(Lit.string y.c.ns[j])= .string n):=by
      rintro(⟨c,hc,n,A,e⟩ | ⟨n,A,e⟩)
      ·obtain⟨m,hm,e2⟩:=List.mem_take_iff_getElem.1 hc;have P:m<s.cs.length:=by omega
       have N:=gN.1 HK.out.nd m i P t (by omega);have e3:y.c=s.cs[i]:=by
        have R:=congrArg (·[i]?) HS.out.cy;simp[D,t]at R;rw[<- R,M.out]
       refine N n (by rw[e2];exact A) ?_;rw[<- e3];obtain rfl:y.c.ns[j]=n:=by simpa using e
       exact gL d
      ·obtain⟨m,hm,e2⟩:=List.mem_take_iff_getElem.1 A;have N:=gN.1 C.nr m j (by omega) d (by omega);obtain e3:y.c.ns[j]=n:=by simpa using e
       rw[e3,e2,XL]at N;cases N
     have HIM:Hid (∀x,(x=Lit.string y.c.ns[j]∨(Fv s i x∨∃n∈y.c.ns.take j,x= .string n))↔(Fv s i x∨∃n∈y.c.ns.take (j+1),x= .string n)):=λx=>by
      rw[List.take_succ_eq_append_getElem d];simp only[gZ,gTa];constructor
      ·rintro(h | h | ⟨n,A,h⟩)
       ·exact .inr ⟨_,.inr rfl,h⟩
       ·exact .inl h
       ·exact .inr ⟨n,.inl A,h⟩
      ·rintro(h | ⟨n,A | rfl,h⟩)
       ·exact .inr (.inl h)
       ·exact .inr (.inr ⟨n,A,h⟩)
       ·exact .inl h
     have X:Hid (∀W,Calls prog 34 #[.string ⟨y.c.ns[j].toArray⟩] W λev w'=>ev=aN (.bool true)/\Below W.heap.size W w'):=λW=>by
      have h:=Ny y.c.ns[j] W (by omega);rw[J]at h;exact h
     have g0:=Bf.out 0;simp only[gB,gC,gD]at g0;have yX:=gO b;by_cases hj0:0<j
     ·have hjp:j-1<y.c.ns.length:=by omega
      obtain⟨b2,o2,L,_,aGi⟩:=aZ bW (by decide) F.r1 hjp;have n1:=qO aGi;rw[H]at L;obtain⟨rfl,rfl⟩:b1=b2/\o1=o2:=by simpa using L
      have V:=gN.1 C.nr (j-1) j hjp d (by omega);have q1:=aAN V;have e1:((j-1:Nat):Int)=(j:Int)-1:=by omega
      generalize y.c.ns[j-1]=l1 at*;generalize y.c.ns[j]=l at*;rw[H]at g0 ⊢;clear VG aGi L F b aBg Oq;rw[Nat.mul_one]at n0 n1;have hj1:((j:Int)-1).toNat=j-1:=by omega
      have hj2:(0:Int)<=(j:Int)-1:=by omega
      have hj3:(j:Int)-1<y.n1:=by omega
      have hzj:(0:Int)<j:=by omega
      have aGj:=World.block_lt_of_cell? _ _ n1;clear J d hjp q1;go_upto_region 12 with fail
      go_upto_region 14 with (go_at_call 34;refine(X.out _).mono ?_;rintro ev w8 ⟨rfl,a⟩;have I:=Nr (VF.out.below a) l (by omega) yX.out;unfold sV at I;have g8:=(a.cell (p:=⟨BC,0,aJ⟩) u).trans g0;have n8:=(a.cell (p:=⟨b1,o1+(j-1),aJ⟩) aGj).trans n1;have hge:=UK w8 V)
      clear I g8 n8 g0 n0 n1 hge V;obtain⟨w9,hup,E,f⟩:=Ns (VF.out.below a) (by omega) l (by omega);unfold sV at hup;have YH:=gO (E.imp HIM.out);have HM9:=gO ((YG.out.below a).kept f (by simp));have hs8:g.heap.size<=w8.heap.size:=gQ rY.out.size a.size;have Z:=gO (Td (aQ Bf.out u a) f (gI u a.size) (by omega));have hs9:=gI (gI u a.size) f.size;have Y:=gO ((rY.out.trans (a.mono rY.out.size)).trans (tN f (gT _) hs8));clear f E VF YG Bf rY a u;go_wp2
      go_roundw
      case rel=>exact⟨j+1,k+1,by omega,by go_num,by omega,YH,HM9,(by rw[H]at Z;exact Z),hs9,Y⟩
      case measure=>simp[intOf];omega
     ·obtain rfl:j=0:=by omega
      generalize y.c.ns[0]=l at*;rw[H]at g0 ⊢;simp only[Nat.zero_mul,Nat.add_zero]at n0;have aGj:=World.block_lt_of_cell? _ _ n0;clear VG F b aBg Oq J d hj0;go_upto_region 12 with fail
      go_upto_region 14 with (go_at_call 34;refine(X.out _).mono ?_;rintro ev w8 ⟨rfl,a⟩;have I:=Nr (VF.out.below a) l (by omega) yX.out;unfold sV at I;have g8:=(a.cell (p:=⟨BC,0,aJ⟩) u).trans g0)
      clear I g8 g0 n0;obtain⟨w9,hup,E,f⟩:=Ns (VF.out.below a) (by omega) l (by omega);unfold sV at hup;have YH:=gO (E.imp HIM.out);have HM9:=gO ((YG.out.below a).kept f (by simp));have hs8:g.heap.size<=w8.heap.size:=gQ rY.out.size a.size;have Z:=gO (Td (aQ Bf.out u a) f (gI u a.size) (by omega));have hs9:=gI (gI u a.size) f.size;have Y:=gO ((rY.out.trans (a.mono rY.out.size)).trans (tN f (gT _) hs8));clear f E VF YG Bf rY a u;go_wp2
      go_roundw
      case rel=>exact⟨0+1,k+1,by omega,by go_num,by omega,YH,HM9,(by rw[H]at Z;exact Z),hs9,Y⟩
      case measure=>simp[intOf];omega
    ·obtain rfl:j=y.n1:=by omega
     have k4:=Bf.out 4;simp only[gB,gC,gD]at k4;have hn2:y.n2<=256:=by rw[<- F.l2];exact C.nS HK.out.hk
     have HNa:Hid (iF wr prog 9 4 g.heap.size k (Fv s (i+1))):=VF.out.imp λx=>by
      rw[NR.out x,M.out,gTf (by rw[F.l1];omega)]
     obtain⟨wn,rfl⟩:∃wn,wn=wr:=⟨_,rfl⟩
     clear Oq F VF hj hjl;go_wp2_with fail
     clear k4;go_loopw [85] (λs85 wr=>∃(j q:Nat),j<=y.n2/\s85= .int .i64 (j:Int)/\q<=256*i+j/\Hid (iF wr prog 9 4 g.heap.size k (Fv s (i+1)))/\Hid (iF wr prog 3 4 (g.heap.size+1) q (λx=>Fz s i x∨∃z∈y.c.sl.take j,x= .int .i64 (z.p:Int)))/\Hid (Below g.heap.size g wr)) (λs85 _=>y.n2-(intOf s85).toNat)
     case atStart=>exact⟨0,m,gU _,rfl,by omega,HNa,YG.out.imp λx=>⟨.inl,λh=>h.resolve_right (by rintro⟨n,A,_⟩;simp at A)⟩,rY⟩
     case round=>
      clear YG Bf rY HNa;obtain⟨j,q,hj,rfl,hq,HNq,TA,rJ⟩:=hrel;have Oq:=K.out.trans (rJ.out.mono U);have F:=(HS.out.below Oq).ca _ (gL D);rw[M.out]at F;by_cases hjl:j<y.n2
      ·have hji:(j:Int)<y.n2:=by omega
       have d:j<y.c.sl.length:=by rw[F.l2];exact hjl
       obtain⟨b1,o1,H,aBg,VG⟩:=aZ aY (by decide) F.r2 d;obtain⟨n0,n1,n2⟩:=iK VG;have hp:=(C.sk _ (gL d)).BF HK.out.hk;have e3:y.c=s.cs[i]:=by
        have R:=congrArg (·[i]?) HS.out.cy;simp[D,t]at R;rw[<- R,M.out]
       have b:¬(Fz s i (.int .i64 (y.c.sl[j].p:Int))∨∃z∈y.c.sl.take j,(Lit.int .i64 (y.c.sl[j].p:Int))= .int .i64 (z.p:Int)):=by
        rintro(⟨c,hc,n,A,e⟩ | ⟨n,A,e⟩)
        ·obtain⟨m,hm,e2⟩:=List.mem_take_iff_getElem.1 hc;have P:m<s.cs.length:=by omega
         have N:=gN.1 HK.out.pd m i P t (by omega);refine N n (by rw[e2];exact A) y.c.sl[j] (by rw[<- e3];exact gL d) ?_;have e4:(y.c.sl[j].p:Int)=n.p:=by simpa using e
         omega
        ·obtain⟨m,hm,e2⟩:=List.mem_take_iff_getElem.1 A;have N:=gN.1 C.sr m j (by omega) d (by omega);have e4:(y.c.sl[j].p:Int)=n.p:=by simpa using e
         rw[e2]at N;omega
       have HIM:Hid (∀x,(x=Lit.int .i64 (y.c.sl[j].p:Int)∨(Fz s i x∨∃z∈y.c.sl.take j,x= .int .i64 (z.p:Int)))↔(Fz s i x∨∃z∈y.c.sl.take (j+1),x= .int .i64 (z.p:Int))):=λx=>by
        rw[List.take_succ_eq_append_getElem d];simp only[gZ,gTa];constructor
        ·rintro(h | h | ⟨n,A,h⟩)
         ·exact .inr ⟨_,.inr rfl,h⟩
         ·exact .inl h
         ·exact .inr ⟨n,.inl A,h⟩
        ·rintro(h | ⟨n,A | rfl,h⟩)
         ·exact .inr (.inl h)
         ·exact .inr (.inr ⟨n,A,h⟩)
         ·exact .inl h
       have yX:=gO b;generalize y.c.sl[j]=x at*;rw[H];clear VG b aBg Oq F d e3;go_upto_region 19 with fail
       have a:=aT wr (aO #[.int .i64 (x.p:Int),.int .i64 (x.n:Int),.int .i64 x.h] 99);have c0:=bI wr #[.int .i64 (x.p:Int),.int .i64 (x.n:Int),.int .i64 x.h] 99 0;simp only[gB,gC,gD]at c0;have hss:wr.heap.size<(wr.alloc (aO #[.int .i64 (x.p:Int),.int .i64 (x.n:Int),.int .i64 x.h] 99)).heap.size:=by simp
       have aOu:=TA.out.lt;clear n0 n1 n2;generalize wr.alloc _=w8 at*;have I:=XM (TA.out.below a) x.p (by omega) yX.out;obtain⟨w9,hup,E,f⟩:=XO (TA.out.below a) (by omega) x.p (by omega);have YH:=gO (E.imp HIM.out);have HN9:=gO ((HNq.out.below a).kept f (by simp));have Y:=gO ((rJ.out.trans (a.mono rJ.out.size)).trans (tN f (Nat.le_succ _) (gQ rJ.out.size a.size)));clear f E HNq TA rJ a;go_wp2
       go_roundw
       case rel=>exact⟨j+1,q+1,by omega,by go_num,by omega,HN9,YH,Y⟩
       case measure=>simp[intOf];omega
      ·obtain rfl:j=y.n2:=by omega
       have HPa:Hid (iF wr prog 3 4 (g.heap.size+1) q (Fz s (i+1))):=TA.out.imp λx=>by
        rw[HPP.out x,M.out,gTf (by rw[F.l2];omega)]
       clear F Oq;go_wp2
       go_roundw
       case rel=>exact⟨i+1,k,q,by omega,by go_num,by omega,by omega,HNq,HPa,rJ⟩
       case measure=>simp[intOf];omega
  ·obtain rfl:i=v.ys.length:=by omega
   have HBE:=gO (gW HB.out (gW K.out oH.out));go_wp2
   go_ret
   exact⟨rfl,HBE.out⟩
theorem aBx {z:Zn}(hz:z.ok):z.l.length<=256:=by
 refine gQ ?_ (Xw hz);generalize z.l=l
 induction l with
 | nil=>simp
 | cons b l ih=>
  have:=dN b.o;simp only[szB,List.length_cons];omega
theorem Ph (a1 a2:Option Addr)(n1 n2 c1 c2:Nat)(z:Zn)(p n:Nat)(w:World)(hat:IJ w a1 a2 n1 n2 z)(hz:z.ok)(hd0:∀q,p<=q->q<p+n->¬fJ z.l q)(hp:z.f<=p)(hn:p+n<=z.e):
 Calls prog 98 #[aC #[aB aI z.f,aB aI z.e,aA a1 n1 c1,aA a2 n2 c2],aB aI p,aB aI n] w λev w'=>∃a1' a2' n1' c1' c2',ev=aN (aG #[aC #[aB aI z.f,aB aI z.e,aA a1' n1' c1',aA a2' n2 c2'],aB aI 0])/\jC w' w.heap.size a1' a2' n1' n2 c1' c2' (fH z p n)/\Below w.heap.size w w':=by
 have hee:=hz.1.e2;have l1:=hat.l1;have l2:=hat.l2;have hl0:z.l.length<=256:=aBx hz;have HD:=gO hd0;have hy32:z.y.length<=32:=by rw[hz.1.len];omega
 obtain⟨K3,K6,F3,F6,T,k⟩:=boxes2 w #[aB aI (z.f:Int),aB aI (z.e:Int),aA a1 n1 c1,aA a2 n2 c2] 79 #[aB aI 0,aB aI 0,aA aJ 0 0,aA aJ 0 0] 79;have pX:=hat.below k;have d1:decide (p<z.f)=false:=gV (by omega);have d2:decide ((z.e:Int)<p)=false:=gV (by omega);have d3:decide ((z.e:Int)-p<n)=false:=gV (by omega);have d4:decide (z.e<p)=false:=gV (by omega);have d5:(p:Int)<=z.e:=by omega
 clear hat hd0;go_enter func98,ntmps98
 go_wp2_with fail
 generalize (w.alloc _).alloc _=w0 at*;refine(qP _ _ _ _ _ _ z _ pX hz).mono ?_;rintro ev w1 ⟨rfl,b⟩;have E:=aQ K3 (by omega) b;have u:=aQ K6 (by omega) b;have B:=aU F3 (by omega) b;have o:=aU F6 (by omega) b;have GX:=pX.below b;have yV:=gW k b;have hB:w.heap.size+2<=w1.heap.size:=by have:=b.size;omega
 clear K3 K6 F3 F6 b pX k T;go_wp2_with fail
 refine(Eh _ _ _ _ _ _ z.f z.e z _ GX (by omega) (by omega)).mono ?_;rintro ev w5 ⟨a3,U,c3,W,rfl,a,h⟩;have D:=aQ E (by omega) h;have J:=aQ u (by omega) h;have H:=aU B (by omega) h;have C:=aU o (by omega) h;have yH:=gW yV h;have j:=(a.ne (g:=w.heap.size) (.inl (by omega)))
 have I1:GInv w ((((w5.setCell ⟨w.heap.size,0,aJ⟩ (aB aI z.f)).setCell ⟨w.heap.size,1,aJ⟩ (aB aI z.e)).setCell ⟨w.heap.size,2,aJ⟩ (aA a3 n1 c3)).setCell ⟨w.heap.size,3,aJ⟩ (aA U n2 W)) a3 U n1 n2 c3 W z:=by
  have h5:=h.size;exact⟨aW (aW (aW (aW D 0 _) 1 _) 2 _) 3 _,aV (aV (aV (aV H _ _) _ _) _ _) _ _,aS (aS (aS (aS J (by omega) _ _) (by omega) _ _) (by omega) _ _) (by omega) _ _,aV (aV (aV (aV C _ _) _ _) _ _) _ _,(((((a.base hB).set j _ _).set j _ _).set j _ _).set j _ _),by simp only[World.size_setCell];omega,Below.setCell (Below.setCell (Below.setCell (Below.setCell yH (by simp only;omega) _) (by simp only;omega) _) (by simp only;omega) _) (by simp only;omega) _⟩
 have HI:=gO I1;clear I1 J C a yH E u B o GX yV h j d1 d2 d3 d4 d5;go_wp2
 clear D H;generalize (((w5.setCell _ _).setCell _ _).setCell _ _).setCell _ _=w6 at*;go_loopw [9] (λY wr=>∃(i:Nat) (M P:Option Addr) (K L e2:Nat),i<=n/\Y=aB aI ((p+i:Nat):Int)/\Hid (GInv w wr M P K n2 L e2 (fH z p i))) (λY _=>p+n-(intOf Y).toNat)
 case atStart=>exact⟨0,a3,U,n1,c3,W,gU _,by simp,HI⟩
 case round=>
  obtain⟨i,M,P,K,L,e2,hin,rfl,Q⟩:=hrel;clear HI;by_cases X:i<n
  ·obtain⟨g1,g2,g3,g4⟩:=pF (p:=p) (n:=n) hz HD.out hp hn i (by omega);obtain⟨s1,s2⟩:=RQ (p:=p) (n:=n) hz HD.out hp hn (i:=i) X;have I:=Q.out;have t:=I.hi;have N:=I.k3 0;have k1:=I.k3 1;have k2:=I.k3 2;have k3:=I.k3 3;simp only[gB,gC,gD]at N k1 k2 k3;have hwr:w.heap.size<wr.heap.size:=by omega
   have dl:decide ((p:Int)+i<p+n)=true:=gTg (by omega);have dl2:decide (p+i<p+n)=true:=gTg (by omega);have HGE:Hid (fH z p (i+1)=(fH z p i).back (p+i) 0):=rfl;have S:=gO s1;have HS2:=gO s2;have HG1:=gO g1;have HG2:=gO g2;have HG3:=gO g3;clear g4 s1 s2 g1 g2 g3;generalize fH z p i=y at*;have c:=gO I;clear I Q;go_wp2_with fail
   refine(uM _ _ _ _ _ _ y (p+i) 0 _ c.out.own.at HG1.out S.out HS2.out).mono ?_;rintro ev R ⟨s,F,r,G,A,rfl,a,m⟩;have aAU:=m.size;have d:=gO (c.out.below m);have Dv:jC R (w.heap.size+2) s F r n2 G A (y.back (p+i) 0):=a.base t;have x:Hid (GInv w ((((R.setCell ⟨w.heap.size,0,aJ⟩ (aB aI y.f)).setCell ⟨w.heap.size,1,aJ⟩ (aB aI y.e)).setCell ⟨w.heap.size,2,aJ⟩ (aA s r G)).setCell ⟨w.heap.size,3,aJ⟩ (aA F n2 A)) s F r n2 G A (y.back (p+i) 0)):=d.out.put Dv;have HK6:=gO (x.out.below (aT _ (aO #[aB aI (y.f:Int),aB aI (y.e:Int),aA s r G,aA F n2 A] 79)));have ff3:=d.out.f3;have Z:=d.out.k3 0;have k31:=d.out.k3 1;have k32:=d.out.k3 2;have k33:=d.out.k3 3;simp only[gB,gC,gD]at Z k31 k32 k33;have XY:w.heap.size<R.heap.size:=by omega
   clear a Dv N k1 k2 k3 c d x m;go_wp2
   go_roundw
   case rel=>exact⟨i+1,s,F,r,G,A,by omega,by go_num,by rw[HGE.out];exact HK6⟩
   case measure=>simp[intOf];omega
  ·obtain rfl:i=n:=by omega
   have HG:=pF (p:=p) (n:=i) hz HD.out hp hn i (by omega);have I:=Q.out;have t:=I.hi;have N:=I.k3 0;have k1:=I.k3 1;have k2:=I.k3 2;have k3:=I.k3 3;rw[HG.2.1,HG.2.2.1]at*;simp only[gB,gC,gD]at N k1 k2 k3;have x6:=I.k6;have xf6:=I.f6;have hwr:w.heap.size<wr.heap.size:=by omega
   have c:=gO I;clear I Q;go_wp2
   refine bodyPost_ret (v:=aG #[aC #[aB aI z.f,aB aI z.e,aA M K L,aA P n2 e2],aB aI 0]) (by simp[results,results98,go_sem,x6]) rfl ⟨M,P,K,L,e2,rfl,?_,?_⟩
   ·have O:=c.out.own.ne (g:=w.heap.size+1) (.inl (by omega));exact((((c.out.own.set O _ _).set O _ _).set O _ _).set O _ _).base (base':=w.heap.size) (by omega)
   ·have V:=c.out.bw;exact Below.setCell (Below.setCell (Below.setCell (Below.setCell V (by simp only;omega) _) (by simp only;omega) _) (by simp only;omega) _) (by simp only;omega) _
end Go.Proofs.YtjaogfhcnmjkiaaGreatDoor
