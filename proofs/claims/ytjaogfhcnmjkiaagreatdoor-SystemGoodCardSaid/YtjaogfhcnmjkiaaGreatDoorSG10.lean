/- joined. -/
import Derived.Test.YtjaogfhcnmjkiaaGreatDoorSG6
import Derived.Test.YtjaogfhcnmjkiaaGreatDoorSG7
import Derived.Test.YtjaogfhcnmjkiaaGreatDoorSG9
import Derived.JoinedCond
import Derived.KernelRfl
set_option linter.all false
set_option maxRecDepth 100000
set_option maxHeartbeats 0
namespace Go.Proofs.YtjaogfhcnmjkiaaGreatDoor
open Go.RowKit
open Go.Value renaming slice->aA,int->aB,agg->aC,string->aF,tuple->aG,pointer->aH,ownBlock->gTh
open Go.IntKind renaming i64->aI
open Option renaming none->aJ,some->aK
open Go.Ending renaming returned->aN
open Go.Obj renaming cells->aO
open Go.Proofs.Tryz
variable {B N base c' cpu g gc i j k least m1 n' o size split:Nat}{W w w':World}{X X' Y:Nat->Prop}{a a':Option Addr}{c hc':Hc}{e:TypeId}{h h':Hp}{n:List UInt8}{r:Rs}{s t:Sy}{u:Value}{xs:List Value}
theorem NH:∀{x y:List UInt8},x≠y->Go.Op.bytesLess x y=false->Go.Op.bytesLess y x=true
 | [],[],h,_=>absurd rfl h
 | [],_::_,_,h=>by simp[Go.Op.bytesLess]at h
 | _::_,[],_,_=>rfl
 | a::x,b::y,hne,h=>by
  simp only[Go.Op.bytesLess,Bool.or_eq_false_iff,Bool.and_eq_false_iff,decide_eq_false_iff_not,beq_eq_false_iff_ne]at h;simp only[Go.Op.bytesLess,Bool.or_eq_true,Bool.and_eq_true,decide_eq_true_eq,beq_iff_eq];by_cases hab:a=b
  ·subst hab;refine .inr ⟨rfl,NH (λe=>hne (by rw[e])) ?_⟩;rcases h.2 with h2 | h2
   ·exact absurd rfl h2
   ·exact h2
  ·left;have h1:=h.1;rw[UInt8.lt_iff_toNat_lt]at h1 ⊢;have c:a.toNat≠b.toNat:=λe=>hab (UInt8.toNat_inj.1 e)
   omega
theorem TI {α:Type}(q:α->Bool)(l:List α):l.take (l.takeWhile q).length=l.takeWhile q/\l.drop (l.takeWhile q).length=l.dropWhile q:=by
 have h:l.takeWhile q++l.dropWhile q=l:=List.takeWhile_append_dropWhile;constructor
 ·conv=>lhs;arg 2;rw[<- h]
  exact List.take_left' rfl
 ·conv=>lhs;arg 2;rw[<- h]
  exact List.drop_left' rfl
theorem TJ {α:Type}{q:α->Bool}{y:α}:∀{l:List α},y∈l.takeWhile q->q y=true
 | [],h=>by simp at h
 | b::l,h=>by
  by_cases hb:q b=true
  ·rw[List.takeWhile_cons_of_pos hb]at h;rcases gY.1 h with rfl | h
   ·exact hb
   ·exact TJ h
  ·rw[List.takeWhile_cons_of_neg hb]at h;simp at h
theorem aB9 :∀{l:List (List UInt8)},(l.Pairwise λx y=>Go.Op.bytesLess x y=true)->n∉l->∀y∈l.dropWhile (λx=>Go.Op.bytesLess x n),Go.Op.bytesLess n y=true
 | [],_,_,y,hy=>by simp at hy
 | b::l,hl,hn,y,hy=>by
  rw[List.pairwise_cons]at hl;cases hb:Go.Op.bytesLess b n with
  | true=>
   rw[List.dropWhile_cons_of_pos (p:=λx=>Go.Op.bytesLess x n) hb]at hy;exact aB9 hl.2 (λh=>hn (List.mem_cons_of_mem _ h)) y hy
  | false=>
   rw[List.dropWhile_cons_of_neg (p:=λx=>Go.Op.bytesLess x n) (by simp[hb])]at hy;have h1:=NH (x:=b) (y:=n) (λe=>hn (by rw[<- e];exact List.mem_cons_self)) hb;rcases gY.1 hy with rfl | hy
   ·exact h1
   ·exact ES h1 (hl.1 y hy)
def Vd (l:List (List UInt8))(n:List UInt8):List (List UInt8):=l.take (Dk l n)++n::l.drop (Dk l n)
theorem Ve {l:List (List UInt8)}(hl:l.Pairwise λx y=>Go.Op.bytesLess x y=true)(hn:n∉l):(Vd l n).Pairwise λx y=>Go.Op.bytesLess x y=true:=by
 have h:l.takeWhile (λx=>Go.Op.bytesLess x n)++l.dropWhile (λx=>Go.Op.bytesLess x n)=l:=List.takeWhile_append_dropWhile;have c:=hl;rw[<- h,List.pairwise_append]at c;unfold Vd Dk;rw[(TI _ l).1,(TI _ l).2,List.pairwise_append,List.pairwise_cons];refine⟨c.1,⟨λy e=>aB9 hl hn y e,c.2.1⟩,λa d b hb=> ?_⟩;rcases gY.1 hb with rfl | hb
 ·exact TJ (q:=λx=>Go.Op.bytesLess x b) d
 ·exact c.2.2 a d b hb
theorem Ae {l:List (List UInt8)}{y:List UInt8}:y∈Vd l n↔y=n∨y∈l:=by
 unfold Vd
 conv=>rhs;rw[<- List.take_append_drop (Dk l n) l]
 simp only[gZ,gY];constructor
 ·rintro(h | h | h)
  ·exact .inr (.inl h)
  ·exact .inl h
  ·exact .inr (.inr h)
 ·rintro(h | h | h)
  ·exact .inr (.inl h)
  ·exact .inl h
  ·exact .inr (.inr h)
theorem BQ {α:Type}{R:α->α->Prop}{l:List α}(h:l.Pairwise R){c:α}(h2:∀j (hj:j<l.length),j<i->R l[j] c)(h3:∀j (hj:j<l.length),i<j->R c l[j]):(l.set i c).Pairwise R:=by
 rw[gN]at h ⊢;intro j k hj b a;rw[List.length_set]at hj b;rw[List.getElem_set,List.getElem_set];split
 ·rename_i e;subst e;rw[if_neg (by omega)];exact h3 k b a
 ·split
  ·rename_i e;subst e;exact h2 j hj a
  ·exact h j k hj b a
theorem bQ.create {s':Sy}(hk:bQ s){z:Nat}(hnm:nameB n=true)(hz:1<=z/\z<=64)(hno:s.named n=aJ)(h:s.create n z=aK s'):bQ s'/\s'.h=s.h/\s'.w=s.w:=by
 have p:∀c∈s.cs,n∉c.ns:=λc O M=>by
  unfold Sy.named at hno;rw[List.findIdx?_eq_none_iff]at hno;have B:=hno c O;rw[List.contains_iff_mem.2 M]at B;cases B
 unfold Sy.create at h;split at h
 ·rename_i i hfd;rw[List.findIdx?_eq_some_iff_getElem]at hfd;obtain⟨C,K,_⟩:=hfd;rw[gJ C]at h;simp only at h;obtain rfl:=gP h;have F:=gL C;have f:=hk.ck _ F;have H:∀d∈s.cs,qJ (s.fB i {s.cs[i]with ns:=Vd s.cs[i].ns n}) d:=λd D=>(hk.ck d D).move rfl λx A=>⟨((hk.ck d D).sk x A).live,((hk.ck d D).sk x A).chain⟩
  have G:=p _ F;refine⟨⟨hk.wl,hk.hk,by show(s.cs.set i _).length<=20;rw[List.length_set];exact hk.cl,λd D=> ?_,BQ hk.zd (λj q u=> ?_) (λj q t=> ?_),BQ hk.nd (λj q u m g v=> ?_) (λj q t m g=> ?_),BQ hk.pd (λj q u=> ?_) (λj q t=> ?_)⟩,rfl,rfl⟩
  ·rcases List.mem_or_eq_of_mem_set D with B | rfl
   ·exact H d B
   ·refine⟨f.z,f.o,f.r,λe=> ?_,λm g=> ?_,Ve f.nr G,f.ac,f.sr,λx A=>⟨(f.sk x A).live,(f.sk x A).chain⟩,f.aw,f.ad⟩
    ·have I:=(Ae (l:=s.cs[i].ns) (n:=n) (y:=n)).2 (.inl rfl);rw[show Vd s.cs[i].ns n=[]from e]at I;simp at I
    ·rcases Ae.1 g with rfl | g
     ·exact hnm
     ·exact f.nm m g
  ·exact gN.1 hk.zd j i q C u
  ·exact gN.1 hk.zd i j C q t
  ·rcases Ae.1 v with rfl | v
   ·exact p _ (gL q) g
   ·exact gN.1 hk.nd j i q C u m g v
  ·rcases Ae.1 g with rfl | g
   ·exact p _ (gL q)
   ·exact gN.1 hk.nd i j C q t m g
  ·exact gN.1 hk.pd j i q C u
  ·exact gN.1 hk.pd i j C q t
 ·rename_i hfd;split at h
  ·cases h
  ·rename_i hl;obtain rfl:=gP h;rw[List.findIdx?_eq_none_iff]at hfd;have N:=hk.cl;refine⟨⟨hk.wl,hk.hk,by simp;omega,λd D=> ?_,?_,?_,?_⟩,rfl,rfl⟩
   ·rcases gZ.1 D with B | B
    ·exact(hk.ck d B).move rfl λx A=>⟨((hk.ck d B).sk x A).live,((hk.ck d B).sk x A).chain⟩
    ·obtain rfl:=gTa.1 B;refine⟨hz,rfl,rfl,by simp,λm g=> ?_,by simp,by simp,List.Pairwise.nil,λx A=>by simp at A,λa E=> .inl (List.eq_of_mem_replicate E),?_⟩
     ·obtain rfl:=gTa.1 g;exact hnm
     ·rw[gN];intro j k q J _ _;simp
   ·show(s.cs++[_]).Pairwise _;rw[List.pairwise_append];refine⟨hk.zd,by simp,λa E b hb=> ?_⟩;obtain rfl:=gTa.1 hb;have:=hfd a E;simpa using this
   ·show(s.cs++[_]).Pairwise _;rw[List.pairwise_append];refine⟨hk.nd,by simp,λa E b hb m g v=> ?_⟩;obtain rfl:=gTa.1 hb;obtain rfl:=gTa.1 v;exact p a E g
   ·show(s.cs++[_]).Pairwise _;rw[List.pairwise_append];refine⟨hk.pd,by simp,λa E b hb x A y L=> ?_⟩;obtain rfl:=gTa.1 hb;simp at L
def kN (k:Nat):List UInt8:=match k with
 | 1=>[107,49]
 | 2=>[107,50]
 | 4=>[107,52]
 | 8=>[107,56]
 | 16=>[107,49,54]
 | _=>[107,51,50]
def aFj (aAh k:Nat):Ca:=⟨[kN k],k,aAC k,fG k,[],List.replicate aAh (-1)⟩
def dK (h:Hp)(j:Nat):Sy:=⟨List.replicate 4096 0,h,([1,2,4,8,16,32].take j).map (aFj h.aAh)⟩
theorem NI (hk:eY h):bQ (dK h 0):=by
 have e:(dK h 0).cs=[]:=rfl;refine⟨List.length_replicate,hk,?_,λc a=> ?_,?_,?_,?_⟩
 ·rw[e];exact gU _
 ·rw[e]at a;cases a
 ·rw[e];exact List.Pairwise.nil
 ·rw[e];exact List.Pairwise.nil
 ·rw[e];exact List.Pairwise.nil
theorem yZ (h:Hp)(hj:j<6):(dK h j).named (kN ([1,2,4,8,16,32].getD j 0))=aJ/\(dK h j).create (kN ([1,2,4,8,16,32].getD j 0)) ([1,2,4,8,16,32].getD j 0)=aK (dK h (j+1))/\nameB (kN ([1,2,4,8,16,32].getD j 0))=true:=by
 obtain rfl | rfl | rfl | rfl | rfl | rfl:j=0∨j=1∨j=2∨j=3∨j=4∨j=5:=by omega
 all_goals exact⟨rfl,rfl,by decide⟩
theorem aC1 {l:List Sl}(hl:l.Pairwise λa b=>a.p<b.p)(hj:j<l.length)(hk:k<l.length)(h:l[j].p=l[k].p):j=k:=by
 rw[gN]at hl;rcases Nat.lt_trichotomy j k with c | c | c
 ·have:=hl j k hj hk c;omega
 ·exact c
 ·have:=hl k j hk hj c;omega
theorem iQ {α β:Type}{f:α->β}{l:List α}{c c':α}(h:l[i]? =aK c)(he:f c'=f c):(l.set i c').map f=l.map f:=by
 obtain⟨g,a⟩:=gK.1 h;apply List.ext_getElem (by simp);intro j d b;simp only[List.getElem_map,List.getElem_set];split
 ·rename_i e;subst e;rw[he,a]
 ·rfl
def Sy.sig (s:Sy):List (List (List UInt8)×Nat):=s.cs.map λc=>(c.ns,c.z)
theorem NJ (s:Sy)(i cpu k:Nat):(s.mine i cpu k).sig=s.sig:=by
 unfold Sy.mine Sy.sig;cases hc:s.cs[i]? with
 | none=>rfl
 | some c=>
  simp only;cases hx:c.sl[k]? with
  | none=>rfl
  | some x=>exact iQ hc rfl
theorem aAL {a:Int}(h:s.pop i k=aK (t,a)):t.sig=s.sig:=by
 unfold Sy.pop at h;cases hc:s.cs[i]? with
 | none=>rw[hc]at h;cases h
 | some c=>
  rw[hc]at h;simp only at h;cases hx:c.sl[k]? with
  | none=>rw[hx]at h;cases h
  | some x=>
   rw[hx]at h;have b:=gP h;rw[Prod.mk.injEq]at b;rw[<- b.1];exact iQ hc rfl
theorem XV {c:Ca}(hc:s.cs[i]? =aK c)(h:s.grow i cpu c=aK (t,k)):t.sig=s.sig:=by
 unfold Sy.grow at h;split at h
 ·have a:=gP h;rw[Prod.mk.injEq]at a;rw[<- a.1];exact iQ hc rfl
 ·cases h
theorem QL (h:s.choose i cpu=aK (t,k)):t.sig=s.sig:=by
 unfold Sy.choose at h;cases hc:s.cs[i]? with
 | none=>rw[hc]at h;cases h
 | some c=>
  rw[hc]at h;simp only at h;split at h
  ·have a:=gP h;rw[Prod.mk.injEq]at a;rw[<- a.1]
  ·split at h
   ·have a:=gP h;rw[Prod.mk.injEq]at a;rw[<- a.1];exact NJ _ _ _ _
   ·split at h
    ·rename_i heq;have a:=gP h;rw[Prod.mk.injEq]at a;rw[<- a.1,NJ];exact XV hc heq
    ·cases h
theorem Kv {a:Int}(h:s.one i cpu=aK (t,a)):t.sig=s.sig:=by
 unfold Sy.one at h;cases hc:s.choose i cpu with
 | none=>rw[hc]at h;cases h
 | some r=>
  obtain⟨u,k⟩:=r;rw[hc]at h;exact(aAL h).trans (QL hc)
def Sy.nss (s:Sy):List (List (List UInt8)):=s.cs.map (·.ns)
theorem lY (h:t.sig=s.sig):t.nss=s.nss:=by
 have a:=congrArg (List.map Prod.fst) h;unfold Sy.sig at a;simp only[List.map_map]at a;exact a
theorem TK {a:Int}(h:s.one i cpu=aK (t,a)):t.nss=s.nss:=lY (Kv h)
theorem uQ (h:t.nss=s.nss)(hs:∀c∈s.cs,c.ns.length<=N):∀c∈t.cs,c.ns.length<=N:=λc f=>by
 have a:c.ns∈t.nss:=List.mem_map_of_mem f;rw[h]at a;obtain⟨d,b,e⟩:=List.mem_map.1 a;rw[<- e];exact hs d b
def encI (t:Int):List Value:=[vI t]
theorem wR (t:Int):(encI t).length=1:=rfl
theorem QO {r:Int}(hc:∀i v,(encI r)[i]? =aK v->w.cell? ⟨g,o+i,aJ⟩=aK v):w.cell? ⟨g,o,aJ⟩=aK (aB aI r):=hc 0 _ rfl
theorem nR (l:List Int):flat encI l=l.map vI:=by
 induction l with
 | nil=>rfl
 | cons x l ih=>rw[dS,ih];rfl
theorem QS (a:Option Addr)(n cap:Nat)(l:List Int)(g:Nat)(lb:Array Value)(p:Int->Bool)(w:World)(hn:l.length=n)(hl:n<=9223372036854775807)(hr:Row w a (flat encI l))(eg:∀args w,(callFunc g args).run prog w= .ok (.enter g args) w)
 (hp:∀W,Below w.heap.size w W->∀x∈l,Calls prog g (#[aB aI x]++lb) W λe w'=>e=aN (.bool (p x))/\Below W.heap.size W w'):
 Calls prog 117 #[aA a n cap,.func (.func g) #[] lb] w λe w'=>e=aN (aB aI (dA p l))/\Below w.heap.size w w':=by
 subst hn;go_enter func117,ntmps117
 go_wp2
 go_loopw [5,8] (λ_ j wr=>∃k:Nat,k<=l.length/\j=aB aI k/\Hid (∀x∈l.take k,p x=false)/\Below w.heap.size w wr) (λ_ j _=>l.length-(intOf j).toNat)
 case atStart=>exact⟨0,gU _,rfl,by simp[Hid],gX _ _⟩
 case round=>
  obtain⟨k,r,rfl,d,c⟩:=hrel;by_cases f:k<l.length
  ·obtain⟨b,off,rfl,hb,q⟩:=aAw wR (by decide) (hr.below c) f;obtain m:=QO q;rw[Nat.mul_one]at m;have hcall:=hp wr c l[k] (gL f);clear hr hp q;cases hv:p l[k]with
   | true=>
    have o:=gO (mJ f hv d.out);rw[hv]at hcall;generalize l[k]=y at*;go_wp2_with (go_at_fn g;refine hcall.mono ?_;rintro e w' ⟨rfl,h⟩)
    go_ret
    exact⟨dO o.out.symm,gW c h⟩
   | false=>
    rw[hv]at hcall;have o:Hid (∀x∈l.take (k+1),p x=false):=λx i=>by
     rw[List.take_succ_eq_append_getElem f,gZ,gTa]at i;rcases i with i | rfl
     ·exact d.out x i
     ·exact hv
    generalize l[k]=y at*;go_wp2_with (go_at_fn g;refine hcall.mono ?_;rintro e w' ⟨rfl,h⟩)
    go_roundw
    case rel=>exact⟨k+1,by omega,by go_num,o.out,gW c h⟩
    case measure=>simp[intOf];omega
  ·obtain rfl:k=l.length:=by omega
   go_wp2
   go_ret
   exact⟨dO (kL (by simpa[Hid]using d)).symm,c⟩
theorem Hq (a:Option Addr)(n cap:Nat)(l:List Int)(g:Nat)(lb:Array Value)(p:Int->Bool)(w:World)(hn:l.length=n)(hl:n<=9223372036854775807)(hr:Row w a (flat encI l))(eg:∀args w,(callFunc g args).run prog w= .ok (.enter g args) w)
 (hp:∀W,Below w.heap.size w W->∀x∈l,Calls prog g (#[aB aI x]++lb) W λe w'=>e=aN (.bool (p x))/\Below W.heap.size W w'):
 Calls prog 64 #[aA a n cap,.func (.func g) #[] lb] w λe w'=>e=aN (.bool (l.any p))/\Below w.heap.size w w':=by
 go_enter func64,ntmps64
 go_wp2_with (go_at_call 117;refine(QS _ _ _ l _ _ p _ hn hl hr eg hp).mono ?_;rintro e w' ⟨rfl,b⟩)
 go_ret
 exact⟨aX (iP p l),b⟩
theorem TL (y:Cc)(p:Int)(w:World)(hy:Ku w y)(hn:y.n2<=1000000)(hs:∀x∈y.c.sl,x.p<=1000000)(hp: -1000000<=p/\p<=1000000):
 Calls prog 71 #[aC #[aA y.a1 y.n1 y.c1,aB aI y.c.z,aB aI y.c.r,aB aI y.c.o,aA y.a2 y.n2 y.c2,aA y.a3 y.n3 y.c3],aB aI p] w λev w'=>ev=aN (aB aI (dA (λx=>decide ((x.p:Int)=p)) y.c.sl))/\Below w.heap.size w w':=by
 have k:∀a w,(callFunc 120 a).run prog w= .ok (.enter 120 a) w:=enters_of func120 (by kernel_rfl) rfl;have g:=aAq w (aO #[aA y.a1 y.n1 y.c1,aB aI (y.c.z:Int),aB aI (y.c.r:Int),aB aI (y.c.o:Int),aA y.a2 y.n2 y.c2,aA y.a3 y.n3 y.c3] 67);obtain⟨j,h,s,m,d,b⟩:=boxes2 w #[aA y.a1 y.n1 y.c1,aB aI (y.c.z:Int),aB aI (y.c.r:Int),aB aI (y.c.o:Int),aA y.a2 y.n2 y.c2,aA y.a3 y.n3 y.c3] 67 #[aB aI p] 3;have u:=j 4;have l:=h 0;simp only[gB,gC,gD]at u l;have q:=gO (wQ y.a2 y.n2 y.c2 y.c.sl 120 #[aH (aK ⟨w.heap.size+1,0,aJ⟩)] (λx=>decide ((x.p:Int)=p)) _ hy.l2 (by omega) (hy.r2.below b) k (λW i x t=>XZ x p (w.heap.size+1) W (hs x t) hp (gI d i.size) ((i.cell (p:=⟨w.heap.size+1,0,aJ⟩) d).trans l)));have n:=gO b;clear k g j h s m b hy hs;go_enter func71,ntmps71
 go_wp2_with (go_at_call 119;refine q.out.mono ?_;rintro e w' ⟨rfl,f⟩)
 go_ret
 exact⟨rfl,gW n.out f⟩
theorem Vl (y:Cc)(x:Sl)(a:Int)(B C:Nat)(W:World)(hz:1<=y.c.z)(hrz:y.c.r*y.c.z<=100000)(hp:x.p<=1000)(ha1: -1000000000000<=a)(ha2:a<=1000000000000)
 (hB:B<W.heap.size) (hC:C<W.heap.size) (kB:∀o,W.cell? ⟨B,o,aJ⟩=(#[aA y.a1 y.n1 y.c1,aB aI (y.c.z:Int),aB aI (y.c.r:Int),aB aI (y.c.o:Int),aA y.a2 y.n2 y.c2,aA y.a3 y.n3 y.c3]:Array Value)[o]?) (kC:∀o,W.cell? ⟨C,o,aJ⟩=(#[aB aI (x.p:Int),aB aI (x.n:Int),aB aI x.h]:Array Value)[o]?):
 Calls prog 92 (#[aB aI a]++#[aH (aK ⟨B,0,aJ⟩),aH (aK ⟨C,0,aJ⟩)]) W λev w'=>ev=aN (.bool (!iC y.c x.p a))/\Below W.heap.size W w':=by
 show Calls prog 92 #[aB aI a,aH (aK ⟨B,0,aJ⟩),aH (aK ⟨C,0,aJ⟩)] W _;have g:=kB 0;have d:=kB 1;have j:=kB 2;have k:=kB 3;have i:=kB 4;have f:=kB 5;have l:=kC 0;simp only[gB,gC,gD]at g d j k i f l;have m:=gO (yY y.c y.a1 y.a2 y.a3 y.n1 y.c1 y.n2 y.c2 y.n3 y.c3 x.p a W hz hrz hp ha1 ha2);clear kB kC;go_enter func92,ntmps92
 go_wp2_with (go_at_call 43;refine m.out.mono ?_;rintro e w' ⟨rfl,b⟩)
 go_ret
 exact⟨rfl,b⟩
def MS (az:Option Addr)(cz:Nat)(zs:List Zc):Rs:=⟨79,4,aA az zs.length cz,zs.length,flat nK zs⟩
def bkR (av:Option Addr)(cv:Nat)(l:List Bk):Rs:=⟨82,3,aA av l.length cv,l.length,flat aAx l⟩
def inR (am:Option Addr)(cm:Nat)(l:List Nat):Rs:=⟨3,1,aA am l.length cm,l.length,flat iF l⟩
structure CZ (W:World)(lH g:Nat)(zs:List Zc)(az:Option Addr)(cz:Nat)(am:Option Addr)(cm:Nat)(m:List Nat)(av:Option Addr)(cv:Nat)(v:List Bk)(aAh:Nat):Prop where
 oz:(MS az cz zs).on W lH
 ov:(bkR av cv v).on W lH
 om:(inR am cm m).on W lH
 rd:∀y∈zs,(Vu y).on W lH/\(Vw y).on W lH
 zv:(MS az cz zs).off (bkR av cv v)
 zm:(MS az cz zs).off (inR am cm m)
 zy:∀y∈zs,(MS az cz zs).off (Vu y)/\(MS az cz zs).off (Vw y)
 vm:(bkR av cv v).off (inR am cm m)
 vy:∀y∈zs,(bkR av cv v).off (Vu y)/\(bkR av cv v).off (Vw y)
 gz:(MS az cz zs).v.ownBlock≠aK g
 gv:(bkR av cv v).v.ownBlock≠aK g
 gm:(inR am cm m).v.ownBlock≠aK g
 gy:∀y∈zs,(Vu y).v.ownBlock≠aK g/\(Vw y).v.ownBlock≠aK g
 gs:lH<=g/\g<W.heap.size
 k:∀o,W.cell? ⟨g,o,aJ⟩=(#[aA az zs.length cz,aA am m.length cm,aB aI (aAh:Int),aA aJ 0 0,aA av v.length cv]:Array Value)[o]?
 fz:∀o,W.frozen? ⟨g,o,aJ⟩=false
section
variable {W W' W1:World}{lH g:Nat}{zs:List Zc}{az:Option Addr}{cz:Nat}{am:Option Addr}{cm:Nat}{m:List Nat}{av:Option Addr}{cv:Nat}{v:List Bk}{aAh:Nat}
theorem CZ.below (h:CZ W lH g zs az cz am cm m av cv v aAh)(hb:Below W.heap.size W W'):CZ W' lH g zs az cz am cm m av cv v aAh:=
 ⟨own_below h.oz hb (gT _),own_below h.ov hb (gT _),own_below h.om hb (gT _),λy a=>⟨own_below (h.rd y a).1 hb (gT _),own_below (h.rd y a).2 hb (gT _)⟩,h.zv,h.zm,h.zy,h.vm,h.vy,h.gz,h.gv,h.gm,h.gy,⟨h.gs.1,gI h.gs.2 hb.size⟩,aAp h.k h.gs.2 hb,aAt h.fz h.gs.2 hb⟩
theorem CZ.add (h:CZ W lH g zs az cz am cm m av cv v aAh)(hb:Below W.heap.size W W1){z':Zn}{a1 a2:Option Addr}{n1 n2 c1 c2:Nat}(hz:iH W1 W.heap.size a1 a2 n1 n2 c1 c2 z'){g6 cap6:Nat}
 (ho:W'.ownsRow lH 79 4 (aA (aK ⟨g6,0,aJ⟩) (zs.length+1) cap6) (zs.length+1) (flat nK (zs++[⟨z',a1,a2,n1,n2,c1,c2⟩]))) (hg:W1.grownBy W' (aA az zs.length cz).ownBlock) (hl:(aA az zs.length cz).ownBlock=aK g6∨g6=W1.heap.size):
 CZ (W'.setCell ⟨g,0,aJ⟩ (aA (aK ⟨g6,0,aJ⟩) (zs.length+1) cap6)) lH g (zs++[⟨z',a1,a2,n1,n2,c1,c2⟩]) (aK ⟨g6,0,aJ⟩) cap6 am cm m av cv v aAh:=by
 have f:=h.below hb;have D:lH<=W.heap.size:=by have:=h.gs;omega
 have J:(MS az cz zs).v.ownBlock=(aA az zs.length cz).ownBlock:=rfl;have H:∀k,(aA az zs.length cz).ownBlock=aK k->k<W.heap.size:=λk A=>(h.oz.lt k (by rw[J];exact A)).2
 -- the row's new block is aJ of the others'
 have p:∀(r:Rs),(MS az cz zs).off r->(∀k,r.v.ownBlock=aK k->k<W1.heap.size)->r.v.ownBlock≠aK g6:=λr u K e=>by
  rcases hl with c | c
  ·exact u g6 c e
  ·have:=K g6 e;omega
 have n:(Vu ⟨z',a1,a2,n1,n2,c1,c2⟩).on W1 W.heap.size:=hz.o1;have o:(Vw ⟨z',a1,a2,n1,n2,c1,c2⟩).on W1 W.heap.size:=hz.o2;have s:∀(r:Rs),r.on W1 W.heap.size->∀k,r.v.ownBlock=aK k->W.heap.size<=k/\k<W1.heap.size:=λr x k A=>x.lt k A
 have C:(MS az cz zs).off (Vu ⟨z',a1,a2,n1,n2,c1,c2⟩):=λk c z=>by have:=H k c;have:=(s _ n k z).1;omega
 have F:(MS az cz zs).off (Vw ⟨z',a1,a2,n1,n2,c1,c2⟩):=λk c z=>by have:=H k c;have:=(s _ o k z).1;omega
 have I:g6≠g:=λe=>by
  rcases hl with c | c
  ·exact h.gz (by rw[J,c,e])
  ·have:=f.gs.2;omega
 have E:(aA az zs.length cz).ownBlock≠aK g:=h.gz
 -- a row that is kept: own at W1, apart from the aIX row and from g
 have d:∀(r:Rs) (b:Nat),r.on W1 b->(MS az cz zs).off r->r.v.ownBlock≠aK g->r.on (W'.setCell ⟨g,0,aJ⟩ (aA (aK ⟨g6,0,aJ⟩) (zs.length+1) cap6)) b:=λr b x u L=>
  bC (jL x hg (λk A e=>u k e A)) L _
 have j:∀(r:Rs),r.on W1 W.heap.size->r.v.ownBlock≠aK g:=λr x e=>by have:=(s r x g e).1;have:=h.gs.2;omega
 have t:(zs++[(⟨z',a1,a2,n1,n2,c1,c2⟩:Zc)]).length=zs.length+1:=by simp
 have N:(MS (aK ⟨g6,0,aJ⟩) cap6 (zs++[⟨z',a1,a2,n1,n2,c1,c2⟩])).v=aA (aK ⟨g6,0,aJ⟩) (zs.length+1) cap6:=by unfold MS;simp only[t]
 have G:(MS (aK ⟨g6,0,aJ⟩) cap6 (zs++[⟨z',a1,a2,n1,n2,c1,c2⟩])).v.ownBlock=aK g6:=by rw[N];rfl
 have B:∀(r:Rs),r.v.ownBlock≠aK g6->(MS (aK ⟨g6,0,aJ⟩) cap6 (zs++[⟨z',a1,a2,n1,n2,c1,c2⟩])).off r:=λr x k c z=>by
  rw[G]at c;obtain rfl:=gP c;exact x z
 have q:∀(r:Rs) (b:Nat),r.on W1 b->∀k,r.v.ownBlock=aK k->k<W1.heap.size:=λr b x k A=>(x.lt k A).2
 have l:∀y∈zs++[(⟨z',a1,a2,n1,n2,c1,c2⟩:Zc)],y∈zs∨y=⟨z',a1,a2,n1,n2,c1,c2⟩:=λy w=>by simpa using w
 refine⟨?_,d _ _ f.ov h.zv h.gv,d _ _ f.om h.zm h.gm,λy w=> ?_,B _ (p _ h.zv (q _ _ f.ov)),B _ (p _ h.zm (q _ _ f.om)),λy w=> ?_,h.vm,λy w=> ?_,by rw[G];exact λe=>I (gP e),h.gv,h.gm,λy w=> ?_,⟨h.gs.1,by simpa using gI f.gs.2 hg.size⟩,?_,aAs (bG f.fz f.gs.2 hg (λe=>E e.symm)) _ _⟩
 ·have c:=bC ho (b:=g) (i:=0) (by intro e;exact I (by simpa[gTh]using e)) (aA (aK ⟨g6,0,aJ⟩) (zs.length+1) cap6);unfold Rs.on MS;simp only[t];exact c
 ·rcases l y w with c | rfl
  ·exact⟨d _ _ (f.rd y c).1 (h.zy y c).1 (h.gy y c).1,d _ _ (f.rd y c).2 (h.zy y c).2 (h.gy y c).2⟩
  ·exact⟨own_base (d _ _ n C (j _ n)) D,own_base (d _ _ o F (j _ o)) D⟩
 ·rcases l y w with c | rfl
  ·exact⟨B _ (p _ (h.zy y c).1 (q _ _ (f.rd y c).1)),B _ (p _ (h.zy y c).2 (q _ _ (f.rd y c).2))⟩
  ·exact⟨B _ (p _ C (q _ _ n)),B _ (p _ F (q _ _ o))⟩
 ·rcases l y w with c | rfl
  ·exact h.vy y c
  ·exact⟨λk z M=>by have:=(h.ov.lt k z).2;have:=(s _ n k M).1;omega,λk z M=>by have:=(h.ov.lt k z).2;have:=(s _ o k M).1;omega⟩
 ·rcases l y w with c | rfl
  ·exact h.gy y c
  ·exact⟨j _ n,j _ o⟩
 ·have c:=aAr (bD f.k f.gs.2 hg (λe=>E e.symm)) 0 (aA (aK ⟨g6,0,aJ⟩) (zs.length+1) cap6);rw[t];exact c
theorem CZ.done {y0 y1:Zc}{m0:Nat}(h:CZ W lH g [y0,y1] az cz am cm [m0,m1] av cv v aAh)(hX:∀k,X k->k<lH):
 HS W g X ⟨y0.z,y1.z,m0,m1,aAh,[],v⟩ ⟨az,cz,am,cm,aJ,0,av,cv,y0,y1,[]⟩:=by
 have m0:y0∈[y0,y1]:=by simp
 have m1:y1∈[y0,y1]:=by simp
 have f:(rW ⟨az,cz,am,cm,aJ,0,av,cv,y0,y1,[]⟩).v.ownBlock=aJ:=rfl;have a:∀(r:Rs),r.on W lH->r.on W 0:=λr b=>own_base b (gU _)
 refine⟨⟨⟨λr b=> ?_,?_⟩,λr b=> ?_,λr b s j=> ?_,λr b k c=> ?_,λr b=> ?_,λr b k c l=> ?_,h.gs.2,λe=>by have:=hX _ e;have:=h.gs.1;omega,λk c=>by have:=hX k c;have:=h.gs;omega,rfl,rfl,rfl⟩,h.k,h.fz⟩
 ·simp only[Hc.rows,List.map_nil,gY,List.not_mem_nil,or_false]at b;rcases b with rfl | rfl | rfl
  ·exact a _ h.oz
  ·exact⟨rfl,.inl ⟨rfl,rfl⟩⟩
  ·exact a _ h.ov
 ·unfold Hc.rows;refine List.pairwise_cons.2 ⟨λr b=> ?_,List.pairwise_cons.2 ⟨λr b k i=>(by rw[f]at i;cases i),List.pairwise_cons.2 ⟨λr b=>(by simp at b),List.Pairwise.nil⟩⟩⟩;simp only[List.map_nil,gY,List.not_mem_nil,or_false]at b;rcases b with rfl | rfl
  ·exact λk _ d=>by rw[f]at d;cases d
  ·exact h.zv
 ·simp only[Hc.reads,gY,List.not_mem_nil,or_false]at b;rcases b with rfl | rfl | rfl | rfl | rfl
  ·exact a _ h.om
  ·exact a _ (h.rd y0 m0).1
  ·exact a _ (h.rd y0 m0).2
  ·exact a _ (h.rd y1 m1).1
  ·exact a _ (h.rd y1 m1).2
 ·simp only[Hc.reads,gY,List.not_mem_nil,or_false]at b;simp only[Hc.rows,List.map_nil,gY,List.not_mem_nil,or_false]at j;rcases j with rfl | rfl | rfl
  ·rcases b with rfl | rfl | rfl | rfl | rfl
   ·exact h.zm.symm
   ·exact(h.zy y0 m0).1.symm
   ·exact(h.zy y0 m0).2.symm
   ·exact(h.zy y1 m1).1.symm
   ·exact(h.zy y1 m1).2.symm
  ·exact λk _ d=>by rw[f]at d;cases d
  ·rcases b with rfl | rfl | rfl | rfl | rfl
   ·exact h.vm.symm
   ·exact(h.vy y0 m0).1.symm
   ·exact(h.vy y0 m0).2.symm
   ·exact(h.vy y1 m1).1.symm
   ·exact(h.vy y1 m1).2.symm
 ·simp only[Hc.rows,List.map_nil,gY,List.not_mem_nil,or_false]at b;rcases b with rfl | rfl | rfl
  ·exact⟨λe=>h.gz (by rw[<- e];exact c),λe=>by have:=hX k e;have:=(h.oz.lt k c).1;omega⟩
  ·rw[f]at c;cases c
  ·exact⟨λe=>h.gv (by rw[<- e];exact c),λe=>by have:=hX k e;have:=(h.ov.lt k c).1;omega⟩
 ·simp only[Hc.reads,gY,List.not_mem_nil,or_false]at b;rcases b with rfl | rfl | rfl | rfl | rfl
  ·exact h.gm
  ·exact(h.gy y0 m0).1
  ·exact(h.gy y0 m0).2
  ·exact(h.gy y1 m1).1
  ·exact(h.gy y1 m1).2
 ·have m:=hX k l;simp only[Hc.reads,gY,List.not_mem_nil,or_false]at b;rcases b with rfl | rfl | rfl | rfl | rfl
  ·have:=(h.om.lt k c).1;omega
  ·have:=((h.rd y0 m0).1.lt k c).1;omega
  ·have:=((h.rd y0 m0).2.lt k c).1;omega
  ·have:=((h.rd y1 m1).1.lt k c).1;omega
  ·have:=((h.rd y1 m1).2.lt k c).1;omega
end
def put5 (W:World)(b:Nat)(u0 u1 u2 u3 u4:Value):World:=((((W.setCell ⟨b,0,aJ⟩ u0).setCell ⟨b,1,aJ⟩ u1).setCell ⟨b,2,aJ⟩ u2).setCell ⟨b,3,aJ⟩ u3).setCell ⟨b,4,aJ⟩ u4
theorem HS.move (hs:HS W g X h c)(hB:X B){a0 a1 a2 a3 a4:Value}(hk:∀o,W.cell? ⟨B,o,aJ⟩=(#[a0,a1,a2,a3,a4]:Array Value)[o]?)(hf:∀o,W.frozen? ⟨B,o,aJ⟩=false):
 HS (put5 W B (aA c.az 2 c.cz) (aA c.am 2 c.cm) (aB aI (h.aAh:Int)) (aA c.al c.lc.length c.cl) (aA c.av h.live.length c.cv)) B (λk=>X k/\k≠B) h c:=by
 have b:=((((hs.far hB 0 (aA c.az 2 c.cz)).far hB 1 (aA c.am 2 c.cm)).far hB 2 (aB aI (h.aAh:Int))).far hB 3 (aA c.al c.lc.length c.cl)).far hB 4 (aA c.av h.live.length c.cv);have f:=aAr (aAr (aAr (aAr (aAr hk 0 (aA c.az 2 c.cz)) 1 (aA c.am 2 c.cm)) 2 (aB aI (h.aAh:Int))) 3 (aA c.al c.lc.length c.cl)) 4 (aA c.av h.live.length c.cv);refine⟨⟨b.r.own,b.r.ro,b.r.ds,λr d k a=>⟨λe=>(b.r.og r d k a).2 (by rw[e];exact hB),λe=>(b.r.og r d k a).2 e.1⟩,λr d e=>b.r.rx r d B e hB,λr d k a e=>b.r.rx r d k a e.1,b.r.xs B hB,λe=>e.2 rfl,λk a=>b.r.xs k a.1,b.r.e0,b.r.e1,b.r.ll⟩,f,aAs (aAs (aAs (aAs (aAs hf _ _) _ _) _ _) _ _) _ _⟩
def kR (W:World)(B:Nat)(h:Hp)(c:Hc):Prop:=HR W B (λk=>k<B) h c
theorem kR.at (hs:kR W B h c):HAt W c.az c.am c.al c.av c.lc.length h.live.length c.y0 c.y1 c.lc h:=HR.at hs
theorem ret5 {W0 W4:World}{b G:Nat}{a0 a1 a2 a3 a4:Value}(hb:Below B W0 W4)(sf:Safe X W4 W)(hs:HS W G X h c)(K2:∀o,W4.cell? ⟨b,o,aJ⟩=(#[a0,a1,a2,a3,a4]:Array Value)[o]?)(F2:∀o,W4.frozen? ⟨b,o,aJ⟩=false)(hsz:b<W4.heap.size)(hX:X b)(hXB:∀k,k<B->X k)(hB:B<=W4.heap.size)(hbB:B<=b)(u0 u1 u2 u3 u4:Value):
 (W.cell? ⟨b,0,aJ⟩=aK a0/\W.cell? ⟨b,1,aJ⟩=aK a1/\W.cell? ⟨b,2,aJ⟩=aK a2/\W.cell? ⟨b,3,aJ⟩=aK a3/\W.cell? ⟨b,4,aJ⟩=aK a4)/\
 (W.frozen? ⟨b,0,aJ⟩=false/\W.frozen? ⟨b,1,aJ⟩=false/\W.frozen? ⟨b,2,aJ⟩=false/\W.frozen? ⟨b,3,aJ⟩=false/\W.frozen? ⟨b,4,aJ⟩=false)/\
 HS (put5 W b u0 u1 u2 u3 u4) G X h c/\Below B W0 (put5 W b u0 u1 u2 u3 u4)/\∀o,(put5 W b u0 u1 u2 u3 u4).cell? ⟨b,o,aJ⟩=(#[u0,u1,u2,u3,u4]:Array Value)[o]? :=by
 have K:=sf.box K2 hsz hX;have F:=sf.Xe F2 hsz hX;exact⟨⟨K 0,K 1,K 2,K 3,K 4⟩,⟨F 0,F 1,F 2,F 3,F 4⟩,((((hs.far hX 0 u0).far hX 1 u1).far hX 2 u2).far hX 3 u3).far hX 4 u4,Below.setCell (Below.setCell (Below.setCell (Below.setCell (Below.setCell (Safe.after hb sf hXB hB) hbB u0) hbB u1) hbB u2) hbB u3) hbB u4,aAr (aAr (aAr (aAr (aAr K 0 u0) 1 u1) 2 u2) 3 u3) 4 u4⟩
structure Sc where
 a1:Option Addr
 n1:Nat
 c1:Nat
 hc:Hc
 a2:Option Addr
 c2:Nat
 ys:List Cc
structure lZ (w:World)(v:Sc)(s:Sy):Prop where
 lw:s.w.length=v.n1
 rw:Row w v.a1 (s.w.map vI)
 hh:HAt w v.hc.az v.hc.am v.hc.al v.hc.av v.hc.lc.length s.h.live.length v.hc.y0 v.hc.y1 v.hc.lc s.h
 rc:Row w v.a2 (flat dX v.ys)
 cy:v.ys.map (·.c)=s.cs
 ca:∀y∈v.ys,Ku w y
 kw:v.n1<=v.c1
 kc:v.ys.length<=v.c2
theorem lZ.below {v:Sc}(h:lZ w v s)(hb:Below w.heap.size w w'):lZ w' v s:=⟨h.lw,h.rw.below hb,h.hh.below hb,h.rc.below hb,h.cy,λy a=>(h.ca y a).below hb,h.kw,h.kc⟩
def Sc.vals (v:Sc)(s:Sy):Array Value:=#[aA v.a1 v.n1 v.c1,aA v.hc.az 2 v.hc.cz,aA v.hc.am 2 v.hc.cm,aB aI (s.h.aAh:Int),aA v.hc.al v.hc.lc.length v.hc.cl,aA v.hc.av s.h.live.length v.hc.cv,aA v.a2 v.ys.length v.c2]
theorem Au (a1 az am al av a2:Option Addr)(n1 c1 cz cm nl cl nv cv n2 c2:Nat)(aAh:Int)(xs:List Int)(y:Cc)(x:Sl)(l:List Int)(w:World)(hn:xs.length=n1)(hn4:n1<=4096)(hr:Row w a1 (xs.map vI))
 (hz:1<=y.c.z) (hrz:y.c.r*y.c.z<=100000) (hp:x.p<=1000) (hf:follow xs x.h y.c.r=aK l) (hl:l.length=x.n) (ho:∀a∈l,iC y.c x.p a=true) (hlb:∀a∈l,0<=a/\a<=1000000) (hxn:x.n<=1000000):
 Calls prog 44 #[aC #[aA a1 n1 c1,aA az 2 cz,aA am 2 cm,aB aI aAh,aA al nl cl,aA av nv cv,aA a2 n2 c2],aC #[aA y.a1 y.n1 y.c1,aB aI y.c.z,aB aI y.c.r,aB aI y.c.o,aA y.a2 y.n2 y.c2,aA y.a3 y.n3 y.c3],aC #[aB aI x.p,aB aI x.n,aB aI x.h]] w λev w'=>∃(a':Option Addr) (c':Nat),ev=aN (aG #[aA a' l.length c',.bool true])/\Row w' a' (l.map vI)/\Below w.heap.size w w':=by
 obtain⟨I,D,v,R,Y,P,t,i⟩:=boxes3 w #[aA a1 n1 c1,aA az 2 cz,aA am 2 cm,aB aI aAh,aA al nl cl,aA av nv cv,aA a2 n2 c2] 42 #[aA y.a1 y.n1 y.c1,aB aI (y.c.z:Int),aB aI (y.c.r:Int),aB aI (y.c.o:Int),aA y.a2 y.n2 y.c2,aA y.a3 y.n3 y.c3] 67 #[aB aI (x.p:Int),aB aI (x.n:Int),aB aI x.h] 99;have M:∀f w,(callFunc 92 f).run prog w= .ok (.enter 92 f) w:=enters_of func92 (by kernel_rfl) rfl;have L:=I 0;have k1:=D 2;have k2:=v 1;have K:=v 2;simp only[gB,gC,gD]at L k1 k2 K;have HR:=gO (hr.below i);have S:=gO i;have C:=gO M;have F:=gO D;have G:=gO v;have X:=gO ho;have u:=gO hlb;clear hr i M I D v R Y P ho hlb;go_enter func44,ntmps44
 go_wp2_with fail
 generalize ((w.alloc _).alloc _).alloc _=O at*;refine(Nj a1 n1 c1 xs x.h y.c.r O hn (by omega) HR.out l hf).mono ?_;rintro ev N ⟨a',c',rfl,e,d⟩;have k:=gO (aV e);have m:=aAp F.out (by omega) d;have j:=aAp G.out t d;have J:=gI t d.size;have Q:=j 1;simp only[gB,gC,gD]at Q;have H:=gO (gW S.out d);have b:=Hq a' l.length c' l 92 #[aH (aK ⟨w.heap.size+1,0,aJ⟩),aH (aK ⟨w.heap.size+1+1,0,aJ⟩)] (λa=> !iC y.c x.p a) N rfl (by omega) (by rw[nR];exact k.out) C.out (λW A a B=>Vl y x a (w.heap.size+1) (w.heap.size+1+1) W hz hrz hp (by have:=u.out a B;omega) (by have:=u.out a B;omega) (by have:=A.size;omega) (gI J A.size) (aAp m (by omega) A) (aAp j J A));have g:(l.any λa=> !iC y.c x.p a)=false:=by
  rw[List.any_eq_false];intro a B;rw[X.out a B];decide
 rw[g]at b;have U:=gO b;have V:((l.length:Int) == (x.n:Int))=true:=by rw[beq_iff_eq,hl]
 have Z:((l.length:Int) != (x.n:Int))=false:=by rw[hl];simp
 have HL:=gO hl;have T:l.length<=1000000:=by omega
 clear b g m j e L k1 k2 K d hl;go_wp2_with (go_at_call 64;refine U.out.mono ?_;rintro ev w5 ⟨rfl,s⟩)
 have E:=gO (gW H.out s);have q:=gO (k.out.below s)
 go_ret2
 exact⟨a',c',rfl,q.out,E.out⟩
def vW (v:Sc)(s:Sy):Rs:=⟨3,1,aA v.a1 v.n1 v.c1,v.n1,s.w.map vI⟩
def nJ (v:Sc):Rs:=⟨67,6,aA v.a2 v.ys.length v.c2,v.ys.length,flat dX v.ys⟩
def sW (y:Cc):Rs:=⟨9,1,aA y.a1 y.n1 y.c1,y.n1,flat encS y.c.ns⟩
def nT (y:Cc):Rs:=⟨99,3,aA y.a2 y.n2 y.c2,y.n2,flat aY y.c.sl⟩
def rX (y:Cc):Rs:=⟨3,1,aA y.a3 y.n3 y.c3,y.n3,y.c.ac.map vI⟩
def aAU (y:Cc):List Rs:=[sW y,nT y,rX y]
def Sc.rows (v:Sc)(s:Sy):List Rs:=vW v s::nJ v::v.ys.flatMap aAU
def Sc.front (v:Sc)(s:Sy)(y:Cc)(ys:List Cc):List Rs:=vW v s::nJ v::sW y::nT y::rX y::ys.flatMap aAU
theorem Dz {α:Type}:∀{l:List α} {i:Nat} (hi:i<l.length),l.Perm (l[i]::l.eraseIdx i)
 | a::l,0,_=>List.Perm.refl _
 | a::l,i+1,hi=>by
  simp only[List.getElem_cons_succ,List.eraseIdx_cons_succ];exact((Dz (l:=l) (i:=i) (by simpa using hi)).cons a).trans (.swap _ _ _)
theorem Cb (v:Sc)(s:Sy)(hi:i<v.ys.length):(v.rows s).Perm (v.front s v.ys[i] (v.ys.eraseIdx i)):=
 ((List.Perm.flatMap_right aAU (Dz hi)).cons _).cons _
structure SR (W:World)(G:Nat)(X:Nat->Prop)(s:Sy)(v:Sc):Prop where
 own:dL W 0 (v.rows s)
 og:∀r∈v.rows s,∀g,r.v.ownBlock=aK g->g≠G/\¬X g
 hr:HR W G X s.h v.hc
 hd:∀r∈v.rows s,∀q∈v.hc.rows s.h++v.hc.reads s.h,r.off q
 cy:v.ys.map (·.c)=s.cs
structure SS (W:World)(G:Nat)(X:Nat->Prop)(s:Sy)(v:Sc):Prop where
 r:SR W G X s v
 k:∀o,W.cell? ⟨G,o,aJ⟩=(v.vals s)[o]?
 fz:∀o,W.frozen? ⟨G,o,aJ⟩=false
def fO (W:World)(B:Nat)(s:Sy)(v:Sc):Prop:=SR W B (λk=>k<B) s v
theorem sZ {v:Value}{n:Nat}(h:w.ownsRow base e size v n xs)(hb:∀k,v.ownBlock=aK k->k<w.heap.size->w'.heap[k]? =w.heap[k]?):w'.ownsRow base e size v n xs:=by
 refine⟨h.1,?_⟩;rcases h.2 with i | ⟨g,d,c,f,j,a,b⟩
 ·exact .inl i
 ·refine .inr ⟨g,d,c,f,j,?_,b⟩;rw[hb g (by rw[f];rfl) (Array.getElem?_eq_some_iff.1 a).1];exact a
section
variable {W W':World}{G:Nat}{X Y:Nat->Prop}{h:Hp}{c:Hc}
theorem HR.kept (hs:HR W G X h c)(sf:Safe Y W W')(hy:∀q∈c.rows h++c.reads h,∀k,q.v.ownBlock=aK k->Y k):HR W' G X h c:=
 ⟨⟨λr d=>sZ (hs.own.each r d) λk b a=>sf.block k a (hy r (List.mem_append_left _ d) k b),hs.own.Hu⟩,
  λr d=>sZ (hs.ro r d) λk b a=>sf.block k a (hy r (List.mem_append_right _ d) k b),hs.ds,hs.og,hs.rg,hs.rx,gI hs.gs sf.size,hs.xg,λk b=>gI (hs.xs k b) sf.size,hs.e0,hs.e1,hs.ll⟩
theorem HR.lift (hs:HR W B (λk=>k<B) h c)(hG:G<B)(hX:∀k,X k->k<B)(hxg:¬X G):HR W G X h c:=
 ⟨hs.own,hs.ro,hs.ds,λr a g b=>by have:=(hs.og r a g b).2;exact⟨by omega,λe=>this (hX g e)⟩,λr a e=>hs.rx r a G e hG,λr a g b e=>hs.rx r a g b (hX g e),Nat.lt_trans hG hs.gs,hxg,λk d=>Nat.lt_trans (hX k d) hs.gs,hs.e0,hs.e1,hs.ll⟩
theorem HR.any {G':Nat}(hs:HR W G' X' h c)(hG:G<W.heap.size)(hq:∀q∈c.rows h++c.reads h,∀k,q.v.ownBlock=aK k->k≠G/\¬X k)(hX:∀k,X k->k<W.heap.size)(hxg:¬X G):HR W G X h c:=
 ⟨hs.own,hs.ro,hs.ds,λr a g b=>hq r (List.mem_append_left _ a) g b,λr a e=>(hq r (List.mem_append_right _ a) G e).1 rfl,λr a g b=>(hq r (List.mem_append_right _ a) g b).2,hG,hxg,hX,hs.e0,hs.e1,hs.ll⟩
theorem HR.lt (hs:HR W G X h c):∀q∈c.rows h++c.reads h,∀k,q.v.ownBlock=aK k->k<W.heap.size:=λq a k b=>by
 rcases gZ.1 a with a | a
 ·exact((hs.own.each q a).lt k b).2
 ·exact((hs.ro q a).lt k b).2
theorem HR.gne (hs:HR W G X h c):∀q∈c.rows h++c.reads h,q.v.ownBlock≠aK G:=λq a e=>by
 rcases gZ.1 a with a | a
 ·exact(hs.og q a G e).1 rfl
 ·exact hs.rg q a e
end
section
variable {W W' W1:World}{G:Nat}{X Y:Nat->Prop}{s s':Sy}{v v':Sc}
theorem SR.lt (hs:SR W G X s v):∀r∈v.rows s,∀g,r.v.ownBlock=aK g->g<W.heap.size:=λr b g a=>(hs.own.lt r b g a).2
theorem SR.below (hs:SR W G X s v)(hb:Below W.heap.size W W'):SR W' G X s v:=
 ⟨hs.own.below hb,hs.og,hs.hr.below hb,hs.hd,hs.cy⟩
theorem SS.below (hs:SS W G X s v)(hb:Below W.heap.size W W'):SS W' G X s v:=
 ⟨hs.r.below hb,aAp hs.k hs.r.hr.gs hb,aAt hs.fz hs.r.hr.gs hb⟩
def Sc.blk (v:Sc)(s:Sy)(G k:Nat):Prop:=k=G∨∃r∈v.rows s,r.v.ownBlock=aK k
theorem SR.Ri (hs:SR W G X s v)(hk:X k):¬v.blk s G k:=by
 rintro(rfl | ⟨r,hr,e⟩)
 ·exact hs.hr.xg hk
 ·exact(hs.og r hr k e).2 hk
def Sc.fr (v:Sc)(s:Sy)(G:Nat)(X:Nat->Prop)(g:Nat):Prop:=g≠G/\¬X g/\∀q∈v.hc.rows s.h++v.hc.reads s.h,q.v.ownBlock≠aK g
theorem SR.fresh (hs:SR W G X s v)(hg:W.heap.size<=g):v.fr s G X g:=
 ⟨λe=>by have:=hs.hr.gs;omega,λe=>by have:=hs.hr.xs g e;omega,λq a e=>by have:=hs.hr.lt q a g e;omega⟩
theorem SR.step (hs:SR W G X s v)(sf:Safe (λk=>¬v.blk s G k) W W')(hh:s'.h=s.h)(hc:v'.hc=v.hc)(own:dL W' 0 (v'.rows s'))(hb:∀r∈v'.rows s',∀g,r.v.ownBlock=aK g->(∃q∈v.rows s,q.v.ownBlock=aK g)∨v.fr s G X g)(cy:v'.ys.map (·.c)=s'.cs):SR W' G X s' v':=by
 refine⟨own,λr hr g j=> ?_,?_,λr hr q a g i f=> ?_,cy⟩
 ·rcases hb r hr g j with ⟨q,a,e⟩ | h
  ·exact hs.og q a g e
  ·exact⟨h.1,h.2.1⟩
 ·rw[hh,hc];refine hs.hr.kept sf λq a k d=> ?_
  rintro(rfl | ⟨r,hr,e⟩)
  ·exact hs.hr.gne q a d
  ·exact hs.hd r hr q a k e d
 ·rw[hh,hc]at a;rcases hb r hr g i with ⟨l,b,e⟩ | h
  ·exact hs.hd l b q a g e f
  ·exact h.2.2 q a f
theorem SR.heap (hs:SR W G X s v)(hb:Below W.heap.size W W1)(hn:kR W1 W.heap.size h c):SR W1 G X {s with h:=h} {v with hc:=c}:=by
 have a:({v with hc:=c}:Sc).rows {s with h:=h}=v.rows s:=rfl;refine⟨a▸hs.own.below hb,λr hr=>hs.og r (a▸hr),HR.lift hn hs.hr.gs hs.hr.xs hs.hr.xg,λr hr q b g f d=> ?_,hs.cy⟩;have e:=hs.lt r (a▸hr) g f;rcases gZ.1 b with b | b
 ·exact(hn.og q b g d).2 e
 ·exact hn.rx q b g d e
theorem SR.words (hs:SR W G X s v)(hb:Below W.heap.size W W1){xs:List Int}{n c:Nat}(ho:W1.ownsRow W.heap.size 3 1 (aA a n c) n (xs.map vI)):SR W1 G X {s with w:=xs} {v with a1:=a,n1:=n,c1:=c}:=by
 have f:=hs.own.below hb;have e:dL W1 0 ((⟨3,1,aA a n c,n,xs.map vI⟩:Rs)::nJ v::v.ys.flatMap aAU):=
  dL.cons (f.sub (List.sublist_cons_self _ _)) (r':=⟨3,1,aA a n c,n,xs.map vI⟩) ho (gU _) λr b g d=>hs.lt r (List.mem_cons_of_mem _ b) g d
 refine hs.step (Safe.jD hb) rfl rfl e (λr b g d=> ?_) hs.cy;rcases gY.1 b with rfl | b
 ·exact .inr (hs.fresh (ho.lt g d).1)
 ·exact .inl ⟨r,List.mem_cons_of_mem _ b,d⟩
theorem SR.more (hs:SR W G X s v)(hy:∀k,Y k->k<W.heap.size/\¬v.blk s G k/\∀q∈v.hc.rows s.h++v.hc.reads s.h,q.v.ownBlock≠aK k):SR W G Y s v:=
 ⟨hs.own,λr hr g b=>⟨(hs.og r hr g b).1,λe=>(hy g e).2.1 (.inr ⟨r,hr,b⟩)⟩,hs.hr.more λk a=>⟨(hy k a).1,λe=>(hy k a).2.1 (.inl e),λr hr=>(hy k a).2.2 r (List.mem_append_left _ hr),λr hr=>(hy k a).2.2 r (List.mem_append_right _ hr)⟩,hs.hd,hs.cy⟩
theorem SS.more (hs:SS W G X s v)(hy:∀k,Y k->k<W.heap.size/\¬v.blk s G k/\∀q∈v.hc.rows s.h++v.hc.reads s.h,q.v.ownBlock≠aK k):SS W G Y s v:=⟨hs.r.more hy,hs.k,hs.fz⟩
theorem SS.new (hs:SS W G X s v)(hb:Below W.heap.size W W'):SS W' G (λk=>X k∨(W.heap.size<=k/\k<W'.heap.size)) s v:=
 (hs.below hb).more λk b=>by
  rcases b with b | ⟨d,c⟩
  ·refine⟨gI (hs.r.hr.xs k b) hb.size,hs.r.Ri b,λq a e=> ?_⟩;rcases gZ.1 a with a | a
   ·exact(hs.r.hr.og q a k e).2 b
   ·exact hs.r.hr.rx q a k e b
  ·refine⟨c,?_,λq a e=> ?_⟩
   ·rintro(rfl | ⟨r,hr,e⟩)
    ·have:=hs.r.hr.gs;omega
    ·have:=hs.r.lt r hr k e;omega
   ·have:=hs.r.hr.lt q a k e;omega
theorem SS.sub (hs:SS W G X s v)(hy:∀k,Y k->X k):SS W G Y s v:=
 ⟨⟨hs.r.own,λr hr g a=>⟨(hs.r.og r hr g a).1,λe=>(hs.r.og r hr g a).2 (hy g e)⟩,hs.r.hr.sub hy,hs.r.hd,hs.r.cy⟩,hs.k,hs.fz⟩
theorem SR.lift (hs:fO W B s v)(hG:G<B)(hX:∀k,X k->k<B)(hxg:¬X G):SR W G X s v:=
 ⟨hs.own,λr hr g a=>by have:=(hs.og r hr g a).2;exact⟨by omega,λe=>this (hX g e)⟩,hs.hr.lift hG hX hxg,hs.hd,hs.cy⟩
theorem SR.far (hs:SR W G X s v)(hx:¬v.blk s G g)(hq:∀q∈v.hc.rows s.h++v.hc.reads s.h,q.v.ownBlock≠aK g)(i:Nat)(u:Value):SR (W.setCell ⟨g,i,aJ⟩ u) G X s v:=
 ⟨hs.own.far (λr hr e=>hx (.inr ⟨r,hr,e⟩)) i u,hs.og,hs.hr.kept (Y:=λk=>k≠g) ((Safe.refl _ W).set (by simp) i u) (λq h k a e=>hq q h (e▸a)),hs.hd,hs.cy⟩
theorem SS.dD (hs:SS W G X s v)(hx:X g)(i:Nat)(u:Value):SS (W.setCell ⟨g,i,aJ⟩ u) G X s v:=
 ⟨hs.r.far (hs.r.Ri hx) (λq a e=>by
  rcases gZ.1 a with a | a
  ·exact(hs.r.hr.og q a g e).2 hx
  ·exact hs.r.hr.rx q a g e hx) i u,aAc hs.k (λe=>hs.r.hr.xg (e▸hx)) i u,aAs hs.fz _ _⟩
theorem SR.fE (hs:SR W G X s v)(i:Nat)(u:Value):SR (W.setCell ⟨G,i,aJ⟩ u) G X s v:=
 ⟨hs.own.far (λr hr e=>(hs.og r hr G e).1 rfl) i u,hs.og,hs.hr.fE i u,hs.hd,hs.cy⟩
theorem SR.y (hs:SR W G X s v){y:Cc}(hy:y∈v.ys):(sW y).on W 0/\(nT y).on W 0/\(rX y).on W 0:=by
 have h:∀r∈aAU y,r.on W 0:=λr a=>hs.own.each r (by
  unfold Sc.rows;exact List.mem_cons_of_mem _ (List.mem_cons_of_mem _ (List.mem_flatMap.2 ⟨y,hy,a⟩)))
 exact⟨h _ (by simp[aAU]),h _ (by simp[aAU]),h _ (by simp[aAU])⟩
theorem SR.at (hs:SR W G X s v):lZ W v s:=by
 have a:(vW v s).on W 0:=hs.own.each _ (by simp[Sc.rows]);have e:(nJ v).on W 0:=hs.own.each _ (by simp[Sc.rows]);refine⟨?_,aV a,hs.hr.at,aV e,hs.cy,λy f=> ?_,dR a,dR e⟩
 ·have:=a.1;unfold vW at this;simpa using this
 ·obtain⟨c,b,d⟩:=hs.y f;refine⟨aZ bF (by decide) c,aZ aAv (by decide) b,?_,aV c,aV b,aV d,dR c,dR b,dR d⟩;have:=d.1;unfold rX at this;simpa using this
end
section
variable {W W' W9:World}{G:Nat}{X Y:Nat->Prop}{s s':Sy}{v v':Sc}
theorem jF (v:Sc)(s:Sy):nJ v∈v.rows s:=by simp[Sc.rows]
theorem o8 (v:Sc)(s:Sy):vW v s∈v.rows s:=by simp[Sc.rows]
theorem kW {v:Sc}{s:Sy}{y:Cc}(hy:y∈v.ys)(hr:r∈aAU y):r∈v.rows s:=by
 unfold Sc.rows;exact List.mem_cons_of_mem _ (List.mem_cons_of_mem _ (List.mem_flatMap.2 ⟨y,hy,hr⟩))
theorem SS.aFD (hs:SS W G X s v){y:Cc}(hy:dL W 0 (rX y::nT y::sW y::v.rows s))(hfr:∀r∈aAU y,∀g,r.v.ownBlock=aK g->v.fr s G X g){g9 cap9:Nat}(hg9:W.grownBy W9 (nJ v).v.ownBlock)
 (ho9:W9.ownsRow 0 67 6 (aA (aK ⟨g9,0,aJ⟩) (v.ys.length+1) cap9) (v.ys.length+1) (flat dX (v.ys++[y]))) (hl9:(nJ v).v.ownBlock=aK g9∨W.heap.size<=g9):
 SS (W9.setCell ⟨G,6,aJ⟩ (aA (aK ⟨g9,0,aJ⟩) (v.ys.length+1) cap9)) G X {s with cs:=s.cs++[y.c]} {v with a2:=aK ⟨g9,0,aJ⟩,c2:=cap9,ys:=v.ys++[y]}/\
 Safe X W (W9.setCell ⟨G,6,aJ⟩ (aA (aK ⟨g9,0,aJ⟩) (v.ys.length+1) cap9)):=by
 have b:(v.ys++[y]).length=v.ys.length+1:=by simp
 have j:dL W9 0 (rX y::nT y::sW y::vW v s::(⟨67,6,aA (aK ⟨g9,0,aJ⟩) (v.ys.length+1) cap9,v.ys.length+1,flat dX (v.ys++[y])⟩:Rs)::v.ys.flatMap aAU):=
  hy.grown (i:=4) (by simp[Sc.rows]) hg9 (r':=⟨67,6,aA (aK ⟨g9,0,aJ⟩) (v.ys.length+1) cap9,v.ys.length+1,flat dX (v.ys++[y])⟩) ho9 (λg f=>by
   obtain rfl:g9=g:=by simpa[gTh]using f
   exact hl9)
 have o:nJ {v with a2:=aK ⟨g9,0,aJ⟩,c2:=cap9,ys:=v.ys++[y]}=⟨67,6,aA (aK ⟨g9,0,aJ⟩) (v.ys.length+1) cap9,v.ys.length+1,flat dX (v.ys++[y])⟩:=by
  unfold nJ;simp only[b]
 have a:({v with a2:=aK ⟨g9,0,aJ⟩,c2:=cap9,ys:=v.ys++[y]}:Sc).rows {s with cs:=s.cs++[y.c]}=vW v s::(⟨67,6,aA (aK ⟨g9,0,aJ⟩) (v.ys.length+1) cap9,v.ys.length+1,flat dX (v.ys++[y])⟩:Rs)::(v.ys.flatMap aAU++[sW y,nT y,rX y]):=by
  unfold Sc.rows;rw[o];simp only[List.flatMap_append,List.flatMap_cons,List.flatMap_nil,List.append_nil];rfl
 have d:(rX y::nT y::sW y::vW v s::(⟨67,6,aA (aK ⟨g9,0,aJ⟩) (v.ys.length+1) cap9,v.ys.length+1,flat dX (v.ys++[y])⟩:Rs)::v.ys.flatMap aAU).Perm (({v with a2:=aK ⟨g9,0,aJ⟩,c2:=cap9,ys:=v.ys++[y]}:Sc).rows {s with cs:=s.cs++[y.c]}):=by
  rw[a];have q:∀(l:List Rs),(rX y::nT y::sW y::l).Perm (l++[sW y,nT y,rX y]):=λl=>
   (List.perm_append_comm (l₁:=[rX y,nT y,sW y]) (l₂:=l)).trans (List.Perm.append_left l (List.reverse_perm [sW y,nT y,rX y]))
  exact q (_::_::v.ys.flatMap aAU)
 have n:Safe (λk=>¬v.blk s G k) W W9:=Safe.oD hg9 λk m e=>m (.inr ⟨nJ v,jF v s,e.symm⟩)
 have t:=hs.r.step (s':={s with cs:=s.cs++[y.c]}) (v':={v with a2:=aK ⟨g9,0,aJ⟩,c2:=cap9,ys:=v.ys++[y]}) n rfl rfl (j.perm d) (λr hr g f=>by
  rw[a]at hr;rcases gY.1 hr with rfl | hr
  ·exact .inl ⟨_,o8 v s,f⟩
  ·rcases gY.1 hr with rfl | hr
   ·obtain rfl:g9=g:=by simpa[gTh]using f
    rcases hl9 with h | h
    ·exact .inl ⟨_,jF v s,h⟩
    ·exact .inr (hs.r.fresh h)
   ·rcases gZ.1 hr with hr | hr
    ·exact .inl ⟨r,List.mem_cons_of_mem _ (List.mem_cons_of_mem _ hr),f⟩
    ·exact .inr (hfr r hr g f)) (by simp[hs.r.cy])
 have p:aK G≠(nJ v).v.ownBlock:=λe=>(hs.r.og _ (jF v s) G e.symm).1 rfl
 have K:=aAr (bD hs.k hs.r.hr.gs hg9 p) 6 (aA (aK ⟨g9,0,aJ⟩) (v.ys.length+1) cap9);have u:({v with a2:=aK ⟨g9,0,aJ⟩,c2:=cap9,ys:=v.ys++[y]}:Sc).vals {s with cs:=s.cs++[y.c]}=(v.vals s).setIfInBounds 6 (aA (aK ⟨g9,0,aJ⟩) (v.ys.length+1) cap9):=by
  unfold Sc.vals;simp only[b];rfl
 rw[<- u]at K;exact⟨⟨t.fE 6 _,K,aAs (bG hs.fz hs.r.hr.gs hg9 p) _ _⟩,(Safe.oD hg9 λk m e=>(hs.r.og _ (jF v s) k e.symm).2 m).set hs.r.hr.xg 6 _⟩
theorem SS.three {w5 wd wa wb wc:World}{T:Nat}(hs:SS w5 G X s v)(hX:X T)(hd:Below w5.heap.size w5 wd)(hba:Below wd.heap.size wd wa)(hbb:Below wa.heap.size wa wb)(hbc:Below wb.heap.size wb wc){y:Cc}
 (hoa:wa.ownsRow wd.heap.size 9 1 (aA y.a1 y.n1 y.c1) y.n1 (flat encS y.c.ns)) (hob:wb.ownsRow wa.heap.size 99 3 (aA y.a2 y.n2 y.c2) y.n2 (flat aY y.c.sl)) (hoc:wc.ownsRow wb.heap.size 3 1 (aA y.a3 y.n3 y.c3) y.n3 (flat encI y.c.ac)) (i1 i2 i3:Nat) (u1 u2 u3:Value):
 SS (((wc.setCell ⟨T,i1,aJ⟩ u1).setCell ⟨T,i2,aJ⟩ u2).setCell ⟨T,i3,aJ⟩ u3) G X s v/\dL (((wc.setCell ⟨T,i1,aJ⟩ u1).setCell ⟨T,i2,aJ⟩ u2).setCell ⟨T,i3,aJ⟩ u3) 0 (rX y::nT y::sW y::v.rows s)/\(∀r∈aAU y,∀g,r.v.ownBlock=aK g->v.fr s G X g):=by
 rw[nR]at hoc;have f:=gW hd hba;have n:T<w5.heap.size:=hs.r.hr.xs T hX;have h:=hd.size;have k:=hba.size;have m:=hbb.size;have j:dL wa 0 (sW y::v.rows s):=(hs.r.own.below f).cons (r':=sW y) hoa (gU _) λr hr g a=>gI (hs.r.lt r hr g a) h
 have i:dL wb 0 (nT y::sW y::v.rows s):=(j.below hbb).cons (r':=nT y) hob (gU _) λr hr g a=>(j.lt r hr g a).2
 have l:dL wc 0 (rX y::nT y::sW y::v.rows s):=(i.below hbc).cons (r':=rX y) hoc (gU _) λr hr g a=>(i.lt r hr g a).2
 have b:∀r∈aAU y,∀g,r.v.ownBlock=aK g->w5.heap.size<=g:=λr hr g a=>by
  simp only[aAU,gY,List.not_mem_nil,or_false]at hr;rcases hr with rfl | rfl | rfl
  ·have:=(hoa.lt g a).1;omega
  ·have:=(hob.lt g a).1;omega
  ·have:=(hoc.lt g a).1;omega
 have d:∀r∈rX y::nT y::sW y::v.rows s,r.v.ownBlock≠aK T:=λr hr e=>by
  simp only[gY]at hr;rcases hr with rfl | rfl | rfl | hr
  ·have:=b (rX y) (by simp[aAU]) T e;omega
  ·have:=b (nT y) (by simp[aAU]) T e;omega
  ·have:=b (sW y) (by simp[aAU]) T e;omega
  ·exact(hs.r.og r hr T e).2 hX
 exact⟨(((hs.below (gW f (gW hbb hbc))).dD hX i1 u1).dD hX i2 u2).dD hX i3 u3,((l.far d i1 u1).far d i2 u2).far d i3 u3,λr hr g a=>hs.r.fresh (b r hr g a)⟩
theorem SR.toX (hs:SR W G X s v)(hB:X B)(hy:∀k,Y k->X k)(hn:¬Y B):SR W B Y s v:=
 ⟨hs.own,λr hr g c=>⟨λe=>(hs.og r hr g c).2 (e▸hB),λe=>(hs.og r hr g c).2 (hy g e)⟩,hs.hr.any (hs.hr.xs B hB) (λq a k b=>by
  have h:¬X k:=λe=>by
   rcases gZ.1 a with a | a
   ·exact(hs.hr.og q a k b).2 e
   ·exact hs.hr.rx q a k b e
  exact⟨λe=>h (e▸hB),λe=>h (hy k e)⟩) (λk b=>hs.hr.xs k (hy k b)) hn,hs.hd,hs.cy⟩
theorem SR.dD (hs:SR W G X s v)(hx:X g)(i:Nat)(u:Value):SR (W.setCell ⟨g,i,aJ⟩ u) G X s v:=
 hs.far (hs.Ri hx) (λq a e=>by
  rcases gZ.1 a with a | a
  ·exact(hs.hr.og q a g e).2 hx
  ·exact hs.hr.rx q a g e hx) i u
end
theorem tH {α:Type}{enc:α->List Value}(hk:∀x,(enc x).length=k)(hi:i<k){x:α}:∀(l:List α) (j:Nat) (hj:j<l.length),enc x=(enc l[j]).set i u->(flat enc l).set (j*k+i) u=flat enc (l.set j x)
 | a::l,0,_,hx=>by
  rw[dS,gG,dS,Nat.zero_mul,Nat.zero_add,List.set_append_left _ _ (by rw[hk];exact hi)];rw[show enc x=(enc a).set i u from hx]
 | a::l,j+1,hj,hx=>by
  rw[dS,gH,dS,List.set_append_right _ _ (by rw[hk,Nat.add_mul];omega),hk,show(j+1)*k+i-k=j*k+i by rw[Nat.add_mul];omega,tH hk hi l j (by simpa using hj) hx]
theorem Ce {α:Type}{enc:α->List Value}{x:α}:∀(l:List α) (j:Nat) (hj:j<l.length),enc x=enc l[j]->flat enc (l.set j x)=flat enc l
 | a::l,0,_,hx=>by rw[gG,dS,dS,show enc x=enc a from hx]
 | a::l,j+1,hj,hx=>by rw[gH,dS,dS,Ce l j (by simpa using hj) hx]
section
variable {W W' W1 W2 W9:World}{G:Nat}{X Y:Nat->Prop}{s s':Sy}{v v':Sc}
def Sc.dU (v:Sc)(i:Nat)(y:Cc):Sc:={v with ys:=v.ys.set i y}
theorem x9 (v:Sc)(s:Sy)(i:Nat)(y:Cc)(c:Ca):(v.dU i y).vals (s.fB i c)=v.vals s:=by
 unfold Sc.vals Sc.dU;simp only[List.length_set];rfl
theorem SR.upC (hs:SR W G X s v)(hi:i<v.ys.length){y':Cc}(sf:Safe (λk=>¬v.blk s G k) W W')
 (own:dL W' 0 (vW v s::nJ (v.dU i y')::sW y'::nT y'::rX y'::(v.ys.eraseIdx i).flatMap aAU))
 (hb:∀r∈aAU y',∀g,r.v.ownBlock=aK g->(∃q∈v.rows s,q.v.ownBlock=aK g)∨v.fr s G X g):SR W' G X (s.fB i y'.c) (v.dU i y'):=by
 have f:i<(v.dU i y').ys.length:=by
  unfold Sc.dU;simpa using hi
 have e:=Cb (v.dU i y') (s.fB i y'.c) f;have j:(v.dU i y').ys[i]=y':=by simp[Sc.dU]
 have n:(v.dU i y').ys.eraseIdx i=v.ys.eraseIdx i:=by
  unfold Sc.dU;exact List.eraseIdx_set_eq
 have h:(v.dU i y').front (s.fB i y'.c) (v.dU i y').ys[i] ((v.dU i y').ys.eraseIdx i)=vW v s::nJ (v.dU i y')::sW y'::nT y'::rX y'::(v.ys.eraseIdx i).flatMap aAU:=by
  rw[j,n];rfl
 rw[h]at e;refine hs.step sf rfl rfl (own.perm e.symm) (λr m g b=> ?_) ?_
 ·have a:=e.mem_iff.1 m;have d:∀q,q∈(v.front s v.ys[i] (v.ys.eraseIdx i))->q∈v.rows s:=λq l=>(Cb v s hi).mem_iff.2 l
  simp only[gY]at a;rcases a with rfl | rfl | rfl | rfl | rfl | a
  ·exact .inl ⟨_,o8 v s,b⟩
  ·refine .inl ⟨_,jF v s,?_⟩;rw[<- b];unfold nJ Sc.dU;simp only[List.length_set]
  ·exact hb _ (by simp[aAU]) g b
  ·exact hb _ (by simp[aAU]) g b
  ·exact hb _ (by simp[aAU]) g b
  ·exact .inl ⟨r,d r (by unfold Sc.front;simp only[gY];exact .inr (.inr (.inr (.inr (.inr a))))),b⟩
 ·unfold Sc.dU Sy.fB;simp only;rw[List.map_set,hs.cy]
theorem SR.Rj (hs:SR W G X s v)(hi:i<v.ys.length):dL W 0 (vW v s::nJ v::sW v.ys[i]::nT v.ys[i]::rX v.ys[i]::(v.ys.eraseIdx i).flatMap aAU):=hs.own.perm (Cb v s hi)
theorem SR.TN (hs:SR W G X s v)(hi:i<v.ys.length):∃g,v.a2=aK ⟨g,0,aJ⟩/\g<W.heap.size/\g≠G/\¬X g/\(∀j,j<6->W.cell? ⟨g,i*6+j,aJ⟩=(dX v.ys[i])[j]? /\W.frozen? ⟨g,i*6+j,aJ⟩=false):=by
 have f:(nJ v).on W 0:=hs.own.each _ (jF v s);have a:=flat_length eH v.ys;obtain⟨g,u,b,_,l,_,_⟩:=fH f (i*6) (by rw[show(nJ v).xs=flat dX v.ys from rfl,a];omega);have n:(nJ v).v.ownBlock=aK g:=by unfold nJ;rw[b];rfl
 have d:=hs.og _ (jF v s) g n;refine⟨g,b,l,d.1,d.2,λj k=> ?_⟩;have c:i*6+j<(nJ v).xs.length:=by rw[show(nJ v).xs=flat dX v.ys from rfl,a];omega
 obtain⟨o,e,_,_,h,m⟩:=mQ f (i*6+j) c;rw[b]at e;obtain rfl:g=o:=by simpa using e
 refine⟨?_,m⟩;rw[h,<- flat_get eH v.ys i hi j k];exact(gJ c).symm
theorem SR.Et (hs:SR W G X s v)(hr:r∈v.rows s)(hg:r.v.ownBlock=aK g)(i:Nat)(u:Value):Safe (λk=>¬v.blk s G k) W (W.setCell ⟨g,i,aJ⟩ u):=
 (Safe.refl _ W).set (λh=>h (.inr ⟨r,hr,hg⟩)) i u
theorem SS.Yl (hs:SS W G X s v)(hg:g≠G)(i:Nat)(u:Value):(∀o,(W.setCell ⟨g,i,aJ⟩ u).cell? ⟨G,o,aJ⟩=(v.vals s)[o]?)/\∀o,(W.setCell ⟨g,i,aJ⟩ u).frozen? ⟨G,o,aJ⟩=false:=
 ⟨aAc hs.k (λe=>hg e.symm) i u,aAs hs.fz _ _⟩
theorem SS.aFF (hs:SS W G X s v)(hi:i<v.ys.length)(hg:v.ys[i].a3=aK ⟨g,0,aJ⟩)(cpu:Nat)(p:Int):
 SS (W.setCell ⟨g,cpu,aJ⟩ (vI p)) G X (s.fB i {v.ys[i].c with ac:=v.ys[i].c.ac.set cpu p}) (v.dU i {v.ys[i]with c:={v.ys[i].c with ac:=v.ys[i].c.ac.set cpu p}})/\Safe X W (W.setCell ⟨g,cpu,aJ⟩ (vI p)):=by
 have a:rX v.ys[i]∈v.rows s:=kW (gL hi) (by simp[aAU]);have hb:(rX v.ys[i]).v.ownBlock=aK g:=by unfold rX;rw[hg];rfl
 have h:=hs.r.og _ a g hb;have k:=(hs.r.Rj hi).cell (i:=4) (by simp) (g:=g) (c:=v.ys[i].c3) (by show(rX v.ys[i]).v=_;unfold rX;rw[hg];rfl) cpu (vI p) rfl;have j:({rX v.ys[i]with xs:=(rX v.ys[i]).xs.set cpu (vI p)}:Rs)=rX {v.ys[i]with c:={v.ys[i].c with ac:=v.ys[i].c.ac.set cpu p}}:=by
  unfold rX;simp only[List.map_set]
 have m:nJ (v.dU i {v.ys[i]with c:={v.ys[i].c with ac:=v.ys[i].c.ac.set cpu p}})=nJ v:=by
  have e:flat dX (v.ys.set i {v.ys[i]with c:={v.ys[i].c with ac:=v.ys[i].c.ac.set cpu p}})=flat dX v.ys:=Ce v.ys i hi rfl;unfold nJ Sc.dU;simp only[List.length_set];rw[e]
 have l:=hs.r.upC hi (y':={v.ys[i]with c:={v.ys[i].c with ac:=v.ys[i].c.ac.set cpu p}}) (hs.r.Et a hb cpu (vI p)) (by
  rw[m,<- j];exact k) (λr d n b=> .inl (by
  simp only[aAU,gY,List.not_mem_nil,or_false]at d;rcases d with rfl | rfl | rfl
  ·exact⟨sW v.ys[i],kW (gL hi) (by simp[aAU]),b⟩
  ·exact⟨nT v.ys[i],kW (gL hi) (by simp[aAU]),b⟩
  ·exact⟨rX v.ys[i],a,b⟩))
 have f:=hs.Yl h.1 cpu (vI p);rw[<- x9 v s i]at f;exact⟨⟨l,f.1,f.2⟩,(Safe.refl X W).set h.2 cpu (vI p)⟩
theorem SS.TP (hs:SS W G X s v)(hi:i<v.ys.length)(hg:v.ys[i].a2=aK ⟨g,0,aJ⟩)(hk:k<v.ys[i].c.sl.length){x':Sl}(hj:j<3)(hu:aY x'=(aY v.ys[i].c.sl[k]).set j u)(h1:u.oneCell'=true):
 SS (W.setCell ⟨g,k*3+j,aJ⟩ u) G X (s.fB i {v.ys[i].c with sl:=v.ys[i].c.sl.set k x'}) (v.dU i {v.ys[i]with c:={v.ys[i].c with sl:=v.ys[i].c.sl.set k x'}})/\Safe X W (W.setCell ⟨g,k*3+j,aJ⟩ u):=by
 have a:nT v.ys[i]∈v.rows s:=kW (gL hi) (by simp[aAU]);have hb:(nT v.ys[i]).v.ownBlock=aK g:=by unfold nT;rw[hg];rfl
 have f:=hs.r.og _ a g hb;have m:=(hs.r.Rj hi).cell (i:=3) (by simp) (g:=g) (c:=v.ys[i].c2) (by show(nT v.ys[i]).v=_;unfold nT;rw[hg];rfl) (k*3+j) u h1;have h:({nT v.ys[i]with xs:=(nT v.ys[i]).xs.set (k*3+j) u}:Rs)=nT {v.ys[i]with c:={v.ys[i].c with sl:=v.ys[i].c.sl.set k x'}}:=by
  unfold nT;simp only;rw[tH aAv hj v.ys[i].c.sl k hk hu]
 have n:nJ (v.dU i {v.ys[i]with c:={v.ys[i].c with sl:=v.ys[i].c.sl.set k x'}})=nJ v:=by
  have e:flat dX (v.ys.set i {v.ys[i]with c:={v.ys[i].c with sl:=v.ys[i].c.sl.set k x'}})=flat dX v.ys:=Ce v.ys i hi rfl;unfold nJ Sc.dU;simp only[List.length_set];rw[e]
 have l:=hs.r.upC hi (y':={v.ys[i]with c:={v.ys[i].c with sl:=v.ys[i].c.sl.set k x'}}) (hs.r.Et a hb (k*3+j) u) (by
  rw[n,<- h];exact m) (λr d o b=> .inl (by
  simp only[aAU,gY,List.not_mem_nil,or_false]at d;rcases d with rfl | rfl | rfl
  ·exact⟨sW v.ys[i],kW (gL hi) (by simp[aAU]),b⟩
  ·exact⟨nT v.ys[i],a,b⟩
  ·exact⟨rX v.ys[i],kW (gL hi) (by simp[aAU]),b⟩))
 have hk:=hs.Yl f.1 (k*3+j) u;rw[<- x9 v s i]at hk;exact⟨⟨l,hk.1,hk.2⟩,(Safe.refl X W).set f.2 (k*3+j) u⟩
theorem SS.aFG (hs:SS W G X s v)(hi:i<v.ys.length){l':List Sl}(hown:W2.ownsRow 0 99 3 (aA a' n' c') n' (flat aY l'))(hg:W.grownBy W2 (nT v.ys[i]).v.ownBlock)
 (hl:∀k,(aA a' n' c').ownBlock=aK k->(nT v.ys[i]).v.ownBlock=aK k∨W.heap.size<=k) {gc:Nat} (hgc:v.a2=aK ⟨gc,0,aJ⟩):
 SS (W2.setCell ⟨gc,i*6+4,aJ⟩ (aA a' n' c')) G X (s.fB i {v.ys[i].c with sl:=l'}) (v.dU i {v.ys[i]with a2:=a',n2:=n',c2:=c',c:={v.ys[i].c with sl:=l'}})/\Safe X W (W2.setCell ⟨gc,i*6+4,aJ⟩ (aA a' n' c')):=by
 have a:nT v.ys[i]∈v.rows s:=kW (gL hi) (by simp[aAU]);have d:(nJ v).v.ownBlock=aK gc:=by unfold nJ;rw[hgc];rfl
 have n:=hs.r.og _ (jF v s) gc d;have u:=(hs.r.Rj hi).grown (i:=3) (by simp) hg (r':=nT {v.ys[i]with a2:=a',n2:=n',c2:=c',c:={v.ys[i].c with sl:=l'}}) hown hl;have t:=u.cell (i:=1) (by simp) (g:=gc) (c:=v.c2) (by show(nJ v).v=_;unfold nJ;rw[hgc];rfl) (i*6+4) (aA a' n' c') rfl;have w:({nJ v with xs:=(nJ v).xs.set (i*6+4) (aA a' n' c')}:Rs)=nJ (v.dU i {v.ys[i]with a2:=a',n2:=n',c2:=c',c:={v.ys[i].c with sl:=l'}}):=by
  unfold nJ Sc.dU;simp only[List.length_set];rw[tH eH (by decide) v.ys i hi (x:={v.ys[i]with a2:=a',n2:=n',c2:=c',c:={v.ys[i].c with sl:=l'}}) rfl]
 have p:Safe (λk=>¬v.blk s G k) W W2:=Safe.oD hg λk m e=>m (.inr ⟨_,a,e.symm⟩)
 have hr:=hs.r.upC hi (y':={v.ys[i]with a2:=a',n2:=n',c2:=c',c:={v.ys[i].c with sl:=l'}}) (p.set (λh=>h (.inr ⟨_,jF v s,d⟩)) (i*6+4) (aA a' n' c')) (by
  rw[<- w];exact t) (λr j q b=>by
  simp only[aAU,gY,List.not_mem_nil,or_false]at j;rcases j with rfl | rfl | rfl
  ·exact .inl ⟨sW v.ys[i],kW (gL hi) (by simp[aAU]),b⟩
  ·rcases hl q b with h | h
   ·exact .inl ⟨nT v.ys[i],a,h⟩
   ·exact .inr (hs.r.fresh h)
  ·exact .inl ⟨rX v.ys[i],kW (gL hi) (by simp[aAU]),b⟩)
 have o:aK G≠(nT v.ys[i]).v.ownBlock:=λe=>(hs.r.og _ a G e.symm).1 rfl
 have f:=aAc (bD hs.k hs.r.hr.gs hg o) (c:=gc) (λe=>n.1 e.symm) (i*6+4) (aA a' n' c');have l:=aAs (bG hs.fz hs.r.hr.gs hg o) ⟨gc,i*6+4,aJ⟩ (aA a' n' c');rw[<- x9 v s i]at f;exact⟨⟨hr,f,l⟩,(Safe.oD hg λk m e=>(hs.r.og _ a k e.symm).2 m).set n.2 (i*6+4) _⟩
theorem SS.aFH (hs:SS W G X s v)(hi:i<v.ys.length){l':List (List UInt8)}(hown:W2.ownsRow 0 9 1 (aA a' n' c') n' (flat encS l'))(hg:W.grownBy W2 (sW v.ys[i]).v.ownBlock)
 (hl:∀k,(aA a' n' c').ownBlock=aK k->(sW v.ys[i]).v.ownBlock=aK k∨W.heap.size<=k) {gc:Nat} (hgc:v.a2=aK ⟨gc,0,aJ⟩):
 SS (W2.setCell ⟨gc,i*6,aJ⟩ (aA a' n' c')) G X (s.fB i {v.ys[i].c with ns:=l'}) (v.dU i {v.ys[i]with a1:=a',n1:=n',c1:=c',c:={v.ys[i].c with ns:=l'}})/\Safe X W (W2.setCell ⟨gc,i*6,aJ⟩ (aA a' n' c')):=by
 have a:sW v.ys[i]∈v.rows s:=kW (gL hi) (by simp[aAU]);have d:(nJ v).v.ownBlock=aK gc:=by unfold nJ;rw[hgc];rfl
 have n:=hs.r.og _ (jF v s) gc d;have u:=(hs.r.Rj hi).grown (i:=2) (by simp) hg (r':=sW {v.ys[i]with a1:=a',n1:=n',c1:=c',c:={v.ys[i].c with ns:=l'}}) hown hl;have t:=u.cell (i:=1) (by simp) (g:=gc) (c:=v.c2) (by show(nJ v).v=_;unfold nJ;rw[hgc];rfl) (i*6+0) (aA a' n' c') rfl;have w:({nJ v with xs:=(nJ v).xs.set (i*6+0) (aA a' n' c')}:Rs)=nJ (v.dU i {v.ys[i]with a1:=a',n1:=n',c1:=c',c:={v.ys[i].c with ns:=l'}}):=by
  unfold nJ Sc.dU;simp only[List.length_set];rw[tH eH (by decide) v.ys i hi (x:={v.ys[i]with a1:=a',n1:=n',c1:=c',c:={v.ys[i].c with ns:=l'}}) rfl]
 have p:Safe (λk=>¬v.blk s G k) W W2:=Safe.oD hg λk m e=>m (.inr ⟨_,a,e.symm⟩)
 have hr:=hs.r.upC hi (y':={v.ys[i]with a1:=a',n1:=n',c1:=c',c:={v.ys[i].c with ns:=l'}}) (p.set (λh=>h (.inr ⟨_,jF v s,d⟩)) (i*6+0) (aA a' n' c')) (by
  rw[<- w];exact t) (λr j q b=>by
  simp only[aAU,gY,List.not_mem_nil,or_false]at j;rcases j with rfl | rfl | rfl
  ·rcases hl q b with h | h
   ·exact .inl ⟨sW v.ys[i],a,h⟩
   ·exact .inr (hs.r.fresh h)
  ·exact .inl ⟨nT v.ys[i],kW (gL hi) (by simp[aAU]),b⟩
  ·exact .inl ⟨rX v.ys[i],kW (gL hi) (by simp[aAU]),b⟩)
 have o:aK G≠(sW v.ys[i]).v.ownBlock:=λe=>(hs.r.og _ a G e.symm).1 rfl
 have f:=aAc (bD hs.k hs.r.hr.gs hg o) (c:=gc) (λe=>n.1 e.symm) (i*6+0) (aA a' n' c');have l:=aAs (bG hs.fz hs.r.hr.gs hg o) ⟨gc,i*6+0,aJ⟩ (aA a' n' c');rw[<- x9 v s i]at f;exact⟨⟨hr,f,l⟩,(Safe.oD hg λk m e=>(hs.r.og _ a k e.symm).2 m).set n.2 (i*6+0) _⟩
theorem SS.aFI (hs:SS W G X s v)(hb:Below W.heap.size W W1)(hn:kR W1 W.heap.size h' hc')(hb2:Below W1.heap.size W1 W2){xs:List Int}{n c:Nat}(ho:W2.ownsRow W1.heap.size 3 1 (aA a n c) n (xs.map vI)):
 SS ((((((W2.setCell ⟨G,1,aJ⟩ (aA hc'.az 2 hc'.cz)).setCell ⟨G,2,aJ⟩ (aA hc'.am 2 hc'.cm)).setCell ⟨G,3,aJ⟩ (aB aI (h'.aAh:Int))).setCell ⟨G,4,aJ⟩ (aA hc'.al hc'.lc.length hc'.cl)).setCell ⟨G,5,aJ⟩ (aA hc'.av h'.live.length hc'.cv)).setCell ⟨G,0,aJ⟩ (aA a n c)) G X {s with w:=xs,h:=h'} {v with a1:=a,n1:=n,c1:=c,hc:=hc'}/\
 Safe X W ((((((W2.setCell ⟨G,1,aJ⟩ (aA hc'.az 2 hc'.cz)).setCell ⟨G,2,aJ⟩ (aA hc'.am 2 hc'.cm)).setCell ⟨G,3,aJ⟩ (aB aI (h'.aAh:Int))).setCell ⟨G,4,aJ⟩ (aA hc'.al hc'.lc.length hc'.cl)).setCell ⟨G,5,aJ⟩ (aA hc'.av h'.live.length hc'.cv)).setCell ⟨G,0,aJ⟩ (aA a n c)):=by
 have j:=hs.r.heap hb hn;have e:=j.words hb2 ho;have K:=aAp hs.k hs.r.hr.gs (gW hb hb2);have F:=aAt hs.fz hs.r.hr.gs (gW hb hb2);have d:=aAr K 1 (aA hc'.az 2 hc'.cz);have t:=aAr d 2 (aA hc'.am 2 hc'.cm);have l:=aAr t 3 (aB aI (h'.aAh:Int));have p:=aAr l 4 (aA hc'.al hc'.lc.length hc'.cl);have m:=aAr p 5 (aA hc'.av h'.live.length hc'.cv);have b:=aAr m 0 (aA a n c);have f:=aAs F ⟨G,1,aJ⟩ (aA hc'.az 2 hc'.cz);have o:=aAs f ⟨G,2,aJ⟩ (aA hc'.am 2 hc'.cm);have g:=aAs o ⟨G,3,aJ⟩ (aB aI (h'.aAh:Int));have u:=aAs g ⟨G,4,aJ⟩ (aA hc'.al hc'.lc.length hc'.cl);have q:=aAs u ⟨G,5,aJ⟩ (aA hc'.av h'.live.length hc'.cv);have i:=aAs q ⟨G,0,aJ⟩ (aA a n c);unfold Sc.vals at b;simp only[gE,gG,gH]at b;exact⟨⟨(((((e.fE 1 _).fE 2 _).fE 3 _).fE 4 _).fE 5 _).fE 0 _,b,i⟩,((((((Safe.jD (gW hb hb2)).set hs.r.hr.xg 1 _).set hs.r.hr.xg 2 _).set hs.r.hr.xg 3 _).set hs.r.hr.xg 4 _).set hs.r.hr.xg 5 _).set hs.r.hr.xg 0 _⟩
theorem SS.Ym (hs:SS W G X s v)(hi:i<v.ys.length){y:Cc}(hy:v.ys[i]=y){l':List Sl}(hown:W2.ownsRow 0 99 3 (aA a' n' c') n' (flat aY l'))(hg:W.grownBy W2 (nT y).v.ownBlock)
 (hl:∀k,(aA a' n' c').ownBlock=aK k->(nT y).v.ownBlock=aK k∨W.heap.size<=k) {gc:Nat} (hgc:v.a2=aK ⟨gc,0,aJ⟩):
 ∃v',SS (W2.setCell ⟨gc,i*6+4,aJ⟩ (aA a' n' c')) G X (s.fB i {y.c with sl:=l'}) v'/\Safe X W (W2.setCell ⟨gc,i*6+4,aJ⟩ (aA a' n' c'))/\v'.a2=v.a2:=by
 subst hy;have h:=hs.aFG hi hown hg hl hgc;exact⟨_,h.1,h.2,rfl⟩
theorem SR.aCn (hs:SR W G X s v)(hi:i<v.ys.length){y:Cc}(hy:v.ys[i]=y)(hgc:v.a2=aK ⟨gc,0,aJ⟩):(nT y).v.ownBlock≠aK gc:=λe=>by
 subst hy;have h:=(hs.Rj hi).off (i:=1) (j:=3) (by simp) (by simp) (by decide) gc (by show(nJ v).v.ownBlock=_;unfold nJ;rw[hgc];rfl);exact h e
theorem SS.Yn (hs:SS W G X s v)(hi:i<v.ys.length){y:Cc}(hy:v.ys[i]=y)(hg:y.a3=aK ⟨g,0,aJ⟩)(cpu:Nat)(p:Int):
 ∃v',SS (W.setCell ⟨g,cpu,aJ⟩ (vI p)) G X (s.fB i {y.c with ac:=y.c.ac.set cpu p}) v'/\Safe X W (W.setCell ⟨g,cpu,aJ⟩ (vI p))/\v'.a2=v.a2:=by
 subst hy;have h:=hs.aFF hi hg cpu p;exact⟨_,h.1,h.2,rfl⟩
theorem SS.aIY (hs:SS W G X s v)(hi:i<v.ys.length){y:Cc}(hy:v.ys[i]=y)(hg:y.a2=aK ⟨g,0,aJ⟩)(hk:k<y.c.sl.length)(h':Int){n':Nat}:
 ∃v',SS ((W.setCell ⟨g,k*3+2,aJ⟩ (vI h')).setCell ⟨g,k*3+1,aJ⟩ (vI n')) G X (s.fB i {y.c with sl:=y.c.sl.set k ⟨y.c.sl[k].p,n',h'⟩}) v'/\Safe X W ((W.setCell ⟨g,k*3+2,aJ⟩ (vI h')).setCell ⟨g,k*3+1,aJ⟩ (vI n'))/\v'.a2=v.a2:=by
 subst hy;have e:=hs.TP hi hg hk (x':=⟨v.ys[i].c.sl[k].p,v.ys[i].c.sl[k].n,h'⟩) (j:=2) (by decide) (u:=vI h') rfl rfl;have b:i<(v.dU i {v.ys[i]with c:={v.ys[i].c with sl:=v.ys[i].c.sl.set k ⟨v.ys[i].c.sl[k].p,v.ys[i].c.sl[k].n,h'⟩}}).ys.length:=by
  unfold Sc.dU;simpa using hi
 have a:(v.dU i {v.ys[i]with c:={v.ys[i].c with sl:=v.ys[i].c.sl.set k ⟨v.ys[i].c.sl[k].p,v.ys[i].c.sl[k].n,h'⟩}}).ys[i]={v.ys[i]with c:={v.ys[i].c with sl:=v.ys[i].c.sl.set k ⟨v.ys[i].c.sl[k].p,v.ys[i].c.sl[k].n,h'⟩}}:=by simp[Sc.dU]
 have d:=e.1.TP b (g:=g) (by rw[a];exact hg) (k:=k) (by rw[a];simpa using hk) (x':=⟨v.ys[i].c.sl[k].p,n',h'⟩) (j:=1) (by decide) (u:=vI n') (by
  simp only[a,List.getElem_set_self];rfl) rfl
 have f:=d.1;have h:(s.fB i {v.ys[i].c with sl:=v.ys[i].c.sl.set k ⟨v.ys[i].c.sl[k].p,v.ys[i].c.sl[k].n,h'⟩}).fB i {(v.dU i {v.ys[i]with c:={v.ys[i].c with sl:=v.ys[i].c.sl.set k ⟨v.ys[i].c.sl[k].p,v.ys[i].c.sl[k].n,h'⟩}}).ys[i].c with sl:=(v.dU i {v.ys[i]with c:={v.ys[i].c with sl:=v.ys[i].c.sl.set k ⟨v.ys[i].c.sl[k].p,v.ys[i].c.sl[k].n,h'⟩}}).ys[i].c.sl.set k ⟨v.ys[i].c.sl[k].p,n',h'⟩}=s.fB i {v.ys[i].c with sl:=v.ys[i].c.sl.set k ⟨v.ys[i].c.sl[k].p,n',h'⟩}:=by
  unfold Sy.fB;simp only[a,List.set_set]
 rw[h]at f;exact⟨_,f,e.2.trans d.2,rfl⟩
end
theorem wU:∀(a b:List Nat) (h:Hp),aW h (a++b)=aW (aW h a) b
 | [],_,_=>rfl
 | p::a,b,h=>by rw[List.cons_append,aW,aW,wU a b]
theorem yR:∀(a b:List Ls) (h:Hp),bW h (a++b)=bW (bW h a) b
 | [],_,_=>rfl
 | l::a,b,h=>by rw[List.cons_append,bW,bW,yR a b]
theorem AL (h:Hp)(l:List Nat)(hj:j<l.length):aW h (l.take (j+1))=(aW h (l.take j)).jI l[j] 0:=by
 rw[List.take_succ_eq_append_getElem hj,wU];rfl
theorem Ou (h:Hp)(l:List Ls)(hi:i<l.length):bW h (l.take (i+1))=aW (bW h (l.take i)) l[i].p:=by
 rw[List.take_succ_eq_append_getElem hi,yR];rfl
theorem Ru (hk:eY h){a:Nat}(hb:cZ 0 256 a o)(hd:∀p,cnt h.all p+hit ⟨a,o,0⟩ p<=1):(h.zone (h.jH a)).ok/\cZ (h.zone (h.jH a)).f (h.zone (h.jH a)).e a o/\∀x∈(h.zone (h.jH a)).l,apartB a o x:=
 ⟨hk.zone _,hk.fits hb,λx d=>dH λp c b=>by
  have j:=hd p;have i:=EK h (h.jH a) p;have k:=jC.2 (show aAA (h.zone (h.jH a)).l p from⟨x,d,b⟩);have g:hit ⟨a,o,0⟩ p=1:=jT.2 c;omega⟩
theorem yS (hk:eY h){a:Nat}(m:List Ls)(hb:cZ 0 256 a o)(hd:∀p,cnt h.all p+hit ⟨a,o,0⟩ p<=1):(({h with ls:=m}:Hp).zone (({h with ls:=m}:Hp).jH a)).ok/\cZ (({h with ls:=m}:Hp).zone (({h with ls:=m}:Hp).jH a)).f (({h with ls:=m}:Hp).zone (({h with ls:=m}:Hp).jH a)).e a o/\∀x∈(({h with ls:=m}:Hp).zone (({h with ls:=m}:Hp).jH a)).l,apartB a o x:=Ru hk hb hd
theorem DF (hk:eY h)(hi:i<h.ls.length)(hj:j<h.ls[i].p.length):
 ((aW (bW h (h.ls.take i)) (h.ls[i].p.take j)).zone ((aW (bW h (h.ls.take i)) (h.ls[i].p.take j)).jH h.ls[i].p[j])).ok/\cZ ((aW (bW h (h.ls.take i)) (h.ls[i].p.take j)).zone ((aW (bW h (h.ls.take i)) (h.ls[i].p.take j)).jH h.ls[i].p[j])).f ((aW (bW h (h.ls.take i)) (h.ls[i].p.take j)).zone ((aW (bW h (h.ls.take i)) (h.ls[i].p.take j)).jH h.ls[i].p[j])).e h.ls[i].p[j] 0/\∀x∈((aW (bW h (h.ls.take i)) (h.ls[i].p.take j)).zone ((aW (bW h (h.ls.take i)) (h.ls[i].p.take j)).jH h.ls[i].p[j])).l,apartB h.ls[i].p[j] 0 x:=by
 have g:∀l∈h.ls,∀p∈l.p,p<256:=λl k p g=>((hk.lr l k).2.2.2.2.2 p g).1
 have n:∀q,cnt ({h with ls:=[]}:Hp).all q+cnt (lsB h.ls) q=cnt h.all q:=λq=>by
  rw[dJ,dJ];simp only[lsB,cnt];omega
 have a:∀q,cnt (lsB h.ls) q=cnt (lsB (h.ls.take i)) q+cnt (lI h.ls[i].p) q+cnt (lsB (h.ls.drop (i+1))) q:=λq=>by
  have c:=EL hi;have b:cnt (lsB h.ls) q=cnt (lsB (h.ls.take i++h.ls[i]::h.ls.drop (i+1))) q:=congrArg (λl=>cnt (lsB l) q) c;rw[kH,iO]at b;omega
 have d:∀q,cnt (lI h.ls[i].p) q=cnt (lI (h.ls[i].p.take j)) q+hit ⟨h.ls[i].p[j],0,0⟩ q+cnt (lI (h.ls[i].p.drop (j+1))) q:=λq=>by
  have c:h.ls[i].p=h.ls[i].p.take j++([h.ls[i].p[j]]++h.ls[i].p.drop (j+1)):=by
   rw[List.singleton_append,List.getElem_cons_drop,List.take_append_drop]
  have b:cnt (lI h.ls[i].p) q=cnt (lI (h.ls[i].p.take j++([h.ls[i].p[j]]++h.ls[i].p.drop (j+1)))) q:=congrArg (λl=>cnt (lI l) q) c;rw[jJ,jJ,Dl]at b;omega
 obtain⟨v,r,z,B,A⟩:=hk.JR.bW (h.ls.take i) (λl k p m=>g l (List.mem_of_mem_take k) p m) (λq=>by have c:=n q;have b:=a q;have o:=hk.one q;omega);obtain⟨s,u,y,C,w⟩:=v.aW (h.ls[i].p.take j) (λp m=>g _ (gL hi) p (List.mem_of_mem_take m)) (λq=>by rw[r];have c:=n q;have b:=a q;have o:=hk.one q;have t:=d q;omega);have e:aW (bW h (h.ls.take i)) (h.ls[i].p.take j)={aW (bW {h with ls:=[]} (h.ls.take i)) (h.ls[i].p.take j)with ls:=h.ls}:=by
  rw[<- kJ,<- BK]
 rw[e];exact yS s h.ls (sH (g _ (gL hi) _ (gL hj))) (λq=>by rw[u,r];have c:=n q;have b:=a q;have o:=hk.one q;have t:=d q;omega)
theorem Fz (h:Hp)(l:List Ls):(bW h l).ls=h.ls/\(bW h l).live=h.live:=by
 have c:∀(g:Hp) (a o:Nat),(g.jI a o).ls=g.ls/\(g.jI a o).live=g.live:=λg a o=>by
  unfold Hp.jI Hp.jQ;split <;> exact⟨rfl,rfl⟩
 have d:∀(b:List Nat) (g:Hp),(aW g b).ls=g.ls/\(aW g b).live=g.live:=by
  intro b
  induction b with
  | nil=>intro g;exact⟨rfl,rfl⟩
  | cons p b ih=>intro g;rw[aW];exact⟨(ih _).1.trans (c g p 0).1,(ih _).2.trans (c g p 0).2⟩
 induction l generalizing h with
 | nil=>exact⟨rfl,rfl⟩
 | cons x l ih=>rw[bW];exact⟨(ih _).1.trans (d _ _).1,(ih _).2.trans (d _ _).2⟩
theorem FH (k:Nat)(w:World)(h1:1<=k)(h2:k<=64):
 Calls prog 68 #[aB aI k] w λe w'=>e=aN (aG #[aB aI (fG k:Nat),aB aI (aAC k:Nat),aB aI 0])/\w=w':=by
 have c:((16/k:Nat):Int)=16/(k:Int):=by simp
 have g:((32/k:Nat):Int)=32/(k:Int):=by simp
 have f:((64/k:Nat):Int)=64/(k:Int):=by simp
 by_cases d:4<=16/k
 ·have a:fG k=0:=by unfold fG;rw[if_pos d]
  have b:aAC k=16/k:=by unfold aAC;rw[a]
  rw[a,b,c];exact Xp k w (by omega) (by omega) (by omega)
 ·by_cases h:4<=32/k
  ·have a:fG k=1:=by unfold fG;rw[if_neg d,if_pos h]
   have b:aAC k=32/k:=by unfold aAC;rw[a]
   rw[a,b,g];exact Xq k w (by omega) (by omega) (by omega) (by omega)
  ·have a:fG k=2:=by unfold fG;rw[if_neg d,if_neg h]
   have b:aAC k=64/k:=by unfold aAC;rw[a]
   rw[a,b,f];exact Xr k w (by omega) (by omega) (by omega) (by omega)
theorem Jg (b:Bk)(p:Nat)(w:World)(ha:b.a<=1000)(hp:p<=1000):
 Calls prog 70 #[aC #[aB aI b.a,aB aI b.o,aB aI b.t],aB aI p] w λe w'=>e=aN (aB aI ((b.a:Int)-p))/\Below w.heap.size w w':=by
 go_enter func70,ntmps70
 go_wp2
 go_ret
 exact⟨rfl,aAq _ _⟩
theorem Ll (a:Option Addr)(n cap:Nat)(l:List Bk)(p:Nat)(w:World)(hn:l.length=n)(hl:n<=1000)(hr:Row w a (flat aAx l))(hrise:uN l)(ha:∀b∈l,b.a<=1000)(hp:p<=1000):
 Calls prog 69 #[aA a n cap,aB aI p,.func (.func 70) #[] #[]] w λe w'=>e=aN (aG #[aB aI (lb l p:Int),.bool (hasB l p)])/\Below w.heap.size w w':=by
 subst hn;have F:=mD l p;have P:∀k w,(callFunc 70 k).run prog w= .ok (.enter 70 k) w:=enters_of func70 (by kernel_rfl) rfl;go_enter func69,ntmps69
 go_wp2
 go_loopw [9,10,11] (λB s _ wr=>∃i j:Nat,i<=lb l p/\lb l p<=j/\j<=l.length/\B=aB aI i/\s=aB aI j/\Below w.heap.size w wr) (λB s _ _=>(intOf s).toNat-(intOf B).toNat)
 case atStart=>exact⟨0,l.length,gU _,F,gT _,rfl,rfl,gX _ _⟩
 case round=>
  obtain⟨i,j,N,J,O,rfl,rfl,f⟩:=hrel;by_cases I:i<j
  ·have E:(i+j)/2<l.length:=by omega
   have m:=gO (JW hrise (a:=p) E);obtain⟨b,off,rfl,hb,x⟩:=aAw aAu (by decide) (hr.below f) E;obtain⟨q,v,r⟩:=bH x;have t:=ha _ (gL E);clear hr x;generalize l[(i+j)/2]=y at*;go_wp2_with fail
   refine(Jg y p _ t hp).mono ?_;rintro e H ⟨rfl,u⟩;have d:=gW f u;clear q v r;by_cases o:y.a<p
   ·have M:=m.out.2 o;have D:(y.a:Int)-p<0:=by omega
    go_wp2
    go_roundw
    case rel=>exact⟨(i+j)/2+1,j,by omega,J,O,by go_num,rfl,d⟩
    case measure=>simp[intOf];omega
   ·have M:¬(i+j)/2<lb l p:=λh=>o (m.out.1 h)
    have D:¬(y.a:Int)-p<0:=by omega
    go_wp2
    go_roundw
    case rel=>exact⟨i,(i+j)/2,N,by omega,by omega,rfl,by go_num,d⟩
    case measure=>simp[intOf];omega
  ·obtain rfl:i=lb l p:=by omega
   have L:(lb l p:Int)<=l.length:=by omega
   by_cases C:lb l p<l.length
   ·obtain⟨b,off,rfl,hb,x⟩:=aAw aAu (by decide) (hr.below f) C;obtain⟨q,v,r⟩:=bH x;have t:=ha _ (gL C);have g:=gO (xY hrise (a:=p) C);have A:(lb l p:Int)<l.length:=by omega
    clear hr x;generalize l[lb l p]=y at*;generalize c:lb l p=K at*;have z:=gO c;clear c;go_wp2_with fail
    refine(Jg y p _ t hp).mono ?_;rintro e H ⟨rfl,u⟩;have d:=gW f u;clear q v r;by_cases G:y.a=p
    ·have D:((y.a:Int)-p == 0)=true:=by rw[beq_iff_eq];omega
     go_wp2
     go_ret2
     refine⟨?_,d⟩;rw[g.out,z.out,gTg G];rfl
    ·have D:((y.a:Int)-p == 0)=false:=by rw[beq_eq_false_iff_ne];omega
     go_wp2
     go_ret2
     refine⟨?_,d⟩;rw[g.out,z.out,gV G];rfl
   ·have g:=gO (wK hrise (a:=p) (by omega));have A:¬(lb l p:Int)<l.length:=by omega
    clear hr;generalize c:lb l p=K at*;have z:=gO c;clear c;go_wp2
    go_ret2
    refine⟨?_,f⟩;rw[g.out,z.out];rfl
section
variable {W W' W1 W2:World}{G:Nat}{X Y:Nat->Prop}{s s':Sy}{v v':Sc}
theorem SS.aJV (hs:SS W G X s v)(hb:Below W.heap.size W W1)(hn:kR W1 W.heap.size h' hc'):
 SS (((((W1.setCell ⟨G,1,aJ⟩ (aA hc'.az 2 hc'.cz)).setCell ⟨G,2,aJ⟩ (aA hc'.am 2 hc'.cm)).setCell ⟨G,3,aJ⟩ (aB aI (h'.aAh:Int))).setCell ⟨G,4,aJ⟩ (aA hc'.al hc'.lc.length hc'.cl)).setCell ⟨G,5,aJ⟩ (aA hc'.av h'.live.length hc'.cv)) G X {s with h:=h'} {v with hc:=hc'}/\Safe X W (((((W1.setCell ⟨G,1,aJ⟩ (aA hc'.az 2 hc'.cz)).setCell ⟨G,2,aJ⟩ (aA hc'.am 2 hc'.cm)).setCell ⟨G,3,aJ⟩ (aB aI (h'.aAh:Int))).setCell ⟨G,4,aJ⟩ (aA hc'.al hc'.lc.length hc'.cl)).setCell ⟨G,5,aJ⟩ (aA hc'.av h'.live.length hc'.cv)):=by
 have g:=hs.r.heap hb hn;have b:=aAp hs.k hs.r.hr.gs hb;have c:=aAt hs.fz hs.r.hr.gs hb;have d:=aAr b 1 (aA hc'.az 2 hc'.cz);have e:=aAs c ⟨G,1,aJ⟩ (aA hc'.az 2 hc'.cz);have n:=aAr d 2 (aA hc'.am 2 hc'.cm);have j:=aAs e ⟨G,2,aJ⟩ (aA hc'.am 2 hc'.cm);have i:=aAr n 3 (aB aI (h'.aAh:Int));have f:=aAs j ⟨G,3,aJ⟩ (aB aI (h'.aAh:Int));have l:=aAr i 4 (aA hc'.al hc'.lc.length hc'.cl);have o:=aAs f ⟨G,4,aJ⟩ (aA hc'.al hc'.lc.length hc'.cl);have a:=aAr l 5 (aA hc'.av h'.live.length hc'.cv);have m:=aAs o ⟨G,5,aJ⟩ (aA hc'.av h'.live.length hc'.cv);unfold Sc.vals at a;simp only[gE,gG,gH]at a;exact⟨⟨(((((g.fE 1 _).fE 2 _).fE 3 _).fE 4 _).fE 5 _),a,m⟩,((((((Safe.jD hb).set hs.r.hr.xg 1 _).set hs.r.hr.xg 2 _).set hs.r.hr.xg 3 _).set hs.r.hr.xg 4 _).set hs.r.hr.xg 5 _)⟩
end
def zz (j:Nat):Nat:=[1,2,4,8,16,32].getD j 0
def vY (n:Nat):Nat:=if n<=1 then 0 else if n<=2 then 1 else if n<=4 then 2 else if n<=8 then 3 else if n<=16 then 4 else 5
theorem yB {n:Nat}(h1:1<=n)(h2:n<=32):vY n<6/\n<=zz (vY n)/\zz (vY n)<2*n/\∀j,j<vY n->zz j<n:=by
 have key:∀(k:Nat),k<6->n<=zz k->zz k<2*n->(∀j,j<k->zz j<n)->vY n=k->vY n<6/\n<=zz (vY n)/\zz (vY n)<2*n/\∀j,j<vY n->zz j<n:=λk a b c d e=>by rw[e];exact⟨a,b,c,d⟩
 have z0:zz 0=1:=rfl;have z1:zz 1=2:=rfl;have l:zz 2=4:=rfl;have p:zz 3=8:=rfl;have m:zz 4=16:=rfl;have o:zz 5=32:=rfl;have f:∀k,k<=5->((∀j,j<k->zz j<n)↔(k=0∨zz (k-1)<n)):=λk i=>by
  obtain rfl | rfl | rfl | rfl | rfl | rfl:k=0∨k=1∨k=2∨k=3∨k=4∨k=5:=by omega
  ·exact⟨λ_=> .inl rfl,λ_ j g=>by omega⟩
  all_goals
   refine⟨λh=> .inr (h _ (by omega)),λh j g=> ?_⟩;rcases h with h | h
   ·omega
   ·simp only[Nat.reduceSub]at h;obtain rfl | rfl | rfl | rfl | rfl:j=0∨j=1∨j=2∨j=3∨j=4:=by omega
    all_goals omega
 unfold vY;split
 ·exact⟨by omega,by omega,by omega,λj g=>by omega⟩
 ·split
  ·exact⟨by omega,by omega,by omega,(f 1 (by omega)).2 (.inr (by show zz 0<n;omega))⟩
  ·split
   ·exact⟨by omega,by omega,by omega,(f 2 (by omega)).2 (.inr (by show zz 1<n;omega))⟩
   ·split
    ·exact⟨by omega,by omega,by omega,(f 3 (by omega)).2 (.inr (by show zz 2<n;omega))⟩
    ·split
     ·exact⟨by omega,by omega,by omega,(f 4 (by omega)).2 (.inr (by show zz 3<n;omega))⟩
     ·exact⟨by omega,by omega,by omega,(f 5 (by omega)).2 (.inr (by show zz 4<n;omega))⟩
theorem aGX (h:j<6):1<=zz j/\zz j<=32:=by
 obtain rfl | rfl | rfl | rfl | rfl | rfl:j=0∨j=1∨j=2∨j=3∨j=4∨j=5:=by omega
 all_goals decide
def tK (n:Nat):Nat:=if n<=16 then 0 else if n<=32 then 1 else if n<=64 then 2 else if n<=128 then 3 else 4
theorem zI {n:Nat}(h1:33<=n)(h2:n<=256):2<=tK n/\tK n<=4/\n<=16*2^tK n/\16*2^tK n<2*n+16/\∀o,o<tK n->16*2^o<n:=by
 unfold tK;rw[if_neg (by omega),if_neg (by omega)];split
 ·refine⟨by omega,by omega,by omega,by omega,λo a=> ?_⟩;obtain rfl | rfl:o=0∨o=1:=by omega
  all_goals omega
 ·split
  ·refine⟨by omega,by omega,by omega,by omega,λo a=> ?_⟩;obtain rfl | rfl | rfl:o=0∨o=1∨o=2:=by omega
   all_goals omega
  ·refine⟨by omega,by omega,by omega,by omega,λo a=> ?_⟩;obtain rfl | rfl | rfl | rfl:o=0∨o=1∨o=2∨o=3:=by omega
   all_goals omega
section
variable {W W' W1 W2:World}{G:Nat}{X Y:Nat->Prop}{s s':Sy}{v v':Sc}
theorem SS.aEb (hs:SS W G X s v)(hi:i<v.ys.length){y:Cc}(hy:v.ys[i]=y){l':List (List UInt8)}(hown:W2.ownsRow 0 9 1 (aA a' n' c') n' (flat encS l'))(hg:W.grownBy W2 (sW y).v.ownBlock)
 (hl:∀k,(aA a' n' c').ownBlock=aK k->(sW y).v.ownBlock=aK k∨W.heap.size<=k) {gc:Nat} (hgc:v.a2=aK ⟨gc,0,aJ⟩):
 ∃v',SS (W2.setCell ⟨gc,i*6,aJ⟩ (aA a' n' c')) G X (s.fB i {y.c with ns:=l'}) v'/\Safe X W (W2.setCell ⟨gc,i*6,aJ⟩ (aA a' n' c'))/\v'.a2=v.a2:=by
 subst hy;have h:=hs.aFH hi hown hg hl hgc;exact⟨_,h.1,h.2,rfl⟩
theorem SR.aGY (hs:SR W G X s v)(hi:i<v.ys.length){y:Cc}(hy:v.ys[i]=y)(hgc:v.a2=aK ⟨gc,0,aJ⟩):(sW y).v.ownBlock≠aK gc:=λe=>by
 subst hy;have h:=(hs.Rj hi).off (i:=1) (j:=2) (by simp) (by simp) (by decide) gc (by show(nJ v).v.ownBlock=_;unfold nJ;rw[hgc];rfl);exact h e
end
def ZB (b:Bt)(p:Nat):Bool:=dB b.m p&& !dB b.r p
def iJ (b:Bt):List Rg:=dN (ZB b)
theorem Wy (a1 a2:Option Addr)(n1 n2 c1 c2:Nat)(b:Bt)(w:World)(hat:vZ w a1 a2 n1 n2 b)(h1:dM b.m=true)(h2:dM b.r=true):
 Calls prog 47 #[aC #[aA a1 n1 c1,aA a2 n2 c2]] w λe w'=>∃a' c',e=aN (aG #[aA a' (iJ b).length c',aB aI 0])/\w'.ownsRow w.heap.size 133 2 (aA a' (iJ b).length c') (iJ b).length (flat iI (iJ b))/\Below w.heap.size w w':=by
 have hb1:=zK h1;have hb2:=zK h2;obtain⟨K0,F0,G,A⟩:=boxes1 w #[aA a1 n1 c1,aA a2 n2 c2] 27;obtain⟨l1,l2,q1,Z⟩:=hat.below A;have L:=vG h1;have z:=vG h2;have n:=nU h1;have q:=nU h2;generalize hF:iJ b=F;have HF:=gO hF;clear hat hF;go_enter func47,ntmps47
 go_wp2_with fail
 generalize w.alloc _=w0 at*;refine(AU _ _ _ _ _ _ b.m b.r _ l1 l2 (by omega) (by omega) q1 Z L z h1 h2).mono ?_;rintro e f ⟨rfl,c⟩;have H:=aAp K0 G c;have E:=q1.below c;have y:=Z.below c;have y7:=gW A c;have P:w.heap.size<f.heap.size:=gI G c.size;clear K0 F0 q1 Z L z c h1 h2;have LK0:∀W,Below f.heap.size f W->∀o,W.cell? ⟨w.heap.size,o,aJ⟩=(#[aA a1 n1 c1,aA a2 n2 c2]:Array Value)[o]? :=λW h o=>aAp H P h o
 go_upto_region 4 with fail
 go_cut [5,6] (λs5 s6 wx=>∃(j l:Nat) (R S:Nat),s5=aA (aK ⟨j,0,aJ⟩) 256 R/\s6=aA (aK ⟨l,0,aJ⟩) 256 S/\wx.ownsRow f.heap.size 4 1 (aA (aK ⟨j,0,aJ⟩) 256 R) 256 ((bl (dB b.m)).map vB)/\wx.ownsRow f.heap.size 4 1 (aA (aK ⟨l,0,aJ⟩) 256 S) 256 ((bl (dB b.r)).map vB)/\j≠l/\Below f.heap.size f wx)
 case first=>
  go_region_held3 (λW=>Below f.heap.size f W) ((repeat (first | assumption | exact gX _ _ | apply Below.drew | refine gW ?_ (by assumption)))) (first | (go_at_call_of 95 (aA a1 n1 c1);refine(Jr _ _ _ b.m _ l1 (E.below (by assumption)) n (by omega)).mono ?_;rintro e wm ⟨am,cm,rfl,Eh,hbm⟩) | (go_at_call_of 95 (aA a2 n2 c2);refine(Jr _ _ _ b.r _ l2 (y.below (by assumption)) q (by omega)).mono ?_;rintro e wr ⟨ar,cr,rfl,Q,hbr⟩))
  all_goals (go_wp2_with fail;go_meet)
  ·obtain⟨j,_,rfl,hg5,hs5,_,_⟩:=fH Eh 0 (by rw[gTe,kY];omega);obtain⟨l,_,rfl,hg6,hs6,_,_⟩:=fH Q 0 (by rw[gTe,kY];omega);exact⟨j,l,cm,cr,rfl,rfl,own_base (own_below Eh hbr (gT _)) (gT _),own_base Q (by have:=hbm.size;simpa using this),by omega,by assumption⟩
 case rest=>
  obtain⟨j,l,R,S,rfl,rfl,C,x,T,hbx⟩:=hcut;have O:=gW y7 hbx;have K:=gO C;have I:=gO x;clear LK0 H E y n q C x;go_wp2
  go_loopw [7,21] (λ_ t V=>∃i:Nat,i<=256/\t=aB aI i/\Hid (V.ownsRow f.heap.size 4 1 (aA (aK ⟨j,0,aJ⟩) 256 R) 256 ((bl (λp=>dB b.m p&& !(decide (p<i)&&dB b.r p))).map vB))/\Hid (V.ownsRow f.heap.size 4 1 (aA (aK ⟨l,0,aJ⟩) 256 S) 256 ((bl (dB b.r)).map vB))/\Below w.heap.size w V) (λ_ t _=>256-(intOf t).toNat)
  case atStart=>
   refine⟨0,by omega,rfl,?_,I,O⟩;rw[show bl (λp=>dB b.m p&& !(decide (p<0)&&dB b.r p))=bl (dB b.m)from wY λp _=>by simp];exact K
  case round=>
   obtain⟨i,hi,rfl,a,d,k⟩:=hrel;clear K I;by_cases M:i<256
   ·obtain⟨b5,D,e5,hb5,s⟩:=Mc (aV a.out) M;obtain⟨rfl,rfl⟩:j=b5/\0=D:=by simpa using e5
    obtain⟨b6,N,e6,B,u⟩:=Mc (aV d.out) M;obtain⟨rfl,rfl⟩:l=b6/\0=N:=by simpa using e6
    obtain⟨g,v,eg,hg,hgs,X,hfg⟩:=fH a.out i (by rw[gTe,kY];omega);obtain rfl:j=g:=by simpa using eg
    rw[gV (show ¬i<i by omega),Bool.false_and,Bool.not_false,Bool.and_true,Nat.zero_add]at s;rw[Nat.zero_add]at u;have Y:Hid (∀v,v=(dB b.m i&& !dB b.r i)->((wr.setCell ⟨j,i,aJ⟩ (.bool v)).ownsRow f.heap.size 4 1 (aA (aK ⟨j,0,aJ⟩) 256 R) 256 ((bl (λp=>dB b.m p&& !(decide (p<i+1)&&dB b.r p))).map vB))):=λv hv=>by
     have h:=(World.ownsRow.stored a.out i (vB v)).1;rw[<- List.map_set,Zz]at h;rw[show bl (λp=>dB b.m p&& !(decide (p<i+1)&&dB b.r p))=bl (λp=>if p=i then v else dB b.m p&& !(decide (p<i)&&dB b.r p))from wY λp _=>by
      by_cases e:p=i
      ·subst e;rw[if_pos rfl,hv,gTg (Nat.lt_succ_self p),Bool.true_and]
      ·rw[if_neg e,decide_eq_decide.2 (show p<i+1↔p<i by omega)]]
     exact h
    have U:Hid (∀v,((wr.setCell ⟨j,i,aJ⟩ (.bool v)).ownsRow f.heap.size 4 1 (aA (aK ⟨l,0,aJ⟩) 256 S) 256 ((bl (dB b.r)).map vB))):=λv=>bC d.out (by simp[gTh];exact λh=>T h.symm) _
    have hz:=y7.size;clear a d X e5 e6 eg;cases hm:dB b.m i with
    | false=>
     rw[hm]at s;go_wp2
     go_roundw
     case rel=>exact⟨i+1,by omega,by go_num,Y.out _ (by rw[hm];rfl),U.out _,k.setCell (by simp only;omega) _⟩
     case measure=>simp[intOf];omega
    | true=>
     rw[hm]at s;cases hr:dB b.r i with
     | false=>
      rw[hr]at u;go_wp2
      go_roundw
      case rel=>exact⟨i+1,by omega,by go_num,Y.out _ (by rw[hm,hr];rfl),U.out _,k.setCell (by simp only;omega) _⟩
      case measure=>simp[intOf];omega
     | true=>
      rw[hr]at u;go_wp2
      go_roundw
      case rel=>exact⟨i+1,by omega,by go_num,Y.out _ (by rw[hm,hr];rfl),U.out _,k.setCell (by simp only;omega) _⟩
      case measure=>simp[intOf];omega
   ·obtain rfl:i=256:=by omega
    have J:=aV a.out;clear a d;go_wp2_with fail
    refine(Pn _ _ _ _ J).mono ?_;rw[show dN (λp=>dB b.m p&& !(decide (p<256)&&dB b.r p))=F from by
     rw[<- HF.out];exact vS λp hp=>by rw[gTg hp,Bool.true_and];rfl]
    rintro e w5 ⟨a',c',rfl,a,B⟩;have H5:=gO (own_base a k.size);clear a;go_wp2
    go_ret2
    exact⟨a',c',rfl,H5.out,gW k B⟩
def Rg.lo (r:Rg)(split:Nat):Nat:=min (r.f.toNat+r.s.toNat) split-r.f.toNat
def newStep (split:Nat)(z:Zn×Zn)(r:Rg):Zn×Zn:=(eX z.1 r.f.toNat (r.lo split),eX z.2 (r.f.toNat+r.lo split) (r.s.toNat-r.lo split))
def fZ (split:Nat)(l:List Rg):Zn×Zn:=l.foldl (newStep split) (⟨0,split,[],List.replicate (split/8) 1⟩,⟨split,256,[],List.replicate ((256-split)/8) 1⟩)
def newH (l:List Rg)(split least aAh:Nat):Hp:=⟨(fZ split l).1,(fZ split l).2,least,least,aAh,[],[]⟩
theorem Gq:∀(l:List Rg) (q:Option Rg),dF q l=true->l.Pairwise λa b=>a.f+a.s<b.f
 | [],_,_=>List.Pairwise.nil
 | r::l,q,h=>by
  simp only[dF,Bool.and_eq_true]at h;exact List.Pairwise.cons (vJ l r h.2) (Gq l _ h.2)
structure Md (split:Nat)(l:List Rg)(z:Zn×Zn):Prop where
 o0:z.1.ok
 o1:z.2.ok
 f0:z.1.f=0
 e0:z.1.e=split
 f1:z.2.f=split
 e1:z.2.e=256
 c0:∀q,aAA z.1.l q↔(q<split/\dB l q=true)
 c1:∀q,aAA z.2.l q↔(split<=q/\dB l q=true)
theorem Po {f e:Nat}(h1:f<=e)(h2:e<=256)(h3:f%16=0)(h4:e%16=0):(⟨f,e,[],List.replicate ((e-f)/8) 1⟩:Zn).ok:=
 ⟨(aAE _ _ _).2 ⟨h1,h2,h3,h4,by simp,λt a=>by rw[(List.mem_replicate.1 a).2];omega⟩,(aAD _ _ _).2 ⟨by simp,List.Pairwise.nil,by simp⟩⟩
theorem SG (h1:split<=256)(h2:split%16=0):Md split [] (⟨0,split,[],List.replicate (split/8) 1⟩,⟨split,256,[],List.replicate ((256-split)/8) 1⟩):=
 ⟨Po (gU _) h1 rfl h2,Po h1 (gT _) h2 rfl,rfl,rfl,rfl,rfl,λq=>by simp[aAA,dB],λq=>by simp[aAA,dB]⟩
structure Um (split:Nat)(l:List Rg)(r:Rg)(z:Zn×Zn):Prop where
 f:r.f=(r.f.toNat:Int)
 s:r.s=(r.s.toNat:Int)
 fs:r.f.toNat+r.s.toNat<=256
 s1:1<=r.s.toNat
 lo:r.lo split<=r.s.toNat
 le:0<r.lo split->r.f.toNat+r.lo split<=split
 hi:r.lo split<r.s.toNat->split<=r.f.toNat+r.lo split
 d0:∀q,r.f.toNat<=q->q<r.f.toNat+r.lo split->¬aAA z.1.l q
 d1:∀q,r.f.toNat+r.lo split<=q->q<r.f.toNat+r.lo split+(r.s.toNat-r.lo split)->¬aAA z.2.l q
 next:Md split (l++[r]) (newStep split z r)
theorem DR {l:List Rg}{r:Rg}{z:Zn×Zn}(h:Md split l z)(hck:zJ r=true)(hlt:∀x∈l,x.f+x.s<r.f)(hsp:split<=256):Um split l r z:=by
 have o:=lS hck;have t:r.f=(r.f.toNat:Int):=by omega
 have u:r.s=(r.s.toNat:Int):=by omega
 obtain⟨F,i⟩:∃F,r.f.toNat=F:=⟨_,rfl⟩
 obtain⟨S,n⟩:∃S,r.s.toNat=S:=⟨_,rfl⟩
 have d:∀q,F<=q->dB l q=false:=λq A=>by
  rw[Bool.eq_false_iff];intro v;obtain⟨x,w,a,b⟩:=(kS l q).1 v;have:=hlt x w;omega
 have c:∀q,dB (l++[r]) q=true↔(dB l q=true∨(F<=q/\q<F+S)):=λq=>by
  rw[wZ,AV,Bool.or_eq_true];unfold qW;rw[decide_eq_true_eq];refine or_congr Iff.rfl ⟨λh=> ?_,λh=> ?_⟩ <;> omega
 have y:r.lo split=min (F+S) split-F:=by unfold Rg.lo;rw[i,n]
 have k:∀q,F<=q->q<F+r.lo split->¬aAA z.1.l q:=λq a b o=>by
  have:=((h.c0 q).1 o).2;rw[d q a]at this;cases this
 have g:∀q,F+r.lo split<=q->q<F+r.lo split+(S-r.lo split)->¬aAA z.2.l q:=λq a b o=>by
  have:=((h.c1 q).1 o).2;rw[d q (by omega)]at this;cases this
 rw[<- i]at k g;rw[<- n]at g;have j:(eX z.1 F (r.lo split)).ok/\(eX z.1 F (r.lo split)).f=z.1.f/\(eX z.1 F (r.lo split)).e=z.1.e/\∀q,aAA (eX z.1 F (r.lo split)).l q↔(aAA z.1.l q∨(F<=q/\q<F+r.lo split)):=by
  by_cases p:r.lo split=0
  ·rw[p];refine⟨h.o0,rfl,rfl,λq=>⟨.inl,?_⟩⟩;rintro(a | a)
   ·exact a
   ·omega
  ·rw[i]at k;exact oK h.o0 k (by rw[h.f0];exact gU _) (by rw[h.e0];omega) _ (gT _)
 have m:(eX z.2 (F+r.lo split) (S-r.lo split)).ok/\(eX z.2 (F+r.lo split) (S-r.lo split)).f=z.2.f/\(eX z.2 (F+r.lo split) (S-r.lo split)).e=z.2.e/\∀q,aAA (eX z.2 (F+r.lo split) (S-r.lo split)).l q↔(aAA z.2.l q∨(F+r.lo split<=q/\q<F+r.lo split+(S-r.lo split))):=by
  by_cases p:S-r.lo split=0
  ·rw[p];refine⟨h.o1,rfl,rfl,λq=>⟨.inl,?_⟩⟩;rintro(a | a)
   ·exact a
   ·omega
  ·rw[i,n]at g;exact oK h.o1 g (by rw[h.f1];omega) (by rw[h.e1];omega) _ (gT _)
 refine⟨t,u,by omega,by omega,by omega,by omega,by omega,k,g,?_⟩;unfold newStep;rw[i,n];refine⟨j.1,m.1,by rw[j.2.1];exact h.f0,by rw[j.2.2.1];exact h.e0,by rw[m.2.1];exact h.f1,by rw[m.2.2.1];exact h.e1,λq=> ?_,λq=> ?_⟩
 ·simp only;rw[j.2.2.2,h.c0,c];constructor
  ·rintro(⟨a,b⟩ | a)
   ·exact⟨a,.inl b⟩
   ·exact⟨by omega,.inr (by omega)⟩
  ·rintro⟨a,b | b⟩
   ·exact .inl ⟨a,b⟩
   ·exact .inr (by omega)
 ·simp only;rw[m.2.2.2,h.c1,c];constructor
  ·rintro(⟨a,b⟩ | a)
   ·exact⟨a,.inl b⟩
   ·exact⟨by omega,.inr (by omega)⟩
  ·rintro⟨a,b | b⟩
   ·exact .inl ⟨a,b⟩
   ·exact .inr (by omega)
theorem Gs (split:Nat)(l:List Rg)(k:Nat)(hk:k<l.length):fZ split (l.take (k+1))=newStep split (fZ split (l.take k)) l[k]:=by
 unfold fZ;rw[List.take_succ_eq_append_getElem hk,List.foldl_append];rfl
theorem qY {l:List Rg}(hl:dM l=true)(h1:split<=256)(h2:split%16=0):∀k,k<=l.length->Md split (l.take k) (fZ split (l.take k))
 | 0,_=>SG h1 h2
 | k+1,hk=>by
  rw[Gs split l k hk,List.take_succ_eq_append_getElem hk];refine(DR (qY hl h1 h2 k (by omega)) (nU hl _ (gL hk)) (λx hx=> ?_) h1).next;simp only[dM,Bool.and_eq_true]at hl;obtain⟨j,hj,rfl⟩:=List.mem_take_iff_getElem.1 hx;exact gN.1 (Gq l aJ hl.2) _ _ _ hk (by omega)
theorem WA {l:List Rg}(hl:dM l=true)(h1:split<=256)(h2:split%16=0)(hk:k<l.length):Um split (l.take k) l[k] (fZ split (l.take k)):=by
 refine DR (qY hl h1 h2 k (by omega)) (nU hl _ (gL hk)) (λx a=> ?_) h1;simp only[dM,Bool.and_eq_true]at hl;obtain⟨j,b,rfl⟩:=List.mem_take_iff_getElem.1 a;exact gN.1 (Gq l aJ hl.2) _ _ _ hk (by omega)
theorem Me {l:List Rg}(hl:dM l=true){aAh:Nat}(h1:split<=256)(h2:split%16=0)(h3:least<=256)(h4:1<=aAh/\aAh<=4):
 eY (newH l split least aAh)/\∀p,cnt (newH l split least aAh).all p=if dB l p then 1 else 0:=by
 have a:=qY hl h1 h2 l.length (gT _);rw[List.take_length]at a;have d:∀p,cnt (newH l split least aAh).all p=if dB l p then 1 else 0:=λp=>by
  rw[dJ];show cnt (fZ split l).1.l p+cnt (fZ split l).2.l p+0+0=_;have e:=nN (nO a.o0.2.sep) p;have f:=nN (nO a.o1.2.sep) p;have c:=(jC (l:=(fZ split l).1.l) (p:=p)).trans (a.c0 p);have b:=(jC (l:=(fZ split l).2.l) (p:=p)).trans (a.c1 p);cases hp:dB l p with
  | true=>
   simp only[hp,and_true]at c b;simp only[if_true];omega
  | false=>
   simp only[hp,Bool.false_eq_true,and_false,iff_false]at c b;simp;omega
 refine⟨⟨a.o0,a.o1,a.f0,a.e0.trans a.f1.symm,a.e1,h3,h3,h4,List.Pairwise.nil,by simp[newH],by simp[newH],List.Pairwise.nil,λp=> ?_⟩,d⟩;rw[d];split <;> omega
theorem aBr {z:Zn}(hz:z.ok):z.l.length<=256:=by
 refine gQ ?_ (XB hz);generalize z.l=l
 induction l with
 | nil=>simp
 | cons b l ih=>
  have:=dZ b.o;simp only[szB,List.length_cons];omega
theorem Pq (a1 a2:Option Addr)(n1 n2 c1 c2:Nat)(z:Zn)(p n:Nat)(w:World)(hat:JY w a1 a2 n1 n2 z)(hz:z.ok)(hd0:∀q,p<=q->q<p+n->¬aAA z.l q)(hp:z.f<=p)(hn:p+n<=z.e):
 Calls prog 98 #[aC #[aB aI z.f,aB aI z.e,aA a1 n1 c1,aA a2 n2 c2],aB aI p,aB aI n] w λev w'=>∃a1' a2' n1' c1' c2',ev=aN (aG #[aC #[aB aI z.f,aB aI z.e,aA a1' n1' c1',aA a2' n2 c2'],aB aI 0])/\iH w' w.heap.size a1' a2' n1' n2 c1' c2' (eX z p n)/\Below w.heap.size w w':=by
 have hee:=hz.1.e2;have l1:=hat.l1;have l2:=hat.l2;have hl0:z.l.length<=256:=aBr hz;have HD:=gO hd0;have hy32:z.y.length<=32:=by rw[hz.1.len];omega
 obtain⟨K3,K6,F3,F6,U,k⟩:=boxes2 w #[aB aI (z.f:Int),aB aI (z.e:Int),aA a1 n1 c1,aA a2 n2 c2] 79 #[aB aI 0,aB aI 0,aA aJ 0 0,aA aJ 0 0] 79;have T:=hat.below k;have d1:decide (p<z.f)=false:=gV (by omega);have d2:decide ((z.e:Int)<p)=false:=gV (by omega);have d3:decide ((z.e:Int)-p<n)=false:=gV (by omega);have d4:decide (z.e<p)=false:=gV (by omega);have d5:(p:Int)<=z.e:=by omega
 clear hat hd0;go_enter func98,ntmps98
 go_wp2_with fail
 generalize (w.alloc _).alloc _=w0 at*;refine(qC _ _ _ _ _ _ z _ T hz).mono ?_;rintro ev w1 ⟨rfl,b⟩;have E:=aAp K3 (by omega) b;have u:=aAp K6 (by omega) b;have B:=aAt F3 (by omega) b;have o:=aAt F6 (by omega) b;have Ht:=T.below b;have y7:=gW k b;have hB:w.heap.size+2<=w1.heap.size:=by have:=b.size;omega
 clear K3 K6 F3 F6 b T k U;go_wp2_with fail
 refine(Eo _ _ _ _ _ _ z.f z.e z _ Ht (by omega) (by omega)).mono ?_;rintro ev w5 ⟨a3,V,c3,X,rfl,a,h⟩;have D:=aAp E (by omega) h;have J:=aAp u (by omega) h;have H:=aAt B (by omega) h;have C:=aAt o (by omega) h;have yL:=gW y7 h;have j:=(a.ne (g:=w.heap.size) (.inl (by omega)))
 have I1:GInv w ((((w5.setCell ⟨w.heap.size,0,aJ⟩ (aB aI z.f)).setCell ⟨w.heap.size,1,aJ⟩ (aB aI z.e)).setCell ⟨w.heap.size,2,aJ⟩ (aA a3 n1 c3)).setCell ⟨w.heap.size,3,aJ⟩ (aA V n2 X)) a3 V n1 n2 c3 X z:=by
  have h5:=h.size;exact⟨aAr (aAr (aAr (aAr D 0 _) 1 _) 2 _) 3 _,aAs (aAs (aAs (aAs H _ _) _ _) _ _) _ _,aAc (aAc (aAc (aAc J (by omega) _ _) (by omega) _ _) (by omega) _ _) (by omega) _ _,aAs (aAs (aAs (aAs C _ _) _ _) _ _) _ _,(((((a.base hB).set j _ _).set j _ _).set j _ _).set j _ _),by simp only[World.size_setCell];omega,Below.setCell (Below.setCell (Below.setCell (Below.setCell yL (by simp only;omega) _) (by simp only;omega) _) (by simp only;omega) _) (by simp only;omega) _⟩
 have HI:=gO I1;clear I1 J C a yL E u B o Ht y7 h j d1 d2 d3 d4 d5;go_wp2
 clear D H;generalize (((w5.setCell _ _).setCell _ _).setCell _ _).setCell _ _=w6 at*;go_loopw [9] (λZ wr=>∃(i:Nat) (M P:Option Addr) (K L e2:Nat),i<=n/\Z=aB aI ((p+i:Nat):Int)/\Hid (GInv w wr M P K n2 L e2 (eX z p i))) (λZ _=>p+n-(intOf Z).toNat)
 case atStart=>exact⟨0,a3,V,n1,c3,X,gU _,by simp,HI⟩
 case round=>
  obtain⟨i,M,P,K,L,e2,hin,rfl,Q⟩:=hrel;clear HI;by_cases Y:i<n
  ·obtain⟨g1,g2,g3,g4⟩:=oK (p:=p) (n:=n) hz HD.out hp hn i (by omega);obtain⟨s1,s2⟩:=SE (p:=p) (n:=n) hz HD.out hp hn (i:=i) Y;have I:=Q.out;have t:=I.hi;have N:=I.k3 0;have k1:=I.k3 1;have k2:=I.k3 2;have k3:=I.k3 3;simp only[gB,gC,gD]at N k1 k2 k3;have hwr:w.heap.size<wr.heap.size:=by omega
   have dl:decide ((p:Int)+i<p+n)=true:=gTg (by omega);have dl2:decide (p+i<p+n)=true:=gTg (by omega);have HGE:Hid (eX z p (i+1)=(eX z p i).back (p+i) 0):=rfl;have S:=gO s1;have HS2:=gO s2;have HG1:=gO g1;have HG2:=gO g2;have HG3:=gO g3;clear g4 s1 s2 g1 g2 g3;generalize eX z p i=y at*;have c:=gO I;clear I Q;go_wp2_with fail
   refine(uO _ _ _ _ _ _ y (p+i) 0 _ c.out.own.at HG1.out S.out HS2.out).mono ?_;rintro ev R ⟨s,F,r,G,A,rfl,a,m⟩;have aAP:=m.size;have d:=gO (c.out.below m);have Dy:iH R (w.heap.size+2) s F r n2 G A (y.back (p+i) 0):=a.base t;have x:Hid (GInv w ((((R.setCell ⟨w.heap.size,0,aJ⟩ (aB aI y.f)).setCell ⟨w.heap.size,1,aJ⟩ (aB aI y.e)).setCell ⟨w.heap.size,2,aJ⟩ (aA s r G)).setCell ⟨w.heap.size,3,aJ⟩ (aA F n2 A)) s F r n2 G A (y.back (p+i) 0)):=d.out.put Dy;have HK6:=gO (x.out.below (aAq _ (aO #[aB aI (y.f:Int),aB aI (y.e:Int),aA s r G,aA F n2 A] 79)));have ff3:=d.out.f3;have k30:=d.out.k3 0;have k31:=d.out.k3 1;have k32:=d.out.k3 2;have k33:=d.out.k3 3;simp only[gB,gC,gD]at k30 k31 k32 k33;have Yd:w.heap.size<R.heap.size:=by omega
   clear a Dy N k1 k2 k3 c d x m;go_wp2
   go_roundw
   case rel=>exact⟨i+1,s,F,r,G,A,by omega,by go_num,by rw[HGE.out];exact HK6⟩
   case measure=>simp[intOf];omega
  ·obtain rfl:i=n:=by omega
   have HG:=oK (p:=p) (n:=i) hz HD.out hp hn i (by omega);have I:=Q.out;have t:=I.hi;have N:=I.k3 0;have k1:=I.k3 1;have k2:=I.k3 2;have k3:=I.k3 3;rw[HG.2.1,HG.2.2.1]at*;simp only[gB,gC,gD]at N k1 k2 k3;have x6:=I.k6;have xf6:=I.f6;have hwr:w.heap.size<wr.heap.size:=by omega
   have c:=gO I;clear I Q;go_wp2
   refine bodyPost_ret (v:=aG #[aC #[aB aI z.f,aB aI z.e,aA M K L,aA P n2 e2],aB aI 0]) (by simp[results,results98,go_sem,x6]) rfl ⟨M,P,K,L,e2,rfl,?_,?_⟩
   ·have O:=c.out.own.ne (g:=w.heap.size+1) (.inl (by omega));exact((((c.out.own.set O _ _).set O _ _).set O _ _).set O _ _).base (base':=w.heap.size) (by omega)
   ·have W:=c.out.bw;exact Below.setCell (Below.setCell (Below.setCell (Below.setCell W (by simp only;omega) _) (by simp only;omega) _) (by simp only;omega) _) (by simp only;omega) _
def Un (z:Zn)(a1 a2:Option Addr)(n1 n2 c1 c2:Nat):Array Value:=#[aB aI z.f,aB aI z.e,aA a1 n1 c1,aA a2 n2 c2]
structure pI (W:World)(Z B:Nat)(X:Nat->Prop)(a1 a2:Option Addr)(n1 n2 c1 c2:Nat)(z:Zn):Prop where
 k:∀o,W.cell? ⟨B,o,aJ⟩=(Un z a1 a2 n1 n2 c1 c2)[o]?
 fz:∀o,W.frozen? ⟨B,o,aJ⟩=false
 own:iH W Z a1 a2 n1 n2 c1 c2 z
 lt:B<W.heap.size
 xs:∀k,X k->k<W.heap.size
 ne:∀g,X g->(aA a1 n1 c1).ownBlock≠aK g/\(aA a2 n2 c2).ownBlock≠aK g
section
variable {W W':World}{Z B:Nat}{X:Nat->Prop}{a1 a2:Option Addr}{n1 n2 c1 c2:Nat}{z:Zn}
theorem pI.below (h:pI W Z B X a1 a2 n1 n2 c1 c2 z)(hb:Below W.heap.size W W'):pI W' Z B X a1 a2 n1 n2 c1 c2 z:=
 ⟨aAp h.k h.lt hb,aAt h.fz h.lt hb,h.own.below hb,gI h.lt hb.size,λk a=>gI (h.xs k a) hb.size,h.ne⟩
theorem pI.cells (h:pI W Z B X a1 a2 n1 n2 c1 c2 z):W.cell? ⟨B,0,aJ⟩=aK (aB aI z.f)/\W.cell? ⟨B,1,aJ⟩=aK (aB aI z.e)/\W.cell? ⟨B,2,aJ⟩=aK (aA a1 n1 c1)/\W.cell? ⟨B,3,aJ⟩=aK (aA a2 n2 c2):=⟨h.k 0,h.k 1,h.k 2,h.k 3⟩
theorem pI.far (h:pI W Z B X a1 a2 n1 n2 c1 c2 z)(hg:X g)(hne:B≠g)(i:Nat)(u:Value):pI (W.setCell ⟨g,i,aJ⟩ u) Z B X a1 a2 n1 n2 c1 c2 z:=
 ⟨aAc h.k hne i u,aAs h.fz _ _,h.own.set (h.ne g hg) i u,by simpa using h.lt,λk a=>by simpa using h.xs k a,h.ne⟩
theorem pI.far4 (h:pI W Z B X a1 a2 n1 n2 c1 c2 z)(hg:X g)(hne:B≠g)(u0 u1 u2 u3:Value):pI ((((W.setCell ⟨g,0,aJ⟩ u0).setCell ⟨g,1,aJ⟩ u1).setCell ⟨g,2,aJ⟩ u2).setCell ⟨g,3,aJ⟩ u3) Z B X a1 a2 n1 n2 c1 c2 z:=
 (((h.far hg hne 0 u0).far hg hne 1 u1).far hg hne 2 u2).far hg hne 3 u3
theorem pI.put (h:pI W Z B X a1 a2 n1 n2 c1 c2 z)(hB:X B)(hZ:Z<=W.heap.size)(hb:Below W.heap.size W W'){b1 b2:Option Addr}{m2 d1 d2:Nat}{y:Zn}(ho:iH W' W.heap.size b1 b2 m1 m2 d1 d2 y):
 pI ((((W'.setCell ⟨B,0,aJ⟩ (aB aI y.f)).setCell ⟨B,1,aJ⟩ (aB aI y.e)).setCell ⟨B,2,aJ⟩ (aA b1 m1 d1)).setCell ⟨B,3,aJ⟩ (aA b2 m2 d2)) Z B X b1 b2 m1 m2 d1 d2 y:=by
 have a:=h.below hb;have c:∀g,X g->(aA b1 m1 d1).ownBlock≠aK g/\(aA b2 m2 d2).ownBlock≠aK g:=λg i=>ho.ne (.inl (h.xs g i))
 have b:=c B hB;exact⟨aAr (aAr (aAr (aAr a.k 0 (aB aI y.f)) 1 (aB aI y.e)) 2 (aA b1 m1 d1)) 3 (aA b2 m2 d2),aAs (aAs (aAs (aAs a.fz _ _) _ _) _ _) _ _,((((ho.base hZ).set b _ _).set b _ _).set b _ _).set b _ _,by simpa using a.lt,λk d=>by simpa using a.xs k d,c⟩
theorem pI.new (h:pI W Z B X a1 a2 n1 n2 c1 c2 z)(hb:Below W.heap.size W W')(hY:∀k,Y k->X k∨(W.heap.size<=k/\k<W'.heap.size)):pI W' Z B Y a1 a2 n1 n2 c1 c2 z:=by
 have b:=h.below hb;refine⟨b.k,b.fz,b.own,b.lt,λk c=> ?_,λg d=> ?_⟩
 ·rcases hY k c with a | a
  ·exact b.xs k a
  ·exact a.2
 ·rcases hY g d with a | a
  ·exact b.ne g a
  ·exact h.own.ne (.inr a.1)
theorem Pv (ho:iH W base a1 a2 n1 n2 c1 c2 z)(hZ:Z<=base)(hX:∀k,X k->(k<base∨W.heap.size<=k)/\k<=W.heap.size):pI (W.alloc (.cells (Un z a1 a2 n1 n2 c1 c2) 79)) Z W.heap.size X a1 a2 n1 n2 c1 c2 z:=
 ⟨aQ W _ _,eG W _ _,(ho.below (aAq _ _)).base hZ,by simp,λk b=>by have:=(hX k b).2;simp;omega,λg a=>ho.ne (hX g a).1⟩
end
theorem Uo (W:World){n:Nat}(hb:base<=W.heap.size)(hl:xs.length=n*size)(hn:n<=maxLen):(W.alloc (.cells xs.toArray e)).ownsRow base e size (aA (aK ⟨W.heap.size,0,aJ⟩) n n) n xs:=
 ⟨hl,.inr ⟨W.heap.size,n,xs.toArray,rfl,hb,heap_alloc_new W _,gT _,hn,by simp[hl],by simp[gTf,hl]⟩⟩
theorem aBs {wx W5:World}{G N:Nat}{z0 z1:Zn}{x1 x2 y1 y2:Option Addr}{m1 m2 d1 d2 k1 k2 e1 e2 least:Nat}
 (r1:wx.ownsRow 0 79 4 (aA (aK ⟨N,0,aJ⟩) 2 2) 2 (flat nK [⟨z0,x1,x2,m1,m2,d1,d2⟩,⟨z1,y1,y2,k1,k2,e1,e2⟩]))
 (r2:wx.ownsRow 0 3 1 (aA (aK ⟨N+1,0,aJ⟩) 2 2) 2 (flat iF [least,least]))
 (t0:iH wx G x1 x2 m1 m2 d1 d2 z0) (t1:iH wx G y1 y2 k1 k2 e1 e2 z1) (u0:iH W5 G x1 x2 m1 m2 d1 d2 z0) (u1:iH W5 G y1 y2 k1 k2 e1 e2 z1) (hs:W5.heap.size=N)
 (n0:(aA x1 m1 d1).ownBlock≠aK G/\(aA x2 m2 d2).ownBlock≠aK G) (n1:(aA y1 k1 e1).ownBlock≠aK G/\(aA y2 k2 e2).ownBlock≠aK G) (hG:G<N) (hx:N<=wx.heap.size) (h:Hp)
 (q0:h.z0=z0) (q1:h.z1=z1) (q2:h.m0=least) (q3:h.m1=least) (q4:h.ls=[]) (q5:h.live=[]):
 kR wx G h ⟨aK ⟨N,0,aJ⟩,2,aK ⟨N+1,0,aJ⟩,2,aJ,0,aJ,0,⟨z0,x1,x2,m1,m2,d1,d2⟩,⟨z1,y1,y2,k1,k2,e1,e2⟩,[]⟩:=by
 have j:=u0.o1.lt;have i:=u0.o2.lt;have l:=u1.o1.lt;have m:=u1.o2.lt;refine⟨⟨λr b=> ?_,?_⟩,λr b=> ?_,λr b s a g c d=> ?_,λr b g f=> ?_,λr b e=> ?_,λr b g f e=> ?_,gI hG hx,Nat.lt_irrefl _,λk n=>by have:k<G:=n;omega,q0.symm,q1.symm,q4.symm⟩
 ·simp only[Hc.rows,List.map_nil,gY,List.not_mem_nil,or_false]at b;rcases b with rfl | rfl | rfl
  ·exact r1
  ·exact⟨rfl,.inl ⟨rfl,rfl⟩⟩
  ·unfold Ap Rs.on;rw[q5];exact⟨rfl,.inl ⟨rfl,rfl⟩⟩
 ·simp only[Hc.rows,List.map_nil];refine List.Pairwise.cons (λs a g c d=> ?_) (List.Pairwise.cons (λs a g c d=> ?_) (List.Pairwise.cons (λs a=>by simp at a) List.Pairwise.nil))
  ·simp only[gY,List.not_mem_nil,or_false]at a;rcases a with rfl | rfl <;> cases d
  ·cases c
 ·simp only[Hc.reads,gY,List.not_mem_nil,or_false]at b;rcases b with rfl | rfl | rfl | rfl | rfl
  ·unfold mnR Rs.on;rw[q2,q3];exact r2
  ·exact own_base t0.o1 (gU _)
  ·exact own_base t0.o2 (gU _)
  ·exact own_base t1.o1 (gU _)
  ·exact own_base t1.o2 (gU _)
 ·simp only[Hc.rows,List.map_nil,gY,List.not_mem_nil,or_false]at a;rcases a with rfl | rfl | rfl
  ·obtain rfl:N=g:=by simpa[Bv,gTh]using d
   simp only[Hc.reads,gY,List.not_mem_nil,or_false]at b;rcases b with rfl | rfl | rfl | rfl | rfl
   ·simp[mnR,gTh]at c
   ·have:=(j _ c).2;omega
   ·have:=(i _ c).2;omega
   ·have:=(l _ c).2;omega
   ·have:=(m _ c).2;omega
  ·cases d
  ·cases d
 ·simp only[Hc.rows,List.map_nil,gY,List.not_mem_nil,or_false]at b;rcases b with rfl | rfl | rfl
  ·obtain rfl:N=g:=by simpa[Bv,gTh]using f
   exact⟨by omega,by omega⟩
  ·cases f
  ·cases f
 ·simp only[Hc.reads,gY,List.not_mem_nil,or_false]at b;rcases b with rfl | rfl | rfl | rfl | rfl
  ·have:N+1=G:=by simpa[mnR,gTh]using e
   omega
  ·exact n0.1 e
  ·exact n0.2 e
  ·exact n1.1 e
  ·exact n1.2 e
 ·have e:g<G:=e;simp only[Hc.reads,gY,List.not_mem_nil,or_false]at b;rcases b with rfl | rfl | rfl | rfl | rfl
  ·have:N+1=g:=by simpa[mnR,gTh]using f
   omega
  ·have:=(j _ f).1;omega
  ·have:=(i _ f).1;omega
  ·have:=(l _ f).1;omega
  ·have:=(m _ f).1;omega
section
variable {W W' W1 W2:World}{G:Nat}{X Y:Nat->Prop}{s s':Sy}{v v':Sc}
theorem SR.wAt (hs:SR W G X s v){a:Nat}(ha:a<s.w.length):∃g,v.a1=aK ⟨g,0,aJ⟩/\g<W.heap.size/\g≠G/\¬X g/\W.cell? ⟨g,a,aJ⟩=aK (vI s.w[a])/\W.frozen? ⟨g,a,aJ⟩=false:=by
 have e:(vW v s).on W 0:=hs.own.each _ (o8 v s);have d:a<(vW v s).xs.length:=by show a<(s.w.map vI).length;rw[gTe];exact ha
 obtain⟨g,b,_,h,j,i⟩:=mQ e a d;have c:=hs.og _ (o8 v s) g (by show(vW v s).v.ownBlock=_;unfold vW;rw[b];rfl);refine⟨g,b,h,c.1,c.2,?_,i⟩;rw[j];have f:(s.w.map vI)[a]? =aK (vI s.w[a]):=by rw[List.getElem?_map,gJ ha];rfl
 rw[<- f];exact(gJ d).symm
theorem SS.setW (hs:SS W G X s v)(hg:v.a1=aK ⟨g,0,aJ⟩)(a:Nat)(u:Int):
 SS (W.setCell ⟨g,a,aJ⟩ (vI u)) G X {s with w:=s.w.set a u} v/\Safe X W (W.setCell ⟨g,a,aJ⟩ (vI u)):=by
 have hb:(vW v s).v.ownBlock=aK g:=by unfold vW;rw[hg];rfl
 have f:=hs.r.og _ (o8 v s) g hb;have k:=hs.r.own.cell (i:=0) (by simp[Sc.rows]) (g:=g) (c:=v.c1) (by show(vW v s).v=_;unfold vW;rw[hg];rfl) a (vI u) rfl;have h:({vW v s with xs:=(vW v s).xs.set a (vI u)}:Rs)=vW v {s with w:=s.w.set a u}:=by
  unfold vW;simp only[List.map_set]
 have k2:dL (W.setCell ⟨g,a,aJ⟩ (vI u)) 0 (v.rows {s with w:=s.w.set a u}):=by
  have l:v.rows {s with w:=s.w.set a u}=vW v {s with w:=s.w.set a u}::nJ v::v.ys.flatMap aAU:=rfl;rw[l,<- h];exact k
 have j:=hs.r.step (s':={s with w:=s.w.set a u}) (v':=v) (hs.r.Et (o8 v s) hb a (vI u)) rfl rfl k2 (λr b m d=> .inl (by
  rcases gY.1 b with rfl | b
  ·exact⟨vW v s,o8 v s,d⟩
  ·exact⟨r,List.mem_cons_of_mem _ b,d⟩)) hs.r.cy
 have e:=hs.Yl f.1 a (vI u);exact⟨⟨j,e.1,e.2⟩,(Safe.refl X W).set f.2 a (vI u)⟩
theorem SS.aHm (hs:SS W G X s v)(hi:i<v.ys.length){y:Cc}(hy:v.ys[i]=y)(hg:y.a2=aK ⟨g,0,aJ⟩)(hk:k<y.c.sl.length){gw:Nat}(hgw:v.a1=aK ⟨gw,0,aJ⟩)(a:Nat)(u h':Int){n':Nat}:
 SS (((W.setCell ⟨gw,a,aJ⟩ (vI u)).setCell ⟨g,k*3+2,aJ⟩ (vI h')).setCell ⟨g,k*3+1,aJ⟩ (vI n')) G X {s with w:=s.w.set a u,cs:=s.cs.set i {y.c with sl:=y.c.sl.set k ⟨y.c.sl[k].p,n',h'⟩}} (v.dU i {y with c:={y.c with sl:=y.c.sl.set k ⟨y.c.sl[k].p,n',h'⟩}})/\
 Safe X W (((W.setCell ⟨gw,a,aJ⟩ (vI u)).setCell ⟨g,k*3+2,aJ⟩ (vI h')).setCell ⟨g,k*3+1,aJ⟩ (vI n')):=by
 subst hy;have l:=hs.setW hgw a u;have h:=l.1.TP hi hg hk (x':=⟨v.ys[i].c.sl[k].p,v.ys[i].c.sl[k].n,h'⟩) (j:=2) (by decide) (u:=vI h') rfl rfl;have e:i<(v.dU i {v.ys[i]with c:={v.ys[i].c with sl:=v.ys[i].c.sl.set k ⟨v.ys[i].c.sl[k].p,v.ys[i].c.sl[k].n,h'⟩}}).ys.length:=by
  unfold Sc.dU;simpa using hi
 have d:(v.dU i {v.ys[i]with c:={v.ys[i].c with sl:=v.ys[i].c.sl.set k ⟨v.ys[i].c.sl[k].p,v.ys[i].c.sl[k].n,h'⟩}}).ys[i]={v.ys[i]with c:={v.ys[i].c with sl:=v.ys[i].c.sl.set k ⟨v.ys[i].c.sl[k].p,v.ys[i].c.sl[k].n,h'⟩}}:=by simp[Sc.dU]
 have f:=h.1.TP e (g:=g) (by rw[d];exact hg) (k:=k) (by rw[d];simpa using hk) (x':=⟨v.ys[i].c.sl[k].p,n',h'⟩) (j:=1) (by decide) (u:=vI n') (by
  simp only[d,List.getElem_set_self];rfl) rfl
 have m:=f.1;rw[d]at m;have q:(({s with w:=s.w.set a u}:Sy).fB i {v.ys[i].c with sl:=v.ys[i].c.sl.set k ⟨v.ys[i].c.sl[k].p,v.ys[i].c.sl[k].n,h'⟩}).fB i {v.ys[i].c with sl:=(v.ys[i].c.sl.set k ⟨v.ys[i].c.sl[k].p,v.ys[i].c.sl[k].n,h'⟩).set k ⟨v.ys[i].c.sl[k].p,n',h'⟩}={s with w:=s.w.set a u,cs:=s.cs.set i {v.ys[i].c with sl:=v.ys[i].c.sl.set k ⟨v.ys[i].c.sl[k].p,n',h'⟩}}:=by
  unfold Sy.fB;simp only[List.set_set]
 have o:(v.dU i {v.ys[i]with c:={v.ys[i].c with sl:=v.ys[i].c.sl.set k ⟨v.ys[i].c.sl[k].p,v.ys[i].c.sl[k].n,h'⟩}}).dU i {v.ys[i]with c:={v.ys[i].c with sl:=(v.ys[i].c.sl.set k ⟨v.ys[i].c.sl[k].p,v.ys[i].c.sl[k].n,h'⟩).set k ⟨v.ys[i].c.sl[k].p,n',h'⟩}}=v.dU i {v.ys[i]with c:={v.ys[i].c with sl:=v.ys[i].c.sl.set k ⟨v.ys[i].c.sl[k].p,n',h'⟩}}:=by
  unfold Sc.dU;simp only[List.set_set]
 have b:=m;simp only at b;rw[q,o]at b;exact⟨b,(l.2.trans h.2).trans f.2⟩
end
section
attribute [local go_sem ↓] iW
def xI (xs:List Int)(p q n:Nat):List Int:=xs.take p++(xs.drop q).take n++xs.drop (p+n)
theorem aBD (a:Option Addr)(cap:Nat)(xs:List Int)(p q n:Nat)(w:World)(hl:xs.length<=1000000)(hcap:xs.length<=cap)(hr:Row w a (xs.map vI))(hp:p+n<=xs.length)(hq:q+n<=xs.length):
 Calls prog 109 #[aA a xs.length cap,aB aI p,aB aI q,aB aI n] w λe w'=>∃a' c',e=aN (aG #[aA a' xs.length c',aB aI 0])/\w'.ownsRow w.heap.size 3 1 (aA a' xs.length c') xs.length ((xI xs p q n).map vI)/\Below w.heap.size w w':=by
 have D:Xd xs.length p n=true:=gTg (by omega);have A:Xd xs.length q n=true:=gTg (by omega);go_enter func109,ntmps109
 go_wp2_with (first | (go_at_call 126;refine(EG _ _ _ _ _ _ (by omega) (by omega) (by omega)).mono ?_;rintro e w' ⟨rfl,rfl⟩) | (go_at_call 35;refine(Iz _ _ _ _ (by omega) hr).mono ?_;rintro e i ⟨a',c',rfl,b,hb⟩;have t:=gO b;have u:=dR b;clear b))
 have E:IntKind.i64.wrap ((p:Int)+n)=(p:Int)+n:=IntWalk.i64_in _ (by omega);have C:IntKind.i64.wrap ((q:Int)+n)=(q:Int)+n:=IntWalk.i64_in _ (by omega);have z:(p:Int)+n<=(c':Int):=by omega
 have F:(q:Int)+n<=(cap:Int):=by omega
 have B:(p:Int)<=p+n:=by omega
 have G:(q:Int)<=q+n:=by omega
 go_still_tail 12,(by kernel_rfl)
 change wpList _ _ _ _ _ i.drew;have x:((p:Int)+n).toNat-p=n:=by omega
 have v:((q:Int)+n).toNat-q=n:=by omega
 rw[x,v];have j:Below w.heap.size w i.drew:=hb.drew;have f:=own_below t.out ((gX i.heap.size i).drew) (gT _);have d:=(hr.below j).cut q cap 1 n (by omega);generalize i.drew=H at j f d;have m:(prog.info? 3).map (·.size)=aK 1:=by kernel_rfl
 have c:(((xs.drop q).take n).map vI).length=n:=by simp;omega
 refine UJ rfl _ _ 34 34 rfl 3 underlying34 1 m _ _ n _ n _ rfl rfl (((xs.drop q).take n).map vI) (by rw[c];simp) ?_ (Xt _) w.heap.size xs.length c' p a' (xs.map vI) f ?_ ?_ (by rw[c];omega) ?_
 ·rw[Nat.mul_one,<- List.map_drop,<- List.map_take]at d;exact d
 ·intro l;rw[c]at l;unfold bY;rw[if_neg (by omega)]
 ·intro k;by_cases l:n=0
  ·subst l;simp
  ·exfalso;unfold bY at k;rw[if_neg (by omega)]at k;obtain⟨g,e,_⟩:=mQ f 0 (by simp;omega);rw[e]at k;cases k
 ·intro r b h;have o:Below w.heap.size w r:=below_grown j f h (gT _) j.size;have s:r.ownsRow w.heap.size 3 1 (aA a' xs.length c') xs.length ((xI xs p q n).map vI):=by
   rw[c]at b;simp only[xI,List.map_append,List.map_take,List.map_drop,Nat.mul_one]at b ⊢;exact b
  have y:=gO s;clear s b h d t f;go_wp2
  go_ret2
  exact⟨a',c',rfl,y.out,o⟩
end
section
open Go.ChangeShapes Go.WideShapes Go.ChangeAt Go.RowKit
theorem uJ {P:Program}{f:FuncId}{fn:Func}{s:ChangeSpec}{c:OpenClaim}
 (h1:c.wf (OpenSpec.ofChange s)=true) (h2:laidOutB P=true) (h3:mapsRowed P=true) (h4:fn.params.all (P.readableRec ·)=true) (h5:namedTie P c.named s.vars=true)
 (h6:(c.stops == [])=true) (h7:(P.stops == [])=true) (h8:(c.knobs == [])=true) (h9:(P.stopKnobs == [])=true)
 (h10:(c.inPlace == P.inPlace f)=true) (h11:(c.unfollowed == P.unfollowed f)=true) (h12:(c.recurses == P.recurses f)=true) (h13:(c.named == P.varsNamed f)=true)
 (h14:(c.maps == (fn.params.toList++s.plain.varTypes P).any (P.mapsRec ·))=true) (h15:(c.ifaces == (fn.params.toList++s.plain.varTypes P).any (P.ifacesRec ·))=true) (h16:(c.mapsOut == P.mapsAmong fn.resultTypes.toList)=true)
 (h17:(c.loops == (fn.params.toList++s.plain.varTypes P).any (P.loopsFrom ·))=true) (h18:(c.wideKeys == (fn.params.toList++s.plain.varTypes P++fn.resultTypes.toList).any (P.wideKeysFrom ·))=true)
 (h19:s.vars.all (P.varReadable ·)=true) (h20:fn.resultTypes.all (λt=>P.readableRec t&&decide (t<P.types.size))=true) (h21:(c.ifacesOut == fn.resultTypes.toList.any (P.ifacesRec ·))=true) (h22:(c.loopsOut == fn.resultTypes.toList.any (P.loopsFrom ·))=true) (h23:(c.plainKeys == P.plainKeys)=true) (h24:c.shortTexts.isNone=true) (h25:P.stopsHeard=true) (h26:P.mayEnter=true) (h27:(c.lifted == P.liftsFinal)=true) (h28:(P.make ==aK c.make)=true)
 (h29:(c.kinds == (if c.domain.isEmpty then[]else fn.params.toList.map λt=>match P.underlying t with | some (.int k)=>aK k | _=>aJ))=true) (h30:(c.pinned == c.pinnedBy)=true)
 (h31:(c.veiled == (fn.params.toList++s.plain.varTypes P++fn.resultTypes.toList).any (P.veiledRec ·))=true) (h32:c.veiledFits P fn.params.toList (fn.params.toList++s.plain.varTypes P++fn.resultTypes.toList)=true):joinedFacts P f fn s c=true:=by
 unfold joinedFacts;simp only[Bool.and_eq_true];exact⟨⟨⟨⟨⟨⟨⟨⟨⟨⟨⟨⟨⟨⟨⟨⟨⟨⟨⟨⟨⟨⟨⟨⟨⟨⟨⟨⟨⟨⟨⟨h1,h2⟩,h3⟩,h4⟩,h5⟩,h6⟩,h7⟩,h8⟩,h9⟩,h10⟩,h11⟩,h12⟩,h13⟩,h14⟩,h15⟩,h16⟩,h17⟩,h18⟩,h19⟩,h20⟩,h21⟩,h22⟩,h23⟩,h24⟩,h25⟩,h26⟩,h27⟩,h28⟩,h29⟩,h30⟩,h31⟩,h32⟩
theorem Qm:mapsRowed prog=true:=by kernel_rfl
theorem GR:prog.stopsHeard=true:=by kernel_rfl
theorem GU:prog.mayEnter=true:=by kernel_rfl
theorem GV:(Rows.systemGoodRow.lifted == prog.liftsFinal)=true:=by kernel_rfl
theorem Qn:(prog.make ==aK Rows.systemGoodRow.make)=true:=by kernel_rfl
theorem Qo:(Rows.systemGoodRow.plainKeys == prog.plainKeys)=true:=by kernel_rfl
end
end Go.Proofs.YtjaogfhcnmjkiaaGreatDoor
