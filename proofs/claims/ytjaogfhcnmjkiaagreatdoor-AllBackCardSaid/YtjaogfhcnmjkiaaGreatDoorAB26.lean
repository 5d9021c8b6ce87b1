/- joined. -/
import Derived.Test.YtjaogfhcnmjkiaaGreatDoorAB24
import Derived.Test.YtjaogfhcnmjkiaaGreatDoorAB25
set_option linter.all false
set_option maxRecDepth 100000
set_option maxHeartbeats 0
namespace Go.Proofs.YtjaogfhcnmjkiaaGreatDoor
open Go.RowKit
open Go.Value renaming slice->aA,int->aB,agg->aC,string->aF,tuple->aG,pointer->aH,ownBlock->gTh
open Go.IntKind renaming i64->aI
open Option renaming none->aJ,some->aK
open Go.Ending renaming returned->aN
open Go.Obj renaming cells->aO
open Go.Proofs.Tryz
variable {a:Int}{c:Ca}{cpu i j k m n q z:Nat}{g g':Option Nat}{l w' xs:List Int}{s t:Sy}
theorem DR {a:Nat}(hj:j≠i):(s.push i k a).cs[j]? =s.cs[j]? :=by
 unfold Sy.push;cases hc:s.cs[i]? with
 | none=>rfl
 | some c=>
  simp only;cases hx:c.sl[k]? with
  | none=>rfl
  | some x=>exact List.getElem?_set_ne λe=>hj e.symm
theorem Ig (hj:j≠i):(s.discard i k cpu).cs[j]? =s.cs[j]? :=by
 unfold Sy.discard;cases hc:s.cs[i]? with
 | none=>rfl
 | some c=>
  simp only;cases hx:c.sl[k]? with
  | none=>rfl
  | some x=>
   simp only;cases hb:s.h.live[lb s.h.live x.p]? with
   | none=>rfl
   | some b=>exact List.getElem?_set_ne λe=>hj e.symm
theorem Sj {a:Nat}(hj:j≠i):(s.free i k a cpu).cs[j]? =s.cs[j]? :=by
 unfold Sy.free;split
 ·rw[Ig hj,DR hj]
 ·exact DR hj
def Ca.left (c:Ca):Nat:=(c.sl.map (·.n)).sum
theorem getD_set_ne {u d:Int}(h:j≠i):(l.set i u).getD j d=l.getD j d:=by
 rw[List.getD_eq_getElem?_getD,List.getElem?_set_ne (λe=>h e.symm),<- List.getD_eq_getElem?_getD]
def bt200:Bt:=⟨[⟨0,200⟩],[]⟩
def goH:Hp:=newH (jF bt200) 64 0 2
def aEk (h:Hp)(z:Nat):Sy:={dW h 6 with cs:=(dW h 6).cs++[⟨[[120,97]],z,iR z,fV z,[],List.replicate h.aP (-1)⟩]}
theorem Sr (h:Hp)(z:Nat):(aEk h z).named [120,97]=aK 6:=rfl
structure Go6 (t:Sy)(z:Nat)(l:List Int):Prop where
 ok:cZ t
 ns:t.nss=(aEk goH z).nss
 cp:t.h.aP=2
 aw:∀b,t.away 6 b↔b∈l
 nd:l.Nodup
 wh:∀b,¬t.whole b
 ot:∀j,j≠6->∀c,t.cs[j]? =aK c->c.sl=[]
theorem Go6.step (h:Go6 t z (a::l)):∃c k x,t.cs[6]? =aK c/\c.sl[k]? =aK x/\nN t.w c x a/\0<=a/\Go6 (t.free 6 k a.toNat 0) z l:=by
 obtain⟨c,v,x,C,p⟩:=(h.aw a).2 (by simp);obtain⟨k,o,e⟩:=List.mem_iff_getElem.1 C;have i:c.sl[k]? =aK x:=by rw[gJ o,e]
 have u:0<=a:=by
  have:=(kY p.1).1;omega
 have g:((a.toNat:Nat):Int)=a:=Int.toNat_of_nonneg u;have q:nN t.w c x (a.toNat:Nat):=by rw[g];exact p
 have m:0<t.h.aP:=by rw[h.cp];decide
 obtain⟨B,y,D,A,_⟩:=h.ok.free v i q m;refine⟨c,k,x,v,i,p,u,B,(Zf).trans h.ns,by rw[D];exact h.cp,λb=> ?_,(List.nodup_cons.1 h.nd).2,λb hb=>h.wh b ((A b).1 hb),λj s d r=> ?_⟩
 ·rw[y,h.aw,g];constructor
  ·rintro⟨f,n⟩;rcases gY.1 f with rfl | f
   ·exact absurd ⟨rfl,rfl⟩ n
   ·exact f
  ·intro f;refine⟨List.mem_cons_of_mem _ f,λn=> ?_⟩;rw[n.2]at f;exact(List.nodup_cons.1 h.nd).1 f
 ·rw[Sj s]at r;exact h.ot j s d r
theorem Go6.at (h:Go6 t z l):∃c,t.cs[6]? =aK c/\c.ns=[[120,97]]/\t.cs.length=7/\t.named [120,97]=aK 6:=by
 have b:=h.ns;have e:t.cs.length=7:=by
  have:=congrArg List.length b;unfold Sy.nss at this;rw[gTe,gTe]at this;exact this
 have d:t.cs[6]? =aK (t.cs[6]'(by omega)):=gJ _;refine⟨_,d,?_,e,?_⟩
 ·have a:=congrArg (·[6]?) b;unfold Sy.nss at a;simp only[List.getElem?_map,d,Option.map_some]at a;have f:((aEk goH z).cs[6]?).map (·.ns)=aK [[120,97]]:=rfl;rw[f]at a;exact gP a
 ·rw[lU,b,<- lU];exact Sr goH z
def Sy.holds (s:Sy)(a:Int)(g:Option Nat)(m:Nat):Prop:=match g with
 | some i=>s.away i a/\∃c,s.cs[i]? =aK c/\m=c.z
 | none=>∃b,s.whole b/\a=16*(b.a:Int)/\m=16*2^b.o
theorem pI (h:s.holds a g m):s.oU a m:=by
 cases g with
 | some i=>
  obtain⟨d,c,j,rfl⟩:=h;obtain⟨k,e⟩:=eH.1 d;exact .inl ⟨i,k,c,e,j,gT _⟩
 | none=>
  obtain⟨b,d,f,rfl⟩:=h;exact .inr ⟨b,d,f,gT _⟩
theorem cZ.holds_one (hk:cZ s){m':Nat}(h:s.holds a g m)(h':s.holds a g' m'):g=g'/\m=m':=by
 cases g with
 | some i=>
  obtain⟨o,c,r,rfl⟩:=h;obtain⟨k,n⟩:=eH.1 o;cases g' with
  | some j=>
   obtain⟨l,d,p,rfl⟩:=h';obtain⟨q,f⟩:=eH.1 l;obtain⟨rfl,_⟩:=hk.uX n f;rw[r]at p;rw[gP p];exact⟨rfl,rfl⟩
  | none=>
   obtain⟨b,l,rfl,_⟩:=h';exact absurd n (hk.nK l i k)
 | none=>
  obtain⟨b,o,rfl,rfl⟩:=h;cases g' with
  | some j=>
   obtain⟨l,_⟩:=h';obtain⟨q,f⟩:=eH.1 l;exact absurd f (hk.nK o j q)
  | none=>
   obtain⟨t,l,e,rfl⟩:=h';have:=hk.Gn o.1 l.1 (by omega);rw[this];exact⟨rfl,rfl⟩
theorem cZ.xG (hk:cZ s){b:Int}{m':Nat}(h:s.holds a g m)(h':s.holds b g' m')(hne:a≠b):a+m<=b∨b+m'<=a:=hk.LP (pI h) (pI h') hne
theorem cZ.lW (hk:cZ s)(h:s.holds a g m):1<=m/\0<=a/\a+m<=4096:=by
 obtain⟨e,d⟩:=hk.xE (pI h);refine⟨?_,e,d⟩;cases g with
 | some i=>
  obtain⟨_,c,f,rfl⟩:=h;exact(hk.ck c (gM f)).z.1
 | none=>
  obtain⟨b,_,_,rfl⟩:=h;have:=Nat.two_pow_pos b.o;omega
theorem cZ.PD (hk:cZ s)(h:s.holds a g m)(h1:a<=q)(h2:(q:Int)<a+m):s.lw q:=by
 obtain⟨b,hb,d,c⟩:=hk.CJ (pI h);refine⟨b,hb,?_,?_⟩
 ·omega
 ·generalize 2^b.o=r at*;omega
structure Step (s t:Sy)(add:List (Int×Option Nat×Nat))(del:Option Int):Prop where
 ok:cZ t
 cp:t.h.aP=s.h.aP
 sg:t.sig=s.sig
 hd:∀a g m,t.holds a g m↔(s.holds a g m/\del≠aK a)∨(a,g,m)∈add
 nw:∀x∈add,∀g m,¬s.holds x.1 g m
 wd:∀(q:Nat) a g m,s.holds a g m->del≠aK a->a<=q->(q:Int)<a+m->t.w.getD q 0=s.w.getD q 0
theorem uG (hs:t.sig=s.sig)(h:s.holds a (aK i) m)(ha:t.away i a):t.holds a (aK i) m:=by
 obtain⟨_,c,g,rfl⟩:=h;have b:=sJ g;rw[<- hs]at b;obtain⟨d,f,_,e⟩:=sK b;exact⟨ha,d,f,e.symm⟩
theorem zJ (hs:t.sig=s.sig)(h:t.holds a (aK i) m)(ha:s.away i a):s.holds a (aK i) m:=uG hs.symm h ha
theorem Step.refl (hk:cZ s):Step s s [] aJ:=⟨hk,rfl,rfl,λa g m=>by simp,λx b=>by simp at b,λ_ _ _ _ _ _ _ _=>rfl⟩
theorem cZ.Ep (hk:cZ s)(hc:s.cs[i]? =aK c)(dA:cpu<s.h.aP)(h:s.one i cpu=aK (t,a)):Step s t [(a,aK i,c.z)] aJ:=by
 obtain⟨v,C,_⟩:=hk.one hc dA h;obtain⟨E,w⟩:=hk.zV hc dA h;obtain⟨y,B⟩:=hk.VT hc dA h;have p:=JX h;have f:t.holds a (aK i) c.z:=by
  have l:=sJ hc;rw[<- p]at l;obtain⟨d,A,_,e⟩:=sK l;exact⟨(w i a).2 (.inr ⟨rfl,rfl⟩),d,A,e.symm⟩
 refine⟨v,C,p,λb g m=> ?_,λx D g m n=> ?_,λq b g m n _ l o=>B q (hk.PD n l o)⟩
 ·simp only[gTa,Prod.mk.injEq];cases g with
  | none=>
   constructor
   ·rintro⟨r,l,o⟩;exact .inl ⟨⟨r,(y r).1 l,o⟩,by simp⟩
   ·rintro(⟨⟨r,l,o⟩,_⟩ | ⟨_,h,_⟩)
    ·exact⟨r,(y r).2 l,o⟩
    ·cases h
  | some j=>
   constructor
   ·intro n;rcases(w j b).1 n.1 with l | ⟨rfl,rfl⟩
    ·exact .inl ⟨zJ p n l,by simp⟩
    ·exact .inr ⟨rfl,rfl,(v.holds_one n f).2⟩
   ·rintro(⟨n,_⟩ | ⟨rfl,o,rfl⟩)
    ·exact uG p n ((w j b).2 (.inl n.1))
    ·rw[o];exact f
 ·obtain rfl:=gTa.1 D;have F:=v.lW f;cases g with
  | some j=>
   have l:t.holds a (aK j) m:=uG p n ((w j a).2 (.inl n.1));obtain⟨o,_⟩:=v.holds_one l f;obtain rfl:=gP o;exact E n.1
  | none=>
   obtain⟨r,l,o,_⟩:=n;obtain⟨k,u⟩:=eH.1 f.1;rw[show a=16*(r.a:Int)from o]at u;exact v.nK ((y r).2 l) i k u
theorem cZ.Gp (hk:cZ s){a:Nat}{x:Sl}(hi:s.cs[i]? =aK c)(hx:c.sl[k]? =aK x)(ho:nN s.w c x a)(dA:cpu<s.h.aP):Step s (s.free i k a cpu) [] (aK (a:Int)):=by
 obtain⟨C,B,E,y,D⟩:=hk.free hi hx ho dA;have o:(s.free i k a cpu).sig=s.sig:=OE;have d:s.jD i k a:=⟨c,x,hi,hx,ho⟩
 refine⟨C,E,o,λb g m=> ?_,λx hx=>by simp at hx,λq b g m p n f l=>D q λe=> ?_⟩
 ·simp only[List.not_mem_nil,or_false];cases g with
  | none=>
   constructor
   ·rintro⟨r,f,l,A⟩;refine⟨⟨r,(y r).1 f,l,A⟩,λe=> ?_⟩;have u:=gP e;rw[<- u]at l;rw[l]at d
    exact hk.nK ((y r).1 f) i k d
   ·rintro⟨⟨r,f,l⟩,_⟩;exact⟨r,(y r).2 f,l⟩
  | some j=>
   constructor
   ·intro p;obtain⟨f,l⟩:=(B j b).1 p.1;refine⟨zJ o p f,λe=> ?_⟩;have u:=gP e;rw[<- u]at f;obtain⟨F,v⟩:=eH.1 f;obtain⟨rfl,_⟩:=hk.uX d v;exact l ⟨rfl,u.symm⟩
   ·rintro⟨p,n⟩;exact uG o p ((B j b).2 ⟨p.1,λe=>n (by rw[e.2])⟩)
 ·subst e;have t:s.holds (q:Int) (aK i) c.z:=⟨eH.2 ⟨k,d⟩,c,hi,rfl⟩
  rcases hk.xG p t (λe=>n (by rw[e]))with A | A
  ·omega
  ·have:=(hk.lW t).1;omega
theorem cZ.yD (hk:cZ s){h':Hp}{order t a:Nat}{u lo:Bool}(dA:cpu<s.h.aP)(ho:order<=4)(ht:t<3)(he:s.h.alloc cpu order t u lo=aK (h',a)):Step s {s with h:=h'} [(16*(a:Int),aJ,16*2^order)] aJ:=by
 obtain⟨p,l,k,n,z⟩:=hk.ZC dA ho ht he;refine⟨p,l,rfl,λb g m=> ?_,λx q g m e=> ?_,λ_ _ _ _ _ _ _ _=>rfl⟩
 ·simp only[gTa,Prod.mk.injEq];cases g with
  | some j=>
   constructor
   ·exact λe=> .inl ⟨e,by simp⟩
   ·rintro(⟨e,_⟩ | ⟨_,h,_⟩)
    ·exact e
    ·cases h
  | none=>
   constructor
   ·rintro⟨i,d,c,f⟩;rcases(k i).1 d with rfl | d
    ·exact .inr ⟨c,rfl,f⟩
    ·exact .inl ⟨⟨i,d,c,f⟩,by simp⟩
   ·rintro(⟨⟨i,d,c⟩,_⟩ | ⟨c,_,f⟩)
    ·exact⟨i,(k i).2 (.inr d),c⟩
    ·exact⟨_,(k _).2 (.inl rfl),c,f⟩
 ·obtain rfl:=gTa.1 q;obtain⟨b,hb,d,c⟩:=hk.CJ (pI e);have w:=(hk.lW e).1;have f:=n b hb;unfold apartB Bk.fin at f;have v:=Nat.two_pow_pos order;simp only at d c;generalize 2^order=r at*;generalize 2^b.o=y at*;omega
theorem cZ.CO (hk:cZ s){b:Bk}(dA:cpu<s.h.aP)(hb:s.whole b):Step s (s.jR cpu b) [] (aK (16*(b.a:Int))):=by
 obtain⟨w,v,u,_⟩:=hk.jR dA hb;refine⟨w,v,rfl,λc g m=> ?_,λx y=>by simp at y,λ_ _ _ _ _ _ _ _=>rfl⟩;simp only[List.not_mem_nil,or_false];cases g with
 | some j=>
  constructor
  ·intro t;refine⟨t,λe=> ?_⟩;have r:=gP e;obtain⟨k,n⟩:=eH.1 t.1;have i:s.jD j k c:=n;rw[<- r]at i;exact hk.nK hb j k i
  ·exact λh=>h.1
 | none=>
  constructor
  ·rintro⟨d,o,f,p⟩;obtain⟨q,i⟩:=(u d).1 o;refine⟨⟨d,q,f,p⟩,λe=>i (hk.Gn q.1 hb.1 ?_)⟩;have r:=gP e;omega
  ·rintro⟨⟨d,o,f,p⟩,l⟩;exact⟨d,(u d).2 ⟨o,λe=>l (by rw[f,e])⟩,f,p⟩
theorem Jq (hk:cZ t)(hc:t.h.aP=s.h.aP)(hs:t.sig=s.sig)(ha:∀j b,t.away j b↔s.away j b)(hw:∀b,t.whole b↔s.whole b)(hwd:∀(q:Nat),s.lw q->t.w.getD q 0=s.w.getD q 0)(hk0:cZ s):Step s t [] aJ:=by
 refine⟨hk,hc,hs,λb g m=> ?_,λx f=>by simp at f,λq b g m a _ d c=>hwd q (hk0.PD a d c)⟩;simp only[List.not_mem_nil,or_false];cases g with
 | some j=>
  constructor
  ·exact λa=>⟨zJ hs a ((ha j b).1 a.1),by simp⟩
  ·exact λa=>uG hs a.1 ((ha j b).2 a.1.1)
 | none=>
  constructor
  ·rintro⟨e,d,c⟩;exact⟨⟨e,(hw e).1 d,c⟩,by simp⟩
  ·rintro⟨⟨e,d,c⟩,_⟩;exact⟨e,(hw e).2 d,c⟩
theorem cZ.yE (hk:cZ s):Step s {s with h:=s.h.drain} [] aJ:=by
 obtain⟨d,e,c,f,a⟩:=hk.hk.drain;refine Jq (hk.setH d c.aP λb hb _=>by rw[a];exact hb) c.aP rfl (λ_ _=>Iff.rfl) (λb=> ?_) (λ_ _=>rfl) hk;rw[dK,dK];show b∈s.h.drain.live/\_↔_;rw[a];exact Iff.rfl
theorem cZ.Jr (hk:cZ s)(h:s.oU a m)(hl:w'.length=s.w.length)(hw:∀q:Nat,(q:Int)<a∨a+m<=q->w'.getD q 0=s.w.getD q 0):
 cZ {s with w:=w'}/\∀b g n,({s with w:=w'}:Sy).holds b g n↔s.holds b g n:=by
 obtain⟨d,c,f⟩:=hk.write h hl hw;refine⟨d,λb g n=> ?_⟩;cases g with
 | some j=>
  have e:({s with w:=w'}:Sy).away j b↔s.away j b:=by
   rw[eH,eH];exact⟨fun⟨k,h⟩=>⟨k,(c j k b).1 h⟩,fun⟨k,h⟩=>⟨k,(c j k b).2 h⟩⟩
  show _/\_↔_/\_;rw[e]
 | none=>exact Iff.rfl
theorem Step.snoc {u:Sy}{A B:List (Int×Option Nat×Nat)}(h1:Step s u A aJ)(h2:Step u t B aJ):Step s t (A++B) aJ:=by
 have b:∀a g m,s.holds a g m->u.holds a g m:=λa g m h=>(h1.hd a g m).2 (.inl ⟨h,by simp⟩)
 refine⟨h2.ok,h2.cp.trans h1.cp,h2.sg.trans h1.sg,λa g m=> ?_,λx f g m h=> ?_,λq a g m h _ d e=> ?_⟩
 ·rw[h2.hd,h1.hd,gZ];constructor
  ·rintro(⟨h | h,_⟩ | h)
   ·exact .inl h
   ·exact .inr (.inl h)
   ·exact .inr (.inr h)
  ·rintro(h | h | h)
   ·exact .inl ⟨.inl h,by simp⟩
   ·exact .inl ⟨.inr h,by simp⟩
   ·exact .inr h
 ·rcases gZ.1 f with c | c
  ·exact h1.nw x c g m h
  ·exact h2.nw x c g m (b _ _ _ h)
 ·rw[h2.wd q a g m (b a g m h) (by simp) d e];exact h1.wd q a g m h (by simp) d e
theorem cZ.Gt (hk:cZ s)(hc:s.cs[i]? =aK c)(dA:cpu<s.h.aP):∀{n:Nat} {t:Sy} {l:List Int},s.bulk i cpu n=aK (t,l)->Step s t (l.map λa=>(a,aK i,c.z)) aJ
 | 0,t,l,h=>by
  have h1:=gP h;rw[Prod.mk.injEq]at h1;obtain⟨rfl,rfl⟩:=h1;exact Step.refl hk
 | n+1,t,l,h=>by
  unfold Sy.bulk at h;cases hb:s.bulk i cpu n with
  | none=>rw[hb]at h;cases h
  | some r=>
   obtain⟨u,m⟩:=r;rw[hb]at h;simp only at h;have b:=hk.Gt hc dA hb;cases ho:u.one i cpu with
   | none=>rw[ho]at h;cases h
   | some q=>
    obtain⟨k,a⟩:=q;rw[ho]at h;have f:=gP h;rw[Prod.mk.injEq]at f;obtain⟨rfl,rfl⟩:=f;have h1:=sJ hc;rw[<- b.sg]at h1;obtain⟨d,j,_,e⟩:=sK h1;have g:=b.ok.Ep j (by rw[b.cp];exact dA) ho;rw[e]at g;rw[List.map_append];exact b.snoc g
theorem Wx :(s.dR i m).sig=s.sig:=by
 unfold Sy.dR;cases hc:s.cs[i]? with
 | none=>rfl
 | some c=>exact jJ hc rfl
theorem Wy :(s.iM i k).sig=s.sig:=by
 unfold Sy.iM;cases hc:s.cs[i]? with
 | none=>rfl
 | some c=>
  simp only;cases hx:c.sl[k]? with
  | none=>rfl
  | some x=>
   simp only;split
   ·exact wQ
   ·rfl
theorem Uf :∀{m:Nat} {s:Sy},(s.shr i m).sig=s.sig
 | 0,_=>rfl
 | m+1,s=>(Uf (m:=m)).trans Wy
theorem Gu :(s.shrink i).sig=s.sig:=by
 unfold Sy.shrink;cases hc:s.cs[i]? with
 | none=>rfl
 | some c=>exact Uf.trans Wx
theorem cZ.zK (hk:cZ s)(hi:i<s.cs.length):Step s (s.shrink i) [] aJ:=by
 obtain⟨c,a,e,_⟩:=hk.shrink hi;obtain⟨b,d⟩:=hk.Ld hi;exact Jq c e Gu a b (λ_ _=>by rw[d]) hk
theorem nM (h:s.iG a=aK m):∃g,s.holds a g m/\∀i c,g=aK i->s.cs[i]? =aK c->kZ c.ns=true:=by
 unfold Sy.iG at h;cases hm:s.iE a with
 | some p=>
  obtain⟨i,k,c⟩:=p;rw[hm]at h;obtain rfl:=gP h;obtain⟨l,f,o⟩:=DT hm;refine⟨aK i,⟨eH.2 ⟨k,uF l⟩,c,f,rfl⟩,λj d e n=> ?_⟩;obtain rfl:=gP e;rw[f]at n;rw[<- gP n];exact o
 | none=>
  rw[hm]at h;simp only at h;cases hw:s.kX a with
  | none=>rw[hw]at h;cases h
  | some b=>
   rw[hw]at h;obtain rfl:=gP h;obtain⟨l,f⟩:=qF hw;exact⟨aJ,⟨b,l,f,rfl⟩,λi c e=>by cases e⟩
theorem cZ.AO (hk:cZ s)(h:s.holds a g m)(hm:∀i c,g=aK i->s.cs[i]? =aK c->kZ c.ns=true):s.iG a=aK m:=by
 cases g with
 | some i=>
  obtain⟨d,c,j,rfl⟩:=h;obtain⟨k,f⟩:=eH.1 d;have e:s.iE a=aK (i,k,c):=by
   unfold Sy.iE;rw[hk.zF f];simp only[j];rw[if_pos (hm i c rfl j)]
  unfold Sy.iG;rw[e]
 | none=>
  obtain⟨b,d,rfl,rfl⟩:=h;have e:s.iE (16*(b.a:Int))=aJ:=by
   unfold Sy.iE;rw[zG (hk.nK d)]
  unfold Sy.iG;rw[e];simp only[hk.DN d];rfl
theorem cZ.CP (hk:cZ s)(dA:cpu<s.h.aP)(h:s.iG a=aK m):∃u,s.jG cpu a=aK u/\Step s u [] (aK a):=by
 unfold Sy.iG at h;unfold Sy.jG;cases hm:s.iE a with
 | some p=>
  obtain⟨i,k,c⟩:=p;obtain⟨e,d,q⟩:=DT hm;obtain⟨o,x,j,n,l⟩:=uF e;rw[d]at j;obtain rfl:=gP j;have f:((a.toNat:Nat):Int)=a:=Int.toNat_of_nonneg (by have:=(kY l.1).1;omega);have g:=hk.Gp (k:=k) (a:=a.toNat) (cpu:=cpu) d n (by rw[f];exact l) dA;rw[f]at g;exact⟨_,rfl,g⟩
 | none=>
  rw[hm]at h;simp only at h;cases hw:s.kX a with
  | none=>rw[hw]at h;cases h
  | some b=>
   obtain⟨e,d⟩:=qF hw;refine⟨s.jR cpu b,rfl,?_⟩;rw[d];exact hk.CO dA e
theorem Sv (h:s.iG a=aJ):s.jG cpu a=aJ:=by
 unfold Sy.iG at h;unfold Sy.jG;cases hm:s.iE a with
 | some p=>rw[hm]at h;cases h
 | none=>
  rw[hm]at h;simp only at h;cases hw:s.kX a with
  | none=>rfl
  | some b=>rw[hw]at h;cases h
theorem Ed.CQ (h:Ed s)(hs:t.sig=s.sig):Ed t:=λj f=>by
 obtain⟨i,c,l,g,m,k⟩:=h j f;have a:=sJ l;rw[<- hs]at a;obtain⟨d,b,e,n⟩:=sK a;exact⟨i,d,b,by rw[lU,nC hs,<- lU];exact g,by rw[e];exact m,by rw[n];exact k⟩
theorem cZ.zL (hk:cZ s)(hs:Ed s)(dA:cpu<s.h.aP)(h1:1<=n)(h2:n<=256)(h:s.dL cpu n=aK (t,a)):∃g m,Step s t [(a,g,m)] aJ/\n<=m/\t.iG a=aK m:=by
 obtain⟨v,_,_,_,_,m,j,y,_⟩:=hk.dL hs dA h1 h2 h;obtain⟨g,o,_⟩:=nM j;have key:∀d e,Step s t [(a,d,e)] aJ->∃g m,Step s t [(a,g,m)] aJ/\n<=m/\t.iG a=aK m:=λd e b=>by
  have l:=(b.hd a d e).2 (.inr (by simp));obtain⟨w,u⟩:=v.holds_one l o;subst w u;exact⟨d,e,b,y,j⟩
 unfold Sy.dL at h;split at h
 ·rename_i hn;obtain⟨i,c,x,f,_⟩:=hs _ (yB h1 hn).1;rw[f]at h;exact key _ _ (hk.Ep x dA h)
 ·rename_i hn;obtain⟨_,q,_⟩:=zB (show 33<=n by omega) h2;unfold Sy.RZ at h;cases hal:s.h.alloc cpu (rM n) 0 false false with
  | none=>rw[hal]at h;cases h
  | some r=>
   obtain⟨z,p⟩:=r;rw[hal]at h;have k:=gP h;rw[Prod.mk.injEq]at k;obtain⟨rfl,rfl⟩:=k;exact key _ _ (hk.yD dA q (by decide) hal)
def Sy.moved (t:Sy)(p q n:Nat):Sy:={t with w:=xJ t.w p q n}
theorem WA {p:Nat}(h1:p+n<=xs.length)(h2:q+n<=xs.length):(xJ xs p q n).length=xs.length:=by
 unfold xJ;simp only[gTb,gTc,gTd];omega
theorem WB {p:Nat}(h1:p+n<=xs.length)(h2:q+n<=xs.length)(j:Nat):(xJ xs p q n).getD j 0=if p<=j/\j<p+n then xs.getD (q+(j-p)) 0 else xs.getD j 0:=by
 unfold xJ;rw[List.getD_eq_getElem?_getD,List.getD_eq_getElem?_getD,List.getD_eq_getElem?_getD];by_cases b:j<p
 ·rw[if_neg (by omega),List.append_assoc,List.getElem?_append_left (by rw[gTc];omega),List.getElem?_take_of_lt b]
 ·rw[List.append_assoc,List.getElem?_append_right (by rw[gTc];omega),gTc,Nat.min_eq_left (by omega)];by_cases a:j<p+n
  ·rw[if_pos ⟨by omega,a⟩,List.getElem?_append_left (by rw[gTc,gTd];omega),List.getElem?_take_of_lt (by omega),List.getElem?_drop]
  ·rw[if_neg (by omega),List.getElem?_append_right (by rw[gTc,gTd];omega),List.getElem?_drop,gTc,gTd];congr 2;omega
noncomputable def Sy.fE (s:Sy)(cpu:Nat)(a:Int)(n:Nat):Nat ⊕ (Sy×Int):=match s.iG a with
 | none=> .inl 4
 | some z=>if n<=z then .inr (s,a)else match s.dL cpu n with
  | none=> .inl 6
  | some (t,b)=>match (t.moved b.toNat a.toNat z).jG cpu a with
   | none=> .inl 4
   | some u=> .inr (u,b)
structure Moved (s:Sy)(cpu:Nat)(a:Int)(z:Nat)(t:Sy)(b:Int):Prop where
 ok:cZ (t.moved b.toNat a.toNat z)
 a0:0<=a/\a+z<=4096
 b0:0<=b/\b+z<=4096
 ne:a≠b
 sg:t.sig=s.sig
 cp:t.h.aP=s.h.aP
 sz:(t.moved b.toNat a.toNat z).iG a=aK z
 wl:t.w.length=4096
theorem cZ.moved (hk:cZ s)(hs:Ed s){b:Int}(dA:cpu<s.h.aP)(h1:1<=n)(h2:n<=256)(hz:s.iG a=aK z)(hn:z<n)(h:s.dL cpu n=aK (t,b)):
 Moved s cpu a z t b/\∃u g m,(t.moved b.toNat a.toNat z).jG cpu a=aK u/\n<=m/\Step s u [(b,g,m)] (aK a)/\(∀j:Nat,j<z->u.w.getD (b.toNat+j) 0=s.w.getD (a.toNat+j) 0)/\u.iG b=aK m:=by
 obtain⟨g,m,f,V,L⟩:=hk.zL hs dA h1 h2 h;obtain⟨A,U,N⟩:=nM hz;have hb:t.holds b g m:=(f.hd b g m).2 (.inr (by simp));have F:t.holds a A z:=(f.hd a A z).2 (.inl ⟨U,by simp⟩);have r:a≠b:=λe=>by
  subst e;exact f.nw _ (gTa.2 rfl) A z U
 have W:=f.ok.lW F;have Z:=f.ok.lW hb;have K:=f.ok.wl;have e1:((a.toNat:Nat):Int)=a:=Int.toNat_of_nonneg W.2.1;have e2:((b.toNat:Nat):Int)=b:=Int.toNat_of_nonneg Z.2.1;have R:(xJ t.w b.toNat a.toNat z).length=t.w.length:=WA (by omega) (by omega);have l:=λj=>WB (xs:=t.w) (p:=b.toNat) (q:=a.toNat) (n:=z) (by omega) (by omega) j
 have Q:t.oU b m:=pI hb;obtain⟨I,E⟩:=f.ok.Jr Q R λq hq=>by
  rw[l,if_neg (by omega)]
 have aPd:(t.moved b.toNat a.toNat z).sig=t.sig:=rfl;have B:(t.moved b.toNat a.toNat z).iG a=aK z:=by
  refine cZ.AO I ((E a A z).2 F) λi c e P=> ?_
  have k:s.sig[i]? =aK (c.ns,c.z):=by
   have h7:=sJ P;have G:t.sig[i]? =aK (c.ns,c.z):=h7;rw[f.sg]at G;exact G
  obtain⟨d,hd,O,_⟩:=sK k;have X:d.ns=c.ns:=O;rw[<- X];exact N i d e hd
 refine⟨⟨I,⟨W.2.1,W.2.2⟩,⟨Z.2.1,by omega⟩,r,f.sg,f.cp,B,K⟩,?_⟩;have T:cpu<(t.moved b.toNat a.toNat z).h.aP:=by show cpu<t.h.aP;rw[f.cp];exact dA
 obtain⟨u,hu,o⟩:=cZ.CP I T B;have J:u.holds b g m:=(o.hd b g m).2 (.inl ⟨(E b g m).2 hb,λe=>r (gP e)⟩);refine⟨u,g,m,hu,V,⟨o.ok,o.cp.trans f.cp,o.sg.trans f.sg,λc v y=> ?_,λx hx v y D=>f.nw x hx v y D,λq c v y D M Y f2=> ?_⟩,λj hj=> ?_,?_⟩
 ·rw[o.hd,E,f.hd];simp only[gTa,List.not_mem_nil,or_false];constructor
  ·rintro⟨⟨k,_⟩ | k,S⟩
   ·exact .inl ⟨k,S⟩
   ·exact .inr k
  ·rintro(⟨k,S⟩ | k)
   ·exact⟨.inl ⟨k,by simp⟩,S⟩
   ·refine⟨.inr k,λe=> ?_⟩;rw[Prod.mk.injEq]at k;exact r ((gP e).trans k.1)
 ·have C:t.holds c v y:=(f.hd c v y).2 (.inl ⟨D,by simp⟩);have H:c≠b:=λe=>f.nw _ (gTa.2 rfl) v y (e▸D)
  have k:=f.ok.xG C hb H;rw[o.wd q c v y ((E c v y).2 C) M Y f2];show(xJ t.w b.toNat a.toNat z).getD q 0=_;rw[l,if_neg (by omega)];exact f.wd q c v y D (by simp) Y f2
 ·rw[o.wd (b.toNat+j) b g m ((E b g m).2 hb) (λe=>r (gP e)) (by omega) (by omega)];show(xJ t.w b.toNat a.toNat z).getD (b.toNat+j) 0=_;rw[l,if_pos (by omega),Nat.add_sub_cancel_left];exact f.wd (a.toNat+j) a A z U (by simp) (by omega) (by omega)
 ·obtain⟨g9,q9,r9⟩:=nM L;obtain⟨rfl,_⟩:=f.ok.holds_one hb q9;refine o.ok.AO J λi c e P=> ?_
  have k:=sJ P;rw[o.sg]at k;have G:t.sig[i]? =aK (c.ns,c.z):=k;obtain⟨d,hd,O,_⟩:=sK G;have X:d.ns=c.ns:=O;rw[<- X];exact r9 i d e hd
def ZK (r:Option Sy)(w:World)(ev:Ending)(w':World):Prop:=(r=aJ/\ev=aN (aG #[aC #[aA aJ 0 0,aA aJ 0 0,aA aJ 0 0,aB aI 0,aA aJ 0 0,aA aJ 0 0,aA aJ 0 0],aB aI 4])/\Below w.heap.size w w')∨(∃a b,r=aK a/\ev=aN (aG #[.agg (b.vals a),aB aI 0])/\iI w' w.heap.size a b/\Below w.heap.size w w')
theorem Jt (v:Sc)(s:Sy)(cpu:Nat)(a:Int)(w:World)(hs:nO w v s)(hk:cZ s)(hf:∀c∈s.cs,c.ns.length<=1000)(dA:cpu<s.h.aP)(hsz:Bg w)(hab: -1000000<=a/\a<=10000):
 Calls prog 16 #[aC #[aA v.a1 v.n1 v.c1,aA v.hc.az 2 v.hc.cz,aA v.hc.am 2 v.hc.cm,aB aI (s.h.aP:Int),aA v.hc.al v.hc.lc.length v.hc.cl,aA v.hc.av s.h.live.length v.hc.cv,aA v.a2 v.ys.length v.c2],aB aI cpu,aB aI a] w (ZK (s.jG cpu a) w):=by
 obtain⟨K1,K2,F1,F2,o,hbw⟩:=boxes2 w #[aA v.a1 v.n1 v.c1,aA v.hc.az 2 v.hc.cz,aA v.hc.am 2 v.hc.cm,aB aI (s.h.aP:Int),aA v.hc.al v.hc.lc.length v.hc.cl,aA v.hc.av s.h.live.length v.hc.cv,aA v.a2 v.ys.length v.c2] 42 #[aA aJ 0 0,aA aJ 0 0,aA aJ 0 0,aB aI 0,aA aJ 0 0,aA aJ 0 0,aA aJ 0 0] 42;have P:=hs.below hbw;obtain⟨rZ,ZI⟩:∃rZ,s.jG cpu a=rZ:=⟨_,rfl⟩
 rw[ZI];generalize hw1:(w.alloc (aO #[aA v.a1 v.n1 v.c1,aA v.hc.az 2 v.hc.cz,aA v.hc.am 2 v.hc.cm,aB aI (s.h.aP:Int),aA v.hc.al v.hc.lc.length v.hc.cl,aA v.hc.av s.h.live.length v.hc.cv,aA v.a2 v.ys.length v.c2] 42)).alloc (aO #[aA aJ 0 0,aA aJ 0 0,aA aJ 0 0,aB aI 0,aA aJ 0 0,aA aJ 0 0,aA aJ 0 0] 42)=w1 at*;have q:w.heap.size<w1.heap.size:=by omega
 have uK:=gO (nJ v s w1 P hk hf);have Xb:Hid (∀W,Below w1.heap.size w1 W->Calls prog 18 #[aC #[aA v.a1 v.n1 v.c1,aA v.hc.az 2 v.hc.cz,aA v.hc.am 2 v.hc.cm,aB aI (s.h.aP:Int),aA v.hc.al v.hc.lc.length v.hc.cl,aA v.hc.av s.h.live.length v.hc.cv,aA v.a2 v.ys.length v.c2],aB aI a] W λg r=>DF s a g/\Below W.heap.size W r):=λW hW=>Jg v s a W (P.below hW) hk hf (by omega)
 have HWH:Hid (∀W,Below w1.heap.size w1 W->Calls prog 41 #[aC #[aA v.a1 v.n1 v.c1,aA v.hc.az 2 v.hc.cz,aA v.hc.am 2 v.hc.cm,aB aI (s.h.aP:Int),aA v.hc.al v.hc.lc.length v.hc.cl,aA v.hc.av s.h.live.length v.hc.cv,aA v.a2 v.ys.length v.c2],aB aI a] W λg r=>wZ s a g/\Below W.heap.size W r):=λW hW=>Jo v s a W (P.below hW) hk hab
 have Ot:Hid (∀W,Below w1.heap.size w1 W->Calls prog 12 #[aC #[aA v.a1 v.n1 v.c1,aA v.hc.az 2 v.hc.cz,aA v.hc.am 2 v.hc.cm,aB aI (s.h.aP:Int),aA v.hc.al v.hc.lc.length v.hc.cl,aA v.hc.av s.h.live.length v.hc.cv,aA v.a2 v.ys.length v.c2]] W λg r=>∃F,g=aN (aC #[aA F.a1 F.n1 F.c1,aA F.hc.az 2 F.hc.cz,aA F.hc.am 2 F.hc.cm,aB aI (s.h.aP:Int),aA F.hc.al F.hc.lc.length F.hc.cl,aA F.hc.av s.h.live.length F.hc.cv,aA F.a2 F.ys.length F.c2])/\iI r W.heap.size s F/\Below W.heap.size W r):=λW hW=>qV v s W (P.below hW) hk hf
 have N:=gO P;have Y:=gO hk;have HF:=gO hf;have HSZ1:=gO (hsz.below hbw);have HB1:=gO hbw;have O:=gO K1;have HF1:=gO F1;have HK2:=gO K2;have HF2:=gO F2;have Ue:=gO ZI;have hc0:¬(cpu:Int)<0:=by omega
 have hc1:¬(s.h.aP:Int)<=cpu:=by omega
 obtain⟨H,k1,k2,C,E,D,A⟩:=gA7 K1;clear hs hk hf P K1 F1 K2 F2 hbw hsz ZI;go_enter func16,ntmps16
 go_upto_region 1 with fail
 try rw[hw1]
 clear hw1;go_upto_region 4 with (go_at_call 11;refine uK.out.mono ?_;rintro g w2 ⟨rfl,hb2⟩)
 have Z:=aQ O.out q hb2;clear H k1 k2 C E D A uK;have M:=gO (Xb.out w2 hb2);have HB2:=gO hb2;obtain⟨H,k1,k2,C,E,D,A⟩:=gA7 Z;clear Z Xb hb2;go_upto_region 6 with fail
 cases hfo:s.pG a
 case' none=>
  have hm:s.iE a=aJ:=by
   unfold Sy.iE;rw[hfo]
  have HFN:Hid (Calls prog 18 #[aC #[aA v.a1 v.n1 v.c1,aA v.hc.az 2 v.hc.cz,aA v.hc.am 2 v.hc.cm,aB aI (s.h.aP:Int),aA v.hc.al v.hc.lc.length v.hc.cl,aA v.hc.av s.h.live.length v.hc.cv,aA v.a2 v.ys.length v.c2],aB aI a] w2 λg r=>g=aN (aG #[aB aI 0,aB aI 0,aB aI 4])/\Below w2.heap.size w2 r):=by
   refine M.out.mono ?_;rintro g r ⟨h,hb⟩;exact⟨Gs hfo h,hb⟩
  have HM:=gO hm;clear M hfo hm;go_upto_region 9 with (go_at_call 18;refine HFN.out.mono ?_;rintro g B ⟨rfl,u⟩)
  have z:=gO (gW HB2.out u);clear HFN H k1 k2 C E D A u HB2;obtain⟨V,rfl⟩:∃V,V=B:=⟨_,rfl⟩
  have I:=z;clear z
 case' some p=>
  obtain⟨i,k⟩:=p;obtain⟨c,x,hc,hx,ho⟩:=uF hfo;have HFS:Hid (Calls prog 18 #[aC #[aA v.a1 v.n1 v.c1,aA v.hc.az 2 v.hc.cz,aA v.hc.am 2 v.hc.cm,aB aI (s.h.aP:Int),aA v.hc.al v.hc.lc.length v.hc.cl,aA v.hc.av s.h.live.length v.hc.cv,aA v.a2 v.ys.length v.c2],aB aI a] w2 λg r=>g=aN (aG #[aB aI (i:Int),aB aI (k:Int),aB aI 0])/\Below w2.heap.size w2 r):=by
   refine M.out.mono ?_;rintro g r ⟨h,hb⟩;exact⟨Gq Y.out hfo h,hb⟩
  have hil:=(gK.1 hc).1;have hiy:i<v.ys.length:=by
   have h:=congrArg List.length N.out.cy;rw[gTe]at h;omega
  have hyl:v.ys.length<=20:=by
   have h:=congrArg List.length N.out.cy;rw[gTe]at h;rw[h];exact Y.out.cl
  have YW:v.ys[i].c=c:=by
   have h1:=congrArg (·[i]?) N.out.cy;simp only[List.getElem?_map,gJ hiy,Option.map_some]at h1;rw[hc]at h1;exact gP h1
  have hii:(i:Int)<v.ys.length:=by omega
  have HFO:=gO hfo;have Dz:=gO hc;have ZJ:=gO YW;have HAW:=gO (show s.jD i k a from⟨c,x,hc,hx,ho⟩);have HXX:=gO hx;have HOO:=gO ho;clear M hfo hc hx ho hil YW;go_upto_region 7 with (go_at_call 18;refine HFS.out.mono ?_;rintro g B ⟨rfl,u⟩)
  have Q:=gW HB2.out u;have z:=gO Q;have K13:=aQ O.out q Q;clear HFS H k1 k2 C E D A u HB2;obtain⟨H,k1,k2,C,E,D,A⟩:=gA7 K13;have hs3:=N.out.below Q;obtain⟨bb,off,hba,hbb,hbc⟩:=aZ eY (by decide) hs3.rc hiy;have R:=hs3.ca _ (gL hiy);obtain⟨y,hy⟩:∃y,v.ys[i]=y:=⟨_,rfl⟩
  rw[hy]at hbc R ZJ;obtain⟨e0,e1,e2,e3,e4,e5⟩:=kM hbc;rw[hba]at A;have hyn:y.n1<=1000000:=by
   rw[<- R.l1,ZJ.out];exact gQ (HF.out c (gM Dz.out)) (by decide)
  have OA:=gO (Pv y B R hyn (HSZ1.out.below Q));have hmy:kZ y.c.ns=kZ c.ns:=by rw[ZJ.out]
  rw[hmy]at OA;clear hmy;have HBC:=gO (fun(W:World) (hW:Below B.heap.size B W)=>(hW.cell (p:=⟨bb,off+i*6,aJ⟩) hbb).trans e0);have HR1:=gO R.r1;have HL1:=gO R.l1;have HHS3:=gO hs3;have HK13:=gO K13;have hsz3:=gI q Q.size;have Ia:=gO hba;clear K13 hs3 hba hbc R hy hyn Q;cases hmb:kZ c.ns
  case true=>
   rw[hmb]at OA;have hm:s.iE a=aK (i,k,c):=by
    unfold Sy.iE;rw[HFO.out];simp only[Dz.out,hmb,if_true]
   obtain⟨X,GL⟩:∃X,s.free i k a.toNat cpu=X:=⟨_,rfl⟩
   have HE:Hid (rZ=aK X):=by
    unfold Hid;rw[<- Ue.out];unfold Sy.jG;rw[hm];simp only[GL]
   have hck:=Y.out.ck c (gM Dz.out);have hns:y.c.ns=c.ns:=by rw[ZJ.out]
   obtain⟨n0,nr,hnn⟩:∃n0 nr,c.ns=n0::nr:=by
    cases hh:c.ns with
    | nil=>exact absurd hh hck.ns
    | cons x l=>exact⟨x,l,rfl⟩
   have hnm:s.named n0=aK i:=by
    unfold Sy.named;rw[List.findIdx?_eq_some_iff_getElem];obtain⟨hil,hic⟩:=gK.1 Dz.out;refine⟨hil,?_,λj hj=> ?_⟩
    ·rw[hic,hnn];exact List.contains_iff_mem.2 (by simp)
    ·intro hcon;have h9:=gN.1 Y.out.nd j i (by omega) hil hj n0 (List.contains_iff_mem.1 hcon);rw[hic,hnn]at h9;exact h9 (by simp)
   have ha0:0<=a:=by have:=(kY HOO.out.1).1;omega
   have hat:((a.toNat:Nat):Int)=a:=Int.toNat_of_nonneg ha0;have hn1:0<y.n1:=by rw[<- HL1.out,hns,hnn];simp
   have hni:(0:Int)<y.n1:=by omega
   have HNN:Hid (y.c.ns=n0::nr):=by unfold Hid;rw[hns,hnn]
   have KN:=gO hnm;have HAT:=gO hat
   have Yo:=gO GL;clear hm hmb GL hck hns hnn hnm hat ha0 hn1;go_upto_region 8 with (go_at_call 39;refine OA.out.mono ?_;rintro g L ⟨rfl,e⟩)
   have K14:=aQ HK13.out hsz3 e;have e14:=HBC.out L e;have U:=HHS3.out.below e;obtain⟨nb,no,hna,hnl,hnc⟩:=(HR1.out.below e) 0 (sV n0) (by rw[HNN.out];rfl);unfold sV at hnc;rw[Nat.add_zero]at hnc;rw[hna]at e14;have hd:=(gX L.heap.size L).drew;have hfr:=PG v s n0 cpu i k a.toNat c x L.drew (U.below hd) Y.out HF.out KN.out dA Dz.out HXX.out (by rw[HAT.out];exact HOO.out);rw[HAT.out,Yo.out,Ia.out]at hfr;have yX:Hid (Calls prog 40 #[aC #[aA v.a1 v.n1 v.c1,aA v.hc.az 2 v.hc.cz,aA v.hc.am 2 v.hc.cm,aB aI (s.h.aP:Int),aA v.hc.al v.hc.lc.length v.hc.cl,aA v.hc.av s.h.live.length v.hc.cv,aA (aK ⟨bb,off,aJ⟩) v.ys.length v.c2],aF ⟨n0.toArray⟩,aB aI cpu,aB aI a] L.drew λg r=>∃f,g=aN (aG #[aC #[aA f.a1 f.n1 f.c1,aA f.hc.az 2 f.hc.cz,aA f.hc.am 2 f.hc.cm,aB aI (X.h.aP:Int),aA f.hc.al f.hc.lc.length f.hc.cl,aA f.hc.av X.h.live.length f.hc.cv,aA f.a2 f.ys.length f.c2],aB aI 0])/\iI r L.drew.heap.size X f/\Below L.drew.heap.size L.drew r):=hfr;have J:=gI (gI o z.out.size) e.size;have HTD:=gO (aQ (aQ HK2.out o (gW z.out e)) J hd);have HUD:=gO (aU (aU HF2.out o (gW z.out e)) J hd);have VL:=gO (gW (gW HB1.out (gW z.out e)) hd);have hTd:w.heap.size+1<L.drew.heap.size:=gI J hd.size;clear H k1 k2 C E D A e0 e1 e2 e3 e4 e5 hfr hd U J;obtain⟨H,k1,k2,C,E,D,A⟩:=gA7 K14;rw[Ia.out]at A;clear K14 OA HR1
   go_region_with (go_at_call 40;refine yX.out.mono ?_;rintro g w5 ⟨f,rfl,S,n⟩;have KT:=aQ HTD.out hTd n;have FT:=aU HUD.out hTd n;obtain⟨y0,y1,y2,y3,y4,y5,y6⟩:=gA7 KT;obtain⟨f0,f1,f2,f3,f4,f5,f6⟩:=gF7 FT;skip)
   all_goals
    have KX:=qU KT f X;have pO:=gO (iI.put7 (T:=w.heap.size+1) (G:=w.heap.size) S hTd (by omega));have kP:=gO (dX (T:=w.heap.size+1) (gW VL.out n) (Nat.le_succ _) f X);clear KT FT y0 y1 y2 y3 y4 y5 y6 f0 f1 f2 f3 f4 f5 f6 S n H k1 k2 C E D A;go_wp2_with fail
    generalize ((((((w5.setCell _ _).setCell _ _).setCell _ _).setCell _ _).setCell _ _).setCell _ _).setCell _ _=wx at*;exact bodyPost_ret (v:=aG #[aC #[aA f.a1 f.n1 f.c1,aA f.hc.az 2 f.hc.cz,aA f.hc.am 2 f.hc.cm,aB aI (X.h.aP:Int),aA f.hc.al f.hc.lc.length f.hc.cl,aA f.hc.av X.h.live.length f.hc.cv,aA f.a2 f.ys.length f.c2],aB aI 0]) (by simp[results,results16,go_sem,KX]) rfl (.inr ⟨X,f,HE.out,rfl,pO.out,kP.out⟩)
  case' false=>
   rw[hmb]at OA;have hm:s.iE a=aJ:=by
    unfold Sy.iE;rw[HFO.out];simp only[Dz.out,hmb];rfl
   have HM:=gO hm;clear hm hmb;go_upto_region 9 with (go_at_call 39;refine OA.out.mono ?_;rintro g L ⟨rfl,e⟩)
   have HB4:=gO (gW z.out e);clear H k1 k2 C E D A e0 e1 e2 e3 e4 e5 OA HBC HK13 Ia z e HAW HXX HOO HR1 HL1 HHS3;obtain⟨V,rfl⟩:∃V,V=L:=⟨_,rfl⟩
   have I:=HB4;clear HB4
 all_goals
  have K1t:=aQ O.out q I.out;obtain⟨H,k1,k2,C,E,D,A⟩:=gA7 K1t;have K:=gO (HWH.out V I.out);clear K1t HWH;cases hwo:s.kX a with
  | none=>
   have HE:Hid (rZ=aJ):=by
    unfold Hid;rw[<- Ue.out];unfold Sy.jG;rw[HM.out];simp only[hwo];rfl
   have HWN:Hid (Calls prog 41 #[aC #[aA v.a1 v.n1 v.c1,aA v.hc.az 2 v.hc.cz,aA v.hc.am 2 v.hc.cm,aB aI (s.h.aP:Int),aA v.hc.al v.hc.lc.length v.hc.cl,aA v.hc.av s.h.live.length v.hc.cv,aA v.a2 v.ys.length v.c2],aB aI a] V λg r=>(∃j:Nat,g=aN (aG #[aB aI (j:Int),.bool false]))/\Below V.heap.size V r):=by
    refine K.out.mono ?_;rintro g r ⟨h,hb⟩;exact⟨xI hwo h,hb⟩
   clear K hwo;go_upto_region 11 with (go_at_call 41;refine HWN.out.mono ?_;rintro g w9 ⟨⟨j,rfl⟩,hb9⟩)
   have kG:=gO (aQ HK2.out o (gW I.out hb9));have xB:=gO (aU HF2.out o (gW I.out hb9));have xC:=gO (gW HB1.out (gW I.out hb9));clear hb9 HWN H k1 k2 C E D A;obtain⟨q0,q1,q2,q3,q4,q5,q6⟩:=gA7 kG.out;obtain⟨f0,f1,f2,f3,f4,f5,f6⟩:=gF7 xB.out;have lS:=nil7 kG.out xC.out (show w.heap.size<=w.heap.size+1 by omega);have KX:=lS.1;have kP:=gO lS.2;clear lS kG xB xC;go_wp2_with fail
   generalize ((((((w9.setCell _ _).setCell _ _).setCell _ _).setCell _ _).setCell _ _).setCell _ _).setCell _ _=wx at*;exact bodyPost_ret (v:=aG #[aC #[aA aJ 0 0,aA aJ 0 0,aA aJ 0 0,aB aI 0,aA aJ 0 0,aA aJ 0 0,aA aJ 0 0],aB aI 4]) (by simp[results,results16,go_sem,KX]) rfl (.inl ⟨HE.out,rfl,kP.out⟩)
  | some b=>
   obtain⟨hwb,aHN⟩:=qF hwo;have HE:Hid (rZ=aK (s.jR cpu b)):=by
    unfold Hid;rw[<- Ue.out];unfold Sy.jG;rw[HM.out];simp only[hwo];rfl
   obtain⟨g1,g2,g3,⟨hi0,hlb⟩,g5⟩:=Y.out.jR dA hwb;have HWS:Hid (Calls prog 41 #[aC #[aA v.a1 v.n1 v.c1,aA v.hc.az 2 v.hc.cz,aA v.hc.am 2 v.hc.cm,aB aI (s.h.aP:Int),aA v.hc.al v.hc.lc.length v.hc.cl,aA v.hc.av s.h.live.length v.hc.cv,aA v.a2 v.ys.length v.c2],aB aI a] V λg r=>(∃j:Nat,g=aN (aG #[aB aI (j:Int),.bool true]))/\Below V.heap.size V r):=by
    refine K.out.mono ?_;rintro g r ⟨h,hb⟩;obtain⟨_,_,h3⟩:=xH Y.out hwo h;exact⟨⟨_,h3⟩,hb⟩
   have hba:=(Y.out.hk.lv b hwb.1).1.2.2.1;have hq:a.tdiv 16=(b.a:Int):=by rw[aHN,Int.tdiv_eq_ediv_of_nonneg (by omega)];omega
   have HPF:Hid (∀W,Below w1.heap.size w1 W->Calls prog 42 #[aC #[aA v.hc.az 2 v.hc.cz,aA v.hc.am 2 v.hc.cm,aB aI (s.h.aP:Int),aA v.hc.al v.hc.lc.length v.hc.cl,aA v.hc.av s.h.live.length v.hc.cv],aB aI cpu,aB aI (b.a:Int)] W λg r=>∃d,g=aN (aG #[aC #[aA d.az 2 d.cz,aA d.am 2 d.cm,aB aI ((s.jR cpu b).h.aP:Int),aA d.al d.lc.length d.cl,aA d.av (s.jR cpu b).h.live.length d.cv],aB aI 0])/\lN r W.heap.size (s.jR cpu b).h d/\Below W.heap.size W r):=λW hW=>by
    have h:=FQ v.hc.az v.hc.am v.hc.al v.hc.av v.hc.cz v.hc.cm v.hc.cl v.hc.cv v.hc.lc.length s.h.live.length v.hc.y0 v.hc.y1 v.hc.lc s.h cpu b.a W (N.out.below hW).hh Y.out.hk (by have:=(N.out.hh.ll);have h9:=congrArg List.length this;rw[gTe]at h9;rw[h9];have:=Y.out.hk.pK;omega) (by have:=Y.out.hk.jM;omega) dA (by omega) g5;refine h.mono ?_;rintro g r ⟨h1,d,hi,h2,h3⟩;rw[hlb]at h2 h3;exact⟨d,h2,h3,h1⟩
   have hw64:wrap64 (b.a:Int)=(b.a:Int):=IntWalk.wrap64_in _ (by omega);obtain⟨t,hh'⟩:∃t,(s.jR cpu b).h=t:=⟨_,rfl⟩
   have HEE:Hid (s.jR cpu b={s with h:=t}):=by unfold Hid;rw[<- hh'];rfl
   rw[hh']at HPF;clear K hwo hwb hlb aHN g1 g2 g3 g5 hba hi0 hh';go_upto_region 12 with (go_at_call 41;refine HWS.out.mono ?_;rintro g wr ⟨⟨j,rfl⟩,hbr⟩)
   have jK:=gW I.out hbr;have Z:=aQ O.out q jK;clear H k1 k2 C E D A hbr HWS;obtain⟨H,k1,k2,C,E,D,A⟩:=gA7 Z;have AB:w.heap.size<wr.heap.size:=gI q jK.size;have AL:w.heap.size+1<wr.heap.size:=gI o jK.size;have Xg:=gO (HPF.out wr jK);clear HPF;go_upto_region 13 with (go_at_call 42;refine Xg.out.mono ?_;rintro g B ⟨d,rfl,hn3,u⟩)
   have ba:=aT B (aO #[aA d.az 2 d.cz,aA d.am 2 d.cm,aB aI (t.aP:Int),aA d.al d.lc.length d.cl,aA d.av t.live.length d.cv] 39);have K14:=bI B #[aA d.az 2 d.cz,aA d.am 2 d.cm,aB aI (t.aP:Int),aA d.al d.lc.length d.cl,aA d.av t.live.length d.cv] 39;have e:=gW u ba;have ZG:B.heap.size<(B.alloc (aO #[aA d.az 2 d.cz,aA d.am 2 d.cm,aB aI (t.aP:Int),aA d.al d.lc.length d.cl,aA d.av t.live.length d.cv] 39)).heap.size:=by simp
   have aK3:wr.heap.size<=B.heap.size:=u.size;have hX1:∀k,(k<w.heap.size∨k=w.heap.size+1)->k<wr.heap.size:=λk hk=>by omega
   have hHR:HR (B.alloc (aO #[aA d.az 2 d.cz,aA d.am 2 d.cm,aB aI (t.aP:Int),aA d.al d.lc.length d.cl,aA d.av t.live.length d.cv] 39)) w.heap.size (λk=>k<w.heap.size∨k=w.heap.size+1) t d:=(HR.lift hn3 AB hX1 (by omega)).below ba;have HHR:=gO hHR;have KG4:=gO (aQ (aQ O.out q jK) AB e);have FG4:=gO (aU (aU HF1.out q jK) AB e);have KT4:=gO (aQ (aQ HK2.out o jK) AL e);have FT4:=gO (aU (aU HF2.out o jK) AL e);have HB4:=gO (gW (gW HB1.out jK) e);have HCP4:=gO (Ot.out _ (jK.trans (e.mono jK.size)));have ZH:=gO K14;have hw4:wr.heap.size<=(B.alloc (aO #[aA d.az 2 d.cz,aA d.am 2 d.cm,aB aI (t.aP:Int),aA d.al d.lc.length d.cl,aA d.av t.live.length d.cv] 39)).heap.size:=e.size;have hBne:B.heap.size≠w.heap.size:=by omega
   clear u e ba hHR K14 hn3 O HF1 HK2 HF2 Xg Ot Z H k1 k2 C E D A;generalize B.alloc _=L at*;generalize B.heap.size=B14 at*;obtain⟨H,k1,k2,C,E,D,A⟩:=gA7 KG4.out;have U:w.heap.size<L.heap.size:=gI AB hw4;have J:w.heap.size+1<L.heap.size:=gI AL hw4;go_upto_region 16 with (go_at_call 12;refine HCP4.out.mono ?_;rintro g w5 ⟨m,rfl,S,n⟩;have K5:=aQ KG4.out U n;have F5:=aU FG4.out U n;obtain⟨y0,y1,y2,y3,y4,y5,y6⟩:=gA7 K5;obtain⟨f0,f1,f2,f3,f4,f5,f6⟩:=gF7 F5;skip)
   have pV:SR w5 w.heap.size (λk=>k<w.heap.size∨k=w.heap.size+1) s m:=SR.lift S U (λk hk=>gI (hX1 k hk) hw4) (by omega);have HS6:=gO (SS.put7 pV K5 F5);have hoff:=iI.Uc S HHR.out (gT _);have HR6:Hid (HR (((((((w5.setCell ⟨w.heap.size,0,aJ⟩ (aA m.a1 m.n1 m.c1)).setCell ⟨w.heap.size,1,aJ⟩ (aA m.hc.az 2 m.hc.cz)).setCell ⟨w.heap.size,2,aJ⟩ (aA m.hc.am 2 m.hc.cm)).setCell ⟨w.heap.size,3,aJ⟩ (aB aI (s.h.aP:Int))).setCell ⟨w.heap.size,4,aJ⟩ (aA m.hc.al m.hc.lc.length m.hc.cl)).setCell ⟨w.heap.size,5,aJ⟩ (aA m.hc.av s.h.live.length m.hc.cv)).setCell ⟨w.heap.size,6,aJ⟩ (aA m.a2 m.ys.length m.c2)) w.heap.size (λk=>k<w.heap.size∨k=w.heap.size+1) t d):=((((((((HHR.out.below n).iQ 0 _).iQ 1 _).iQ 2 _).iQ 3 _).iQ 4 _).iQ 5 _).iQ 6 _)
   have HOF:=gO hoff;have KT6:=gO (mX (T:=w.heap.size) (aQ KT4.out J n) (by omega) m s);have FT6:=gO (Ci (T:=w.heap.size) (aU FT4.out J n) m s);have K146:=gO (mX (T:=w.heap.size) (aQ ZH.out ZG n) hBne m s);have HB6:=gO (dX (T:=w.heap.size) (gW HB4.out n) (gT _) m s);clear K5 F5 y0 y1 y2 y3 y4 y5 y6 f0 f1 f2 f3 f4 f5 f6 H k1 k2 C E D A pV hoff S n HCP4 KG4 FG4 KT4 FT4 HHR ZH HB4;generalize ((((((w5.setCell _ _).setCell _ _).setCell _ _).setCell _ _).setCell _ _).setCell _ _).setCell _ _=w6 at*;obtain⟨x0,x1,x2,x3,x4⟩:=gA5 K146.out;obtain⟨g0,g1,g2,g3,g4,g5,g6⟩:=gA7 HS6.out.k;obtain⟨f0,f1,f2,f3,f4,f5,f6⟩:=gF7 HS6.out.fz;go_upto_region 17 with fail
   have hput:=HS6.out.putH2 HR6.out HOF.out;have kH:=gO hput.1;have KT7:=(aS (aS (aS (aS (aS KT6.out (show w.heap.size+1≠w.heap.size by omega) 1 (aA d.az 2 d.cz)) (show w.heap.size+1≠w.heap.size by omega) 2 (aA d.am 2 d.cm)) (show w.heap.size+1≠w.heap.size by omega) 3 (aB aI (t.aP:Int))) (show w.heap.size+1≠w.heap.size by omega) 4 (aA d.al d.lc.length d.cl)) (show w.heap.size+1≠w.heap.size by omega) 5 (aA d.av t.live.length d.cv))
   have kG:=gO KT7;have xB:=gO (aV (aV (aV (aV (aV FT6.out ⟨w.heap.size,1,aJ⟩ (aA d.az 2 d.cz)) ⟨w.heap.size,2,aJ⟩ (aA d.am 2 d.cm)) ⟨w.heap.size,3,aJ⟩ (aB aI (t.aP:Int))) ⟨w.heap.size,4,aJ⟩ (aA d.al d.lc.length d.cl)) ⟨w.heap.size,5,aJ⟩ (aA d.av t.live.length d.cv));have xC:Hid (Below w.heap.size w (((((w6.setCell ⟨w.heap.size,1,aJ⟩ (aA d.az 2 d.cz)).setCell ⟨w.heap.size,2,aJ⟩ (aA d.am 2 d.cm)).setCell ⟨w.heap.size,3,aJ⟩ (aB aI (t.aP:Int))).setCell ⟨w.heap.size,4,aJ⟩ (aA d.al d.lc.length d.cl)).setCell ⟨w.heap.size,5,aJ⟩ (aA d.av t.live.length d.cv))):=Safe.after HB6.out hput.2 (λk hk=> .inl hk) HB6.out.size;clear x0 x1 x2 x3 x4 g0 g1 g2 g3 g4 g5 g6 f0 f1 f2 f3 f4 f5 f6 hput KT7 HS6 HR6 HOF KT6 FT6 K146 HB6;generalize ((((w6.setCell _ _).setCell _ _).setCell _ _).setCell _ _).setCell _ _=w7 at*;obtain⟨z0,z1,z2,z3,z4,z5,z6⟩:=gA7 kH.out.k;obtain⟨q0,q1,q2,q3,q4,q5,q6⟩:=gA7 kG.out;obtain⟨f0,f1,f2,f3,f4,f5,f6⟩:=gF7 xB.out;have iH:=out7 kH.out (T:=w.heap.size+1) (.inr rfl) (λk hk=> .inl hk) (Nat.lt_succ_self _) kG.out xC.out
   dsimp only at iH
   have KX:=iH.1;have pO:=gO iH.2.1;have kP:=gO iH.2.2;clear iH kH kG xB xC;go_wp2_with fail
   generalize ((((((w7.setCell _ _).setCell _ _).setCell _ _).setCell _ _).setCell _ _).setCell _ _).setCell _ _=wx at*;exact bodyPost_ret (v:=aG #[aC #[aA m.a1 m.n1 m.c1,aA d.az 2 d.cz,aA d.am 2 d.cm,aB aI (t.aP:Int),aA d.al d.lc.length d.cl,aA d.av t.live.length d.cv,aA m.a2 m.ys.length m.c2],aB aI 0]) (by simp[results,results16,go_sem,KX]) rfl (.inr ⟨{s with h:=t},{m with hc:=d},HE.out.trans (by rw[HEE.out]),rfl,pO.out,kP.out⟩)
def aBK (v:Sc)(s':Sy)(G:Nat)(X:Nat->Prop)(w:World)(ev:Ending)(w':World):Prop:=ev=aN (aG #[])/\∃a,SS w' G X s' a/\Safe X w w'/\a.a2=v.a2
theorem Sz (v:Sc)(s:Sy)(G i:Nat)(X:Nat->Prop)(w:World)(hs:SS w G X s v)(hk:cZ s)(hi:i<v.ys.length):
 Calls prog 58 #[aH (aK ⟨G,0,aJ⟩),aB aI i] w (aBK v (s.shrink i) G X w):=by
 obtain⟨gc,ha2,qW,Ov,VJ,a⟩:=hs.r.Vl hi;have hvl:v.ys.length<=20:=by have:=congrArg List.length hs.r.cy;rw[gTe]at this;rw[this];exact hk.cl
 have hvs:v.ys.length=s.cs.length:=by have:=congrArg List.length hs.r.cy;simpa using this
 have hii:(i:Int)<v.ys.length:=by omega
 have hcm:v.ys[i].c∈s.cs:=by rw[<- hs.r.cy];exact List.mem_map_of_mem (gL hi)
 have D:s.cs[i]? =aK v.ys[i].c:=by
  rw[<- hs.r.cy,List.getElem?_map,gJ hi];rfl
 have T:=hk.ck _ hcm;have Y:=hs.r.at.ca _ (gL hi);obtain⟨y,hy⟩:∃y,v.ys[i]=y:=⟨_,rfl⟩
 rw[hy]at a D T Y;have L:=Y.l2;have hl3:=Y.l3;have hsl:=T.nS hk.hk;have hac:=T.ac;have hcp:=hk.hk.cp.2;have hn3:y.n3<=4:=by omega
 have hn2:y.n2<=256:=by omega
 have b5:=(a 5 (by decide)).1;simp only[fD,vI,gC,gD,Nat.add_zero]at b5;have g6:=hs.k 6;unfold Sc.vals at g6;simp only[gB,gC,gD]at g6;rw[ha2]at g6;have HS:=gO hs;have HK:=gO hk;have Dz:=gO D;have l:=gO hl3;have HL2:=gO L;have HA2:=gO ha2;have HIL:=gO (gK.1 D).1;have S:=gO (hk.dR D);have WC:Hid (s.shrink i=(s.dR i y.c.ac.length).shr i y.c.sl.length):=by unfold Hid Sy.shrink;rw[D]
 have HVS:=gO hvs;clear hs hk a hy T hcm D Y L hl3 hsl hac hcp ha2 hvs hi;go_enter func58,ntmps58
 go_wp2_with fail
 go_loopw [5,18] (λs5 s18 wr=>∃(j:Nat) (Q:Sc),j<=y.n3/\s18=aB aI (j:Int)/\Hid (SS wr G X (s.fO i (y.c.dR j)) Q)/\Hid (Safe X w wr)/\Hid (Q.a2=v.a2)) (λs5 s18 _=>y.n3-(intOf s18).toNat)
 case atStart=>
  refine⟨0,v,gU _,rfl,?_,Safe.refl _ _,rfl⟩;unfold Hid;rw[Rn];have e:s.fO i y.c=s:=by
   unfold Sy.fO;obtain⟨h1,h2⟩:=gK.1 Dz.out;rw[<- h2,List.set_getElem_self]
  rw[e];exact HS.out
 case round=>
  obtain⟨j,Q,hj,rfl,P,HFr,HVr⟩:=hrel;have I:i<Q.ys.length:=by
   have h:=congrArg List.length P.out.r.cy;have h2:=HIL.out;simp only[gTe,Sy.fO,List.length_set]at h;omega
  obtain⟨gc',YT,aM8,_,_,a⟩:=P.out.r.Vl I;obtain rfl:gc=gc':=by
   have h:=HVr.out;rw[YT,HA2.out]at h;simpa[eq_comm]using h
  have O:Q.ys[i].c=y.c.dR j:=by
   have h1:=congrArg (·[i]?) P.out.r.cy;simp only[List.getElem?_map,gJ I,Option.map_some]at h1;have h2:(s.fO i (y.c.dR j)).cs[i]? =aK (y.c.dR j):=by
    show(s.cs.set i _)[i]? =_;rw[List.getElem?_set_self HIL.out]
   rw[h2]at h1;exact gP h1
  have WE:=P.out.r.at.ca _ (gL I);obtain⟨J,g,q⟩:=P.out.r.y (gL I);obtain⟨E,N⟩:∃E,Q.ys[i]=E:=⟨_,rfl⟩
  rw[N]at a WE O g q;have HY':=gO N;have ZJ:=gO O;have aBh:E.n3=y.n3:=by rw[<- WE.l3,O,VQ];exact l.out
  have b5':=(a 5 (by decide)).1;have Z:=(a 4 (by decide)).1;simp only[fD,vI,gC,gD,Nat.add_zero]at b5' Z;by_cases hlt:j<y.n3
  ·have hji:(j:Int)<E.n3:=by omega
   have aPq:(j:Int)<y.n3:=by omega
   have hja:j<E.c.ac.length:=by rw[WE.l3];omega
   obtain⟨ga,hga,_,aGx,hca,hfa⟩:=oI q j (by simpa[sO]using hja);rw[hga]at b5';obtain⟨ua,hua⟩:∃u,wr.cell? ⟨ga,j,aJ⟩=aK u:=⟨_,hca⟩
   have z:=P.out.Yj I N hga j (-1);have he:(s.fO i (y.c.dR j)).fO i {E.c with ac:=E.c.ac.set j (-1)}=s.fO i (y.c.dR (j+1)):=by
    unfold Sy.fO;simp only[List.set_set];have h9:({E.c with ac:=E.c.ac.set j (-1)}:Ca)=y.c.dR (j+1):=by
     rw[O,Ro (by have:=l.out;omega)];rfl
    rw[h9]
   rw[he]at z;unfold vI at z;have aBn:=gO z;clear z he hca hga J g q a WE O YT Z N hja aBh;go_wp2
   go_roundw
   case rel=>
    obtain⟨v'',t1,t2,t3⟩:=aBn.out;exact⟨j+1,v'',by omega,by go_num,t1,HFr.out.trans t2,t3.trans HVr.out⟩
   case measure=>simp[intOf];omega
  ·obtain rfl:j=y.n3:=by omega
   have hun:s.fO i (y.c.dR y.n3)=s.dR i y.c.ac.length:=by rw[OH Dz.out,l.out]
   rw[hun]at P;have aHP:E.n2=y.n2:=by
    rw[<- WE.l2,O];exact HL2.out
   have hnl:E.n2=(E.n2-1)+1∨E.n2=0:=by omega
   have HN0:Hid (wR (s.dR i y.c.ac.length) i y.n2):=by
    obtain⟨_,_,_,h4,_⟩:=S.out;refine⟨{y.c with ac:=List.replicate y.c.ac.length (-1)},by rw[h4,List.getElem?_set_self HIL.out],λb hb=>(List.mem_replicate.1 hb).2,?_⟩;show y.n2<=y.c.sl.length;rw[HL2.out];exact gT _
   have HSH2:Hid (s.shrink i=(s.dR i y.c.ac.length).shr i y.n2):=by
    have h:=WC.out;rw[HL2.out]at h;exact h
   have HUK:=gO S.out.1;have HUC:Hid ((s.dR i y.c.ac.length).cs.length=s.cs.length):=by
    obtain⟨_,_,_,h4,_⟩:=S.out;unfold Hid;rw[h4,List.length_set]
   rw[aHP]at Z;obtain⟨s0,hs0⟩:∃s0,s.dR i y.c.ac.length=s0:=⟨_,rfl⟩
   rw[hs0]at P HN0 HSH2 HUK HUC;clear J g q a WE O YT b5' N aBh hun ZJ HY' aHP hnl WC S hs0 HS HK Dz l;go_wp2_with fail
   go_loopw [6] (λs6 wr=>∃(m:Nat) (o:Sy) (Q:Sc),m<=y.n2/\s6=aB aI ((m:Int)-1)/\Hid (s0.shr i y.n2=o.shr i m)/\Hid (cZ o)/\Hid (wR o i m)/\Hid (o.cs.length=s.cs.length)/\Hid (SS wr G X o Q)/\Hid (Safe X w wr)/\Hid (Q.a2=v.a2)) (λs6 _=>(intOf s6+1).toNat)
   case atStart=>exact⟨y.n2,s0,Q,gT _,rfl,rfl,HUK,HN0,HUC,P,HFr,HVr⟩
   case round=>
    clear Z HUK HN0 HUC P HFr HVr;obtain⟨m,o,v3,hm,rfl,A,F,HN3,l,p,M,R⟩:=hrel;cases m with
    | zero=>
     have HE:Hid (s.shrink i=o):=by
      unfold Hid;rw[HSH2.out,A.out];rfl
     go_wp2_with fail
     exact bodyPost_ret (v:=aG #[]) (by simp[results,results58,go_sem]) rfl ⟨rfl,v3,by rw[HE.out];exact p.out,M.out,R.out⟩
    | succ m=>
     have hmi:(((m+1:Nat):Int)-1)=(m:Int):=by omega
     rw[hmi];have aHQ:s0.shr i y.n2=(o.iM i m).shr i m:=A.out;obtain⟨g1,g2,g3,g4,g5,g6'⟩:=F.out.iM HN3.out;have B:=gO aHQ;have HK4:=gO g1;have V:=gO g4;have U:Hid ((o.iM i m).cs.length=s.cs.length):=by unfold Hid;rw[g5];exact l.out
     clear aHQ g1 g2 g3 g4 g5 g6' hmi;have hi3:i<v3.ys.length:=by
      have h:=congrArg List.length p.out.r.cy;have h1:=HIL.out;have h2:=l.out;simp only[gTe]at h;omega
     obtain⟨gc',ha3,aM9,_,_,a⟩:=p.out.r.Vl hi3;obtain rfl:gc=gc':=by
      have h:=R.out;rw[ha3,HA2.out]at h;simpa[eq_comm]using h
     obtain⟨c',K,aHR,hcl'⟩:=HN3.out;have O:v3.ys[i].c=c':=by
      have h1:=congrArg (·[i]?) p.out.r.cy;simp only[List.getElem?_map,gJ hi3,Option.map_some]at h1;rw[K]at h1;exact gP h1
     have ZL:=F.out.ck c' (gM K);obtain⟨J,g,q⟩:=p.out.r.y (gL hi3);obtain⟨f,hy3⟩:∃f,v3.ys[i]=f:=⟨_,rfl⟩
     rw[hy3]at a g O;subst O;have H:m<f.c.sl.length:=by omega
     have L:f.c.sl.length=f.n2:=bT aY (by decide) g;have hmn:(m:Int)<f.n2:=by omega
     have x:m*3+1<(flat bQ f.c.sl).length:=by rw[flat_length aY];omega
     obtain⟨gs,hgs,_,OB,hsc,_⟩:=oI g (m*3+1) x;have s1:wr.cell? ⟨gs,m*3+1,aJ⟩=aK (aB aI (f.c.sl[m].n:Int)):=by
      rw[hsc];have h:=flat_get aY f.c.sl m H 1 (by decide);rw[gJ x]at h;exact h
     have x4:=(a 4 (by decide)).1;have x2:=(a 2 (by decide)).1;simp only[fD,vI,gC,gD,Nat.add_zero]at x4 x2;rw[hgs]at x4;have hx:f.c.sl[m]? =aK f.c.sl[m]:=gJ H;have C:o.iM i m=if f.c.sl[m].n=f.c.r then o.discard i m 0 else o:=by
      unfold Sy.iM;rw[K];simp only[hx]
     have hxn:f.c.sl[m].n<=64:=gQ (ZL.sk _ (gL H)).Nb ZL.r64;have VK:=ZL.r64;have ZM:0<o.h.aP:=F.out.hk.cp.1;have HDC:Hid (∀W,SS W G X o v3->Calls prog 79 #[aH (aK ⟨G,0,aJ⟩),aB aI i,aB aI m,aB aI 0] W (aCG v3 o i m 0 G X W)):=λW h=>DC v3 o G i m 0 X W h F.out hi3 (by rw[hy3];exact H) ZM
     have aFR:m<=256:=by omega
     have aBL:=p;clear p;by_cases d:f.c.sl[m].n=f.c.r
     ·have hfi:(((f.c.sl[m].n:Nat):Int) == ((f.c.r:Nat):Int))=true:=by rw[beq_iff_eq,d]
      rw[if_pos d]at C;rw[C]at B HK4 V U;generalize f.c.sl[m].n=xn at*;clear a ZL J g q hy3 L x hsc hx C K aHR hcl' H hgs ha3 d A F HN3 l;go_upto_region 9 with fail
      go_quiet (fail)
      have t:=below_drewN (gX wr.heap.size wr) nq;have HS4:=gO (aBL.out.below t);have HF4:=gO (M.out.then t);clear t s1 x4 x2 aBL M;generalize wr.drewN nq=wq at*;go_wp2_with (first | (go_at_call 79;refine(HDC.out wq HS4.out).mono ?_;rintro ev w4 ⟨rfl,v4,hs4,hf4,hv4⟩))
      go_roundw
      case rel=>exact⟨m,_,v4,by omega,rfl,B,HK4,V,U,hs4,HF4.out.trans hf4,hv4.trans R.out⟩
      case measure=>simp[intOf]
     ·have hfi:(((f.c.sl[m].n:Nat):Int) == ((f.c.r:Nat):Int))=false:=by rw[beq_eq_false_iff_ne];omega
      rw[if_neg d]at C;rw[C]at B HK4 V U;generalize f.c.sl[m].n=xn at*;clear a ZL J g q hy3 L x hsc hx C K aHR hcl' H hgs ha3 d A F HN3 l HDC;go_upto_region 9 with fail
      go_quiet (fail)
      have t:=below_drewN (gX wr.heap.size wr) nq;have HS4:=gO (aBL.out.below t);have HF4:=gO (M.out.then t);clear t s1 x4 x2 aBL M;generalize wr.drewN nq=wq at*;go_wp2_with fail
      go_roundw
      case rel=>exact⟨m,o,v3,by omega,rfl,B,HK4,V,U,HS4,HF4,R⟩
      case measure=>simp[intOf]
theorem Gw (v:Sc)(s:Sy)(n:List UInt8)(i:Nat)(w:World)(hs:nO w v s)(hk:cZ s)(hf:∀c∈s.cs,c.ns.length<=1000)(hi:s.named n=aK i):
 Calls prog 22 #[aC #[aA v.a1 v.n1 v.c1,aA v.hc.az 2 v.hc.cz,aA v.hc.am 2 v.hc.cm,aB aI (s.h.aP:Int),aA v.hc.al v.hc.lc.length v.hc.cl,aA v.hc.av s.h.live.length v.hc.cv,aA v.a2 v.ys.length v.c2],aF ⟨n.toArray⟩] w (okP (s.shrink i) w):=by
 obtain⟨I,O⟩:∃I,s.shrink i=I:=⟨_,rfl⟩
 rw[O];have Yo:=gO O;have ZM:0<s.h.aP:=hk.hk.cp.1;clear O;obtain⟨L,W,F1,V,q,o⟩:=boxes2 w #[aA v.a1 v.n1 v.c1,aA v.hc.az 2 v.hc.cz,aA v.hc.am 2 v.hc.cm,aB aI (s.h.aP:Int),aA v.hc.al v.hc.lc.length v.hc.cl,aA v.hc.av s.h.live.length v.hc.cv,aA v.a2 v.ys.length v.c2] 42 #[aA aJ 0 0,aA aJ 0 0,aA aJ 0 0,aB aI 0,aA aJ 0 0,aA aJ 0 0,aA aJ 0 0] 42;have Z:=gO (Em v s n 0 i _ (hs.below o) hk hf hi ZM);obtain⟨k0,k1,k2,k3,k4,k5,k6⟩:=gA7 L;have HK:=gO hk;have HFN:=gO hf;have Q:=gO hi;have B:=gO o;have p:=gO L;have t:=gO F1;have z:=gO W;have F:=gO V;clear hs hk hf hi L W F1 V o;go_enter func22,ntmps22
 go_upto_region 1 with fail
 generalize (w.alloc _).alloc _=w1 at*;have d:w.heap.size<w1.heap.size:=by omega
 go_upto_region 4 with (go_at_call 57;refine Z.out.mono ?_;rintro ev R ⟨a,he,l,e⟩;unfold YI Sc.vals at he;subst he;have x:=aQ p.out d e;have E:=aU t.out d e;obtain⟨y0,y1,y2,y3,y4,y5,y6⟩:=gA7 x;obtain⟨f0,Y,f2,f3,f4,f5,f6⟩:=gF7 E;skip)
 have D:=laid7 (T:=w.heap.size+1) B.out (Nat.lt_succ_self _) q p.out t.out z.out F.out e l;have u:=gO D.1;have G:=gO D.2.1;have H:=gO D.2.2.1;have m:=gO D.2.2.2;have A:w.heap.size+1<R.heap.size:=gI q e.size;have C:w.heap.size+1<(((((((R.setCell ⟨w.heap.size,0,aJ⟩ (aA a.a1 a.n1 a.c1)).setCell ⟨w.heap.size,1,aJ⟩ (aA a.hc.az 2 a.hc.cz)).setCell ⟨w.heap.size,2,aJ⟩ (aA a.hc.am 2 a.hc.cm)).setCell ⟨w.heap.size,3,aJ⟩ (aB aI (s.h.aP:Int))).setCell ⟨w.heap.size,4,aJ⟩ (aA a.hc.al a.hc.lc.length a.hc.cl)).setCell ⟨w.heap.size,5,aJ⟩ (aA a.hc.av s.h.live.length a.hc.cv)).setCell ⟨w.heap.size,6,aJ⟩ (aA a.a2 a.ys.length a.c2)).heap.size:=by simpa using A
 clear x E y0 y1 y2 y3 y4 y5 y6 f0 Y f2 f3 f4 f5 f6 D l Z k0 k1 k2 k3 k4 k5 k6 p t z F e A B;generalize ((((((R.setCell _ _).setCell _ _).setCell _ _).setCell _ _).setCell _ _).setCell _ _).setCell _ _=w3 at*;clear q d;have M:i<a.ys.length:=by
  have h:=congrArg List.length u.out.r.cy;have K:=Q.out;unfold Sy.named at K;rw[List.findIdx?_eq_some_iff_getElem]at K;obtain⟨h3,_⟩:=K;simp only[gTe]at h;omega
 have P:=gO (Sz a s w.heap.size i (λk=>k<w.heap.size∨k=w.heap.size+1) w3 u.out HK.out M);rw[Yo.out]at P;go_upto_region 5 with (go_at_call 58;refine P.out.mono ?_;rintro ev S ⟨rfl,b,y,j,N⟩;clear N)
 have g:=gO y;have f:=gO (j.box G.out C (.inr rfl));have xB:=gO (j.WV H.out C (.inr rfl));have U:Hid (Below w.heap.size w S):=Safe.after m.out j (λk hk=> .inl hk) m.out.size;clear G H m u y j P;have z0:=g.out.k 0;have z1:=g.out.k 1;have z2:=g.out.k 2;have z3:=g.out.k 3;have X:=g.out.k 4;have z5:=g.out.k 5;have z6:=g.out.k 6;unfold Sc.vals at z0 z1 z2 z3 X z5 z6;have q0:=f.out 0;have q1:=f.out 1;have q2:=f.out 2;have q3:=f.out 3;have q4:=f.out 4;have q5:=f.out 5;have q6:=f.out 6;obtain⟨f0,Y,f2,f3,f4,f5,f6⟩:=gF7 xB.out;simp only[gB,gC,gD]at z0 z1 z2 z3 X z5 z6 q0 q1 q2 q3 q4 q5 q6;have J:=out7 g.out (T:=w.heap.size+1) (.inr rfl) (λk hk=> .inl hk) (Nat.lt_succ_self _) f.out U.out;have KX:=J.1;have pO:=gO J.2.1;have kP:=gO J.2.2;clear J g f xB U;go_wp2_with fail
 generalize ((((((S.setCell _ _).setCell _ _).setCell _ _).setCell _ _).setCell _ _).setCell _ _).setCell _ _=wx at*;exact bodyPost_ret (v:=aG #[aC #[aA b.a1 b.n1 b.c1,aA b.hc.az 2 b.hc.cz,aA b.hc.am 2 b.hc.cm,aB aI (I.h.aP:Int),aA b.hc.al b.hc.lc.length b.hc.cl,aA b.hc.av I.h.live.length b.hc.cv,aA b.a2 b.ys.length b.c2],aB aI 0]) (by simp[results,results22,go_sem,KX]) rfl (⟨b,rfl,pO.out,kP.out⟩)
end Go.Proofs.YtjaogfhcnmjkiaaGreatDoor
