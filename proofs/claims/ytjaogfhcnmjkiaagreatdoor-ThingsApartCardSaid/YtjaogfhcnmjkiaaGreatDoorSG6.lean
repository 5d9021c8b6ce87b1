/- joined. -/
import Derived.Test.YtjaogfhcnmjkiaaGreatDoorSG5
import Derived.Deep.AppendLies
set_option linter.all false
set_option maxRecDepth 100000
set_option maxHeartbeats 0
namespace Go.Proofs.YtjaogfhcnmjkiaaGreatDoor
open Go.RowKit
open Go.Value renaming slice->aA,int->aB,agg->aC,string->aF,tuple->aG,pointer->aH,ownBlock->gTh
open Go.IntKind renaming i64->aI
open Option renaming none->aJ,some->aK
open Go.Ending renaming returned->aN
open Go.Obj renaming cells->aO
open Go.Proofs.Tryz
variable {W w w':World}{a most:Int}{a1 a2 al' uK:Option Addr}{c:Ca}{c1 c2 cl' cpu g i k n n1 n2 p:Nat}{cs:List Value}{f sp:Nat->Bool}{h:Hp}{l xs:List Int}{s s':Sy}{v':List Bk}{x y:Sl}{z:Zn}
def Link (xs:List Int):Int->List Int->Prop
 | p,[]=>p= -1
 | p,a::m=>p=a/\Link xs (xs.getD a.toNat 0) m
theorem Tz {p:Int}:Xd n p 1=true↔0<=p/\p<n:=by
 unfold Xd;simp only[decide_eq_true_eq];omega
theorem zY :∀(f:Nat) (p:Int) (out l:List Int),jB xs most f p out=aK l->∃m,l=out++m/\Link xs p m/\(∀a∈m,0<=a/\a<xs.length)/\(m≠[]->(l.length:Int)<=most)/\(out.Nodup->l.Nodup)
 | 0,_,_,_,h=>by simp[jB]at h
 | f+1,p,out,l,h=>by
  unfold jB at h;split at h
  ·rename_i hp;obtain rfl:=gP h;exact⟨[],by simp,hp,by simp,by simp,id⟩
  ·rename_i hp;split at h
   ·cases h
   ·rename_i hn;simp only[not_or,Bool.not_eq_false,Bool.not_eq_true]at hn;obtain⟨t,r,j⟩:=hn;obtain⟨m,k,q,s,hb,n⟩:=zY f _ _ l h;have i:=Tz.1 r;refine⟨p::m,by rw[k];simp,⟨rfl,q⟩,λa g=> ?_,λ_=> ?_,λo=>n ?_⟩
    ·rcases gY.1 g with rfl | g
     ·exact i
     ·exact s a g
    ·by_cases c:m=[]
     ·subst c;rw[k];simp;omega
     ·exact hb c
    ·rw[List.nodup_append];refine⟨o,by simp,λa g b d e=> ?_⟩;simp only[gTa]at d;subst d e;unfold vU at j;rw[List.contains_iff_mem.2 g]at j;cases j
theorem zZ :∀(m:List Int) (p:Int) (out:List Int) (f:Nat),Link xs p m->(∀a∈m,0<=a/\a<xs.length)->(m≠[]->((out++m).length:Int)<=most)->(out++m).Nodup->m.length+1<=f->jB xs most f p out=aK (out++m)
 | [],p,out,f+1,hl,_,_,_,_=>by
  unfold jB;rw[if_pos (show p= -1 from hl),List.append_nil]
 | a::m,p,out,f+1,⟨hp,hl⟩,hr,hb,hd,hf=>by
  subst hp;have hpr:=hr p (by simp);have b:=hb (by simp);unfold jB;rw[if_neg (by omega),if_neg,zZ m _ (out++[p]) f hl (λa d=>hr a (List.mem_cons_of_mem _ d)) (λ_=>by simpa using b) (by simpa using hd) (by simpa using hf)]
  ·simp
  ·simp only[not_or,Bool.not_eq_false,Bool.not_eq_true];refine⟨by simp at b;omega,Tz.2 hpr,?_⟩;unfold vU;rw[<- Bool.not_eq_true,List.contains_iff_mem];intro c;rw[List.nodup_append]at hd;exact hd.2.2 p c p (by simp) rfl
 | [],_,_,0,_,_,_,_,h=>by simp at h
 | _::_,_,_,0,_,_,_,_,h=>by simp at h
theorem aAB {p:Int}:follow xs p most=aK l↔Link xs p l/\(∀a∈l,0<=a/\a<xs.length)/\(l≠[]->(l.length:Int)<=most)/\l.Nodup:=by
 constructor
 ·intro h;obtain⟨m,f,d,b,e,c⟩:=zY _ _ _ _ h;simp only[List.nil_append]at f;subst f;exact⟨d,b,e,c (by simp)⟩
 ·rintro⟨d,b,e,c⟩;have g:=EI xs.length l c b;exact zZ l p [] _ d b (by simpa using e) (by simpa using c) (by omega)
theorem Link.move {ys:List Int}:∀{m:List Int} {p:Int},Link xs p m->(∀a∈m,ys.getD a.toNat 0=xs.getD a.toNat 0)->Link ys p m
 | [],_,h,_=>h
 | a::m,_,⟨h1,h2⟩,he=>⟨h1,by rw[he a (by simp)];exact h2.move λb hb=>he b (List.mem_cons_of_mem _ hb)⟩
theorem vV.move {c':Ca}(h:vV s c x)(hz:c'.z=c.z)(hr:c'.r=c.r)(ho:c'.o=c.o)(hl:∀b∈s.h.live,b∈s'.h.live)(hw:s'.w.length=s.w.length)(hs:∀a:Int,iC c x.p a=true->s'.w.getD a.toNat 0=s.w.getD a.toNat 0):vV s' c' x:=by
 obtain⟨b,hb,k,i⟩:=h.live;obtain⟨l,e,j,g⟩:=h.chain;refine⟨⟨b,hl b hb,k,by rw[ho];exact i⟩,l,?_,j,λa d=> ?_⟩
 ·rw[hr];rw[aAB]at e ⊢;rw[hw];exact⟨e.1.move λa d=>hs a (g a d),e.2⟩
 ·have f:=g a d;unfold iC at f ⊢;rw[hz,hr];exact f
theorem qJ.move (h:qJ s c)(hc:s'.h.aAh=s.h.aAh)(hs:∀x∈c.sl,vV s' c x):qJ s' c:=
 ⟨h.z,h.o,h.r,h.ns,h.nm,h.nr,by rw[hc];exact h.ac,h.sr,hs,h.aw,h.ad⟩
theorem bQ.upd (hk:bQ s){c':Ca}(hi:s.cs[i]? =aK c)(hw:s'.w.length=4096)(hh:eY s'.h)(hcs:s'.cs=s.cs.set i c')(hz:c'.z=c.z)(hn:c'.ns=c.ns)(hc:qJ s' c')(ho:∀d∈s.cs,qJ s' d)
 (hp:∀x∈c'.sl,(∃y∈c.sl,y.p=x.p)∨∀d∈s.cs,∀y∈d.sl,y.p≠x.p):bQ s':=by
 obtain⟨D,g⟩:=gK.1 hi;have key:∀{R:Ca->Ca->Prop},s.cs.Pairwise R->(∀j (a:j<s.cs.length),j<i->R s.cs[j] c->R s.cs[j] c')->(∀j (a:j<s.cs.length),i<j->R c s.cs[j]->R c' s.cs[j])->s'.cs.Pairwise R:=fun{R} u v C=>by
  rw[hcs];rw[gN]at u ⊢;intro j k a f b;rw[List.length_set]at a f;have q:=u j k a f b;rw[List.getElem_set,List.getElem_set];split
  ·rename_i e;subst e;rw[if_neg (by omega)];exact C k f b (by rw[<- g];exact q)
  ·split
   ·rename_i e;subst e;exact v j a b (by rw[<- g];exact q)
   ·exact q
 refine⟨hw,hh,by rw[hcs,List.length_set];exact hk.cl,λd t=> ?_,key hk.zd (λ_ _ _ h=>by rw[hz];exact h) (λ_ _ _ h=>by rw[hz];exact h),key hk.nd (λ_ _ _ h=>by rw[hn];exact h) (λ_ _ _ h=>by rw[hn];exact h),key hk.pd (λj a _ h x m y l=> ?_) (λj a _ h x m y l=> ?_)⟩
 ·rw[hcs]at t;rcases List.mem_or_eq_of_mem_set t with h | rfl
  ·exact ho d h
  ·exact hc
 ·rcases hp y l with ⟨A,r,e⟩ | o
  ·rw[<- e];exact h x m A r
  ·exact o _ (gL a) x m
 ·rcases hp x m with ⟨B,n,e⟩ | o
  ·rw[<- e];exact h B n y l
  ·exact λe=>o _ (gL a) y l e.symm
theorem Ns {l:List Sl}{a:Nat}:l.take (Qz l a)=l.takeWhile (λx=>decide (x.p<a))/\l.drop (Qz l a)=l.dropWhile (λx=>decide (x.p<a)):=by
 have h:l.takeWhile (λx=>decide (x.p<a))++l.dropWhile (λx=>decide (x.p<a))=l:=List.takeWhile_append_dropWhile;unfold Qz;constructor
 ·conv=>lhs;rw[<- h]
  rw[List.take_left'];rw[h]
 ·conv=>lhs;rw[<- h]
  rw[List.drop_left'];rw[h]
theorem TA (l:List Sl)(x:Sl):pW l x=l.takeWhile (λy=>decide (y.p<x.p))++x::l.dropWhile (λy=>decide (y.p<x.p)):=by
 unfold pW;rw[Ns.1,Ns.2]
theorem oG {l:List Sl}:y∈pW l x↔y=x∨y∈l:=by
 rw[TA];have h:l.takeWhile (λy=>decide (y.p<x.p))++l.dropWhile (λy=>decide (y.p<x.p))=l:=List.takeWhile_append_dropWhile
 conv=>rhs;rw[<- h]
 simp only[gZ,gY];constructor
 ·rintro(h | h | h)
  ·exact .inr (.inl h)
  ·exact .inl h
  ·exact .inr (.inr h)
 ·rintro(h | h | h)
  ·exact .inr (.inl h)
  ·exact .inl h
  ·exact .inr (.inr h)
theorem Aa {a:Nat}:∀{l:List Sl},(l.Pairwise λx y=>x.p<y.p)->∀y∈l.dropWhile (λx=>decide (x.p<a)),a<=y.p
 | [],_,y,hy=>by simp at hy
 | b::l,hl,y,hy=>by
  rw[List.pairwise_cons]at hl;by_cases hb:b.p<a
  ·rw[List.dropWhile_cons_of_pos (by simpa using hb)]at hy;exact Aa hl.2 y hy
  ·rw[List.dropWhile_cons_of_neg (by simpa using hb)]at hy;rcases gY.1 hy with rfl | hy
   ·omega
   ·have:=hl.1 y hy;omega
theorem XH {q:Sl->Bool}:∀{l:List Sl},y∈l.takeWhile q->q y=true
 | [],h=>by simp at h
 | b::l,h=>by
  by_cases hb:q b=true
  ·rw[List.takeWhile_cons_of_pos hb]at h;rcases gY.1 h with rfl | h
   ·exact hb
   ·exact XH h
  ·rw[List.takeWhile_cons_of_neg hb]at h;simp at h
theorem UU {l:List Sl}(hl:l.Pairwise λa b=>a.p<b.p)(hx:∀y∈l,y.p≠x.p):(pW l x).Pairwise λa b=>a.p<b.p:=by
 have h:l.takeWhile (λy=>decide (y.p<x.p))++l.dropWhile (λy=>decide (y.p<x.p))=l:=List.takeWhile_append_dropWhile;have g:∀y∈l.takeWhile (λy=>decide (y.p<x.p)),y.p<x.p:=λy c=>by
  have:=XH c;simpa using this
 have f:=Aa (a:=x.p) hl;have d:=hl;rw[<- h,List.pairwise_append]at d;rw[TA,List.pairwise_append,List.pairwise_cons];refine⟨d.1,⟨λy c=> ?_,d.2.1⟩,λa e b hb=> ?_⟩
 ·have i:=f y c;have j:=hx y (by rw[<- h];exact List.mem_append_right _ c);omega
 ·rcases gY.1 hb with rfl | hb
  ·exact g a e
  ·exact d.2.2 a e b hb
theorem XI (l:List Sl)(x:Sl):(pW l x)[Qz l x.p]? =aK x:=by
 have h:Qz l x.p<=l.length:=(List.takeWhile_sublist _).length_le;unfold pW;rw[List.getElem?_append_right (by rw[gTc];omega),gTc,Nat.min_eq_left h,Nat.sub_self];rfl
theorem Nu (h:1<=k/\k<=64):1<=aAC k:=by
 unfold aAC;rw[Nat.le_div_iff_mul_le (by omega)];unfold fG;split
 ·rename_i h1;rw[Nat.le_div_iff_mul_le (by omega)]at h1;omega
 ·split
  ·rename_i h1;rw[Nat.le_div_iff_mul_le (by omega)]at h1;omega
  ·omega
theorem UW (k:Nat):aAC k*k<=16*2^fG k:=Nat.div_mul_le_self _ _
theorem lK (k:Nat):fG k<=2:=by unfold fG;split <;> (try split) <;> omega
theorem jK (hc:c.r*c.z<=16*2^c.o)(h:iC c p a=true):16*(p:Int)<=a/\a<16*((p+2^c.o:Nat):Int):=by
 have e:=jV h;have b:((c.r*c.z:Nat):Int)<=((16*2^c.o:Nat):Int):=by exact_mod_cast hc
 have g:((c.r*c.z:Nat):Int)=(c.r:Int)*c.z:=by push_cast;rfl
 have d:((16*2^c.o:Nat):Int)=16*((2^c.o:Nat):Int):=by push_cast;rfl
 have f:((p+2^c.o:Nat):Int)=(p:Int)+((2^c.o:Nat):Int):=by push_cast;rfl
 generalize ((2^c.o:Nat):Int)=q at*;omega
theorem qJ.room (h:qJ s c):c.r*c.z<=16*2^c.o:=by rw[h.r,h.o];exact UW _
theorem qP (xs:List Int)(p k n:Nat):∀(j:Nat),j<=n->∀i,(i<p∨p+k*n<=i)->1<=k->(chainTo xs p k n j).getD i 0=xs.getD i 0
 | 0,_,_,_,_=>rfl
 | j+1,hj,i,hi,hk=>by
  have ih:=qP xs p k n j (by omega) i hi hk;have a:p+j*k≠i:=by
   have b:(j+1)*k<=n*k:=Nat.mul_le_mul_right k hj;have c:n*k=k*n:=Nat.mul_comm _ _;rw[Nat.add_mul]at b;omega
  unfold chainTo;rw[List.getD_eq_getElem?_getD,List.getElem?_set_ne a,<- List.getD_eq_getElem?_getD];exact ih
theorem bQ.grow (hk:bQ s)(hi:s.cs[i]? =aK c)(bJ:cpu<s.h.aAh)(hg:s.grow i cpu c=aK (s',k)):
 bQ s'/\s'.h.aAh=s.h.aAh/\∃(c':Ca) (x:Sl),s'.cs[i]? =aK c'/\c'.sl[k]? =aK x/\0<x.n/\(∀a∈c'.ac,a≠(x.p:Int)):=by
 have R:=(gK.1 hi).1;have f:=hk.ck c (gM hi);have P:c.o<=4:=by rw[f.o];exact gQ (lK _) (by decide)
 unfold Sy.grow at hg;cases hal:s.h.alloc cpu c.o 0 false false with
 | none=>rw[hal]at hg;cases hg
 | some r=>
  obtain⟨E,a⟩:=r;rw[hal]at hg;have g:=gP hg;rw[Prod.mk.injEq]at g;obtain⟨rfl,rfl⟩:=g;obtain⟨X,V,B,A,H⟩:=hk.hk.alloc bJ P (by decide) hal;have Q:E.aAh=s.h.aAh:=B.aAh;have C:E.live=bI s.h.live ⟨a,c.o,0⟩:=A
  -- the new block lies apart from all others
  have M:∀b∈s.h.live,apartB a c.o b:=λb hb=>dH λq g D=>by
   have L:=X.one q;rw[dJ,C,sJ]at L;have W:0<cnt s.h.live q:=jC.2 ⟨b,hb,D⟩;have h5:hit (⟨a,c.o,0⟩:Bk) q=1:=jT.2 g;omega
  have Z:=Nat.two_pow_pos c.o;have u:∀d∈s.cs,∀x∈d.sl,x.p≠a/\∀o:Int,iC d x.p o=true->(chainTo s.w (16*a) c.z c.r c.r).getD o.toNat 0=s.w.getD o.toNat 0:=λd t x l=>by
   have J:=hk.ck d t;obtain⟨b,hb,T,S⟩:=(J.sk x l).live;have g:=M b hb;unfold apartB Bk.fin at g;rw[T,S]at g;have hp2:=Nat.two_pow_pos d.o;refine⟨by omega,λo K=>qP _ _ _ _ _ (gT _) _ ?_ f.z.1⟩;have D:=jK J.room K;have L:=f.room;rw[Nat.mul_comm c.z c.r];generalize c.r*c.z=m at*;generalize 2^c.o=q at*;generalize 2^d.o=q' at*;omega
  have F:(chainTo s.w (16*a) c.z c.r c.r).length=s.w.length:=iG _ _ _ _ _;have U:∀b∈s.h.live,b∈E.live:=λb hb=>by
   rw[C];unfold bI;have D:s.h.live.take (lb s.h.live a)++s.h.live.drop (lb s.h.live a)=s.h.live:=List.take_append_drop _ _;rw[<- D]at hb;rcases gZ.1 hb with h | h
   ·exact List.mem_append_left _ h
   ·exact List.mem_append_right _ (List.mem_cons_of_mem _ h)
  have v:∀d∈s.cs,∀x∈d.sl,vV {w:=chainTo s.w (16*a) c.z c.r c.r,h:=E,cs:=s.cs.set i {c with sl:=pW c.sl ⟨a,c.r,((16*a:Nat):Int)⟩}} d x:=λd t x l=>
   ((hk.ck d t).sk x l).move rfl rfl rfl U F ((u d t x l).2)
  have I:1<=c.r:=by rw[f.r];exact Nu f.z
  have N:16*a+c.z*c.r<=s.w.length:=by
   have g:=f.room;have D:a+2^c.o<=256:=by
    have L:c.o<=2:=by rw[f.o];exact lK _
    obtain⟨_,_,W,h5⟩:=H;generalize c.o=o at*;obtain rfl | rfl | rfl:o=0∨o=1∨o=2:=by omega
    ·omega
    ·omega
    ·omega
   rw[Nat.mul_comm c.z,hk.wl];generalize c.r*c.z=m at*;generalize 2^c.o=q at*;omega
  have G:vV {w:=chainTo s.w (16*a) c.z c.r c.r,h:=E,cs:=s.cs.set i {c with sl:=pW c.sl ⟨a,c.r,((16*a:Nat):Int)⟩}} {c with sl:=pW c.sl ⟨a,c.r,((16*a:Nat):Int)⟩} ⟨a,c.r,((16*a:Nat):Int)⟩:=by
   refine⟨⟨⟨a,c.o,0⟩,by rw[show E.live=_ from C];unfold bI;simp,rfl,rfl⟩,objs (16*a) c.z c.r,?_,qM _ _ _,λo K=> ?_⟩
   ·have g:=zU s.w (16*a) c.z c.r c.r f.z.1 I N (by omega);rw[if_pos (Int.le_refl _)]at g;exact g
   ·unfold objs at K;obtain⟨j,Y,rfl⟩:=List.mem_map.1 K;rw[List.mem_range]at Y;unfold iC;simp only[decide_eq_true_eq];have g:((16*a+j*c.z:Nat):Int)-16*(a:Int)=(j:Int)*c.z:=by push_cast;omega
    rw[g];have D:(j:Int)*c.z=((j*c.z:Nat):Int):=by push_cast;rfl
    have L:(c.r:Int)*c.z=((c.r*c.z:Nat):Int):=by push_cast;rfl
    have W:j*c.z<c.r*c.z:=Nat.mul_lt_mul_of_pos_right Y f.z.1;refine⟨by omega,by omega,Int.mul_emod_left _ _⟩
  refine⟨hk.upd hi (c':={c with sl:=pW c.sl ⟨a,c.r,((16*a:Nat):Int)⟩}) (by show(chainTo s.w (16*a) c.z c.r c.r).length=4096;rw[F];exact hk.wl) X rfl rfl rfl ?_ (λd t=>(hk.ck d t).move Q (v d t)) (λx l=> ?_),Q,{c with sl:=pW c.sl ⟨a,c.r,((16*a:Nat):Int)⟩},⟨a,c.r,((16*a:Nat):Int)⟩,?_,XI c.sl ⟨a,c.r,((16*a:Nat):Int)⟩,I,λb hb e=> ?_⟩
  ·refine⟨f.z,f.o,f.r,f.ns,f.nm,f.nr,by rw[show _=_ from Q];exact f.ac,UU f.sr (λy O=>(u c (gM hi) y O).1),λx l=> ?_,λb hb=> ?_,f.ad⟩
   ·rcases oG.1 l with rfl | l
    ·exact G
    ·have g:=v c (gM hi) x l;exact⟨g.live,g.chain⟩
   ·rcases f.aw b hb with h | ⟨x,l,h⟩
    ·exact .inl h
    ·exact .inr ⟨x,oG.2 (.inr l),h⟩
  ·rcases oG.1 l with rfl | l
   ·exact .inr λd t y O=>(u d t y O).1
   ·exact .inl ⟨x,l,rfl⟩
  ·show(s.cs.set i _)[i]? =_;rw[List.getElem?_set_self R]
  ·rcases f.aw b hb with h | ⟨x,l,h⟩
   ·rw[h]at e;have e':(-1:Int)=(a:Int):=e;omega
   ·have g:=(u c (gM hi) x l).1;rw[<- h]at e;have e':(x.p:Int)=(a:Int):=e;omega
theorem bQ.mine (hk:bQ s){cpu:Nat}(hi:s.cs[i]? =aK c)(hx:c.sl[k]? =aK x)(hn:∀a∈c.ac,a≠(x.p:Int)):
 bQ (s.mine i cpu k)/\(s.mine i cpu k).h=s.h/\(s.mine i cpu k).w=s.w/\(s.mine i cpu k).cs[i]? =aK {c with ac:=c.ac.set cpu (x.p:Int)}:=by
 have v:=(gK.1 hi).1;have q:=gM hi;have b:=hk.ck c q;have e:s.mine i cpu k=s.fB i {c with ac:=c.ac.set cpu (x.p:Int)}:=by
  unfold Sy.mine;rw[hi];simp only[hx]
 rw[e];refine⟨hk.upd hi (c':={c with ac:=c.ac.set cpu (x.p:Int)}) hk.wl hk.hk rfl rfl rfl ?_ (λd n=>(hk.ck d n).move rfl (λy f=>⟨((hk.ck d n).sk y f).live,((hk.ck d n).sk y f).chain⟩)) (λy f=> .inl ⟨y,f,rfl⟩),rfl,rfl,?_⟩
 ·refine⟨b.z,b.o,b.r,b.ns,b.nm,b.nr,by rw[List.length_set];exact b.ac,b.sr,λy f=>⟨(b.sk y f).live,(b.sk y f).chain⟩,λa D=> ?_,?_⟩
  ·rcases List.mem_or_eq_of_mem_set D with h | rfl
   ·exact b.aw a h
   ·exact .inr ⟨x,gM hx,rfl⟩
  ·have A:=b.ad;rw[gN]at A ⊢;intro j l C B t;have g:j<c.ac.length:=by simpa using C
   have m:l<c.ac.length:=by simpa using B
   simp only[List.getElem_set];split
   ·rename_i e1;rw[if_neg (by omega)];exact λu=>absurd u.symm (hn _ (gL m))
   ·split
    ·exact λu=>absurd u (hn _ (gL g))
    ·exact A j l g m t
 ·show(s.cs.set i _)[i]? =_;rw[List.getElem?_set_self v]
theorem bQ.first (hk:bQ s)(hc:c∈s.cs)(hx:x∈c.sl)(hn:0<x.n):∃m,follow s.w x.h c.r=aK (x.h::m)/\m.length+1=x.n/\(∀a∈x.h::m,iC c x.p a=true)/\0<=x.h/\x.h<4096/\follow s.w (s.w.getD x.h.toNat 0) c.r=aK m:=by
 obtain⟨l,f,e,q⟩:=((hk.ck c hc).sk x hx).chain;have j:=aAB.1 f;cases l with
 | nil=>simp at e;omega
 | cons a m=>
  obtain⟨⟨rfl,o⟩,b,k,g⟩:=j;have d:=b x.h (by simp);rw[hk.wl]at d;refine⟨m,f,by simpa using e,q,d.1,by omega,aAB.2 ⟨o,λa i=>b a (List.mem_cons_of_mem _ i),λ_=> ?_,(List.nodup_cons.1 g).2⟩⟩;have:=k (by simp);simp at this;omega
theorem bQ.pop (hk:bQ s)(hi:s.cs[i]? =aK c)(hx:c.sl[k]? =aK x)(hn:0<x.n)(hp:s.pop i k=aK (s',a)):
 bQ s'/\s'.h=s.h/\s'.w=s.w/\a=x.h/\s'=s.fB i {c with sl:=c.sl.set k ⟨x.p,x.n-1,s.w.getD x.h.toNat 0⟩}:=by
 have O:=(gK.1 hi).1;have v:=gM hi;have u:=gM hx;obtain⟨J,t⟩:=gK.1 hx;have f:=hk.ck c v;unfold Sy.pop at hp;rw[hi]at hp;simp only[hx]at hp;have H:=gP hp;rw[Prod.mk.injEq]at H;obtain⟨rfl,rfl⟩:=H;obtain⟨m,Q,S,K,R,T,L⟩:=hk.first v u hn;have q:∀y∈c.sl.set k ⟨x.p,x.n-1,s.w.getD x.h.toNat 0⟩,y∈c.sl∨y=⟨x.p,x.n-1,s.w.getD x.h.toNat 0⟩:=λy g=>List.mem_or_eq_of_mem_set g
 have D:∀y∈c.sl.set k ⟨x.p,x.n-1,s.w.getD x.h.toNat 0⟩,∃z∈c.sl,z.p=y.p:=λy g=>by
  rcases q y g with h | rfl
  ·exact⟨y,h,rfl⟩
  ·exact⟨x,u,rfl⟩
 refine⟨hk.upd hi (c':={c with sl:=c.sl.set k ⟨x.p,x.n-1,s.w.getD x.h.toNat 0⟩}) hk.wl hk.hk rfl rfl rfl ?_ (λd B=>(hk.ck d B).move rfl (λy g=>⟨((hk.ck d B).sk y g).live,((hk.ck d B).sk y g).chain⟩)) (λy g=> .inl (D y g)),rfl,rfl,rfl,rfl⟩;refine⟨f.z,f.o,f.r,f.ns,f.nm,f.nr,f.ac,?_,λy g=> ?_,λb hb=> ?_,f.ad⟩
 ·have I:=f.sr;rw[gN]at I ⊢;intro j l G N C;have E:j<c.sl.length:=by simpa using G
  have F:l<c.sl.length:=by simpa using N
  have A:=I j l E F C;simp only[List.getElem_set];split
  ·rename_i e1;subst e1;rw[if_neg (by omega)];rw[t]at A;exact A
  ·split
   ·rename_i e1;subst e1;rw[t]at A;exact A
   ·exact A
 ·rcases q y g with h | rfl
  ·exact⟨(f.sk y h).live,(f.sk y h).chain⟩
  ·exact⟨(f.sk x u).live,m,L,by show m.length=x.n-1;omega,λa P=>K a (List.mem_cons_of_mem _ P)⟩
 ·rcases f.aw b hb with h | ⟨z,M,h⟩
  ·exact .inl h
  ·refine .inr ?_;obtain⟨j,G,e⟩:=List.mem_iff_getElem.1 M;refine⟨(c.sl.set k ⟨x.p,x.n-1,s.w.getD x.h.toNat 0⟩)[j]'(by simpa using G),gL _,?_⟩;rw[List.getElem_set];split
   ·rename_i e1;subst e1;rw[t]at e;rw[e];exact h
   ·rw[e];exact h
theorem bQ.choose (hk:bQ s)(hi:s.cs[i]? =aK c)(bJ:cpu<s.h.aAh)(hg:s.choose i cpu=aK (s',k)):
 bQ s'/\s'.h.aAh=s.h.aAh/\∃(c':Ca) (x:Sl),s'.cs[i]? =aK c'/\c'.sl[k]? =aK x/\0<x.n:=by
 unfold Sy.choose at hg;rw[hi]at hg;simp only at hg;cases hown:c.own cpu with
 | some j=>
  rw[hown]at hg;have b:=gP hg;rw[Prod.mk.injEq]at b;obtain⟨rfl,rfl⟩:=b;unfold Ca.own at hown;split at hown
  ·split at hown
   ·split at hown
    ·obtain rfl:=gP hown;exact⟨hk,rfl,c,_,hi,by assumption,by assumption⟩
    ·cases hown
   ·cases hown
  ·cases hown
 | none=>
  rw[hown]at hg;simp only at hg;cases yK:c.nobody with
  | some j=>
   rw[yK]at hg;have b:=gP hg;rw[Prod.mk.injEq]at b;obtain⟨rfl,rfl⟩:=b;unfold Ca.nobody at yK;rw[List.findIdx?_eq_some_iff_getElem]at yK;obtain⟨v,d,_⟩:=yK;simp only[Bool.and_eq_true,decide_eq_true_eq,Bool.not_eq_true']at d;have o:c.sl[j]? =aK c.sl[j]:=gJ v;obtain⟨m,l,_,f⟩:=hk.mine (cpu:=cpu) hi o (λa w e=>by
    rw[<- e,List.contains_iff_mem.2 w]at d;cases d.2)
   exact⟨m,by rw[l],_,c.sl[j],f,o,d.1⟩
  | none=>
   rw[yK]at hg;simp only at hg;cases hgr:s.grow i cpu c with
   | none=>rw[hgr]at hg;cases hg
   | some r=>
    obtain⟨y,j⟩:=r;rw[hgr]at hg;have b:=gP hg;rw[Prod.mk.injEq]at b;obtain⟨rfl,rfl⟩:=b;obtain⟨d,m,c',x,l,f,t,p⟩:=hk.grow hi bJ hgr;obtain⟨q,u,_,g⟩:=d.mine (cpu:=cpu) l f p;exact⟨q,by rw[u];exact m,_,x,g,f,t⟩
theorem bQ.one (hk:bQ s)(hi:s.cs[i]? =aK c)(bJ:cpu<s.h.aAh)(hg:s.one i cpu=aK (s',a)):bQ s'/\s'.h.aAh=s.h.aAh/\s'.cs.length=s.cs.length/\∃c',s'.cs[i]? =aK c':=by
 unfold Sy.one at hg;cases hch:s.choose i cpu with
 | none=>rw[hch]at hg;cases hg
 | some r=>
  obtain⟨d,k⟩:=r;rw[hch]at hg;simp only at hg;obtain⟨p,n,c',x,l,o,u⟩:=hk.choose hi bJ hch;obtain⟨v,q,_,_,g⟩:=p.pop l o u hg;have b:d.cs.length=s.cs.length:=by
   unfold Sy.choose at hch;rw[hi]at hch;simp only at hch;have m:∀(t:Sy) (j:Nat),(t.mine i cpu j).cs.length=t.cs.length:=λt j=>by
    unfold Sy.mine Sy.fB;split
    ·split
     ·simp
     ·rfl
    ·rfl
   split at hch
   ·have h:=gP hch;rw[Prod.mk.injEq]at h;rw[<- h.1]
   ·split at hch
    ·have h:=gP hch;rw[Prod.mk.injEq]at h;rw[<- h.1];exact m _ _
    ·split at hch
     ·rename_i heq;have h:=gP hch;rw[Prod.mk.injEq]at h;rw[<- h.1,m];unfold Sy.grow at heq;split at heq
      ·have f:=gP heq;rw[Prod.mk.injEq]at f;rw[<- f.1];simp
      ·cases heq
     ·cases hch
  have e:i<d.cs.length:=(gK.1 l).1;refine⟨v,by rw[q];exact n,?_,?_⟩
  ·rw[g];unfold Sy.fB;simp[b]
  ·rw[g];exact⟨_,by show(d.cs.set i _)[i]? =_;rw[List.getElem?_set_self e]⟩
theorem kK (hk:eY h){b b':Bk}(hb:b∈h.live)(hb':b'∈h.live)(hne:b.a≠b'.a):apartB b.a b.o b':=dH λq k g=>by
 obtain⟨i,n,e⟩:=List.mem_iff_getElem.1 hb;have p:=hk.one q;rw[dJ]at p;have s:=BL n q;have l:b'∈h.live.eraseIdx i:=by
  obtain⟨j,f,c⟩:=List.mem_iff_getElem.1 hb';have d:j≠i:=λm=>by
   subst m;rw[e]at c;exact hne (by rw[c])
  rw[List.mem_eraseIdx_iff_getElem];exact⟨j,f,d,c⟩
 have r:0<cnt (h.live.eraseIdx i) q:=jC.2 ⟨b',l,g⟩;have t:hit h.live[i] q=1:=jT.2 (by rw[e];exact k);omega
theorem bQ.Nv (hk:bQ s){d:Ca}(hc:c∈s.cs)(hd:d∈s.cs)(hx:x∈c.sl)(hy:y∈d.sl)(h1:iC c x.p a=true)(h2:iC d y.p a=true):x.p=y.p:=by
 obtain⟨b,hb,f,j⟩:=((hk.ck c hc).sk x hx).live;obtain⟨n,h,e,g⟩:=((hk.ck d hd).sk y hy).live;apply Decidable.byContradiction;intro i;have k:=kK hk.hk hb h (by rw[f,e];exact i);unfold apartB Bk.fin at k;rw[f,j,e,g]at k;have l:=jK (hk.ck c hc).room h1;have m:=jK (hk.ck d hd).room h2;generalize 2^c.o=q at*;generalize 2^d.o=r at*;omega
theorem bQ.only (hk:bQ s){j l:Nat}(hi:i<s.cs.length)(hj:j<s.cs.length)(hki:k<s.cs[i].sl.length)(hlj:l<s.cs[j].sl.length)(h1:iC s.cs[i] s.cs[i].sl[k].p a=true)(h2:iC s.cs[j] s.cs[j].sl[l].p a=true):i=j/\k=l:=by
 have d:=hk.Nv (gL hi) (gL hj) (gL hki) (gL hlj) h1 h2;have c:i=j:=by
  rcases Nat.lt_trichotomy i j with h | h | h
  ·exact absurd d (gN.1 hk.pd i j hi hj h _ (gL hki) _ (gL hlj))
  ·exact h
  ·exact absurd d.symm (gN.1 hk.pd j i hj hi h _ (gL hlj) _ (gL hki))
 subst c;refine⟨rfl,?_⟩;have b:=(hk.ck _ (gL hi)).sr;rw[gN]at b;rcases Nat.lt_trichotomy k l with h | h | h
 ·have:=b k l hki hlj h;omega
 ·exact h
 ·have:=b l k hlj hki h;omega
def Vf (c:UInt8):List Value:=[.int .u8 (c.toNat:Int)]
theorem wM (c:UInt8):(Vf c).length=1:=rfl
theorem QM {o:Nat}{r:UInt8}(hc:∀i v,(Vf r)[i]? =aK v->w.cell? ⟨g,o+i,aJ⟩=aK v):w.cell? ⟨g,o,aJ⟩=aK (.int .u8 (r.toNat:Int)):=hc 0 _ rfl
theorem QN (a:Option Addr)(n cap:Nat)(l:List UInt8)(g:Nat)(lb:Array Value)(p:UInt8->Bool)(w:World)(hn:l.length=n)(hl:n<=9223372036854775807)(hr:Row w a (flat Vf l))(eg:∀args w,(callFunc g args).run prog w= .ok (.enter g args) w)
 (hp:∀W,Below w.heap.size w W->∀x∈l,Calls prog g (#[.int .u8 (x.toNat:Int)]++lb) W λe w'=>e=aN (.bool (p x))/\Below W.heap.size W w'):
 Calls prog 121 #[aA a n cap,.func (.func g) #[] lb] w λe w'=>e=aN (aB aI (dA p l))/\Below w.heap.size w w':=by
 subst hn;go_enter func121,ntmps121
 go_wp2
 go_loopw [5,8] (λ_ j wr=>∃k:Nat,k<=l.length/\j=aB aI k/\Hid (∀x∈l.take k,p x=false)/\Below w.heap.size w wr) (λ_ j _=>l.length-(intOf j).toNat)
 case atStart=>exact⟨0,gU _,rfl,by simp[Hid],gX _ _⟩
 case round=>
  obtain⟨k,r,rfl,d,c⟩:=hrel;by_cases f:k<l.length
  ·obtain⟨b,off,rfl,hb,q⟩:=aAw wM (by decide) (hr.below c) f;obtain m:=QM q;rw[Nat.mul_one]at m;have hcall:=hp wr c l[k] (gL f);clear hr hp q;cases hv:p l[k]with
   | true=>
    have o:=gO (mJ f hv d.out);rw[hv]at hcall;generalize l[k]=y at*;go_wp2_with (go_at_fn g;refine hcall.mono ?_;rintro e w' ⟨rfl,h⟩)
    go_ret
    exact⟨dO o.out.symm,gW c h⟩
   | false=>
    rw[hv]at hcall;have o:Hid (∀x∈l.take (k+1),p x=false):=λx i=>by
     rw[List.take_succ_eq_append_getElem f,gZ,gTa]at i;rcases i with i | rfl
     ·exact d.out x i
     ·exact hv
    generalize l[k]=y at*;go_wp2_with (go_at_fn g;refine hcall.mono ?_;rintro e w' ⟨rfl,h⟩)
    go_roundw
    case rel=>exact⟨k+1,by omega,by go_num,o.out,gW c h⟩
    case measure=>simp[intOf];omega
  ·obtain rfl:k=l.length:=by omega
   go_wp2
   go_ret
   exact⟨dO (kL (by simpa[Hid]using d)).symm,c⟩
theorem Ho (a:Option Addr)(n cap:Nat)(l:List UInt8)(g:Nat)(lb:Array Value)(p:UInt8->Bool)(w:World)(hn:l.length=n)(hl:n<=9223372036854775807)(hr:Row w a (flat Vf l))(eg:∀args w,(callFunc g args).run prog w= .ok (.enter g args) w)
 (hp:∀W,Below w.heap.size w W->∀x∈l,Calls prog g (#[.int .u8 (x.toNat:Int)]++lb) W λe w'=>e=aN (.bool (p x))/\Below W.heap.size W w'):
 Calls prog 73 #[aA a n cap,.func (.func g) #[] lb] w λe w'=>e=aN (.bool (l.any p))/\Below w.heap.size w w':=by
 go_enter func73,ntmps73
 go_wp2_with (go_at_call 121;refine(QN _ _ _ l _ _ p _ hn hl hr eg hp).mono ?_;rintro e w' ⟨rfl,b⟩)
 go_ret
 exact⟨aX (iP p l),b⟩
def Vg (c:UInt8):Bool:= !(decide ((97<=c/\c<=122)∨(48<=c/\c<=57)))
theorem XW (c:UInt8):Vg c= !(decide ((97<=c.toNat/\c.toNat<=122)∨(48<=c.toNat/\c.toNat<=57))):=by
 unfold Vg;simp only[UInt8.le_iff_toNat_le];rfl
theorem Vh (l:List UInt8):nameB l=(decide (0<l.length/\l.length<=8)&& !(l.any Vg)):=by
 unfold nameB Vg;rw[List.not_any_eq_all_not];simp
theorem XY (c:UInt8)(w:World):
 Calls prog 74 (#[.int .u8 (c.toNat:Int)]++#[]) w λev w'=>ev=aN (.bool (Vg c))/\Below w.heap.size w w':=by
 show Calls prog 74 #[.int .u8 (c.toNat:Int)] w _;rw[XW];generalize c.toNat=n;by_cases e:n<97
 ·by_cases b:n<48
  ·go_enter func74,ntmps74
   go_wp2
   go_ret
   exact⟨aX (by rw[Bool.eq_iff_iff];simp <;> omega),gX _ _⟩
  ·by_cases g:57<n
   ·go_enter func74,ntmps74
    go_wp2
    go_ret
    exact⟨aX (by rw[Bool.eq_iff_iff];simp <;> omega),gX _ _⟩
   ·go_enter func74,ntmps74
    go_wp2
    go_ret
    exact⟨aX (by rw[Bool.eq_iff_iff];simp <;> omega),gX _ _⟩
 ·by_cases d:122<n
  ·have f:57<n:=by omega
   have a:¬n<48:=by omega
   go_enter func74,ntmps74
   go_wp2
   go_ret
   exact⟨aX (by rw[Bool.eq_iff_iff];simp <;> omega),gX _ _⟩
  ·go_enter func74,ntmps74
   go_wp2
   go_ret
   exact⟨aX (by rw[Bool.eq_iff_iff];simp <;> omega),gX _ _⟩
theorem NK (l:List UInt8)(w:World)(hl:l.length<=1000000):
 Calls prog 34 #[sV l] w λev w'=>ev=aN (.bool (nameB l))/\Below w.heap.size w w':=by
 rw[Vh];unfold sV;have e:(ByteArray.mk l.toArray).size=l.length:=by simp[ByteArray.size]
 by_cases d:l=[]
 ·subst d;go_enter func34,ntmps34
  go_wp2
  go_ret
  exact⟨rfl,gX _ _⟩
 ·have k:0<l.length:=List.length_pos_iff.2 d;have i:l.isEmpty=false:=by rw[List.isEmpty_eq_false_iff];exact d
  by_cases u:8<l.length
  ·have h:(8:Int)<l.length:=by omega
   go_enter func34,ntmps34
   go_wp2
   go_ret
   exact⟨aX (by rw[gV (by omega)];rfl),gX _ _⟩
  ·have h:¬(8:Int)<l.length:=by omega
   have s:=fun(W:World)=>Lib.run_convert_string_bytes (P:=prog) W 9 155 5 ⟨l.toArray⟩ underlying9 underlying155 underlying5
   have hb:Below w.heap.size w (Lib.bytesWorld w 5 ⟨l.toArray⟩):=⟨rfl,rfl,rfl,by rw[Lib.bytesWorld_size];omega,λj c=>Lib.bytesWorld_at_old w 5 ⟨l.toArray⟩ j c⟩
   have b:Row (Lib.bytesWorld w 5 ⟨l.toArray⟩) (aK ⟨w.heap.size,0,aJ⟩) (flat Vf l):=by
    intro j v c;have p:j<l.length*1:=by have:=(gK.1 c).1;rwa [flat_length wM]at this
    refine⟨w.heap.size,0,rfl,by rw[Lib.bytesWorld_size];omega,?_⟩;have m:=flat_get wM l j (by omega) 0 (by decide);rw[Nat.mul_one,Nat.add_zero,c]at m;have o:v= .int .u8 ((l[j]'(by omega)).toNat:Int):=by simpa[Vf]using m
    rw[Nat.zero_add,Lib.bytesWorld_cell w 5 ⟨l.toArray⟩ j (by rw[e];omega),o];simp[List.getD,show j<l.length by omega]
   have n:∀a w,(callFunc 74 a).run prog w= .ok (.enter 74 a) w:=enters_of func74 (by kernel_rfl) rfl;have r:=gO (Ho (aK ⟨w.heap.size,0,aJ⟩) l.length (grownCap w l.length 0 5) l 74 #[] Vg (Lib.bytesWorld w 5 ⟨l.toArray⟩) rfl (by omega) b n (λW t x y=>XY x W));have q:=gO hb;clear b n hb;go_enter func34,ntmps34
   go_wp2_with fail
   refine r.out.mono ?_;rintro ev z ⟨rfl,g⟩;have f:=gO (gW q.out g);go_wp2
   go_ret
   refine⟨aX ?_,f.out⟩;rw[gTg (by omega)];rfl
theorem bytes_eq (v y:List UInt8):((ByteArray.mk v.toArray) == (ByteArray.mk y.toArray))=(v == y):=by
 show(v.toArray == y.toArray)=_;simp
theorem Vj (a:Option Addr)(n cap:Nat)(l:List (List UInt8))(v:List UInt8)(w:World)(hn:l.length=n)(hl:n<=1000000)(hr:Row w a (flat encS l)):
 Calls prog 46 #[aA a n cap,sV v] w λe w'=>e=aN (aB aI (dA (v == ·) l))/\w=w':=by
 subst hn;unfold sV;go_enter func46,ntmps46
 go_wp2
 go_loop [5,8] (λ_ j=>∃k:Nat,k<=l.length/\j=aB aI k/\Hid (∀x∈l.take k,(v == x)=false)) (λ_ j=>l.length-(intOf j).toNat)
 case atStart=>exact⟨0,gU _,rfl,by simp[Hid]⟩
 case round=>
  obtain⟨k,o,rfl,c⟩:=hrel;by_cases d:k<l.length
  ·obtain⟨b,off,rfl,hb,m⟩:=aAw bF (by decide) hr d;have i:=qA m;rw[Nat.mul_one]at i;clear hr m;have f:((ByteArray.mk v.toArray) == (ByteArray.mk (l[k]).toArray))=(v == l[k]):=(bytes_eq _ _)
   cases hv:v == l[k]with
   | true=>
    rw[hv]at f;have h:=gO (mJ (p:=λx=>v == x) d hv c.out);generalize l[k]=y at*;go_wp2
    go_ret
    exact⟨dO h.out.symm,rfl⟩
   | false=>
    rw[hv]at f;have h:Hid (∀x∈l.take (k+1),(v == x)=false):=λx g=>by
     rw[List.take_succ_eq_append_getElem d,gZ,gTa]at g;rcases g with g | rfl
     ·exact c.out x g
     ·exact hv
    generalize l[k]=y at*;go_wp2
    go_round
    case rel=>exact⟨k+1,by omega,by go_num,h⟩
    case measure=>simp[intOf];omega
  ·obtain rfl:k=l.length:=by omega
   go_wp2
   go_ret
   exact⟨dO (kL (by simpa[Hid]using c)).symm,rfl⟩
theorem uS (a:Option Addr)(n cap:Nat)(l:List (List UInt8))(v:List UInt8)(w:World)(hn:l.length=n)(hl:n<=1000000)(hr:Row w a (flat encS l)):
 Calls prog 19 #[aA a n cap,sV v] w λe w'=>e=aN (.bool (l.contains v))/\w=w':=by
 have b:=gO (fun(W:World) (h:W=w)=>Vj a n cap l v W hn hl (h▸hr));unfold sV at*;go_enter func19,ntmps19
 go_wp2_with (go_at_call 46;refine(b.out _ rfl).mono ?_;rintro e w' ⟨rfl,rfl⟩)
 go_ret
 exact⟨aX (by rw[iP,List.contains_eq_any_beq]),rfl⟩
theorem Vk (y:Cc)(v:List UInt8)(B:Nat)(W:World)(hy:Ku W y)(hn:y.n1<=1000000)(hB:B<W.heap.size)(hc:W.cell? ⟨B,0,aJ⟩=aK (sV v)):
 Calls prog 129 (#[.agg (dX y).toArray]++#[aH (aK ⟨B,0,aJ⟩)]) W λev w'=>ev=aN (.bool (y.c.ns.contains v))/\Below W.heap.size W w':=by
 show Calls prog 129 #[aC #[aA y.a1 y.n1 y.c1,aB aI y.c.z,aB aI y.c.r,aB aI y.c.o,aA y.a2 y.n2 y.c2,aA y.a3 y.n3 y.c3],aH (aK ⟨B,0,aJ⟩)] W _;have hb:=aAq W (aO #[aA y.a1 y.n1 y.c1,aB aI (y.c.z:Int),aB aI (y.c.r:Int),aB aI (y.c.o:Int),aA y.a2 y.n2 y.c2,aA y.a3 y.n3 y.c3] 67);have K:=aQ W #[aA y.a1 y.n1 y.c1,aB aI (y.c.z:Int),aB aI (y.c.r:Int),aB aI (y.c.o:Int),aA y.a2 y.n2 y.c2,aA y.a3 y.n3 y.c3] 67;have d:=K 0;simp only[gB,gC,gD]at d;have f:=(hb.cell (p:=⟨B,0,aJ⟩) hB).trans hc;have g:=gO (uS y.a1 y.n1 y.c1 y.c.ns v _ hy.l1 hn (hy.r1.below hb));have b:=gO hb;have a:B≠W.heap.size:=by omega
 clear hb K hc hy;unfold sV at*;go_enter func129,ntmps129
 go_wp2_with (go_at_call 19;refine g.out.mono ?_;rintro e w' ⟨rfl,rfl⟩)
 go_ret
 exact⟨aX (by rw[Bool.eq_iff_iff];simp),b.out⟩
theorem wO (a:Option Addr)(n cap:Nat)(l:List Cc)(g:Nat)(lb:Array Value)(p:Cc->Bool)(w:World)(hn:l.length=n)(hl:n<=9223372036854775807)(hr:Row w a (flat dX l))(eg:∀args w,(callFunc g args).run prog w= .ok (.enter g args) w)
 (hp:∀W,Below w.heap.size w W->∀x∈l,Calls prog g (#[.agg (dX x).toArray]++lb) W λe w'=>e=aN (.bool (p x))/\Below W.heap.size W w'):
 Calls prog 72 #[aA a n cap,.func (.func g) #[] lb] w λe w'=>e=aN (aB aI (dA p l))/\Below w.heap.size w w':=by
 subst hn;go_enter func72,ntmps72
 go_wp2
 go_loopw [5,8] (λ_ j wr=>∃k:Nat,k<=l.length/\j=aB aI k/\Hid (∀x∈l.take k,p x=false)/\Below w.heap.size w wr) (λ_ j _=>l.length-(intOf j).toNat)
 case atStart=>exact⟨0,gU _,rfl,by simp[Hid],gX _ _⟩
 case round=>
  obtain⟨k,z,rfl,d,c⟩:=hrel;by_cases f:k<l.length
  ·obtain⟨b,off,rfl,hb,o⟩:=aAw eH (by decide) (hr.below c) f;obtain⟨q,v,t,u,s,r⟩:=kP o
   skip
   have hcall:=hp wr c l[k] (gL f);clear hr hp o;cases hv:p l[k]with
   | true=>
    have m:=gO (mJ f hv d.out);rw[hv]at hcall;generalize l[k]=y at*;go_wp2_with (go_at_fn g;refine hcall.mono ?_;rintro e w' ⟨rfl,h⟩)
    go_ret
    exact⟨dO m.out.symm,gW c h⟩
   | false=>
    rw[hv]at hcall;have m:Hid (∀x∈l.take (k+1),p x=false):=λx i=>by
     rw[List.take_succ_eq_append_getElem f,gZ,gTa]at i;rcases i with i | rfl
     ·exact d.out x i
     ·exact hv
    generalize l[k]=y at*;go_wp2_with (go_at_fn g;refine hcall.mono ?_;rintro e w' ⟨rfl,h⟩)
    go_roundw
    case rel=>exact⟨k+1,by omega,by go_num,m.out,gW c h⟩
    case measure=>simp[intOf];omega
  ·obtain rfl:k=l.length:=by omega
   go_wp2
   go_ret
   exact⟨dO (kL (by simpa[Hid]using d)).symm,c⟩
theorem wP (a:Option Addr)(n cap:Nat)(l:List Cc)(g:Nat)(lb:Array Value)(p:Cc->Bool)(w:World)(hn:l.length=n)(hl:n<=9223372036854775807)(hr:Row w a (flat dX l))(eg:∀args w,(callFunc g args).run prog w= .ok (.enter g args) w)
 (hp:∀W,Below w.heap.size w W->∀x∈l,Calls prog g (#[.agg (dX x).toArray]++lb) W λe w'=>e=aN (.bool (p x))/\Below W.heap.size W w'):
 Calls prog 32 #[aA a n cap,.func (.func g) #[] lb] w λe w'=>e=aN (.bool (l.any p))/\Below w.heap.size w w':=by
 go_enter func32,ntmps32
 go_wp2_with (go_at_call 72;refine(wO _ _ _ l _ _ p _ hn hl hr eg hp).mono ?_;rintro e w' ⟨rfl,b⟩)
 go_ret
 exact⟨aX (iP p l),b⟩
theorem wQ (a:Option Addr)(n cap:Nat)(l:List Sl)(g:Nat)(lb:Array Value)(p:Sl->Bool)(w:World)(hn:l.length=n)(hl:n<=9223372036854775807)(hr:Row w a (flat aY l))(eg:∀args w,(callFunc g args).run prog w= .ok (.enter g args) w)
 (hp:∀W,Below w.heap.size w W->∀x∈l,Calls prog g (#[.agg (aY x).toArray]++lb) W λe w'=>e=aN (.bool (p x))/\Below W.heap.size W w'):
 Calls prog 119 #[aA a n cap,.func (.func g) #[] lb] w λe w'=>e=aN (aB aI (dA p l))/\Below w.heap.size w w':=by
 subst hn;go_enter func119,ntmps119
 go_wp2
 go_loopw [5,8] (λ_ j wr=>∃k:Nat,k<=l.length/\j=aB aI k/\Hid (∀x∈l.take k,p x=false)/\Below w.heap.size w wr) (λ_ j _=>l.length-(intOf j).toNat)
 case atStart=>exact⟨0,gU _,rfl,by simp[Hid],gX _ _⟩
 case round=>
  obtain⟨k,t,rfl,d,c⟩:=hrel;by_cases f:k<l.length
  ·obtain⟨b,off,rfl,hb,o⟩:=aAw aAv (by decide) (hr.below c) f;obtain⟨q,s,r⟩:=fV o
   skip
   have hcall:=hp wr c l[k] (gL f);clear hr hp o;cases hv:p l[k]with
   | true=>
    have m:=gO (mJ f hv d.out);rw[hv]at hcall;generalize l[k]=y at*;go_wp2_with (go_at_fn g;refine hcall.mono ?_;rintro e w' ⟨rfl,h⟩)
    go_ret
    exact⟨dO m.out.symm,gW c h⟩
   | false=>
    rw[hv]at hcall;have m:Hid (∀x∈l.take (k+1),p x=false):=λx i=>by
     rw[List.take_succ_eq_append_getElem f,gZ,gTa]at i;rcases i with i | rfl
     ·exact d.out x i
     ·exact hv
    generalize l[k]=y at*;go_wp2_with (go_at_fn g;refine hcall.mono ?_;rintro e w' ⟨rfl,h⟩)
    go_roundw
    case rel=>exact⟨k+1,by omega,by go_num,m.out,gW c h⟩
    case measure=>simp[intOf];omega
  ·obtain rfl:k=l.length:=by omega
   go_wp2
   go_ret
   exact⟨dO (kL (by simpa[Hid]using d)).symm,c⟩
theorem EU (a:Option Addr)(n cap:Nat)(l:List Sl)(g:Nat)(lb:Array Value)(p:Sl->Bool)(w:World)(hn:l.length=n)(hl:n<=9223372036854775807)(hr:Row w a (flat aY l))(eg:∀args w,(callFunc g args).run prog w= .ok (.enter g args) w)
 (hp:∀W,Below w.heap.size w W->∀x∈l,Calls prog g (#[.agg (aY x).toArray]++lb) W λe w'=>e=aN (.bool (p x))/\Below W.heap.size W w'):
 Calls prog 81 #[aA a n cap,.func (.func g) #[] lb] w λe w'=>e=aN (.bool (l.any p))/\Below w.heap.size w w':=by
 go_enter func81,ntmps81
 go_wp2_with (go_at_call 119;refine(wQ _ _ _ l _ _ p _ hn hl hr eg hp).mono ?_;rintro e w' ⟨rfl,b⟩)
 go_ret
 exact⟨aX (iP p l),b⟩
theorem XZ (x:Sl)(p:Int)(C:Nat)(W:World)(hx:x.p<=1000000)(hp: -1000000<=p/\p<=1000000)(hC:C<W.heap.size)(hc:W.cell? ⟨C,0,aJ⟩=aK (aB aI p)):
 Calls prog 120 (#[.agg (aY x).toArray]++#[aH (aK ⟨C,0,aJ⟩)]) W λev w'=>ev=aN (.bool (decide ((x.p:Int)=p)))/\Below W.heap.size W w':=by
 have a:C≠W.heap.size:=by omega
 show Calls prog 120 #[aC #[aB aI x.p,aB aI x.n,aB aI x.h],aH (aK ⟨C,0,aJ⟩)] W _;go_enter func120,ntmps120
 go_wp2
 go_ret
 exact⟨aX (by rw[Bool.eq_iff_iff];simp only[beq_iff_eq,decide_eq_true_eq]),aAq _ _⟩
section
variable {W W':World}{G:Nat}{X:Nat->Prop}{h:Hp}{c:Hc}
structure Dis (c:Hc)(h:Hp):Prop where
 zl:(Bv c).off (rW c)
 zv:(Bv c).off (Ap c h)
 zp:∀r∈c.lc.map kQ,(Bv c).off r
 lv:(rW c).off (Ap c h)
 lp:∀r∈c.lc.map kQ,(rW c).off r
 vp:∀r∈c.lc.map kQ,(Ap c h).off r
theorem HR.Hu (hs:HR W G X h c):Dis c h:=by
 have f:=hs.own.Hu;unfold Hc.rows at f;rw[List.pairwise_cons,List.pairwise_cons,List.pairwise_cons]at f;obtain⟨a,b,d,_⟩:=f;exact⟨a _ (by simp),a _ (by simp),λr e=>a r (by simp only[gY];exact .inr (.inr e)),b _ (by simp),λr e=>b r (List.mem_cons_of_mem _ e),λr e=>d r e⟩
theorem nG {c:Hc}{h:Hp}{r:Rs}(hr:r∈c.lc.map kQ):r∈c.rows h:=by
 unfold Hc.rows;exact List.mem_cons_of_mem _ (List.mem_cons_of_mem _ (List.mem_cons_of_mem _ hr))
theorem Ar (c:Hc)(h:Hp):Bv c∈c.rows h:=by simp[Hc.rows]
theorem jE (c:Hc)(h:Hp):rW c∈c.rows h:=by simp[Hc.rows]
theorem jW (c:Hc)(h:Hp):Ap c h∈c.rows h:=by simp[Hc.rows]
structure NW (W:World)(G:Nat)(X:Nat->Prop)(h:Hp)(c:Hc)(g:Nat):Prop where
 rows:∀r∈c.rows h,r.v.ownBlock≠aK g
 reads:∀r∈c.reads h,r.v.ownBlock≠aK g
 ne:g≠G
 x:¬X g
theorem HR.fresh (hs:HR W G X h c)(hg:W.heap.size<=g):NW W' G X h c g:=
 ⟨λr a e=>by have:=(hs.own.lt r a g e).2;omega,λr a e=>by have:=((hs.ro r a).lt g e).2;omega,λe=>by have:=hs.gs;omega,λe=>by have:=hs.xs g e;omega⟩
theorem HR.lists (hs:HR W G X h c)(hg:W.grownBy W' (rW c).v.ownBlock){uX:List Lc}(ho:W'.ownsRow 0 160 4 (aA al' uX.length cl') uX.length (flat bP uX))
 (hb:∀k,(aA al' uX.length cl').ownBlock=aK k->(rW c).v.ownBlock=aK k∨W.heap.size<=k) (hp:dL W 0 (uX.map kQ)) (hq:∀r∈uX.map kQ,∀g,r.v.ownBlock=aK g->(∃r0∈c.lc.map kQ,r0.v.ownBlock=aK g)∨NW W G X h c g):
 HR W' G X {h with ls:=uX.map Lc.l} {c with al:=al',cl:=cl',lc:=uX}:=by
 have D:=hs.Hu;have I:Ap {c with al:=al',cl:=cl',lc:=uX} {h with ls:=uX.map Lc.l}=Ap c h:=rfl;have H:Bv {c with al:=al',cl:=cl',lc:=uX}=Bv c:=rfl;have F:∀s∈c.rows h,s≠rW c->(rW c).off s->∀k,(aA al' uX.length cl').ownBlock=aK k->s.v.ownBlock≠aK k:=λs w _ o k m e=>by
  rcases hb k m with b | b
  ·exact o k b e
  ·have:=(hs.own.lt s w k e).2;omega
 have f:({c with al:=al',cl:=cl',lc:=uX}:Hc).rows {h with ls:=uX.map Lc.l}=Bv c::rW {c with al:=al',cl:=cl',lc:=uX}::Ap c h::uX.map kQ:=rfl;have u:∀s∈c.rows h,(rW c).off s->∀k,(aA al' uX.length cl').ownBlock=aK k->s.v.ownBlock≠aK k:=λs w o k m e=>by
  rcases hb k m with b | b
  ·exact o k b e
  ·have:=(hs.own.lt s w k e).2;omega
 have B:(Bv c).on W' 0:=jL hs.zs hg (λk m e=>D.zl k m e);have A:(Ap c h).on W' 0:=jL hs.lv hg (λk m e=>D.lv k e m);have z:∀r∈uX.map kQ,r.on W' 0:=λr a=>jL (hp.each r a) hg (λk m e=>by
  rcases hq r a k m with ⟨r0,d,b⟩ | b
  ·exact D.lp r0 d k e b
  ·exact b.rows _ (jE c h) e)
 have n:∀r∈uX.map kQ,∀s:Rs,(s∈c.rows h∨s∈c.reads h)->(∀r0∈c.lc.map kQ,s.off r0)->s.off r:=λr a s C E g b p=>by
  rcases hq r a g p with ⟨r0,d,i⟩ | i
  ·exact E r0 d g b i
  ·rcases C with y | y
   ·exact i.rows _ y b
   ·exact i.reads _ y b
 refine⟨⟨λr a=> ?_,?_⟩,λr a=>jL (hs.ro r a) hg (λk m e=>hs.ds r a _ (jE c h) k m e),λr a s q=> ?_,λr a g t=> ?_,hs.rg,hs.rx,gI hs.gs hg.size,hs.xg,λk m=>gI (hs.xs k m) hg.size,hs.e0,hs.e1,rfl⟩
 ·rw[f,gY,gY,gY]at a;rcases a with rfl | rfl | rfl | a
  ·exact B
  ·exact ho
  ·exact A
  ·exact z r a
 ·rw[f,List.pairwise_cons,List.pairwise_cons,List.pairwise_cons];refine⟨λr a=> ?_,λr a=> ?_,λr a=>n r a _ (.inl (jW c h)) D.vp,hp.Hu⟩
  ·rw[gY,gY]at a;rcases a with rfl | rfl | a
   ·exact λg b p=>u _ (Ar c h) D.zl.symm g p b
   ·exact D.zv
   ·exact n r a _ (.inl (Ar c h)) D.zp
  ·rw[gY]at a;rcases a with rfl | a
   ·exact λg b p=>u _ (jW c h) D.lv g b p
   ·intro g b p;rcases hq r a g p with ⟨r0,d,i⟩ | i
    ·exact u r0 (nG d) (D.lp r0 d) g b i
    ·rcases hb g b with y | y
     ·exact i.rows _ (jE c h) y
     ·have:=((hp.each r a).lt g p).2;omega
 ·rw[f,gY,gY,gY]at q;have j:r∈c.reads h:=a;rcases q with rfl | rfl | rfl | q
  ·exact hs.ds r j _ (Ar c h)
  ·intro g b p;rcases hb g p with i | i
   ·exact hs.ds r j _ (jE c h) g b i
   ·have:=((hs.ro r j).lt g b).2;omega
  ·exact hs.ds r j _ (jW c h)
  ·exact n s q r (.inr j) λr0 d=>hs.ds r j r0 (nG d)
 ·rw[f,gY,gY,gY]at a;rcases a with rfl | rfl | rfl | a
  ·exact hs.og _ (Ar c h) g t
  ·rcases hb g t with i | i
   ·exact hs.og _ (jE c h) g i
   ·exact⟨λe=>by have:=hs.gs;omega,λe=>by have:=hs.xs g e;omega⟩
  ·exact hs.og _ (jW c h) g t
  ·rcases hq r a g t with ⟨r0,d,i⟩ | i
   ·exact hs.og r0 (nG d) g i
   ·exact⟨i.ne,i.x⟩
theorem HS.lists (hs:HS W G X h c)(hg:W.grownBy W' (rW c).v.ownBlock){uX:List Lc}(ho:W'.ownsRow 0 160 4 (aA al' uX.length cl') uX.length (flat bP uX))
 (hb:∀k,(aA al' uX.length cl').ownBlock=aK k->(rW c).v.ownBlock=aK k∨W.heap.size<=k) (hp:dL W 0 (uX.map kQ)) (hq:∀r∈uX.map kQ,∀g,r.v.ownBlock=aK g->(∃r0∈c.lc.map kQ,r0.v.ownBlock=aK g)∨NW W G X h c g):
 HS (W'.setCell ⟨G,3,aJ⟩ (aA al' uX.length cl')) G X {h with ls:=uX.map Lc.l} {c with al:=al',cl:=cl',lc:=uX}/\Safe X W (W'.setCell ⟨G,3,aJ⟩ (aA al' uX.length cl')):=by
 have a:(rW c).v.ownBlock≠aK G:=λe=>(hs.r.og _ (jE c h) G e).1 rfl
 have d:=bD hs.k hs.r.gs hg (λe=>a e.symm);refine⟨⟨(hs.r.lists hg ho hb hp hq).fE _ _,?_,aAs (bG hs.fz hs.r.gs hg (λe=>a e.symm)) _ _⟩,(Safe.oD hg (λk b e=>(hs.r.og _ (jE c h) k e.symm).2 b)).set hs.r.xg _ _⟩;exact aAr d 3 (aA al' uX.length cl')
end
theorem Rf (l:List Lc)(i:Nat)(hi:i<l.length)(r:Lc)(h0:r.l.c=l[i].l.c/\r.l.z=l[i].l.z/\r.l.t=l[i].l.t):(flat bP l).set (i*4+3) (aA r.a r.n r.c)=flat bP (l.set i r):=by
 apply List.ext_getElem?;intro j;by_cases u:j<l.length*4
 ·have g:j/4<l.length:=by omega
  have h:j%4<4:=by omega
  have f:j=j/4*4+j%4:=by omega
  have m:=flat_get aP (l.set i r) (j/4) (by simpa using g) (j%4) h;have k:=flat_get aP l (j/4) g (j%4) h;rw[<- f]at m k;rw[m,List.getElem?_set];by_cases o:i*4+3=j
  ·have d:j/4=i:=by omega
   have b:j%4=3:=by omega
   rw[if_pos o,if_pos (by rw[flat_length aP];omega)];simp only[d,b,List.getElem_set_self];rfl
  ·rw[if_neg o,k];by_cases d:j/4=i
   ·subst d;simp only[List.getElem_set_self];have b:j%4=0∨j%4=1∨j%4=2:=by omega
    obtain⟨p,q,s⟩:=h0;rcases b with b | b | b <;> rw[b] <;> simp[bP,p,q,s]
   ·rw[List.getElem_set_ne (λe=>d e.symm)]
 ·rw[List.getElem?_eq_none (by rw[List.length_set,flat_length aP];omega),List.getElem?_eq_none (by rw[flat_length aP,List.length_set];omega)]
section
variable {W W':World}{G:Nat}{X:Nat->Prop}{h:Hp}{c:Hc}
theorem HR.uY (hs:HR W G X h c)(hn:0<c.lc.length):∃g,c.al=aK ⟨g,0,aJ⟩/\g<W.heap.size/\g≠G/\¬X g/\∀j,j<c.lc.length*4->W.frozen? ⟨g,j,aJ⟩=false:=by
 obtain⟨g,v,a,_,f,_,_⟩:=fH hs.lsr 0 (by show 0<(flat bP c.lc).length;rw[flat_length aP];omega);have i:(rW c).v.ownBlock=aK g:=by unfold rW;rw[a];rfl
 have b:=hs.og (rW c) (jE c h) g i;refine⟨g,a,f,b.1,b.2,λj l=> ?_⟩;obtain⟨k,m,d,_,_,_,e⟩:=fH hs.lsr j (by show j<(flat bP c.lc).length;rw[flat_length aP];omega);rw[a]at d;obtain rfl:g=k:=by simpa using d
 exact e
theorem HS.page (hs:HS W G X h c)(hi:i<c.lc.length)(hg:W.grownBy W' (kQ c.lc[i]).v.ownBlock){r:Lc}(ho:(kQ r).on W' 0)(h0:r.l.c=c.lc[i].l.c/\r.l.z=c.lc[i].l.z/\r.l.t=c.lc[i].l.t)
 (hb:∀k,(kQ r).v.ownBlock=aK k->(kQ c.lc[i]).v.ownBlock=aK k∨W.heap.size<=k) {g:Nat} (hal:c.al=aK ⟨g,0,aJ⟩):
 HS (W'.setCell ⟨g,i*4+3,aJ⟩ (aA r.a r.n r.c)) G X {h with ls:=h.ls.set i r.l} {c with lc:=c.lc.set i r}/\Safe X W (W'.setCell ⟨g,i*4+3,aJ⟩ (aA r.a r.n r.c)):=by
 have D:=hs.r.Hu;have f:kQ c.lc[i]∈c.lc.map kQ:=List.mem_map_of_mem (gL hi);obtain⟨N,C,O,H,K,_⟩:=hs.r.uY (by omega);obtain rfl:g=N:=by rw[hal]at C;simpa using C
 have w:(rW c).v.ownBlock=aK g:=by unfold rW;rw[hal];rfl
 have y:(kQ c.lc[i]).v.ownBlock≠aK G:=λe=>(hs.r.og _ (nG f) G e).1 rfl
 have M:(kQ c.lc[i]).v.ownBlock≠aK g:=λe=>D.lp _ f g w e
 have J:3+i<(c.rows h).length:=by simp[Hc.rows];omega
 have F:(c.rows h)[3+i]=kQ c.lc[i]:=by
  have:(c.rows h)[3+i]? =aK (kQ c.lc[i]):=by
   rw[show 3+i=i+3 by omega];simp[Hc.rows,hi]
  exact(gK.1 this).2
 have k1:=hs.r.own.grown J (W':=W') (r':=kQ r) (by rw[F];exact hg) ho (by rw[F];exact hb);have e1:(c.rows h).set (3+i) (kQ r)=Bv c::rW c::Ap c h::(c.lc.set i r).map kQ:=by
  rw[show 3+i=i+3 by omega,List.map_set];rfl
 rw[e1]at k1;have k2:=k1.cell (i:=1) (by simp) (g:=g) (c:=c.cl) (by show(rW c).v=_;unfold rW;rw[hal];rfl) (i*4+3) (aA r.a r.n r.c) rfl;have L:(Bv c::rW c::Ap c h::(c.lc.set i r).map kQ).set 1 {(Bv c::rW c::Ap c h::(c.lc.set i r).map kQ)[1]with xs:=((Bv c::rW c::Ap c h::(c.lc.set i r).map kQ)[1]).xs.set (i*4+3) (aA r.a r.n r.c)}=({c with lc:=c.lc.set i r}:Hc).rows {h with ls:=h.ls.set i r.l}:=by
  unfold Hc.rows;have P:rW {c with lc:=c.lc.set i r}={rW c with xs:=(rW c).xs.set (i*4+3) (aA r.a r.n r.c)}:=by
   unfold rW;simp only[List.length_set];rw[<- Rf c.lc i hi r h0]
  rw[P];rfl
 rw[L]at k2;have m:∀s∈({c with lc:=c.lc.set i r}:Hc).rows {h with ls:=h.ls.set i r.l},(∃B∈c.rows h,B.v=s.v)∨s=kQ r:=λs d=>by
  rw[<- L]at d;rcases List.mem_or_eq_of_mem_set d with b | b
  ·rw[gY,gY,gY]at b;rcases b with b | b | b | b
   ·exact .inl ⟨_,Ar c h,by rw[b]⟩
   ·exact .inl ⟨_,jE c h,by rw[b]⟩
   ·exact .inl ⟨_,jW c h,by rw[b]⟩
   ·rw[List.map_set]at b;rcases List.mem_or_eq_of_mem_set b with A | A
    ·exact .inl ⟨s,nG A,rfl⟩
    ·exact .inr A
  ·exact .inl ⟨_,jE c h,by rw[b];rfl⟩
 have b:=bD hs.k hs.r.gs hg (λe=>y e.symm);refine⟨⟨⟨k2,λo u=>bC (jL (hs.r.ro o u) hg (λk j e=>hs.r.ds o u _ (nG f) k j e)) (λe=>hs.r.ds o u _ (jE c h) g e w) _,λo u s d k p x=> ?_,λs d k j=> ?_,hs.r.rg,hs.r.rx,by simpa using gI hs.r.gs hg.size,hs.r.xg,λk j=>by simpa using gI (hs.r.xs k j) hg.size,hs.r.e0,hs.r.e1,?_⟩,?_,aAs (bG hs.fz hs.r.gs hg (λe=>y e.symm)) _ _⟩,(Safe.oD hg (λk j e=>(hs.r.og _ (nG f) k e.symm).2 j)).set K _ _⟩
 ·rcases m s d with ⟨B,q,I⟩ | rfl
  ·exact hs.r.ds o u B q k p (by rw[I];exact x)
  ·rcases hb k x with E | E
   ·exact hs.r.ds o u _ (nG f) k p E
   ·have:=((hs.r.ro o u).lt k p).2;omega
 ·rcases m s d with ⟨B,q,I⟩ | rfl
  ·exact hs.r.og B q k (by rw[I];exact j)
  ·rcases hb k j with E | E
   ·exact hs.r.og _ (nG f) k E
   ·exact⟨λe=>by have:=hs.r.gs;omega,λe=>by have:=hs.r.xs k e;omega⟩
 ·rw[List.map_set,hs.r.ll]
 ·have A:({c with lc:=c.lc.set i r}:Hc).vals {h with ls:=h.ls.set i r.l}=c.vals h:=by
   unfold Hc.vals;simp only[List.length_set]
  rw[A];exact aAc b (λe=>H e.symm) _ _
theorem HS.away (hs:HS W G X h c)(hg:W.grownBy W' (Ap c h).v.ownBlock){cv':Nat}(ho:W'.ownsRow 0 82 3 (aA uK v'.length cv') v'.length (flat aAx v'))
 (hb:∀k,(aA uK v'.length cv').ownBlock=aK k->(Ap c h).v.ownBlock=aK k∨W.heap.size<=k):
 HS (W'.setCell ⟨G,4,aJ⟩ (aA uK v'.length cv')) G X {h with live:=v'} {c with av:=uK,cv:=cv'}/\Safe X W (W'.setCell ⟨G,4,aJ⟩ (aA uK v'.length cv')):=by
 have n:(Ap c h).v.ownBlock≠aK G:=λe=>(hs.r.og _ (jW c h) G e).1 rfl
 have q:=bD hs.k hs.r.gs hg (λe=>n e.symm);have k1:=hs.r.own.grown (i:=2) (by simp[Hc.rows]) (W':=W') (r':=Ap {c with av:=uK,cv:=cv'} {h with live:=v'}) hg ho hb;have f:∀s∈({c with av:=uK,cv:=cv'}:Hc).rows {h with live:=v'},s∈c.rows h∨s=Ap {c with av:=uK,cv:=cv'} {h with live:=v'}:=λs a=>List.mem_or_eq_of_mem_set (l:=c.rows h) (i:=2) a
 refine⟨⟨(⟨k1,λr p=>jL (hs.r.ro r p) hg (λk d e=>hs.r.ds r p _ (jW c h) k d e),λo p s a k g m=> ?_,λs a k d=> ?_,hs.r.rg,hs.r.rx,gI hs.r.gs hg.size,hs.r.xg,λk d=>gI (hs.r.xs k d) hg.size,hs.r.e0,hs.r.e1,hs.r.ll⟩:HR W' G X {h with live:=v'} {c with av:=uK,cv:=cv'}).fE _ _,?_,aAs (bG hs.fz hs.r.gs hg (λe=>n e.symm)) _ _⟩,(Safe.oD hg (λk d e=>(hs.r.og _ (jW c h) k e.symm).2 d)).set hs.r.xg _ _⟩
 ·have j:o∈c.reads h:=p;rcases f s a with b | rfl
  ·exact hs.r.ds o j s b k g m
  ·rcases hb k m with b | b
   ·exact hs.r.ds o j _ (jW c h) k g b
   ·have:=((hs.r.ro o j).lt k g).2;omega
 ·rcases f s a with b | rfl
  ·exact hs.r.og s b k d
  ·rcases hb k d with b | b
   ·exact hs.r.og _ (jW c h) k b
   ·exact⟨λe=>by have:=hs.r.gs;omega,λe=>by have:=hs.r.xs k e;omega⟩
 ·exact aAr q 4 (aA uK v'.length cv')
end
def zC:List Bk->Nat
 | []=>0
 | b::l=>2^b.o+zC l
theorem VH (l:List Bk)(i:Nat)(hi:i<l.length):zC (l.take (i+1))=zC (l.take i)+2^l[i].o:=by
 induction l generalizing i with
 | nil=>simp at hi
 | cons b l ih=>
  cases i with
  | zero=>simp[zC]
  | succ i=>
   have a:i<l.length:=by simpa using hi
   rw[List.take_succ_cons,List.take_succ_cons,zC,zC,ih i a];simp only[List.getElem_cons_succ];omega
theorem aA0 (l:List Bk)(h:∀b∈l,b.o<=4):zC l<=l.length*16:=by
 induction l with
 | nil=>simp[zC]
 | cons b l ih=>
  have a:=ih (λb hb=>h b (by simp[hb]));have c:=yX (h b (by simp));simp only[zC,List.length_cons];omega
theorem Yw (a1 a2:Option Addr)(n1 n2 c1 c2:Nat)(z:Zn)(w:World)(hat:JY w a1 a2 n1 n2 z)(hz:z.ok):
 Calls prog 154 #[aC #[aB aI z.f,aB aI z.e,aA a1 n1 c1,aA a2 n2 c2]] w λev w'=>ev=aN (aG #[aB aI (zC z.l:Nat),aB aI 0])/\Below w.heap.size w w':=by
 have B:z.l.length<=256:=gQ (uM.length_le hz.2 (λb hb=>(hz.2.fit b hb).1.2.2.1)) hz.1.e2;obtain⟨A,M,m,j⟩:=boxes1 w #[aB aI (z.f:Int),aB aI (z.e:Int),aA a1 n1 c1,aA a2 n2 c2] 79;have u:=hat.below j;have l1:=hat.l1;clear hat
 go_enter func154,ntmps154
 go_wp2_with fail
 generalize w.alloc _=U at*;refine(qC _ _ _ _ _ _ z _ u hz).mono ?_;rintro ev y ⟨rfl,g⟩;have T:=aAp A m g;have H:=u.below g;have E:=gW j g;have L:=gI m g.size;clear A M u j g
 dsimp only
 go_wp2
 go_loopw [5,16] (λO k wr=>∃i:Nat,i<=n1/\k=aB aI (i:Int)/\O=aB aI (zC (z.l.take i):Nat)/\Hid (Below y.heap.size y wr)) (λ_ k _=>n1-(intOf k).toNat)
 case atStart=>exact⟨0,gU _,rfl,rfl,gX _ _⟩
 case round=>
  obtain⟨i,V,rfl,rfl,hb⟩:=hrel;by_cases F:i<n1
  ·have d:i<z.l.length:=by omega
   obtain⟨R,off,s,K,D⟩:=aAw aAu (by decide) (H.r1.below hb.out) d;obtain rfl:=s;obtain⟨G,Q,N⟩:=bH D;have c:=(hz.2.fit _ (gL d)).1;have h:=gO (VH z.l i d);have p:=aA0 (z.l.take i) (λb hb=>(hz.2.fit b (List.mem_of_mem_take hb)).1.1);rw[gTc]at p;have n:zC (z.l.take i)<=5000:=by omega
   clear D p;generalize z.l[i]=x at*;have v:=wI c.1;have I:=yX c.1;have r:=gO (gW hb.out (aAq wr (aO #[aB aI (x.a:Int),aB aI (x.o:Int),aB aI (x.t:Int)] 82)));obtain⟨S,C⟩:∃S,zC (z.l.take i)=S:=⟨_,rfl⟩
   rw[C]at n h ⊢;clear C;have W:(i:Int)<n1:=by omega
   have J:wrap64 ((S:Int)+wrap64 (2^min x.o 64))=((S+2^x.o:Nat):Int):=by
    rw[show min x.o 64=x.o by have:=c.1;omega,v];generalize 2^x.o=q at*;have:=IntWalk.wrap64_in ((S:Int)+q) (by omega);rw[Int.natCast_add];exact this
   go_wp2
   go_roundw
   case rel=>exact⟨i+1,by omega,by go_num,by rw[h.out];simp only[Value.int.injEq,true_and];exact J,r⟩
   case measure=>simp[intOf];omega
  ·obtain rfl:i=n1:=by omega
   have P:z.l.take i=z.l:=by rw[<- l1,List.take_length]
   rw[P];go_wp2
   go_ret2
   exact⟨rfl,gW E hb.out⟩
section
attribute [local go_sem ↓] iW
theorem AB:(prog.info? 160).map (λi=>(i.zero,i.size,i.bytes))=aK (aK (aC #[aB aI 0,aB aI 0,aB aI 0,aA aJ 0 0]),4,48):=by kernel_rfl
theorem CB (l:List Lc):∀u∈flat bP l,u.oneCell'=true:=by
 intro u a;simp only[flat,List.mem_flatMap]at a;obtain⟨r,_,b⟩:=a;simp only[bP,gY,List.not_mem_nil,or_false]at b;rcases b with rfl | rfl | rfl | rfl <;> rfl
theorem aA2 (w:World):(zeroValue 160).run prog w= .ok (aC #[aB aI 0,aB aI 0,aB aI 0,aA aJ 0 0]) w:=by
 obtain⟨i,a,b,c,hb⟩:=info_parts AB;simp[zeroValue,typeInfo,a,b]
theorem VJ (base:Nat)(a:Option Addr)(n c:Nat)(l:List Lc)(i:Nat)(w:World)(hown:w.ownsRow base 160 4 (aA a n c) n (flat bP l))(hi:i<n)(hn:n<=1000)(hbase:base<=w.heap.size):
 Calls prog 153 #[aA a n c,aB aI i,aB aI (i+1)] w λev w'=>ev=aN (aA a (n-1) c)/\w'.ownsRow base 160 4 (aA a (n-1) c) (n-1) (flat bP (l.eraseIdx i))/\w.grownBy w' (gTh (aA a n c)):=by
 have z:l.length=n:=aZ aP (by decide) hown;have I:=dR hown;have q:c<=9223372036854775807:=by
  rcases hown.2 with ⟨v,O⟩ | ⟨g,y,H,v,_,_,_,q,_⟩
  ·simp at v;omega
  ·have:c=y:=by simp at v;exact v.2
   unfold maxLen at q;omega
 have C:=gO hown;clear hown;have S:(i:Int)<=n:=by omega
 have M:(i:Int)+1<=n:=by omega
 have V:(i:Int)<=c:=by omega
 have R:(i:Int)+1<=c:=by omega
 have W:(n:Int)<=c:=by omega
 have N:(0:Int)<=(i:Int)+1:=by omega
 have Q:((i:Int)+1).toNat=i+1:=by omega
 go_enter func153,ntmps153
 go_wp2_with fail
 go_still_tail 6,(by kernel_rfl)
 change wpList _ _ _ _ _ w.drew;have p:=own_below C.out ((gX w.heap.size w).drew) (gT _);have m:=(aV p).cut (i+1) c 4 ((n-(i+1))*4) (by omega);have t:=flat_length aP l;rw[gTf (by rw[gTd,t];omega),fD aP]at m;have j:=iY p (show i<=n by omega);rw[fC aP]at j;have G:Hid (∀w',w.drew.grownBy w' (gTh (aA a i c))->w.grownBy w' (gTh (aA a n c))):=λw' h=>⟨h.os,h.tape,h.output,h.size,λk u o=>h.block k u (by cases a with | none=>simp[gTh] | some x=>simpa[gTh]using o)⟩
 have D:w.drew.heap.size=w.heap.size:=rfl;clear p;generalize w.drew=L at*;refine qQ rfl _ _ 36 rfl base 160 (aC #[aB aI 0,aB aI 0,aB aI 0,aA aJ 0 0]) 4 48 underlying36 AB (by decide) a i c _ rfl j (bY a (i+1) c 4) (n-(i+1)) (c-(i+1)) (flat bP (l.drop (i+1))) rfl (by rw[flat_length aP,gTd,z]) m (CB _) (by omega) ?_;intro K b s;have d:=G.out K s;rw[<- aS,<- List.eraseIdx_eq_take_drop_succ]at b;have J:i+(n-(i+1))=n-1:=by omega
 rw[J]at b ⊢;have r:=gO b;have U:(n:Int)-1<=n:=by omega
 have X:((n-1:Nat):Int)<=n:=by omega
 have T:n-(n-1)=1:=by omega
 clear b s m j C t;obtain⟨E,F,f,e⟩:=Ep (P:=prog) 36 0 160 underlying36 4 (aC #[aB aI 0,aB aI 0,aB aI 0,aA aJ 0 0]) aA2 rfl (by decide) base (n-1) 1 c (c-(n-1)) a _ r.out (by omega);have A:=gO f;have B:Hid (w.grownBy E (gTh (aA a n c))):=⟨e.os.trans d.os,e.tape.trans d.tape,e.output.trans d.output,gQ d.size e.size,λk u o=>(e.block k (gI u d.size) (by cases a with | none=>simp[gTh] | some x=>simpa[gTh]using o)).trans (d.block k u o)⟩
 clear f r d e;go_wp2
 go_ret
 exact⟨rfl,A.out,B.out⟩
theorem Oq (base:Nat)(a:Option Addr)(n c g:Nat)(l:List Lc)(b:Lc)(w:World)(hown:w.ownsRow base 160 4 (aA a n c) n (flat bP l))(hn:n<=1000)(hbase:base<=w.heap.size)(hv:Row w (aK ⟨g,0,aJ⟩) (bP b)):
 Calls prog 125 #[aA a n c,aB aI n,aA (aK ⟨g,0,aJ⟩) 1 1] w λev w'=>∃a' c',ev=aN (aA a' (n+1) c')/\w'.ownsRow base 160 4 (aA a' (n+1) c') (n+1) (flat bP (l++[b]))/\w.grownBy w' (gTh (aA a n c))/\(∀k,(aA a' (n+1) c').ownBlock=aK k->(aA a n c).ownBlock=aK k∨w.heap.size<=k):=by
 have C:=dR hown;have v:=gO hown;clear hown;have G:(n:Int)<=c:=by omega
 obtain⟨D,o,m,r,s⟩:=info_parts AB;have f:∀j u,(bP b)[j]? =aK u->w.cell? ((⟨g,0,aJ⟩:Addr).add j)=aK u:=λj u E=>by
  obtain⟨y,off,e,_,x⟩:=hv j u E;obtain⟨rfl,rfl⟩:g=y/\0=off:=by simpa using e
  rw[Addr.add_lit];exact x
 go_enter func125,ntmps125
 go_wp2_with (at_builtin;refine wpList_append_lies _ rfl _ _ 36 rfl base 160 D (aC #[aB aI 0,aB aI 0,aB aI 0,aA aJ 0 0]) 4 48 underlying36 o m r s rfl (by decide) _ n _ rfl v.out ⟨g,0,aJ⟩ 1 1 (bP b) rfl rfl f (by simp[bP,vI,Value.oneCell']) (by decide) (by unfold maxLen;omega) (by omega) hbase _ rfl ?_)
 intro B c' F d z i t;rw[show flat bP l++bP b=flat bP (l++[b])from by rw[aS,fJ]]at d;have p:=gO d;have q:=gO i;clear d v f i;go_wp2
 go_ret
 exact⟨_,c',rfl,p.out,z,λk A=>by
  obtain rfl:B=k:=by simpa[gTh]using A
  rcases q.out with h | h
  ·exact .inl h
  ·exact .inr (Nat.le_of_eq h.symm)⟩
theorem Le (base:Nat)(a:Option Addr)(n c g i:Nat)(l:List Lc)(b:Lc)(w:World)(hown:w.ownsRow base 160 4 (aA a n c) n (flat bP l))(hi:i<n)(hn:n<=1000)(hc:c<n+1)(hbase:base<=w.heap.size)(hv:Row w (aK ⟨g,0,aJ⟩) (bP b)):
 Calls prog 125 #[aA a n c,aB aI i,aA (aK ⟨g,0,aJ⟩) 1 1] w λev w'=>∃a' c',ev=aN (aA a' (n+1) c')/\w'.ownsRow base 160 4 (aA a' (n+1) c') (n+1) (flat bP (l.take i++b::l.drop i))/\w.grownBy w' (gTh (aA a n c))/\(∀k,(aA a' (n+1) c').ownBlock=aK k->(aA a n c).ownBlock=aK k∨w.heap.size<=k):=by
 have U:=dR hown;have J:l.length=n:=aZ aP (by decide) hown;have L:=flat_length aP l;obtain⟨G,zs,X,u,F,d,x⟩:=wL (P:=prog) 36 3 36 160 underlying36 underlying3 (aC #[aB aI 0,aB aI 0,aB aI 0,aA aJ 0 0]) 4 48 AB rfl (by decide) a i c _ base (iY hown (show i<=n by omega)) (n+1-i) (by omega) (by omega) (by omega) (by omega);rw[show i+(n+1-i)=n+1 by omega]at u d;rw[show((n+1-i:Nat):Int)=(n:Int)+1-(i:Int)by omega]at u;rw[fC aP]at d;have HR:=gO (aV hown);have V:=dR d;have B:=gO d;have C:=gO x;have t:=gO ((gX w.heap.size w).grown x (gT _) (by simp));have b0:(i:Int)<=n:=by omega
 have b2:(i:Int)<=c:=by omega
 have b3:¬(i:Int)=n:=by omega
 have b4:(c:Int)<(n:Int)+1:=by omega
 have Y:(i:Int)<=(n:Int)+1:=by omega
 have Z:((n+1:Nat):Int)<=G:=by omega
 have A:(prog.info? 160).map (·.size)=aK 4:=by kernel_rfl
 have z:=hv.mono t.out (gT _);have q:(flat bP (l.take i)).length=i*4:=by rw[flat_length aP,gTc];omega
 have E:bY (aK ⟨w.heap.size,0,aJ⟩) i G 4=(aK ⟨w.heap.size,0,aJ⟩:Option Addr).map (·.add (i*4)):=by unfold bY;rw[if_neg (by omega)]
 have K:bY (aK ⟨w.heap.size,0,aJ⟩) (i+1) G 4=(aK ⟨w.heap.size,0,aJ⟩:Option Addr).map (·.add ((i+1)*4)):=by unfold bY;rw[if_neg (by omega)]
 obtain⟨D,N,e,f⟩:=jM (P:=prog) 36 36 3 160 underlying36 4 A (bY (aK ⟨w.heap.size,0,aJ⟩) i G 4) (aK ⟨g,0,aJ⟩) (n+1-i) (G-i) 1 1 (bP b) (by rw[show Nat.min 1 (n+1-i)=1 from Nat.min_eq_left (by omega)];rfl) z (by simp[bP,vI,Value.oneCell']) w.heap.size (n+1) G i (aK ⟨w.heap.size,0,aJ⟩) _ B.out (λ_=>E) (λh=>by rw[E]at h;simp at h) (by rw[aP];omega);rw[aP,List.take_left' q,<- Nat.succ_mul]at e;have o:(flat bP (l.take i)++zs).drop ((i+1)*4)=zs.drop 4:=by rw[List.drop_append,List.drop_eq_nil_of_le (by omega),q,List.nil_append];congr 1;omega
 rw[Nat.succ_eq_add_one,o]at e;have r:=(t.out.grown f t.out.size (by intro k s;simp[gTh]at s;omega)).drew;have O:=own_below e ((gX D.heap.size D).drew) (gT _);have p:=((aV hown).mono r (gT _)).cut i c 4 ((n-i)*4) (by omega);rw[gTf (by rw[gTd,L];omega),fD aP]at p;have y:(flat bP (l.drop i)).length=(n-i)*4:=by rw[flat_length aP,gTd,J]
 obtain⟨S,M,j,m⟩:=jM (P:=prog) (w:=D.drew) 36 36 3 160 underlying36 4 A (bY (aK ⟨w.heap.size,0,aJ⟩) (i+1) G 4) (bY a i c 4) (n-i) (G-(i+1)) (n-i) (c-i) (flat bP (l.drop i)) (by rw[y,show Nat.min (n-i) (n-i)=n-i from Nat.min_self _]) p (CB _) w.heap.size (n+1) G (i+1) (aK ⟨w.heap.size,0,aJ⟩) _ O (λ_=>K) (λh=>by rw[K]at h;simp at h) (by rw[y];omega);rw[show(flat bP (l.take i)++bP b++zs.drop 4).take ((i+1)*4)=flat bP (l.take i)++bP b from List.take_left' (by rw[gTb,q,aP];omega),y,show(flat bP (l.take i)++bP b++zs.drop 4).drop ((i+1)*4+(n-i)*4)=[]from List.drop_eq_nil_of_le (by simp only[gTb,q,aP,gTd,F];omega),List.append_nil,<- fJ bP b,<- aS,<- aS,List.append_assoc,List.singleton_append]at j;have H:=gO (own_base j hbase);have I:Hid (w.grownBy S (gTh (aA a n c))):=by
  have v:=C.out;refine⟨m.os.trans (f.os.trans v.os),m.tape.trans (f.tape.trans v.tape),m.output.trans (f.output.trans v.output),gQ v.size (gQ f.size m.size),λk s R=> ?_⟩;have Q:aK k≠gTh (aA (aK ⟨w.heap.size,0,aJ⟩) (n+1) G):=by simp[gTh];omega
  exact(m.block k (gI s (gQ v.size f.size)) Q).trans ((f.block k (gI s v.size) Q).trans (v.block k s (by simp)))
 have b7:((i:Int)+1)<=G:=by omega
 have s1:IntKind.i64.wrap ((i:Int)+1)=(i:Int)+1:=IntWalk.i64_in _ (by omega);have b8:0<=(i:Int)+1:=by omega
 have b9:((i:Int)+1).toNat=i+1:=by omega
 have T:(i:Int)+1<=(n:Int)+1:=by omega
 clear hown e O j x f m d p z r B HR C o E K;go_enter func125,ntmps125
 go_wp2_with (at_builtin;refine kM rfl _ _ 36 3 rfl _ _ rfl rfl u ?_)
 go_still_tail 8,(by kernel_rfl)
 change wpList _ _ _ _ _ D.drew;generalize D.drew=W at*;go_wp2
 go_ret
 exact⟨_,_,rfl,H.out,I.out,λk s=> .inr (by simp[gTh]at s;omega)⟩
theorem Ia (base:Nat)(a:Option Addr)(n c g i:Nat)(l:List Lc)(b:Lc)(w:World)(hown:w.ownsRow base 160 4 (aA a n c) n (flat bP l))(hi:i<n)(hn:n<=1000)(hc:n+1<=c)(hbase:base<=w.heap.size)(hgb:w.heap[g]? =aK (.cells (bP b).toArray 160 (0,0)))(hne:aK g≠gTh (aA a n c))(hv:Row w (aK ⟨g,0,aJ⟩) (bP b)):
 Calls prog 125 #[aA a n c,aB aI i,aA (aK ⟨g,0,aJ⟩) 1 1] w λev w'=>∃a' c',ev=aN (aA a' (n+1) c')/\w'.ownsRow base 160 4 (aA a' (n+1) c') (n+1) (flat bP (l.take i++b::l.drop i))/\w.grownBy w' (gTh (aA a n c))/\(∀k,(aA a' (n+1) c').ownBlock=aK k->(aA a n c).ownBlock=aK k∨w.heap.size<=k):=by
 have L:l.length=n:=aZ aP (by decide) hown;have u:=flat_length aP l;obtain⟨d,s,rfl,E,C,v⟩:∃d s,a=aK ⟨d,0,aJ⟩/\w.heap[d]? =aK (.cells s 160 (0,0))/\s.size=c*4/\c<=maxLen:=by
  rcases hown.2 with ⟨S,h2⟩ | ⟨d,I,s,S,_,Y,_,v,hs,_⟩
  ·omega
  ·obtain⟨rfl,rfl⟩:a=aK ⟨d,0,aJ⟩/\c=I:=by simpa using S
   exact⟨d,s,rfl,Y,hs,v⟩
 have M:g≠d:=λe=>hne (by rw[e];rfl)
 have hcut:∀j,j<=n->bY (aK ⟨d,0,aJ⟩) j c 4=(aK ⟨d,0,aJ⟩:Option Addr).map (·.add (j*4)):=λj hj=>by unfold bY;rw[if_neg (by omega)]
 have R:bY (aK ⟨d,0,aJ⟩) (i+1) c 4=aK ⟨d,(i+1)*4,aJ⟩:=by rw[hcut _ (by omega)];simp[Addr.add_lit]
 have B:(prog.info? 160).map (·.size)=aK 4:=by kernel_rfl
 have G:(callFunc 147 #[aA (aK ⟨g,0,aJ⟩) 1 1,aA (bY (aK ⟨d,0,aJ⟩) (i+1) c 4) (n-i) (c-(i+1))]).run prog w= .ok (.value (.bool false)) w:=by
  rw[R,run_callFunc_extern func147 (by kernel_rfl) (by kernel_rfl) (by kernel_rfl) (e:=Extern.SlicesOverlaps.overlaps #[36,36] #[4]) (by kernel_rfl),
   Lib.run_overlaps_apart w 36 4 160 underlying36 4 Tryz.sizeOf160 ⟨g,0,aJ⟩ ⟨d,(i+1)*4,aJ⟩ 1 1 _ _ M 160 160 4 (c*4) (by simp[World.shape?,hgb,bP]) (by simp[World.shape?,E,C]) (by omega) (by simp[World.frozen?,hgb]) (by simp[World.frozen?,hgb])]
  rfl
 obtain⟨y,H,r⟩:=wH hown (show n<=n+1 by omega) hc;rw[show(n+1-n)*4=4 by omega]at H;have x:(flat bP (l.drop i)).length=(n-i)*4:=by rw[flat_length aP,gTd,L]
 have Z:(flat bP (l.take i)).length=i*4:=by rw[flat_length aP,gTc];omega
 have z:Below w.heap.size w w.drew:=(gX w.heap.size w).drew;have p:=own_below r z (gT _);have t:=((aV hown).below z).cut i c 4 ((n-i)*4) (by omega);rw[gTf (by rw[gTd,u];omega),fD aP]at t;obtain⟨w2,O,o,f⟩:=jM (P:=prog) (w:=w.drew) 36 36 3 160 underlying36 4 B (bY (aK ⟨d,0,aJ⟩) (i+1) c 4) (bY (aK ⟨d,0,aJ⟩) i c 4) (n-i) (c-(i+1)) (n+1-i) (c-i) (flat bP (l.drop i)) (by rw[x,show Nat.min (n+1-i) (n-i)=n-i from Nat.min_eq_right (by omega)]) t (CB _) base (n+1) c (i+1) (aK ⟨d,0,aJ⟩) _ p (λ_=>hcut _ (by omega)) (λh=>by rw[hcut _ (by omega)]at h;simp at h) (by rw[x];omega);have Q:((flat bP l++y).take ((i+1)*4)++flat bP (l.drop i)++(flat bP l++y).drop ((i+1)*4+(flat bP (l.drop i)).length))=(flat bP l++y).take ((i+1)*4)++flat bP (l.drop i):=by
  rw[show(flat bP l++y).drop ((i+1)*4+(flat bP (l.drop i)).length)=[]from List.drop_eq_nil_of_le (by rw[gTb,u,x];omega),List.append_nil]
 rw[Q]at o;have U:((flat bP l++y).take ((i+1)*4)).length=(i+1)*4:=by rw[gTc,gTb,u];omega
 have A:=sN (hv.below z) f hne;obtain⟨W,N,m,q⟩:=jM (P:=prog) (w:=w2) 36 36 3 160 underlying36 4 B (bY (aK ⟨d,0,aJ⟩) i c 4) (aK ⟨g,0,aJ⟩) (n+1-i) (c-i) 1 1 (bP b) (by rw[show Nat.min 1 (n+1-i)=1 from Nat.min_eq_left (by omega)];rfl) A (by simp[bP,vI,Value.oneCell']) base (n+1) c i (aK ⟨d,0,aJ⟩) _ o (λ_=>hcut _ (by omega)) (λh=>by rw[hcut _ (by omega)]at h;simp at h) (by rw[aP];omega);have T:((flat bP l++y).take ((i+1)*4)++flat bP (l.drop i)).take (i*4)++bP b++((flat bP l++y).take ((i+1)*4)++flat bP (l.drop i)).drop (i*4+(bP b).length)=flat bP (l.take i++b::l.drop i):=by
  rw[aP,show i*4+4=(i+1)*4 by omega,List.drop_left' U,List.take_append_of_le_length (by rw[U];omega),List.take_take,show min (i*4) ((i+1)*4)=i*4 by omega,List.take_append_of_le_length (by rw[u];omega),fC aP,aS,dS,List.append_assoc]
 rw[T]at m;have J:=gO m;have K:Hid (w.grownBy W (gTh (aA (aK ⟨d,0,aJ⟩) n c))):=
  ⟨q.os.trans f.os,q.tape.trans f.tape,q.output.trans f.output,gQ f.size q.size,λk F D=>(q.block k (gI F f.size) D).trans (f.block k F D)⟩
 have b0:(i:Int)<=n:=by omega
 have b2:(i:Int)<=c:=by omega
 have b3:¬(i:Int)=n:=by omega
 have b4:¬(c:Int)<(n:Int)+1:=by omega
 have b5:(i:Int)<=(n:Int)+1:=by omega
 have b6:(n:Int)+1<=c:=by omega
 have b7:((i:Int)+1)<=c:=by omega
 have s1:IntKind.i64.wrap ((i:Int)+1)=(i:Int)+1:=IntWalk.i64_in _ (by omega);have b8:0<=(i:Int)+1:=by omega
 have b9:((i:Int)+1).toNat=i+1:=by omega
 have X:(i:Int)+1<=(n:Int)+1:=by omega
 have V:((n:Int)+1).toNat=n+1:=by omega
 have b12:c<=9223372036854775807:=by unfold maxLen at v;omega
 clear hown r p t o m f q Q T hv A hcut R E hgb C;go_enter func125,ntmps125
 go_wp2_with (simp only[G])
 go_still_tail 8,(by kernel_rfl)
 change wpList _ _ _ _ _ w.drew;go_wp2
 go_ret
 exact⟨_,_,rfl,J.out,K.out,λk F=> .inl F⟩
theorem VK (base:Nat)(a:Option Addr)(n c g i:Nat)(l:List Lc)(b:Lc)(w:World)(hown:w.ownsRow base 160 4 (aA a n c) n (flat bP l))(hi:i<=n)(hn:n<=1000)(hbase:base<=w.heap.size)(hgb:w.heap[g]? =aK (.cells (bP b).toArray 160 (0,0)))(hne:aK g≠gTh (aA a n c)):
 Calls prog 125 #[aA a n c,aB aI i,aA (aK ⟨g,0,aJ⟩) 1 1] w λev w'=>∃a' c',ev=aN (aA a' (n+1) c')/\w'.ownsRow base 160 4 (aA a' (n+1) c') (n+1) (flat bP (l.take i++b::l.drop i))/\w.grownBy w' (gTh (aA a n c))/\(∀k,(aA a' (n+1) c').ownBlock=aK k->(aA a n c).ownBlock=aK k∨w.heap.size<=k):=by
 have d:g<w.heap.size:=(Array.getElem?_eq_some_iff.1 hgb).1;have e:Row w (aK ⟨g,0,aJ⟩) (bP b):=by
  intro j v m;exact⟨g,0,rfl,d,by rw[Nat.zero_add,cell_of_row _ _ _ _ _ _ hgb];simpa using m⟩
 have f:l.length=n:=aZ aP (by decide) hown;by_cases h:i=n
 ·subst h;have:=Oq base a i c g l b w hown hn hbase e;rw[gTf (by omega),List.drop_eq_nil_of_le (by omega)];exact this
 ·by_cases o:n+1<=c
  ·exact Ia base a n c g i l b w hown (by omega) hn o hbase hgb hne e
  ·exact Le base a n c g i l b w hown (by omega) hn (by omega) hbase e
end
structure Rg where
 f:Int
 s:Int
deriving DecidableEq
def iI (r:Rg):List Value:=[vI r.f,vI r.s]
theorem jX (r:Rg):(iI r).length=2:=rfl
def Rg.small (r:Rg):Prop:= -4611686018427387904<=r.f/\r.f<=4611686018427387903/\ -4611686018427387904<=r.s/\r.s<=4611686018427387903
theorem qV (r:Rg)(w:World)(h:r.small):
 Calls prog 128 #[aC #[aB aI r.f,aB aI r.s]] w λe w'=>e=aN (aB aI (r.f+r.s))/\Below w.heap.size w w':=by
 obtain⟨a,b,d,c⟩:=h;go_enter func128,ntmps128
 go_wp2
 go_ret
 exact⟨rfl,(gX _ _).alloc (gT _) _⟩
def zJ (r:Rg):Bool:=decide (0<=r.f/\1<=r.s/\r.s<=256/\r.f<=256-r.s)
theorem lS {r:Rg}(h:zJ r=true):0<=r.f/\1<=r.s/\r.s<=256/\r.f<=256-r.s:=of_decide_eq_true h
theorem jO (r:Rg)(w:World)(h:zJ r=true):
 Calls prog 149 #[aC #[aB aI r.f,aB aI r.s]] w λe w'=>e=aN (aB aI 0)/\Below w.heap.size w w':=by
 obtain⟨a,b,d,c⟩:=lS h;clear h;go_enter func149,ntmps149
 go_wp2
 go_ret
 exact⟨rfl,(gX _ _).alloc (gT _) _⟩
theorem vO (r:Rg)(w:World)(h:zJ r=false):
 Calls prog 149 #[aC #[aB aI r.f,aB aI r.s]] w λe w'=>e=aN (aB aI 1)/\Below w.heap.size w w':=by
 obtain⟨f,s⟩:=r;have a:=of_decide_eq_false h;simp only at a ⊢;clear h;by_cases d:0<=f
 ·by_cases b:1<=s
  ·by_cases g:s<=256
   ·have c:256-s<f:=by omega
    clear a;go_enter func149,ntmps149
    go_wp2
    go_ret
    exact⟨rfl,(gX _ _).alloc (gT _) _⟩
   ·clear a;go_enter func149,ntmps149
    go_wp2
    go_ret
    exact⟨rfl,(gX _ _).alloc (gT _) _⟩
  ·clear a;go_enter func149,ntmps149
   go_wp2
   go_ret
   exact⟨rfl,(gX _ _).alloc (gT _) _⟩
 ·clear a;go_enter func149,ntmps149
  go_wp2
  go_ret
  exact⟨rfl,(gX _ _).alloc (gT _) _⟩
def LV:Option Rg->Rg->Bool
 | none,_=>true
 | some p,r=>decide (p.f+p.s<r.f)
def dF:Option Rg->List Rg->Bool
 | _,[]=>true
 | p,r::l=>zJ r&&LV p r&&dF (aK r) l
def dM (l:List Rg):Bool:=decide (l.length<=40)&&dF aJ l
theorem pG:∀(l:List Rg) (p:Option Rg) (k:Nat),dF p l=(dF p (l.take k)&&dF ((l.take k).getLast?.or p) (l.drop k))
 | [],p,k=>by simp[dF]
 | r::l,p,0=>by simp[dF]
 | r::l,p,k+1=>by
  rw[List.take_succ_cons,List.drop_succ_cons,dF,dF,pG l (aK r) k,<- Bool.and_assoc];congr 2;cases h:l.take k with
  | nil=>simp
  | cons x t=>simp[List.getLast?_cons]
def Sj (l:List Rg)(k:Nat)(r:Rg):Bool:=zJ r&&LV (l[k-1]?.bind λp=>if k=0 then aJ else aK p) r
theorem Pg (l:List Rg)(k:Nat)(hk:k<l.length):dF aJ (l.take (k+1))=(dF aJ (l.take k)&&Sj l k l[k]):=by
 rw[List.take_succ_eq_append_getElem hk,pG (l.take k++[l[k]]) aJ k];have a:(l.take k).length=k:=by rw[gTc];omega
 rw[List.take_left' a,List.drop_left' a];congr 1;have e:((l.take k).getLast?.or aJ)=(l[k-1]?.bind λp=>if k=0 then aJ else aK p):=by
  rcases k with _ | k
  ·simp
  ·rw[List.getLast?_eq_getElem?,a];simp
 rw[e];simp[dF,Sj]
theorem Zx (a:Option Addr)(cap:Nat)(l:List Rg)(w:World)(hl:l.length<=9223372036854775807)(hr:Row w a (flat iI l))(hs:∀r∈l,r.small):
 Calls prog 127 #[aA a l.length cap] w λe w'=>e=aN (.bool (dM l))/\Below w.heap.size w w':=by
 by_cases t:l.length<=40
 ·have C:decide (40<(l.length:Int))=false:=gV (by omega);have A:dM l=dF aJ l:=by simp[dM,t]
  have D:=gO A;clear A;go_enter func127,ntmps127
  go_wp2
  go_loopw [3,4,10] (λ_ _ v wr=>∃k:Nat,k<=l.length/\v=aB aI k/\Hid (dF aJ (l.take k)=true)/\Below w.heap.size w wr) (λ_ _ v _=>l.length-(intOf v).toNat)
  case atStart=>exact⟨0,gU _,rfl,by simp[Hid,dF],gX _ _⟩
  case round=>
   obtain⟨k,R,rfl,n,m⟩:=hrel;by_cases x:k<l.length
   ·obtain⟨b,off,rfl,hb,E⟩:=aAw jX (by decide) (hr.below m) x;have i:=E 0 (vI l[k].f) rfl;have p:=E 1 (vI l[k].s) rfl;simp only[vI,Nat.add_zero]at i p;go_wp2_with fail
    have J:(wr.alloc (aO #[aB aI l[k].f,aB aI l[k].s] 133)).cell? ⟨wr.heap.size,0,aJ⟩=aK (aB aI l[k].f):=by simp[go_sem]
    have N:(wr.alloc (aO #[aB aI l[k].f,aB aI l[k].s] 133)).cell? ⟨wr.heap.size,1,aJ⟩=aK (aB aI l[k].s):=by simp[go_sem]
    have O:wr.heap.size<(wr.alloc (aO #[aB aI l[k].f,aB aI l[k].s] 133)).heap.size:=by simp
    have h:Below w.heap.size w (wr.alloc (aO #[aB aI l[k].f,aB aI l[k].s] 133)):=m.alloc m.size _;clear E i p;generalize wr.alloc _=q at*;have g:=Pg l k x;rw[n.out,Bool.true_and]at g;have HS:=gO g;clear g;cases hck:zJ l[k]with
    | false=>
     have c:Hid (dF aJ l=false):=by
      rw[Hid,pG l aJ (k+1),HS.out];simp[Sj,hck]
     refine aU (by kernel_rfl) (by kernel_rfl) ?_
     repeat (first | go_big_quiet_step ((go_at_call 149;exact Calls.bV (vO l[k] _ hck))) | quiet_step ((go_at_call 149;exact Calls.bV (vO l[k] _ hck))))
     refine wpQuiet_nil ?_;rintro _ ⟨wx,rfl⟩;have d:Below w.heap.size w (ext q wx):=gW h (aT q wx);go_wp2
     go_ret
     exact⟨aX (by rw[D.out,c.out]),d⟩
    | true=>
     by_cases K:0<k
     ·have G:decide (0<(k:Int))=true:=gTg (by omega);have j:k-1<l.length:=by omega
      have o:=hs l[k-1] (gL j);obtain⟨I,y,F,P,u⟩:=aAw jX (by decide) (hr.below h) j;obtain⟨rfl,rfl⟩:b=I/\off=y:=by simpa using F
      have i:=u 0 (vI l[k-1].f) rfl;have p:=u 1 (vI l[k-1].s) rfl;simp only[vI,Nat.add_zero]at i p;clear u F;have H:0<=(k:Int)-1:=by omega
      have L:(k:Int)-1<(l.length:Int):=by omega
      have Q:((k:Int)-1).toNat=k-1:=by omega
      have M:IntKind.i64.wrap ((k:Int)-1)=(k:Int)-1:=IntWalk.i64_in _ (by omega);cases hp:decide (l[k].f<=l[k-1].f+l[k-1].s)with
      | true=>
       refine aU (by kernel_rfl) (by kernel_rfl) ?_
       repeat (first | go_big_quiet_step ((first | (go_at_call 149;exact Calls.bV (jO l[k] _ hck)) | (go_at_call 128;exact Calls.bV (qV l[k-1] _ o)))) | quiet_step ((first | (go_at_call 149;exact Calls.bV (jO l[k] _ hck)) | (go_at_call 128;exact Calls.bV (qV l[k-1] _ o)))))
       refine wpQuiet_nil ?_;rintro _ ⟨wx,rfl⟩;have d:Below w.heap.size w (ext q wx):=gW h (aT q wx);have c:Hid (dF aJ l=false):=by
        have B:=of_decide_eq_true hp;rw[Hid,pG l aJ (k+1),HS.out];have:Sj l k l[k]=false:=by
         unfold Sj;rw[hck,Bool.true_and,gJ j,Option.bind_some,if_neg (by omega)];exact gV (by omega)
        rw[this,Bool.false_and]
       go_wp2
       go_ret
       exact⟨aX (by rw[D.out,c.out]),d⟩
      | false=>
       have z:Hid (dF aJ (l.take (k+1))=true):=by
        have B:=of_decide_eq_false hp;rw[Hid,HS.out];unfold Sj;rw[hck,Bool.true_and,gJ j,Option.bind_some,if_neg (by omega)];exact gTg (by omega)
       refine aU (by kernel_rfl) (by kernel_rfl) ?_
       repeat (first | go_big_quiet_step ((first | (go_at_call 149;exact Calls.bV (jO l[k] _ hck)) | (go_at_call 128;exact Calls.bV (qV l[k-1] _ o)))) | quiet_step ((first | (go_at_call 149;exact Calls.bV (jO l[k] _ hck)) | (go_at_call 128;exact Calls.bV (qV l[k-1] _ o)))))
       refine wpQuiet_nil ?_;rintro _ ⟨wx,rfl⟩;have d:Below w.heap.size w (ext q wx):=gW h (aT q wx);go_wp2
       go_roundw
       case rel=>exact⟨k+1,by omega,by go_num,z.out,d⟩
       case measure=>simp[intOf];omega
     ·have G:decide (0<(k:Int))=false:=gV (by omega);have z:Hid (dF aJ (l.take (k+1))=true):=by
       obtain rfl:k=0:=by omega
       rw[Hid,HS.out];unfold Sj;rw[hck,Bool.true_and];cases l[0-1]? <;> rfl
      refine aU (by kernel_rfl) (by kernel_rfl) ?_
      repeat (first | go_big_quiet_step ((go_at_call 149;exact Calls.bV (jO l[k] _ hck))) | quiet_step ((go_at_call 149;exact Calls.bV (jO l[k] _ hck))))
      refine wpQuiet_nil ?_;rintro _ ⟨wx,rfl⟩;have d:Below w.heap.size w (ext q wx):=gW h (aT q wx);go_wp2
      go_roundw
      case rel=>exact⟨k+1,by omega,by go_num,z.out,d⟩
      case measure=>simp[intOf];omega
   ·obtain rfl:k=l.length:=by omega
    have z:Hid (dF aJ l=true):=by rw[gTf (gT _)]at n;exact n
    clear n;go_wp2
    go_ret
    exact⟨aX (by rw[D.out,z.out]),m⟩
 ·have C:decide (40<(l.length:Int))=true:=gTg (by omega);have A:Hid (dM l=false):=by unfold Hid dM;rw[gV t,Bool.false_and]
  go_enter func127,ntmps127
  go_wp2
  go_ret
  exact⟨aX A.out.symm,gX _ _⟩
theorem Zy (a:Option Addr)(n cap:Nat)(l:List Rg)(w:World)(hn:l.length=n)(hl:n<=9223372036854775807)(hr:Row w a (flat iI l))(hs:∀r∈l,r.small)(b:Bool)(hb:dM l=b):
 Calls prog 127 #[aA a n cap] w λe w'=>e=aN (.bool b)/\Below w.heap.size w w':=by
 subst hn;subst hb;exact Zx a cap l w hl hr hs
theorem AU (a1 a2:Option Addr)(n1 n2 c1 c2:Nat)(m r:List Rg)(w:World)(hn1:m.length=n1)(hn2:r.length=n2)(hl1:n1<=9223372036854775807)(hl2:n2<=9223372036854775807)(hr1:Row w a1 (flat iI m))(hr2:Row w a2 (flat iI r))(hs1:∀x∈m,x.small)(hs2:∀x∈r,x.small)(h1:dM m=true)(h2:dM r=true):
 Calls prog 94 #[aC #[aA a1 n1 c1,aA a2 n2 c2]] w λe w'=>e=aN (aB aI 0)/\Below w.heap.size w w':=by
 have b:Below w.heap.size w (w.alloc (aO #[aA a1 n1 c1,aA a2 n2 c2] 27)):=aAq _ _;have d:=hr1.below b;have c:=hr2.below b;clear hr1 hr2;go_enter func94,ntmps94
 go_wp2_with fail
 refine(Zy _ _ _ m _ hn1 hl1 d hs1 true h1).mono ?_;rintro e g ⟨rfl,a⟩;have h:=XM a;go_wp2_with fail
 refine(Zy _ _ _ r _ hn2 hl2 (c.below a) hs2 true h2).mono ?_;rintro e i ⟨rfl,f⟩;go_wp2
 go_ret
 exact⟨rfl,gW b (gW a f)⟩
def vB (b:Bool):Value:= .bool b
def bl (f:Nat->Bool):List Bool:=(List.range 256).map f
theorem kY (f:Nat->Bool):(bl f).length=256:=by simp[bl]
theorem wY {g:Nat->Bool}(h:∀p,p<256->f p=g p):bl f=bl g:=List.map_congr_left λp a=>h p (List.mem_range.1 a)
theorem Sr (f:Nat->Bool)(i:Nat)(h:i<256):(bl f)[i]? =aK (f i):=by simp[bl,h]
theorem Zz (f:Nat->Bool)(i:Nat)(v:Bool):(bl f).set i v=bl (λp=>if p=i then v else f p):=by
 apply List.ext_getElem?;intro j;rw[List.getElem?_set];by_cases a:j<256
 ·rw[Sr _ j a,Sr _ j a,kY];by_cases e:i=j
  ·subst e;simp[a]
  ·rw[if_neg e,if_neg (λh=>e h.symm)]
 ·have c:(bl f)[j]? =aJ:=List.getElem?_eq_none (by rw[kY];omega);have b:(bl (λp=>if p=i then v else f p))[j]? =aJ:=List.getElem?_eq_none (by rw[kY];omega);rw[c,b,kY];split
  ·rw[if_neg (by omega)]
  ·rfl
def qW (r:Rg)(p:Nat):Bool:=decide (r.f<=(p:Int)/\(p:Int)<r.f+r.s)
def dB (l:List Rg)(p:Nat):Bool:=l.any λr=>qW r p
theorem Pj {r:Rg}(h:zJ r=true):r.small:=by
 have:=lS h;unfold Rg.small;omega
theorem Gl:∀(l:List Rg) (p:Option Rg),dF p l=true->∀r∈l,zJ r=true
 | [],_,_,r,hr=>by simp at hr
 | x::l,p,h,r,hr=>by
  simp only[dF,Bool.and_eq_true]at h;rcases gY.1 hr with rfl | hr
  ·exact h.1.1
  ·exact Gl l (aK x) h.2 r hr
theorem nU {l:List Rg}(h:dM l=true):∀r∈l,zJ r=true:=by
 simp only[dM,Bool.and_eq_true]at h;exact Gl l aJ h.2
theorem vG {l:List Rg}(h:dM l=true):∀r∈l,r.small:=λr a=>Pj (nU h r a)
theorem zK {l:List Rg}(h:dM l=true):l.length<=40:=by
 simp only[dM,Bool.and_eq_true,decide_eq_true_eq]at h;exact h.1
theorem Jq:(prog.info? 4).map (λi=>(i.zero,i.size,i.bytes))=aK (aK (.bool false),1,1):=by kernel_rfl
theorem aBq:(List.replicate 256 (Value.bool false))=(bl λ_=>false).map vB:=by
 rw[show(bl λ_=>false)=List.replicate 256 false from by decide+kernel,List.map_replicate];rfl
theorem Gm (l:List Rg)(k:Nat)(hk:k<l.length)(p:Nat):dB (l.take (k+1)) p=(dB (l.take k) p||qW l[k] p):=by
 unfold dB;rw[List.take_succ_eq_append_getElem hk,List.any_append];simp
theorem Jr (a:Option Addr)(n cap:Nat)(l:List Rg)(w:World)(hn:l.length=n)(hr:Row w a (flat iI l))(hok:∀r∈l,zJ r=true)(hl:n<=9223372036854775807):
 Calls prog 95 #[aA a n cap] w λe w'=>∃a' c',e=aN (aA a' 256 c')/\w'.ownsRow w.heap.size 4 1 (aA a' 256 c') 256 ((bl (dB l)).map vB)/\Below w.heap.size w w':=by
 subst hn;obtain⟨i0,hi,hz,x,S⟩:=info_parts Jq;go_enter func95,ntmps95
 go_wp2_with (at_make;refine wpList_make_full _ rfl _ _ 50 rfl w.heap.size 4 i0 (.bool false) 1 underlying50 hi hz x .i64 .i64 _ _ 256 rfl rfl rfl rfl ?q1 ?q2 ?q3 ?_)
 case q1=>rw[S];omega
 case q2=>unfold maxLen;omega
 case q3=>exact gT _
 intro w1 c u;rw[toList_madeCells_one,aBq]at c;have Y:=gO c;have q:=(gX w.heap.size w).grown u (gT _) (by simp);clear c u;go_wp2
 go_loopw [5,6,10] (λ_ _ y wr=>∃k:Nat,k<=l.length/\y=aB aI k/\Hid (wr.ownsRow w.heap.size 4 1 (aA (aK ⟨w.heap.size,0,aJ⟩) 256 256) 256 ((bl (dB (l.take k))).map vB))/\Below w.heap.size w wr) (λ_ _ y _=>l.length-(intOf y).toNat)
 case atStart=>exact⟨0,gU _,rfl,Y,q⟩
 case round=>
  obtain⟨k,hk,rfl,c,q⟩:=hrel;by_cases z:k<l.length
  ·obtain⟨b,off,rfl,hb,X⟩:=aAw jX (by decide) (hr.below q) z;have B:=X 0 (vI l[k].f) rfl;have J:=X 1 (vI l[k].s) rfl;simp only[vI,Nat.add_zero]at B J;have F:=hok l[k] (gL z);obtain⟨Z,g2,g3,g4⟩:=lS F;have D:=Pj F;have t:=Gm l k z;generalize T:l[k]=r at*;clear T hok;obtain⟨f,s⟩:=r;simp only at Z g2 g3 g4 B J;obtain⟨f,rfl⟩:=Int.eq_ofNat_of_zero_le Z;obtain⟨s,rfl⟩:=Int.eq_ofNat_of_zero_le (show(0:Int)<=s by omega);have O:=gO t;clear t;go_wp2
   have H:Below w.heap.size w (wr.alloc (aO #[aB aI (f:Int),aB aI (s:Int)] 133)):=q.alloc q.size _;have W:=aQ wr #[aB aI (f:Int),aB aI (s:Int)] 133;have E:wr.heap.size<(wr.alloc (aO #[aB aI (f:Int),aB aI (s:Int)] 133)).heap.size:=by simp
   have G:=gO (own_below c.out (aAq wr (aO #[aB aI (f:Int),aB aI (s:Int)] 133)) (gT _));have hne:w.heap.size<wr.heap.size:=by
    obtain⟨g,v,e,_,h,_⟩:=fH c.out 0 (by simp[kY]);obtain rfl:w.heap.size=g:=by simpa using e
    exact h
   generalize wr.alloc _=w2 at*;generalize wr.heap.size=R at*;go_loopw [6] (λQ K=>∃i:Nat,f<=i/\i<=f+s/\Q=aB aI i/\Hid (K.ownsRow w.heap.size 4 1 (aA (aK ⟨w.heap.size,0,aJ⟩) 256 256) 256 ((bl (λp=>dB (l.take k) p||(decide (f<=p)&&decide (p<i)))).map vB))/\Below w.heap.size w K/\Hid (∀o,K.cell? ⟨R,o,aJ⟩=(#[aB aI (f:Int),aB aI (s:Int)]:Array Value)[o]?)/\R<K.heap.size) (λQ _=>256-(intOf Q).toNat)
   case atStart=>
    refine⟨f,gT _,by omega,rfl,?_,H,W,E⟩;rw[show bl (λp=>dB (l.take k) p||(decide (f<=p)&&decide (p<f)))=bl (dB (l.take k))from wY λp _=>by
     have:(decide (f<=p)&&decide (p<f))=false:=by
      by_cases h:f<=p
      ·rw[gV (show ¬p<f by omega),Bool.and_false]
      ·rw[gV h,Bool.false_and]
     rw[this,Bool.or_false]]
    exact G
   case round=>
    obtain⟨i,P,hi2,rfl,j,I,L,C⟩:=hrel;have N:=L.out;clear W G Y E H;by_cases KO:i<f+s
    ·go_wp2_with fail
     refine(qV ⟨(f:Int),(s:Int)⟩ _ D).mono ?_;rintro e V ⟨rfl,m⟩;have B4:=aAp N C m;have d:=own_below j.out m (gT _);have A:=gW I m;have M:R<V.heap.size:=gI C m.size;obtain⟨g,v,e,hg,hgs,hcg,hfg⟩:=fH d i (by rw[gTe,kY];omega);obtain rfl:w.heap.size=g:=by simpa using e
     have U:=gO d;clear N d j e;go_wp2
     go_roundw
     case rel=>
      refine⟨i+1,by omega,by omega,by go_num,?_,A.setCell (gT _) _,?_,by simpa using M⟩
      ·have h:=(World.ownsRow.stored U.out i (vB true)).1;rw[<- List.map_set,Zz]at h;rw[show bl (λp=>dB (l.take k) p||(decide (f<=p)&&decide (p<i+1)))=bl (λp=>if p=i then true else dB (l.take k) p||(decide (f<=p)&&decide (p<i)))from wY λp _=>by
        by_cases e:p=i
        ·subst e;rw[if_pos rfl,gTg P,gTg (Nat.lt_succ_self p)];simp
        ·rw[if_neg e,decide_eq_decide.2 (show p<i+1↔p<i by omega)]]
       exact h
      ·intro o;simp[go_sem,B4]
     case measure=>simp[intOf];omega
    ·obtain rfl:i=f+s:=by omega
     go_wp2_with fail
     refine(qV ⟨(f:Int),(s:Int)⟩ _ D).mono ?_;rintro e V ⟨rfl,m⟩;have A:=gW I m;have d:=gO (own_below j.out m (gT _));clear N j;go_wp2
     go_roundw
     case rel=>
      refine⟨k+1,by omega,by go_num,?_,A⟩;rw[show bl (dB (l.take (k+1)))=bl (λp=>dB (l.take k) p||(decide (f<=p)&&decide (p<f+s)))from wY λp _=>by
       rw[O.out p];congr 1;unfold qW;rw[<- Bool.decide_and];exact decide_eq_decide.2 (by simp only;omega)]
      exact d.out
     case measure=>simp[intOf];omega
  ·obtain rfl:k=l.length:=by omega
   rw[gTf (gT _)]at c;go_wp2
   go_ret
   exact⟨_,_,rfl,c.out,q⟩
def lV (l:List Rg)(i:Nat):List Rg:=
 match l.getLast? with
 | some r=>if r.f+r.s=i then l.dropLast++[⟨r.f,r.s+1⟩]else l++[⟨i,1⟩]
 | none=>[⟨i,1⟩]
def iE (f:Nat->Bool):Nat->List Rg
 | 0=>[]
 | i+1=>if f i then lV (iE f i) i else iE f i
def dN (f:Nat->Bool):List Rg:=iE f 256
structure LW (f:Nat->Bool)(i:Nat)(l:List Rg):Prop where
 chain:∀k (h:k+1<l.length),(l[k]'(by omega)).f+(l[k]'(by omega)).s<l[k+1].f
 low:∀r∈l,0<=r.f/\1<=r.s/\r.f+r.s<=i
 mem:∀p,dB l p=(decide (p<i)&&f p)
theorem wZ (l m:List Rg)(p:Nat):dB (l++m) p=(dB l p||dB m p):=by simp[dB]
theorem AV (r:Rg)(p:Nat):dB [r] p=qW r p:=by simp[dB]
theorem Pm {l:List Rg}(h:LW f i l)(hf:f i=true):LW f (i+1) (lV l i):=by
 unfold lV;rcases List.eq_nil_or_concat l with rfl | ⟨L,r,rfl⟩
 ·refine⟨λk d=>by simp at d,λr n=> ?_,λp=> ?_⟩
  ·simp only[List.getLast?_nil,gTa]at n;subst n;simp only;omega
  ·have c:=h.mem p;simp only[dB,List.any_nil]at c;show dB [⟨i,1⟩] p=_;rw[AV];unfold qW;by_cases e:p=i
   ·subst e;simp[hf];omega
   ·rw[gV (by simp only;omega)];by_cases q:p<i
    ·rw[gTg q,Bool.true_and]at c;rw[<- c];simp
    ·rw[gV (by omega)];simp
 ·simp only[List.concat_eq_append,List.getLast?_concat,List.dropLast_concat];rw[List.concat_eq_append]at h;have t:=h.low r (by simp);by_cases e:r.f+r.s=i
  ·rw[if_pos e];refine⟨λk d=> ?_,λx b=> ?_,λp=> ?_⟩
   ·have g:=h.chain k (by simpa using d);simp only[gTb,List.length_cons,List.length_nil]at d;by_cases a:k+1<L.length
    ·rw[List.getElem_append_left (by omega),List.getElem_append_left a]at g ⊢;exact g
    ·have o:∀(x:Rg) (h:k+1<(L++[x]).length),(L++[x])[k+1]=x:=λx h=>by rw[List.getElem_append_right (by omega)];simp
     rw[List.getElem_append_left (by omega),o]at g ⊢;exact g
   ·rw[gZ,gTa]at b;rcases b with b | rfl
    ·have:=h.low x (by simp[b]);omega
    ·simp only;omega
   ·have c:=h.mem p;rw[wZ,AV]at c ⊢;by_cases j:p=i
    ·subst j;rw[show qW ⟨r.f,r.s+1⟩ p=true from gTg (by simp only;omega),hf];simp
    ·rw[show qW ⟨r.f,r.s+1⟩ p=qW r p from decide_eq_decide.2 (by simp only;omega),c,decide_eq_decide.2 (show p<i↔p<i+1 by omega)]
  ·rw[if_neg e];refine⟨λk d=> ?_,λx b=> ?_,λp=> ?_⟩
   ·simp only[gTb,List.length_cons,List.length_nil]at d;by_cases a:k+1<(L++[r]).length
    ·rw[List.getElem_append_left (by omega),List.getElem_append_left a];exact h.chain k a
    ·have m:k=L.length:=by simp only[gTb,List.length_cons,List.length_nil]at a;omega
     subst m;rw[List.getElem_append_left (by simp),List.getElem_append_right (by simp)];simp;omega
   ·rw[gZ,gTa]at b;rcases b with b | rfl
    ·have:=h.low x b;omega
    ·simp only;omega
   ·have c:=h.mem p;rw[wZ,c,AV];unfold qW;by_cases j:p=i
    ·subst j;simp[hf];omega
    ·rw[gV (show ¬((i:Int)<=(p:Int)/\(p:Int)<(i:Int)+1)by omega),Bool.or_false,decide_eq_decide.2 (show p<i↔p<i+1 by omega)]
theorem nV (f:Nat->Bool):∀i,LW f i (iE f i)
 | 0=>⟨λk hk=>by simp[iE]at hk,λr hr=>by simp[iE]at hr,λp=>by simp[iE,dB]⟩
 | i+1=>by
  unfold iE;have ih:=nV f i;cases hf:f i with
  | true=>rw[if_pos rfl];exact Pm ih hf
  | false=>
   rw[if_neg (by simp)];refine⟨ih.chain,λr hr=>by have:=ih.low r hr;omega,λp=> ?_⟩;rw[ih.mem];by_cases e:p=i
   ·subst e;simp[hf]
   ·rw[decide_eq_decide.2 (show p<i↔p<i+1 by omega)]
theorem vP:∀(l:List Rg) (p:Option Rg),(∀r∈l,zJ r=true)->(∀k (h:k+1<l.length),(l[k]'(by omega)).f+(l[k]'(by omega)).s<l[k+1].f)->(∀r q,l.head?=aK r->p=aK q->q.f+q.s<r.f)->dF p l=true
 | [],_,_,_,_=>rfl
 | r::l,p,h1,h2,h3=>by
  unfold dF;rw[h1 r (by simp),Bool.true_and];rw[vP l (aK r) (λx hx=>h1 x (by simp[hx])) (λk hk=>h2 (k+1) (by simpa using hk)) (λx q hx hq=>by
   obtain rfl:r=q:=by simpa using hq
   cases l with
   | nil=>simp at hx
   | cons y l=>
    obtain rfl:y=x:=by simpa using hx
    exact h2 0 (by simp)),Bool.and_true]
  cases p with
  | none=>rfl
  | some q=>exact gTg (h3 r q rfl rfl)
theorem LX (f:Nat->Bool):∀r∈dN f,zJ r=true:=λr a=>by
 have:=(nV f 256).low r a;exact gTg (by omega)
theorem xA (f:Nat->Bool):dF aJ (dN f)=true:=
 vP _ aJ (LX f) (nV f 256).chain (λ_ _ _ h=>by cases h)
theorem LY (f:Nat->Bool)(h:(dN f).length<=40):dM (dN f)=true:=by
 unfold dM;rw[gTg h,xA,Bool.true_and]
theorem Il (f:Nat->Bool)(p:Nat)(hp:p<256):dB (dN f) p=f p:=by
 rw[dN,(nV f 256).mem p,gTg hp,Bool.true_and]
theorem Io (f:Nat->Bool)(p:Nat)(hp:256<=p):dB (dN f) p=false:=by
 rw[dN,(nV f 256).mem p,gV (by omega),Bool.false_and]
theorem DN {g:Nat->Bool}:∀i,(∀p,p<i->f p=g p)->iE f i=iE g i
 | 0,_=>rfl
 | i+1,h=>by
  unfold iE;rw[h i (by omega),DN i λp hp=>h p (by omega)]
theorem vS {g:Nat->Bool}(h:∀p,p<256->f p=g p):dN f=dN g:=DN 256 h
def xB (f:Nat->Bool)(p:Nat):Bool:=f p&& !(decide (0<p)&&f (p-1))
def starts (f:Nat->Bool):Nat->Nat
 | 0=>0
 | i+1=>starts f i+if xB f i then 1 else 0
theorem LZ (l:List Rg)(i:Nat):∃r,(lV l i).getLast?=aK r/\r.f+r.s=(i:Int)+1:=by
 unfold lV;split
 ·split
  ·rename_i r hr e;exact⟨_,List.getLast?_concat ..,by simp only;omega⟩
  ·exact⟨_,List.getLast?_concat ..,rfl⟩
 ·exact⟨_,rfl,rfl⟩
theorem ZA (f:Nat->Bool)(i:Nat):(∃r,(iE f i).getLast?=aK r/\r.f+r.s=(i:Int))↔(0<i/\f (i-1)=true):=by
 rcases i with _ | i
 ·simp[iE]
 ·rw[Nat.add_sub_cancel];unfold iE;cases hf:f i with
  | true=>
   rw[if_pos rfl];obtain⟨r,a,b⟩:=LZ (iE f i) i;exact⟨λ_=>⟨by omega,rfl⟩,λ_=>⟨r,a,by omega⟩⟩
  | false=>
   rw[if_neg (by simp)];constructor
   ·rintro⟨r,a,b⟩;have:=(nV f i).low r (List.mem_of_getLast? a);omega
   ·rintro⟨_,h⟩;cases h
theorem vH (f:Nat->Bool):∀i,(iE f i).length=starts f i
 | 0=>rfl
 | i+1=>by
  have ih:=vH f i;have c:=ZA f i;unfold iE starts xB;cases hf:f i with
  | false=>rw[if_neg (by simp),ih,Bool.false_and];rfl
  | true=>
   rw[if_pos rfl,Bool.true_and];unfold lV;split
   ·rename_i r hr;by_cases e:r.f+r.s=(i:Int)
    ·rw[if_pos e];obtain⟨a,b⟩:=c.1 ⟨r,hr,e⟩;rw[b,gTg a];have d:iE f i≠[]:=by intro h;rw[h]at hr;cases hr
     have:=List.length_pos_iff.2 d;simp[List.length_dropLast];omega
    ·rw[if_neg e];have g:¬(0<i/\f (i-1)=true):=λh=>by
      obtain⟨j,b,k⟩:=c.2 h;rw[hr]at b;obtain rfl:r=j:=by simpa using b
      exact e k
     have hb:(decide (0<i)&&f (i-1))=false:=by
      by_cases a:0<i
      ·rw[gTg a,Bool.true_and];cases h:f (i-1)with
       | false=>rfl
       | true=>exact absurd ⟨a,h⟩ g
      ·rw[gV a,Bool.false_and]
     rw[hb,gTb,ih];rfl
   ·rename_i hr;rw[List.getLast?_eq_none_iff]at hr;rw[hr]at ih c;have g:¬(0<i/\f (i-1)=true):=λh=>by
     obtain⟨j,b,k⟩:=c.2 h;cases b
    have hb:(decide (0<i)&&f (i-1))=false:=by
     by_cases a:0<i
     ·rw[gTg a,Bool.true_and];cases h:f (i-1)with
      | false=>rfl
      | true=>exact absurd ⟨a,h⟩ g
     ·rw[gV a,Bool.false_and]
    rw[hb,<- ih];rfl
def upd (f:Nat->Bool)(a b:Nat)(v:Bool)(p:Nat):Bool:=if a<=p/\p<b then v else f p
theorem Sv (f:Nat->Bool)(a b:Nat)(v:Bool)(hab:a<b)(p:Nat):(if xB (upd f a b v) p then 1 else 0)<=(if xB f p then 1 else 0)+if p=(if v then a else b)then 1 else 0:=by
 have key:xB (upd f a b v) p=true->xB f p=true∨p=(if v then a else b):=by
  intro h;unfold xB at h ⊢;simp only[Bool.and_eq_true,Bool.not_eq_true',Bool.and_eq_false_iff,decide_eq_false_iff_not]at h ⊢;obtain⟨g,c⟩:=h;unfold upd at g c;cases v with
  | true=>
   simp only[if_true]at g c ⊢;by_cases d:a<=p/\p<b
   ·by_cases e:p=a
    ·exact .inr e
    ·exfalso;rw[if_pos (by omega)]at c;rcases c with c | c
     ·omega
     ·cases c
   ·rw[if_neg d]at g;by_cases e:p=b
    ·exfalso;rw[if_pos (by omega)]at c;rcases c with c | c
     ·omega
     ·cases c
    ·left;refine⟨g,?_⟩;by_cases i:0<p
     ·rw[if_neg (by omega)]at c;exact c
     ·exact .inl i
  | false=>
   simp only[Bool.false_eq_true,if_false]at g c ⊢;by_cases d:a<=p/\p<b
   ·rw[if_pos d]at g;cases g
   ·rw[if_neg d]at g;by_cases e:p=b
    ·exact .inr e
    ·left;refine⟨g,?_⟩;by_cases i:0<p
     ·rw[if_neg (by omega)]at c;exact c
     ·exact .inl i
 cases hs:xB (upd f a b v) p with
 | false=>simp
 | true=>
  rcases key hs with h | h
  ·rw[h];simp
  ·rw[if_pos h];simp
theorem Gn (f:Nat->Bool)(a b:Nat)(v:Bool)(hab:a<b):∀n,starts (upd f a b v) n<=starts f n+if(if v then a else b)<n then 1 else 0
 | 0=>by simp[starts]
 | n+1=>by
  have ih:=Gn f a b v hab n;have h:=Sv f a b v hab n;unfold starts;generalize (if v then a else b)=c at*;by_cases i:n=c
  ·subst i;have d:(if n<n then 1 else 0:Nat)=0:=if_neg (by omega);have e:(if n<n+1 then 1 else 0:Nat)=1:=if_pos (by omega);rw[d]at ih;rw[if_pos rfl]at h;rw[e];omega
  ·rw[if_neg i]at h;by_cases g:c<n
   ·have d:(if c<n then 1 else 0:Nat)=1:=if_pos g;have e:(if c<n+1 then 1 else 0:Nat)=1:=if_pos (by omega);rw[d]at ih;rw[e];omega
   ·have d:(if c<n then 1 else 0:Nat)=0:=if_neg g;have e:(if c<n+1 then 1 else 0:Nat)=0:=if_neg (by omega);rw[d]at ih;rw[e];omega
theorem Sz (c:Prop)[Decidable c]:(if c then 1 else 0:Nat)<=1:=by split <;> omega
theorem qX (f:Nat->Bool)(a b:Nat)(v:Bool)(hab:a<b):(dN (upd f a b v)).length<=(dN f).length+1:=by
 unfold dN;rw[vH,vH];have c:=Gn f a b v hab 256;have d:=Sz ((if v then a else b)<256);omega
theorem vJ:∀(l:List Rg) (q:Rg),dF (aK q) l=true->∀r∈l,q.f+q.s<r.f
 | [],_,_,r,hr=>by simp at hr
 | x::l,q,h,r,hr=>by
  simp only[dF,Bool.and_eq_true]at h;have hx:q.f+q.s<x.f:=of_decide_eq_true h.1.2;rcases gY.1 hr with rfl | hr
  ·exact hx
  ·have a:=vJ l x h.2 r hr;have b:=lS h.1.1;omega
theorem kS (l:List Rg)(p:Nat):dB l p=true↔∃r∈l,r.f<=(p:Int)/\(p:Int)<r.f+r.s:=by
 unfold dB qW;simp[List.any_eq_true]
theorem Js:∀(l m:List Rg) (q q':Option Rg),dF q l=true->dF q' m=true->(∀p,dB l p=dB m p)->l=m
 | [],[],_,_,_,_,_=>rfl
 | [],y::m,_,q',_,h2,h=>by
  simp only[dF,Bool.and_eq_true]at h2;have hy:=lS h2.1.1;obtain⟨n,O⟩:=Int.eq_ofNat_of_zero_le hy.1;have:dB (y::m) n=true:=(kS _ _).2 ⟨y,by simp,by omega,by omega⟩;rw[<- h n]at this;simp[dB]at this
 | x::l,[],q,_,h1,_,h=>by
  simp only[dF,Bool.and_eq_true]at h1;have hy:=lS h1.1.1;obtain⟨n,O⟩:=Int.eq_ofNat_of_zero_le hy.1;have:dB (x::l) n=true:=(kS _ _).2 ⟨x,by simp,by omega,by omega⟩;rw[h n]at this;simp[dB]at this
 | x::l,y::m,q,q',h1,h2,h=>by
  simp only[dF,Bool.and_eq_true]at h1 h2;obtain⟨⟨T,_⟩,M⟩:=h1;obtain⟨⟨hy,_⟩,P⟩:=h2;have v:=lS T;have A:=lS hy;have F:=vJ l x M;have E:=vJ m y P;have e:∀(z:Rg) (t:List Rg),1<=z.s->(∀r∈t,z.f+z.s<r.f)->∀p:Nat,dB (z::t) p=true->z.f<=p:=λz t hz D p o=>by
   obtain⟨r,g,w,G⟩:=(kS _ _).1 o;rcases gY.1 g with rfl | g
   ·exact w
   ·have:=D r g;omega
  obtain⟨n,O⟩:=Int.eq_ofNat_of_zero_le v.1;obtain⟨B,S⟩:=Int.eq_ofNat_of_zero_le A.1;have e1:y.f<=x.f:=by
   have:dB (x::l) n=true:=(kS _ _).2 ⟨x,by simp,by omega,by omega⟩;rw[h n]at this;have:=e y m A.2.1 E n this;omega
  have Z:x.f<=y.f:=by
   have:dB (y::m) B=true:=(kS _ _).2 ⟨y,by simp,by omega,by omega⟩;rw[<- h B]at this;have:=e x l v.2.1 F B this;omega
  have u:x.f=y.f:=by omega
  have j:∀(z i:Rg) (t C:List Rg),z.f=i.f->0<=z.f->1<=z.s->(∀r∈t,z.f+z.s<r.f)->(∀p,dB (z::t) p=dB (i::C) p)->¬z.s<i.s:=λz i t C hf W hs D H Q=>by
   obtain⟨k,Y⟩:=Int.eq_ofNat_of_zero_le (show 0<=z.f+z.s by omega);have w:dB (i::C) k=true:=(kS _ _).2 ⟨i,by simp,by omega,by omega⟩;rw[<- H k]at w;obtain⟨r,g,G,L⟩:=(kS _ _).1 w;rcases gY.1 g with rfl | g
   ·omega
   ·have:=D r g;omega
  have N:x.s=y.s:=by
   have g1:=j x y l m u v.1 v.2.1 F h;have X:=j y x m l u.symm A.1 A.2.1 E (λp=>(h p).symm);omega
  have K:x=y:=by
   obtain⟨a,b⟩:=x;obtain⟨c,d⟩:=y;simp only at u N;rw[u,N]
  subst K;congr 1;refine Js l m (aK x) (aK x) M P λp=> ?_
  have o:=h p;by_cases I:x.f<=(p:Int)/\(p:Int)<x.f+x.s
  ·have U:dB l p=false:=by
    rw[Bool.eq_false_iff];intro J;obtain⟨r,g,G,L⟩:=(kS _ _).1 J;have:=F r g;omega
   have V:dB m p=false:=by
    rw[Bool.eq_false_iff];intro J;obtain⟨r,g,G,L⟩:=(kS _ _).1 J;have:=E r g;omega
   rw[U,V]
  ·have R:qW x p=false:=gV I;simp only[dB,List.any_cons]at o ⊢;rw[R,Bool.false_or,Bool.false_or]at o;exact o
theorem Gp {l:List Rg}(h:dM l=true):l=dN (dB l):=by
 have a:=nU h;simp only[dM,Bool.and_eq_true]at h;refine Js l _ aJ aJ h.2 (xA _) λp=> ?_
 by_cases b:p<256
 ·rw[Il _ p b]
 ·rw[Io _ p (by omega),Bool.eq_false_iff];intro c;obtain⟨r,d,e,f⟩:=(kS _ _).1 c;have:=lS (a r d);omega
theorem Ul:(prog.info? 133).map (λi=>(i.zero,i.size,i.bytes))=aK (aK (aC #[aB aI 0,aB aI 0]),2,16):=by kernel_rfl
theorem Ey (w:World)(vs:List Value)(t:TypeId):Row (w.alloc (.cells vs.toArray t)) (aK ⟨w.heap.size,0,aJ⟩) vs:=by
 intro j u a;exact⟨w.heap.size,0,rfl,by simp,by rw[Nat.zero_add,aQ];simpa using a⟩
theorem Jt (f:Nat->Bool):∀i,(iE f i).length<=i
 | 0=>by simp[iE]
 | i+1=>by
  have ih:=Jt f i;unfold iE;split
  ·unfold lV;split
   ·split
    ·have:0<i+1:=by omega
     simp only[gTb,List.length_dropLast,List.length_cons,List.length_nil];omega
    ·simp;omega
   ·simp
  ·omega
theorem Mc {a:Option Addr}(hr:Row w a ((bl f).map vB))(h:k<256):
 ∃b off,a=aK ⟨b,off,aJ⟩/\b<w.heap.size/\w.cell? ⟨b,off+k,aJ⟩=aK (.bool (f k)):=
 hr k (vB (f k)) (by rw[List.getElem?_map,Sr f k h];rfl)
theorem Pn (a:Option Addr)(cap:Nat)(f:Nat->Bool)(w:World)(hr:Row w a ((bl f).map vB)):
 Calls prog 96 #[aA a 256 cap] w λe w'=>∃a' c',e=aN (aA a' (dN f).length c')/\w'.ownsRow w.heap.size 133 2 (aA a' (dN f).length c') (dN f).length (flat iI (dN f))/\Below w.heap.size w w':=by
 go_enter func96,ntmps96
 go_wp2
 go_loopw [3,4,5,6,9] (λs3 _ _ _ R wr=>∃(i:Nat) (F:Option Addr) (x:Nat),i<=256/\R=aB aI i/\s3=aA F (iE f i).length x/\Hid (wr.ownsRow w.heap.size 133 2 (aA F (iE f i).length x) (iE f i).length (flat iI (iE f i)))/\Below w.heap.size w wr) (λ_ _ _ _ R _=>256-(intOf R).toNat)
 case atStart=>exact⟨0,aJ,0,by omega,rfl,rfl,World.ownsRow_nil _ _ _ _,gX _ _⟩
 case round=>
  obtain⟨i,F,x,hi,rfl,rfl,c,l⟩:=hrel;by_cases Q:i<256
  ·obtain⟨b,off,rfl,hb,hc⟩:=Mc (hr.below l) Q;have B:=Jt f i;cases hf:f i with
   | false=>
    have I:iE f (i+1)=iE f i:=by conv=>lhs;unfold iE;rw[hf];simp
    have HS:=gO I;rw[hf]at hc;clear I hf;go_wp2
    go_roundw
    case rel=>exact⟨i+1,F,x,by omega,by go_num,by rw[HS.out],by rw[HS.out];exact c,l⟩
    case measure=>simp[intOf];omega
   | true=>
    have I:iE f (i+1)=lV (iE f i) i:=by conv=>lhs;unfold iE;rw[hf];simp
    have HS:=gO I;rw[hf]at hc;clear I hf;generalize Z:iE f i=L at*;have q:LW f i L:=by rw[<- Z];exact nV f i
    clear Z;rcases List.eq_nil_or_concat L with rfl | ⟨M,r,rfl⟩
    ·have T:=gO (own_below c.out (aAq wr (aO #[aB aI (i:Int),aB aI 1] 133)) (gT _));have HN:=gO (Ey wr (iI ⟨i,1⟩) 133);have O:=l.size;have X:Below w.heap.size w (wr.alloc (aO #[aB aI (i:Int),aB aI 1] 133)):=gW l (aAq _ _);go_wp2_with (at_builtin;refine iV rfl _ _ 25 rfl w.heap.size 133 (aC #[aB aI 0,aB aI 0]) 2 16 underlying25 Ul rfl (by decide) (by decide) _ _ _ _ rfl T.out (aK ⟨wr.heap.size,0,aJ⟩) 1 1 (iI ⟨i,1⟩) rfl rfl HN.out (by simp[iI,vI,Value.oneCell']) (by simp) (by simp;omega) ?_)
     intro a' c' w2 n d;have U:=below_grown X T.out d (gT _) (by simp;omega);have S:=gO n;clear n T HN d;go_wp2
     go_roundw
     case rel=>exact⟨i+1,a',c',by omega,by go_num,by rw[HS.out];rfl,by rw[HS.out];exact S.out,U⟩
     case measure=>simp[intOf];omega
    ·simp only[List.concat_eq_append,gTb,List.length_cons,List.length_nil,Nat.zero_add]at c B HS q ⊢;have Y:=q.low r (by simp);have C:r.small:=by unfold Rg.small;omega
     obtain⟨g,rfl,hg,u,k,D⟩:=EP jX (by decide) c.out (j:=M.length) (by simp);have J:(M++[r])[M.length]'(by simp)=r:=by simp
     rw[J]at k;have z:=k 0 (vI r.f) rfl;have K:=k 1 (vI r.s) rfl;have W:=D (M.length*2+1);simp only[vI,Nat.add_zero]at z K;have hlm:M.length<=255:=by omega
     have O:=l.size;clear k D J q;cases he:(r.f+r.s == (i:Int))with
     | true=>
      have H:lV (M++[r]) i=M++[⟨r.f,r.s+1⟩]:=by
       unfold lV;rw[List.getLast?_concat];simp only[List.dropLast_concat];rw[if_pos (eq_of_beq he)]
      rw[H]at HS;clear H;go_wp2_with (go_at_call 128;refine(qV r _ C).mono ?_;rintro e y ⟨rfl,m⟩;have aOA:=(m.cell (p:=⟨g,M.length*2,aJ⟩) u).trans z;have aOB:=(m.cell (p:=⟨g,M.length*2+1,aJ⟩) u).trans K;have aOC:=(m.frozen (p:=⟨g,M.length*2+1,aJ⟩) u).trans W)
      have h:=(World.ownsRow.stored (own_below c.out m (gT _)) (M.length*2+1) (vI (r.s+1))).1;have t:(flat iI (M++[r])).set (M.length*2+1) (vI (r.s+1))=flat iI (M++[⟨r.f,r.s+1⟩]):=by
       rw[aS,aS,List.set_append_right _ _ (by rw[flat_length jX];omega),flat_length jX,Nat.add_sub_cancel_left];rfl
      rw[t]at h;have HH:=gO h;clear h t;go_roundw
      case rel=>
       refine⟨i+1,aK ⟨g,0,aJ⟩,x,by omega,by go_num,by rw[HS.out];simp,?_,(gW l m).setCell hg _⟩;rw[HS.out];have A:=HH.out;simp only[gTb,List.length_cons,List.length_nil,Nat.zero_add]at A ⊢;exact A
      case measure=>simp[intOf];omega
     | false=>
      have H:lV (M++[r]) i=(M++[r])++[⟨i,1⟩]:=by
       unfold lV;rw[List.getLast?_concat];simp only;rw[if_neg (by rw[beq_eq_false_iff_ne]at he;exact he)]
      rw[H]at HS;clear H;go_wp2_with fail
      refine(qV r _ C).mono ?_;rintro e y ⟨rfl,m⟩;have v:=gO (own_below (own_below c.out m (gT _)) (aAq y (aO #[aB aI (i:Int),aB aI 1] 133)) (gT _));have E:=gO (Ey y (iI ⟨i,1⟩) 133);have G:=gW l m;have qG:=G.size;have N:Below w.heap.size w (y.alloc (aO #[aB aI (i:Int),aB aI 1] 133)):=gW G (aAq _ _);go_wp2_with (at_builtin;refine iV rfl _ _ 25 rfl w.heap.size 133 (aC #[aB aI 0,aB aI 0]) 2 16 underlying25 Ul rfl (by decide) (by decide) _ _ _ _ rfl v.out (aK ⟨y.heap.size,0,aJ⟩) 1 1 (iI ⟨i,1⟩) rfl rfl E.out (by simp[iI,vI,Value.oneCell']) (by omega) (by simp;omega) ?_)
      intro a' c' w5 o d;have V:=below_grown N v.out d (gT _) (by simp;omega);have P:=gO o;clear o v E d;go_wp2
      go_roundw
      case rel=>
       refine⟨i+1,a',c',by omega,by go_num,by rw[HS.out];simp,?_,V⟩;rw[HS.out];have A:=P.out;rw[aS];simp only[gTb,List.length_cons,List.length_nil,Nat.zero_add]at A ⊢;exact A
      case measure=>simp[intOf];omega
  ·obtain rfl:i=256:=by omega
   go_wp2
   go_ret
   exact⟨F,x,rfl,c.out,l⟩
structure Bt where
 m:List Rg
 r:List Rg
def Bt.ok (b:Bt):Bool:=dM b.m&&dM b.r
structure vZ (w:World)(a1 a2:Option Addr)(n1 n2:Nat)(b:Bt):Prop where
 l1:b.m.length=n1
 l2:b.r.length=n2
 r1:Row w a1 (flat iI b.m)
 r2:Row w a2 (flat iI b.r)
theorem vZ.below {b:Bt}(h:vZ w a1 a2 n1 n2 b)(hb:Below w.heap.size w w'):vZ w' a1 a2 n1 n2 b:=⟨h.l1,h.l2,h.r1.below hb,h.r2.below hb⟩
structure tN (w:World)(base:Nat)(a1 a2:Option Addr)(n1 n2 c1 c2:Nat)(b:Bt):Prop where
 l1:b.m.length=n1
 l2:b.r.length=n2
 o1:w.ownsRow base 133 2 (aA a1 n1 c1) n1 (flat iI b.m)
 o2:w.ownsRow base 133 2 (aA a2 n2 c2) n2 (flat iI b.r)
theorem tN.at {base:Nat}{b:Bt}(h:tN w base a1 a2 n1 n2 c1 c2 b):vZ w a1 a2 n1 n2 b:=⟨h.l1,h.l2,aV h.o1,aV h.o2⟩
theorem tN.below {base:Nat}{b:Bt}(h:tN w base a1 a2 n1 n2 c1 c2 b)(hb:Below w.heap.size w w'):tN w' base a1 a2 n1 n2 c1 c2 b:=⟨h.l1,h.l2,own_below h.o1 hb (gT _),own_below h.o2 hb (gT _)⟩
theorem tN.base {base base':Nat}{b:Bt}(h:tN w base a1 a2 n1 n2 c1 c2 b)(hb:base'<=base):tN w base' a1 a2 n1 n2 c1 c2 b:=⟨h.l1,h.l2,own_base h.o1 hb,own_base h.o2 hb⟩
theorem tN.set {base:Nat}{b:Bt}(h:tN w base a1 a2 n1 n2 c1 c2 b)(hg:(aA a1 n1 c1).ownBlock≠aK g/\(aA a2 n2 c2).ownBlock≠aK g)(i:Nat)(u:Value):tN (w.setCell ⟨g,i,aJ⟩ u) base a1 a2 n1 n2 c1 c2 b:=⟨h.l1,h.l2,bC h.o1 hg.1 u,bC h.o2 hg.2 u⟩
theorem tN.ne {base:Nat}{b:Bt}(h:tN w base a1 a2 n1 n2 c1 c2 b)(hg:g<base∨w.heap.size<=g):(aA a1 n1 c1).ownBlock≠aK g/\(aA a2 n2 c2).ownBlock≠aK g:=⟨own_ne h.o1 hg,own_ne h.o2 hg⟩
theorem oK (h:z.ok)(hd:∀q,p<=q->q<p+n->¬aAA z.l q)(hp:z.f<=p)(hn:p+n<=z.e):∀i,i<=n->(eX z p i).ok/\(eX z p i).f=z.f/\(eX z p i).e=z.e/\∀q,aAA (eX z p i).l q↔(aAA z.l q∨(p<=q/\q<p+i))
 | 0,_=>⟨h,rfl,rfl,λq=>by
  show aAA z.l q↔_;constructor
  ·exact .inl
  ·rintro(h | h)
   ·exact h
   ·omega⟩
 | i+1,hi=>by
  obtain⟨g1,g2,g3,g4⟩:=oK h hd hp hn i (by omega);have a:cZ (eX z p i).f (eX z p i).e (p+i) 0:=by rw[g2,g3];exact⟨by omega,by omega,by omega,by simp[Nat.mod_one]⟩
  have c:∀x∈(eX z p i).l,apartB (p+i) 0 x:=λx g=>dH λq d b=>by
   unfold inB at d;simp only[Nat.pow_zero]at d;rcases(g4 q).1 ⟨x,g,b⟩with h1 | h1
   ·exact hd q (by omega) (by omega) h1
   ·omega
  obtain⟨k1,k2⟩:=Zn.uO g1 a c;refine⟨k1,g2,g3,λq=> ?_⟩;show aAA ((eX z p i).back (p+i) 0).l q↔_;rw[k2,g4];unfold inB;simp only[Nat.pow_zero,or_assoc];constructor
  ·rintro(h | h | h)
   ·exact .inl h
   ·exact .inr (by omega)
   ·exact .inr (by omega)
  ·rintro(h | h)
   ·exact .inl h
   ·exact .inr (by omega)
theorem SE (h:z.ok)(hd:∀q,p<=q->q<p+n->¬aAA z.l q)(hp:z.f<=p)(hn:p+n<=z.e)(hi:i<n):cZ (eX z p i).f (eX z p i).e (p+i) 0/\∀x∈(eX z p i).l,apartB (p+i) 0 x:=by
 obtain⟨k,d,j,c⟩:=oK h hd hp hn i (by omega);refine⟨by rw[d,j];exact⟨by omega,by omega,by omega,by simp[Nat.mod_one]⟩,λx g=>dH λq b a=> ?_⟩;unfold inB at b;simp only[Nat.pow_zero]at b;rcases(c q).1 ⟨x,g,a⟩with h1 | h1
 ·exact hd q (by omega) (by omega) h1
 ·omega
section
open Go.RowKit Go.WideShapes Go.ChangeShapes
theorem Ee {α:Type}(p:Nat->α->Prop):∀n,(∀i,i<n->∃x,p i x)->∃l:List α,l.length=n/\∀i (h:i<l.length),p i l[i]
 | 0,_=>⟨[],rfl,λi h=>by simp at h⟩
 | n+1,h=>by
  obtain⟨l,hl,hp⟩:=Ee p n λi b=>h i (by omega)
  obtain⟨x,c⟩:=h n (by omega);refine⟨l++[x],by simp[hl],λi b=> ?_⟩;by_cases a:i<l.length
  ·rw[List.getElem_append_left a];exact hp i a
  ·rw[List.getElem_append_right (by omega)];have:i=n:=by simp at b;omega
   subst this;simpa using c
theorem EF {z:Int}(h:(Lit.int .i64 z).wf=true):in64 z:=bounds_i64 h
theorem JH {H:Type}{enc:TypeId×Value->H}{W:World}{base fuel:Nat}{sp:Nat->Bool}{held:Bool}{cs:List Value}{x:DataW H×List MemPlace}
 (h:DataW.trod enc prog W base sp held fuel 139 cs=aK x):∃r:Rw,r.wf/\cs=rF r:=by
 obtain⟨A,n,rfl,rfl,z,C,i⟩:=DataW.trod_struct underlying139 h;have l:cs.length=4:=by rw[z];kernel_rfl
 have m:prog.cellsOf 3=1:=by kernel_rfl
 have w:A.length=4:=C;have o:=i 0 _ rfl;have p:=i 1 _ rfl;have q:=i 2 _ rfl;have s:=i 3 _ rfl;rw[gJ (by omega)]at o p q s;obtain⟨y,f,_,B⟩:=DataW.trod_int underlying3 o;obtain⟨D,j,_,t⟩:=DataW.trod_int underlying3 p;obtain⟨F,g,_,E⟩:=DataW.trod_int underlying3 q;obtain⟨v,k,_,u⟩:=DataW.trod_int underlying3 s;change (cs.drop 0).take (prog.cellsOf 3)=_ at f;change (cs.drop 1).take (prog.cellsOf 3)=_ at j;change (cs.drop 2).take (prog.cellsOf 3)=_ at g;change (cs.drop 3).take (prog.cellsOf 3)=_ at k;rw[m]at f j g k;refine⟨⟨y,D,F,v⟩,⟨EF B,EF t,EF E,EF u⟩,?_⟩;obtain _ | ⟨a,_ | ⟨b,_ | ⟨c,_ | ⟨d,_ | ⟨e,cs⟩⟩⟩⟩⟩:=cs;all_goals simp at l
 simp at f j g k;simp[rF,vI,f,j,g,k]
theorem xQ {H:Type}{enc:TypeId×Value->H}{W:World}{a:Option Addr}{n c:Nat}{d:DataW H}{p:List MemPlace}
 (h:DataW.Trod enc prog W 0 (λ_=>true) true 22 (aA a n c) d p):∃zs:List Rw,zs.length=n/\Row W a (flat rF zs)/\n<=c/\c<=maxLen/\∀r∈zs,r.wf:=by
 obtain⟨I,R⟩:=h;have B:prog.cellsOf 139=4:=by kernel_rfl
 rcases DataW.trod_slice underlying22 R with ⟨f,_⟩ | ⟨u,len,P,z,K,m,_,f,_,_,G,J,E,g,_,_⟩
 ·simp only[Value.cells,List.cons.injEq,Value.slice.injEq,and_true]at f;obtain⟨rfl,rfl,rfl⟩:=f;exact⟨[],rfl,Row.nil _ _,gT _,gU _,by simp⟩
 ·simp only[Value.cells,List.cons.injEq,Value.slice.injEq,and_true]at f;obtain⟨rfl,rfl,rfl⟩:=f;rw[B]at g;by_cases D:n=0
  ·subst D;exact⟨[],rfl,Row.nil _ _,G,J,by simp⟩
  have e:u.spot=aJ:=by
   have q:=g 0 (by omega);rw[gJ (by omega),Option.bind_eq_some_iff]at q;obtain⟨O,y,C⟩:=q;obtain⟨r,w,rfl⟩:=JH C;have s:=(World.cells?_some y).2.2 0 (by omega);rw[show u.add (0*4)=u from by rw[Nat.zero_mul];unfold Addr.add;rw[if_pos rfl]]at s;exact Xa s
  obtain⟨b,off,spot⟩:=u;simp only at e;subst e;have t:∀i,i<n->∃r:Rw,r.wf/\∀j v,(rF r)[j]? =aK v->W.cell? ⟨b,off+(i*4+j),aJ⟩=aK v:=by
   intro i l;have q:=g i l;rw[gJ (by omega),Option.bind_eq_some_iff]at q;obtain⟨O,y,C⟩:=q;obtain⟨r,w,rfl⟩:=JH C;refine⟨r,w,λj v o=> ?_⟩;have N:=World.cells?_some y;have A:j<4:=by have:=(gK.1 o).1;simpa[rF]using this
   have s:=N.2.2 j A;rw[Addr.add_lit,Addr.add_lit,Nat.add_assoc]at s;rw[s];exact o
  obtain⟨zs,Q,F⟩:=Ee _ n t;refine⟨zs,Q,?_,G,J,λr w=>by
   obtain⟨i,l,rfl⟩:=List.getElem_of_mem w;exact(F i l).1⟩
  intro j v o;have M:j<zs.length*4:=by have:=(gK.1 o).1;rwa [flat_length vN]at this
  have L:=Nat.div_add_mod j 4;have x:j%4<4:=Nat.mod_lt _ (by omega);have l:j/4<zs.length:=by omega
  rw[show j=j/4*4+j%4 by omega,flat_get vN zs (j/4) l (j%4) x]at o;have k:=(F (j/4) l).2 (j%4) v o;rw[show j/4*4+j%4=j by omega]at k;exact⟨b,off,rfl,World.block_lt_of_cell? W _ k,k⟩
end
end Go.Proofs.YtjaogfhcnmjkiaaGreatDoor
