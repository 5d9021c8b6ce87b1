/- joined. -/
import Derived.Test.YtjaogfhcnmjkiaaGreatDoorAB1
set_option linter.all false
set_option maxRecDepth 100000
set_option maxHeartbeats 0
namespace Go.Proofs.YtjaogfhcnmjkiaaGreatDoor
open Go.RowKit
open Go.Value renaming slice->aA,int->aB,agg->aC,string->aF,tuple->aG,pointer->aH,ownBlock->gTh
open Go.IntKind renaming i64->aI
open Option renaming none->aJ,some->aK
open Go.Ending renaming returned->aN
open Go.Obj renaming cells->aO
open Go.Proofs.Tryz
variable {a bs e g i k o order p:Nat}{f:Nat->Bool}{l m:List Bk}{row:Option Nat}{w:World}{xs:List Value}{z:Zn}
theorem JG {f:Nat}(hf:f%16=0)(he:e%16=0)(hm:sQ f e m):∀(o a:Nat),dM f e a o->(∀p,inB a o p->fJ m p)->∃c∈m,c.a<=a/\a+2^o<=c.fin
 | 0,a,hb,hc=>by
  obtain⟨c,hcm,hp⟩:=hc a ⟨gT _,by simp⟩;unfold inB at hp;exact⟨c,hcm,hp.1,by unfold Bk.fin;simp only[Nat.pow_zero];omega⟩
 | o+1,a,hb,hc=>by
  obtain⟨M,K,Q⟩:=Bo he hb;have S:2^(o+1)=2^o+2^o:=by rw[Nat.pow_succ];omega
  obtain⟨c,hcm,I,s⟩:=JG hf he hm o a M (λp hp=>hc p (by unfold inB at*;omega));obtain⟨d,l,W,C⟩:=JG hf he hm o (a+2^o) K (λp hp=>hc p (by unfold inB at*;omega));have u:=hm.fit c hcm;have E:=hm.fit d l;have N:o+1<=4:=hb.1;have g:a%2^(o+1)=0:=hb.2.2.2;by_cases r:o+1<=c.o
  ·refine⟨c,hcm,I,?_⟩;have L:=u.1.2.2.2;have w:=u.1.1;unfold Bk.fin at*;have v:2^(o+1) ∣ c.a:=Nat.dvd_trans (Nat.pow_dvd_pow 2 r) (Nat.dvd_of_mod_eq_zero L);have G:2^(o+1) ∣ 2^c.o:=Nat.pow_dvd_pow 2 r;obtain⟨x,B⟩:=v;obtain⟨y,P⟩:=G;obtain⟨z,A⟩:=Nat.dvd_of_mod_eq_zero g;rw[B,P,<- Nat.mul_add]at s ⊢;rw[A]at I s ⊢;have b:=dN o;have:z<x+y:=by
    rcases Nat.lt_or_ge z (x+y)with h | h
    ·exact h
    ·have:=Nat.mul_le_mul_left (2^(o+1)) h;omega
   have:=Nat.mul_le_mul_left (2^(o+1)) (Nat.succ_le_of_lt this);rw[Nat.mul_succ]at this;exact this
  ·exfalso;have n:c.o=o:=by
    have w:2^o<=2^c.o:=by unfold Bk.fin at s;omega
    have:=(Nat.pow_le_pow_iff_right (show 1<2 by omega)).1 w;omega
   have k:c.a=a:=by unfold Bk.fin at s;rw[n]at s;omega
   have J:¬(d.a<=a):=by
    intro V;obtain⟨i,R,rfl⟩:=List.getElem_of_mem hcm;obtain⟨j,U,rfl⟩:=List.getElem_of_mem l;have b:=dN o;by_cases q:i=j
    ·subst q;unfold Bk.fin at*;rw[n,k]at*;omega
    ·have:=xP hm.sep R U q;unfold Bk.fin at*;rw[n,k]at*;omega
   have t:d.a=a+2^o/\d.o=o:=by
    have D:d.o<=o∨o<d.o:=by omega
    have w:2^o<=2^d.o:=by unfold Bk.fin at C;omega
    have X:=(Nat.pow_le_pow_iff_right (show 1<2 by omega)).1 w;have H:d.o=o:=by
     rcases D with h | h
     ·omega
     ·exfalso;have O:=E.1.2.2.2;obtain⟨x,B⟩:=Nat.dvd_trans (Nat.pow_dvd_pow 2 (show o+1<=d.o by omega)) (Nat.dvd_of_mod_eq_zero O);obtain⟨z,A⟩:=Nat.dvd_of_mod_eq_zero g;have b:=dN o;have T:z<x:=by
       rcases Nat.lt_or_ge z x with h | h
       ·exact h
       ·have:=Nat.mul_le_mul_left (2^(o+1)) h;rw[<- B,<- A]at this;omega
      have F:=Nat.mul_le_mul_left (2^(o+1)) (Nat.succ_le_of_lt T);rw[Nat.mul_succ,<- B,<- A]at F;omega
    refine⟨?_,H⟩;unfold Bk.fin at C;rw[H]at C;omega
   exact hm.nob d l c hcm (by omega) (by omega) (by rw[t.1,t.2,Q,k])
def iZ (b:Bk):Nat×Nat:=(b.a,b.o)
theorem MW {f:Nat}(hf:f%16=0)(he:e%16=0)(hl:sQ f e l)(hm:sQ f e m)(hc:∀p,fJ l p↔fJ m p):∀b∈l,∃c∈m,iZ c=iZ b:=by
 intro b hb;have n:=(hl.fit b hb).1;obtain⟨c,h,D,E⟩:=JG hf he hm b.o b.a n (λp q=>(hc p).1 ⟨b,hb,q⟩);have r:=(hm.fit c h).1;obtain⟨d,s,C,z⟩:=JG hf he hl c.o c.a r (λp q=>(hc p).2 ⟨c,h,q⟩);have t:=dN b.o;have w:=dN d.o;refine⟨c,h,?_⟩;obtain⟨i,v,rfl⟩:=List.getElem_of_mem hb;obtain⟨j,x,rfl⟩:=List.getElem_of_mem s;have g:i=j:=by
  by_cases g:i=j
  ·exact g
  ·exfalso;have:=xP hl.sep v x g;unfold Bk.fin at*;omega
 subst g;have y:c.a=l[i].a:=by omega
 unfold Bk.fin at*;have k:2^c.o=2^l[i].o:=by omega
 have u:c.o=l[i].o:=by
  have B:=(Nat.pow_le_pow_iff_right (show 1<2 by omega)).1 (Nat.le_of_eq k);have A:=(Nat.pow_le_pow_iff_right (show 1<2 by omega)).1 (Nat.le_of_eq k.symm);omega
 unfold iZ;rw[y,u]
theorem CY:∀(l m:List Bk),rW l->rW m->(∀b∈l,∃c∈m,iZ c=iZ b)->(∀b∈m,∃c∈l,iZ c=iZ b)->l.map iZ=m.map iZ
 | [],[],_,_,_,_=>rfl
 | [],y::m,_,_,_,h=>by obtain⟨c,hc,_⟩:=h y (by simp);simp at hc
 | x::l,[],_,_,h,_=>by obtain⟨c,hc,_⟩:=h x (by simp);simp at hc
 | x::l,y::m,hl,hm,h1,h2=>by
  have k:=List.pairwise_cons.1 hl;have i:=List.pairwise_cons.1 hm;have f:iZ x=iZ y:=by
   obtain⟨c,hc,j⟩:=h1 x (by simp);obtain⟨d,n,g⟩:=h2 y (by simp);rw[gY]at hc n;rcases hc with rfl | hc
   ·exact j.symm
   ·rcases n with rfl | n
    ·exact g
    ·have q:=i.1 c hc;have p:=k.1 d n;unfold iZ at j g;simp only[Prod.mk.injEq]at j g;omega
  have o:x.a=y.a:=by unfold iZ at f;simp only[Prod.mk.injEq]at f;exact f.1
  rw[List.map_cons,List.map_cons,f,CY l m k.2 i.2 (λb hb=> ?_) (λb hb=> ?_)]
  ·obtain⟨c,hc,e⟩:=h1 b (by simp[hb]);rw[gY]at hc;rcases hc with rfl | hc
   ·exfalso;have:=k.1 b hb;unfold iZ at e;simp only[Prod.mk.injEq]at e;omega
   ·exact⟨c,hc,e⟩
  ·obtain⟨c,hc,e⟩:=h2 b (by simp[hb]);rw[gY]at hc;rcases hc with rfl | hc
   ·exfalso;have:=i.1 b hb;unfold iZ at e;simp only[Prod.mk.injEq]at e;omega
   ·exact⟨c,hc,e⟩
theorem Dc {f:Nat}(hf:f%16=0)(he:e%16=0)(hl:sQ f e l)(hm:sQ f e m)(hc:∀p,fJ l p↔fJ m p):l.map iZ=m.map iZ:=
 CY l m hl.rise hm.rise (MW hf he hl hm hc) (MW hf he hm hl (λp=>(hc p).symm))
def hit (b:Bk)(p:Nat):Nat:=if b.a<=p/\p<b.fin then 1 else 0
def cnt:List Bk->Nat->Nat
 | [],_=>0
 | b::l,p=>hit b p+cnt l p
theorem dD (l m:List Bk)(p:Nat):cnt (l++m) p=cnt l p+cnt m p:=by
 induction l with
 | nil=>simp[cnt]
 | cons b l ih=>rw[List.cons_append,cnt,cnt,ih];omega
theorem kR {b:Bk}:hit b p=1↔inB b.a b.o p:=by
 unfold hit inB Bk.fin;split <;> simp_all
theorem JH (b:Bk)(p:Nat):hit b p<=1:=by unfold hit;split <;> omega
theorem eG {l:List Bk}{p:Nat}:0<cnt l p↔fJ l p:=by
 induction l with
 | nil=>simp[cnt,fJ]
 | cons b l ih=>
  rw[cnt];constructor
  ·intro h;by_cases hb:hit b p=1
   ·exact⟨b,by simp,kR.1 hb⟩
   ·have e:=JH b p;obtain⟨c,a,d⟩:=ih.1 (by omega);exact⟨c,by simp[a],d⟩
  ·rintro⟨c,a,d⟩;rw[gY]at a;rcases a with rfl | a
   ·have:=kR.2 d;omega
   ·have:=ih.2 ⟨c,a,d⟩;omega
theorem oJ (hd:l.Pairwise λb c=>apartB b.a b.o c)(p:Nat):cnt l p<=1:=by
 induction l with
 | nil=>simp[cnt]
 | cons b l ih=>
  obtain⟨f,e⟩:=List.pairwise_cons.1 hd;rw[cnt];have j:=JH b p;have i:=ih e;by_cases hb:hit b p=1
  ·have k:¬0<cnt l p:=λh=>by
    obtain⟨c,g,d⟩:=eG.1 h;exact kW (f c g) p (kR.1 hb) d
   omega
  ·omega
theorem oK (h:l.Pairwise λx y=>x.fin<=y.a):l.Pairwise λb c=>apartB b.a b.o c:=h.imp fun{x y} h=>by unfold apartB Bk.fin at*;omega
theorem Xu {z':Zn}{at_:Nat}(hz:z.ok)(ht:Taken z order z' at_)(t:Nat)(p:Nat):cnt z'.l p+hit ⟨at_,order,t⟩ p=cnt z.l p:=by
 have q:=oJ (oK hz.2.sep) p;have n:=oJ (oK ht.ok.2.sep) p;have f:=ht.Xq p;have o:=JH ⟨at_,order,t⟩ p;have i:hit ⟨at_,order,t⟩ p=1↔inB at_ order p:=kR;have g:=@eG z.l p;have d:=@eG z'.l p;by_cases b:inB at_ order p
 ·have k:=i.2 b;have j:¬0<cnt z'.l p:=λh=>by
   obtain⟨c,a,e⟩:=d.1 h;exact kW (ht.apart c a) p b e
  have m:=g.2 (f.1 (.inr b));omega
 ·have k:hit ⟨at_,order,t⟩ p=0:=by
   have:¬hit ⟨at_,order,t⟩ p=1:=λh=>b (i.1 h)
   omega
  by_cases a:fJ z.l p
  ·have j:=g.2 a;rcases f.2 a with h | h
   ·have:=d.2 h;omega
   ·exact absurd h b
  ·have j:¬0<cnt z.l p:=λh=>a (g.1 h)
   have m:¬0<cnt z'.l p:=λh=>a (f.1 (.inl (d.1 h)))
   omega
theorem Xv (hz:z.ok)(hb:dM z.f z.e a o)(hd:∀x∈z.l,apartB a o x)(t p:Nat):cnt (z.back a o).l p=cnt z.l p+hit ⟨a,o,t⟩ p:=by
 obtain⟨u,r⟩:=Zn.uM hz hb hd;have y:=oJ (oK hz.2.sep) p;have v:=oJ (oK u.2.sep) p;have j:=r p;have w:=JH ⟨a,o,t⟩ p;have n:hit ⟨a,o,t⟩ p=1↔inB a o p:=kR;have k:=@eG z.l p;have g:=@eG (z.back a o).l p;by_cases d:inB a o p
 ·have s:=n.2 d;have q:¬0<cnt z.l p:=λh=>by
   obtain⟨c,b,i⟩:=k.1 h;exact kW (hd c b) p d i
  have m:=g.2 (j.2 (.inr d));omega
 ·have s:hit ⟨a,o,t⟩ p=0:=by
   have:¬hit ⟨a,o,t⟩ p=1:=λh=>d (n.1 h)
   omega
  by_cases b:fJ z.l p
  ·have q:=k.2 b;have m:=g.2 (j.2 (.inl b));omega
  ·have q:¬0<cnt z.l p:=λh=>b (k.1 h)
   have m:¬0<cnt (z.back a o).l p:=λh=>by
    rcases j.1 (g.1 h)with h' | h'
    ·exact b h'
    ·exact d h'
   omega
def sumTo (f:Nat->Nat):Nat->Nat
 | 0=>0
 | n+1=>sumTo f n+f n
theorem Ir (f g:Nat->Nat):∀n,sumTo (λp=>f p+g p) n=sumTo f n+sumTo g n
 | 0=>rfl
 | n+1=>by rw[sumTo,sumTo,sumTo,Ir f g n];omega
theorem Iu (b:Bk):∀n,sumTo (hit b) n=min n b.fin-min n b.a
 | 0=>by simp[sumTo]
 | n+1=>by
  rw[sumTo,Iu b n];unfold hit;have h1:b.a<b.fin:=by unfold Bk.fin;have:=dN b.o;omega
  split <;> omega
def szB:List Bk->Nat
 | []=>0
 | b::l=>2^b.o+szB l
theorem Uy {N:Nat}(h:∀b∈l,b.fin<=N):sumTo (cnt l) N=szB l:=by
 induction l with
 | nil=>
  have:∀n,sumTo (cnt []) n=0:=λn=>by
   induction n with
   | zero=>rfl
   | succ n ih=>rw[sumTo,ih];rfl
  rw[this];rfl
 | cons b l ih=>
  have d:cnt (b::l)=λp=>hit b p+cnt l p:=rfl
  rw[d,Ir,Iu,ih (λc e=>h c (by simp[e])),szB];have a:=h b (by simp);unfold Bk.fin at*;generalize 2^b.o=q at*;rw[Nat.min_eq_right a,Nat.min_eq_right (by omega)];omega
structure Ls where
 c:Nat
 z:Nat
 t:Nat
 p:List Nat
deriving DecidableEq
def Ls.key (l:Ls):Nat:=(l.c*2+l.z)*3+l.t
def mG (l:List Nat):List Bk:=l.map λp=>⟨p,0,0⟩
def lsB:List Ls->List Bk
 | []=>[]
 | l::r=>mG l.p++lsB r
structure Hp where
 z0:Zn
 z1:Zn
 m0:Nat
 m1:Nat
 aP:Nat
 ls:List Ls
 live:List Bk
deriving DecidableEq
def Hp.all (h:Hp):List Bk:=h.z0.l++(h.z1.l++(lsB h.ls++h.live))
def aI1 (aP split:Nat)(l:Ls):Prop:=l.c<aP/\l.z<2/\l.t<3/\0<l.p.length/\l.p.length<=8/\∀p∈l.p,p<256/\(p<split↔l.z=0)
structure fG (h:Hp):Prop where
 o0:h.z0.ok
 o1:h.z1.ok
 f0:h.z0.f=0
 e0:h.z0.e=h.z1.f
 e1:h.z1.e=256
 m0:h.m0<=256
 m1:h.m1<=256
 cp:1<=h.aP/\h.aP<=4
 lk:h.ls.Pairwise λa b=>a.key<b.key
 lr:∀l∈h.ls,aI1 h.aP h.z0.e l
 lv:∀b∈h.live,dM 0 256 b.a b.o/\b.t<3
 vs:h.live.Pairwise λx y=>x.a<y.a
 one:∀p,cnt h.all p<=1
def Hp.zone (h:Hp)(i:Nat):Zn:=if i=0 then h.z0 else h.z1
def Hp.kL (h:Hp)(i:Nat)(z:Zn):Hp:=if i=0 then{h with z0:=z}else{h with z1:=z}
def Hp.jX (h:Hp)(p:Nat):Nat:=if p<h.z0.e then 0 else 1
def Hp.min (h:Hp)(i:Nat):Nat:=if i=0 then h.m0 else h.m1
def Hp.jY (h:Hp)(a o:Nat):Hp:=h.kL (h.jX a) ((h.zone (h.jX a)).back a o)
def Hp.held (h:Hp)(i:Nat)(urgent low:Bool):Nat:=(if urgent then h.min i/2 else h.min i)+(if i=0/\low=false then(h.z1.e-h.z1.f)/32 else 0)
def Hp.nH (h:Hp)(i order t hd:Nat):Option (Hp×Nat):=if szB (h.zone i).l<hd+2^order then aJ else match (h.zone i).take order t with
 | some (z',a)=>aK (h.kL i z',a)
 | none=>aJ
def kS (ls:List Ls)(k:Nat):Nat:=(ls.takeWhile λl=>decide (l.key<k)).length
def sW (ls:List Ls)(k:Nat):Bool:=match ls[kS ls k]? with
 | some l=>decide (l.key=k)
 | none=>false
def cO (ls:List Ls)(l:Ls)(p:Nat):List Ls:=match ls[kS ls l.key]? with
 | some x=>if x.key=l.key then ls.set (kS ls l.key) {x with p:=x.p++[p]}else ls.take (kS ls l.key)++{l with p:=[p]}::ls.drop (kS ls l.key)
 | none=>ls.take (kS ls l.key)++{l with p:=[p]}::ls.drop (kS ls l.key)
def Hp.fill (h:Hp)(l:Ls)(hd:Nat):Nat->Hp
 | 0=>h
 | n+1=>match h.nH l.z 0 l.t hd with
  | some (h',q)=>Hp.fill {h' with ls:=cO h'.ls l q} l hd n
  | none=>h
def Hp.single (h:Hp)(l:Ls)(hd:Nat):Option (Hp×Nat):=match h.ls[kS h.ls l.key]? with
 | some x=>if x.key=l.key then aK ({h with ls:=if x.p.length=1 then h.ls.eraseIdx (kS h.ls l.key)else h.ls.set (kS h.ls l.key) {x with p:=x.p.dropLast}},x.p.getLastD 0)else(h.nH l.z 0 l.t hd).map λr=>(r.1.fill l hd 3,r.2)
 | none=>(h.nH l.z 0 l.t hd).map λr=>(r.1.fill l hd 3,r.2)
def Hp.ask (h:Hp)(cpu i order t:Nat)(urgent low:Bool):Option (Hp×Nat):=if order=0 then h.single ⟨cpu,i,t,[]⟩ (h.held i urgent low)else h.nH i order t (h.held i urgent low)
def Hp.attempt (h:Hp)(cpu order t:Nat)(urgent low:Bool):Option (Hp×Nat):=
 if low then h.ask cpu 0 order t urgent low else match h.ask cpu 1 order t urgent low with
  | some r=>aK r
  | none=>h.ask cpu 0 order t urgent low
def bK (h:Hp):List Nat->Hp
 | []=>h
 | p::l=>bK (h.jY p 0) l
def dI (h:Hp):List Ls->Hp
 | []=>h
 | l::r=>dI (bK h l.p) r
def Hp.drain (h:Hp):Hp:={dI h h.ls with ls:=[]}
def Hp.alloc (h:Hp)(cpu order t:Nat)(urgent low:Bool):Option (Hp×Nat):=
 match (match h.attempt cpu order t urgent low with
  | some r=>aK r
  | none=>h.drain.attempt cpu order t urgent low)with
 | some (h',a)=>aK ({h' with live:=dG h'.live ⟨a,order,t⟩},a)
 | none=>aJ
def Hp.give (h:Hp)(cpu p:Nat):Hp:=
 let l:Ls:=⟨cpu,h.jX p,(h.zone (h.jX p)).y.getD ((p-(h.zone (h.jX p)).f)/8) 0,[]⟩
 let h1:={h with ls:=cO h.ls l p}
 match h1.ls[kS h1.ls l.key]? with
 | some x=>if 8<x.p.length then{bK h1 (x.p.take 4)with ls:=h1.ls.set (kS h1.ls l.key) {x with p:=x.p.drop 4}}else h1
 | none=>h1
def Hp.fZ (h:Hp)(cpu i:Nat)(b:Bk):Hp:=
 let h1:={h with live:=h.live.eraseIdx i}
 if 0<b.o then h1.jY b.a b.o else h1.give cpu b.a
theorem dO (h:Hp)(p:Nat):cnt h.all p=cnt h.z0.l p+cnt h.z1.l p+cnt (lsB h.ls) p+cnt h.live p:=by
 unfold Hp.all;rw[dD,dD,dD];omega
theorem EF (h:Hp)(i p:Nat):cnt (h.zone i).l p<=cnt h.all p:=by
 rw[dO];unfold Hp.zone;split <;> omega
theorem MX (h:Hp)(i:Nat)(z:Zn)(p:Nat):cnt (h.kL i z).all p+cnt (h.zone i).l p=cnt h.all p+cnt z.l p:=by
 rw[dO,dO];unfold Hp.kL Hp.zone;split <;> simp only <;> omega
theorem fG.zone {h:Hp}(hk:fG h)(i:Nat):(h.zone i).ok:=by
 unfold Hp.zone;split
 ·exact hk.o0
 ·exact hk.o1
theorem fG.kL {h:Hp}(hk:fG h)(i:Nat)(hz:z.ok)(hf:z.f=(h.zone i).f)(he:z.e=(h.zone i).e)(h1:∀p,cnt (h.kL i z).all p<=1):fG (h.kL i z):=by
 by_cases b:i=0
 ·subst b;have e:h.kL 0 z={h with z0:=z}:=if_pos rfl;have a:h.zone 0=h.z0:=if_pos rfl;rw[a]at hf he;rw[e]at h1 ⊢;exact⟨hz,hk.o1,hf.trans hk.f0,he.trans hk.e0,hk.e1,hk.m0,hk.m1,hk.cp,hk.lk,λl c=>by simp only;rw[he];exact hk.lr l c,hk.lv,hk.vs,h1⟩
 ·have e:h.kL i z={h with z1:=z}:=if_neg b;have a:h.zone i=h.z1:=if_neg b;rw[a]at hf he;rw[e]at h1 ⊢;exact⟨hk.o0,hz,hk.f0,hk.e0.trans hf.symm,he.trans hk.e1,hk.m0,hk.m1,hk.cp,hk.lk,hk.lr,hk.lv,hk.vs,h1⟩
structure Same (h g:Hp):Prop where
 m0:g.m0=h.m0
 m1:g.m1=h.m1
 aP:g.aP=h.aP
 split:g.z0.e=h.z0.e
theorem Same.refl (h:Hp):Same h h:=⟨rfl,rfl,rfl,rfl⟩
theorem Same.trans {a b c:Hp}(h1:Same a b)(h2:Same b c):Same a c:=⟨h2.m0.trans h1.m0,h2.m1.trans h1.m1,h2.aP.trans h1.aP,h2.split.trans h1.split⟩
theorem Iw {h:Hp}(he:z.e=(h.zone i).e):Same h (h.kL i z)/\(h.kL i z).ls=h.ls/\(h.kL i z).live=h.live:=by
 unfold Hp.kL;unfold Hp.zone at he;split
 ·rename_i hi;rw[if_pos hi]at he;exact⟨⟨rfl,rfl,rfl,he⟩,rfl,rfl⟩
 ·exact⟨⟨rfl,rfl,rfl,rfl⟩,rfl,rfl⟩
theorem fG.fits {h:Hp}(hk:fG h)(hb:dM 0 256 a o):dM (h.zone (h.jX a)).f (h.zone (h.jX a)).e a o:=by
 obtain⟨d,i,g,c⟩:=hb;unfold Hp.jX;by_cases b:a<h.z0.e
 ·rw[if_pos b];have e:h.zone 0=h.z0:=if_pos rfl;rw[e,hk.f0];exact⟨d,by omega,b,c⟩
 ·rw[if_neg b];have e:h.zone 1=h.z1:=if_neg (by omega);rw[e,hk.e1,<- hk.e0];exact⟨d,by omega,g,c⟩
theorem fG.jY {h:Hp}(hk:fG h)(hb:dM 0 256 a o)(hd:∀p,cnt h.all p+hit ⟨a,o,0⟩ p<=1):
 fG (h.jY a o)/\(∀p,cnt (h.jY a o).all p=cnt h.all p+hit ⟨a,o,0⟩ p)/\Same h (h.jY a o)/\(h.jY a o).ls=h.ls/\(h.jY a o).live=h.live:=by
 have f:=hk.zone (h.jX a);have b:=hk.fits hb;have c:∀x∈(h.zone (h.jX a)).l,apartB a o x:=λx n=>dU λp m k=>by
  have j:=hd p;have g:=EF h (h.jX a) p;have r:=eG.2 (show fJ (h.zone (h.jX a)).l p from⟨x,n,k⟩);have q:hit ⟨a,o,0⟩ p=1:=kR.2 m;omega
 have e:∀p,cnt (h.jY a o).all p=cnt h.all p+hit ⟨a,o,0⟩ p:=λp=>by
  have j:=MX h (h.jX a) ((h.zone (h.jX a)).back a o) p;have g:=Xv f b c 0 p;unfold Hp.jY;omega
 have d:=Iw (h:=h) (i:=h.jX a) (z:=(h.zone (h.jX a)).back a o) rfl;exact⟨hk.kL _ (Zn.uM f b c).1 rfl rfl (λp=>by have:=e p;unfold Hp.jY at this;rw[this];exact hd p),e,d.1,d.2.1,d.2.2⟩
theorem Xw (hz:z.ok):szB z.l<=256:=by
 have c:∀b∈z.l,b.fin<=256:=λb hb=>by
  have a:=(hz.2.fit b hb).1;have f:=vY hz.1.e16 a;have e:=hz.1.e2;unfold Bk.fin;omega
 rw[<- Uy c];have d:∀n,sumTo (cnt z.l) n<=n:=λn=>by
  induction n with
  | zero=>exact gT _
  | succ n ih=>
   have:=oJ (oK hz.2.sep) n;rw[sumTo];omega
 exact d 256
structure Uz (h:Hp)(order:Nat)(h':Hp)(a:Nat):Prop where
 ok:fG h'
 fit:dM 0 256 a order
 c:∀t p,cnt h'.all p+hit ⟨a,order,t⟩ p=cnt h.all p
 same:Same h h'
 live:h'.live=h.live
theorem fG.nH {h h':Hp}(hk:fG h){t hd:Nat}(ho:order<=4)(ht:t<3)(hi:i<2)(he:h.nH i order t hd=aK (h',a)):
 Uz h order h' a/\h'.ls=h.ls/\(a<h.z0.e↔i=0):=by
 unfold Hp.nH at he;split at he
 ·cases he
 ·cases hz:(h.zone i).take order t with
  | none=>rw[hz]at he;cases he
  | some r=>
   obtain⟨n,q⟩:=r;rw[hz]at he;simp only[Option.some.injEq,Prod.mk.injEq]at he;obtain⟨rfl,rfl⟩:=he;have A:=hk.zone i;have w:∃b∈(h.zone i).l,order<=b.o:=Classical.byContradiction λB=>by
    rw[Zn.Iq B]at hz;cases hz
   obtain⟨C,D,s,g⟩:=Zn.Ip A ho ht w;rw[hz]at s;simp only[Option.some.injEq,Prod.mk.injEq]at s;obtain⟨rfl,rfl⟩:=s;have x:∀t p,cnt (h.kL i n).all p+hit ⟨q,order,t⟩ p=cnt h.all p:=λt p=>by
    have u:=MX h i n p;have k:=Xu A g t p;omega
   have v:=Iw (h:=h) (i:=i) (z:=n) g.e;have j:=g.fit;have c:dM 0 256 q order/\(q<h.z0.e↔i=0):=by
    obtain⟨u,k,m,y⟩:=j;unfold Hp.zone at k m;by_cases d:i=0
    ·rw[if_pos d]at k m;have:=hk.o0.1.e2;exact⟨⟨u,by omega,by omega,y⟩,λ_=>d,λ_=>m⟩
    ·rw[if_neg d]at k m;have:=hk.e1;have:=hk.e0;exact⟨⟨u,by omega,by omega,y⟩,λh=>by omega,λh=>absurd h d⟩
   exact⟨⟨hk.kL i g.ok g.f g.e (λp=>by have:=x 0 p;have:=hk.one p;omega),c.1,x,v.1,v.2.2⟩,v.2.1,c.2⟩
theorem Qp (l m:List Ls):lsB (l++m)=lsB l++lsB m:=by
 induction l with
 | nil=>rfl
 | cons x l ih=>rw[List.cons_append,lsB,lsB,ih,List.append_assoc]
theorem jZ (l m:List Nat)(q:Nat):cnt (mG (l++m)) q=cnt (mG l) q+cnt (mG m) q:=by
 unfold mG;rw[List.map_append,dD]
theorem Dh (p q:Nat):cnt (mG [p]) q=hit ⟨p,0,0⟩ q:=rfl
theorem lF (l m:List Ls)(q:Nat):cnt (lsB (l++m)) q=cnt (lsB l) q+cnt (lsB m) q:=by rw[Qp,dD]
theorem jH (x:Ls)(l:List Ls)(q:Nat):cnt (lsB (x::l)) q=cnt (mG x.p) q+cnt (lsB l) q:=by rw[lsB,dD]
theorem EG {l:List Ls}(hi:i<l.length):l=l.take i++l[i]::l.drop (i+1):=by
 rw[<- List.drop_eq_getElem_cons hi,List.take_append_drop]
theorem wB {l:List Ls}(hi:i<l.length)(x:Ls)(q:Nat):cnt (lsB (l.set i x)) q+cnt (mG l[i].p) q=cnt (lsB l) q+cnt (mG x.p) q:=by
 have a:l.set i x=l.take i++x::l.drop (i+1):=by rw[List.set_eq_take_append_cons_drop,if_pos hi]
 conv=>rhs;rw[EG hi]
 rw[a,lF,lF,jH,jH];omega
theorem yM {l:List Ls}(hi:i<l.length)(q:Nat):cnt (lsB (l.eraseIdx i)) q+cnt (mG l[i].p) q=cnt (lsB l) q:=by
 conv=>rhs;rw[EG hi]
 rw[List.eraseIdx_eq_take_drop_succ,lF,lF,jH];omega
theorem Di (l:List Ls)(i:Nat)(x:Ls)(q:Nat):cnt (lsB (l.take i++x::l.drop i)) q=cnt (lsB l) q+cnt (mG x.p) q:=by
 conv=>rhs;rw[<- List.take_append_drop i l]
 rw[lF,lF,jH];omega
theorem cnt_push (ls:List Ls)(l:Ls)(p q:Nat):cnt (lsB (cO ls l p)) q=cnt (lsB ls) q+hit ⟨p,0,0⟩ q:=by
 unfold cO;split
 ·rename_i x hx;obtain⟨b,a⟩:=gK.1 hx;split
  ·have h:=wB b {x with p:=x.p++[p]} q;rw[a]at h;simp only[jZ,Dh]at h;omega
  ·rw[Di];rfl
 ·rw[Di];rfl
def mJ (ls:List Ls):Prop:=ls.Pairwise λa b=>a.key<b.key
theorem Xx (ls:List Ls)(k:Nat):kS ls k<=ls.length:=by
 unfold kS;exact(List.takeWhile_prefix _).length_le
theorem Bv {ls:List Ls}:∀x∈ls.take (kS ls k),x.key<k:=by
 intro x a;unfold kS at a;rw[Ef]at a;exact of_decide_eq_true (Qm (p:=λl:Ls=>decide (l.key<k)) a)
theorem xQ {ls:List Ls}(h:mJ ls):∀x∈ls.drop (kS ls k),k<=x.key:=by
 intro x a;unfold kS at a;rw[drop_tw]at a
 induction ls with
 | nil=>simp at a
 | cons y ls ih=>
  obtain⟨d,c⟩:=List.pairwise_cons.1 h;by_cases b:y.key<k
  ·rw[List.dropWhile_cons_of_pos (by simpa using b)]at a;exact ih c a
  ·rw[List.dropWhile_cons_of_neg (by simpa using b),gY]at a;rcases a with rfl | a
   ·omega
   ·have:=d x a;omega
theorem EH {ls:List Ls}(h:mJ ls)(hi:i<ls.length){x:Ls}(hx:x.key=ls[i].key):mJ (ls.set i x):=by
 unfold mJ at*;rw[gN]at*;intro a b f hb d;rw[List.length_set]at f hb;rw[List.getElem_set,List.getElem_set];have c:=h a b f hb d;by_cases e:i=a
 ·subst e;rw[if_pos rfl,if_neg (by omega),hx];exact c
 ·rw[if_neg e];by_cases g:i=b
  ·subst g;rw[if_pos rfl,hx];exact c
  ·rw[if_neg g];exact c
theorem MZ {ls:List Ls}(h:mJ ls){x:Ls}(hn:∀y∈ls,y.key≠x.key):mJ (ls.take (kS ls x.key)++x::ls.drop (kS ls x.key)):=by
 unfold mJ;rw[List.pairwise_append];refine⟨h.sublist (List.take_sublist _ _),List.pairwise_cons.2 ⟨λy c=> ?_,h.sublist (List.drop_sublist _ _)⟩,λa e b hb=> ?_⟩
 ·have d:=xQ h y c;have f:=hn y (List.mem_of_mem_drop c);omega
 ·have d:=Bv a e;rw[gY]at hb;rcases hb with rfl | hb
  ·exact d
  ·have f:=xQ h b hb;omega
theorem SK {ls:List Ls}(h:mJ ls){x:Ls}(hx:x∈ls):ls[kS ls x.key]? =aK x:=by
 have c:x∈ls.drop (kS ls x.key):=by
  have:=hx;rw[<- List.take_append_drop (kS ls x.key) ls,gZ]at this;rcases this with d | d
  ·have:=Bv x d;omega
  ·exact d
 cases hd:ls.drop (kS ls x.key)with
 | nil=>rw[hd]at c;simp at c
 | cons y r=>
  have e:ls[kS ls x.key]? =aK y:=by
   have:=congrArg (·[0]?) hd;simpa[List.getElem?_drop]using this
  rw[hd,gY]at c;rcases c with rfl | c
  ·exact e
  ·have d:(ls.drop (kS ls x.key)).Pairwise λa b=>a.key<b.key:=h.sublist (List.drop_sublist _ _)
   rw[hd]at d;have f:=(List.pairwise_cons.1 d).1 x c;have g:=xQ h (k:=x.key) y (by rw[hd];simp);omega
theorem qM {ls:List Ls}(h:mJ ls)(hm:∀y,ls[kS ls k]? =aK y->y.key≠k):∀y∈ls,y.key≠k:=by
 intro y a e;subst e;exact hm y (SK h a) rfl
theorem key_inj {a b:Ls}(ha:a.z<2/\a.t<3)(hb:b.z<2/\b.t<3)(h:a.key=b.key):a.c=b.c/\a.z=b.z/\a.t=b.t:=by
 unfold Ls.key at h;omega
def SL (N aP split:Nat)(l:Ls):Prop:=l.c<aP/\l.z<2/\l.t<3/\0<l.p.length/\l.p.length<=N/\∀p∈l.p,p<256/\(p<split↔l.z=0)
theorem nI {ls:List Ls}(h:mJ ls)(l:Ls)(p:Nat):mJ (cO ls l p):=by
 unfold cO;split
 ·rename_i x hx;obtain⟨c,b⟩:=gK.1 hx;split
  ·exact EH h c (by rw[b];rfl)
  ·rename_i hne;exact MZ (x:={l with p:=[p]}) h (qM h λy a=>by
    change ls[kS ls l.key]? =aK y at a;rw[hx]at a;obtain rfl:=gP a;exact hne)
 ·rename_i hx;exact MZ (x:={l with p:=[p]}) h (qM h λy a=>by
   change ls[kS ls l.key]? =aK y at a;rw[hx]at a;cases a)
theorem JI {ls:List Ls}{N M aP split:Nat}(h:∀x∈ls,SL N aP split x){l:Ls}(hl:l.c<aP/\l.z<2/\l.t<3)(hp:p<256/\(p<split↔l.z=0))(hNM:N<=M)(hM:1<=M)(hx:∀x∈ls,x.key=l.key->x.p.length+1<=M):∀x∈cO ls l p,SL M aP split x:=by
 have e:∀x∈ls,SL M aP split x:=λx hx=>by
  obtain⟨k,f,g,n,o,i⟩:=h x hx;exact⟨k,f,g,n,by omega,i⟩
 have new:SL M aP split {l with p:=[p]}:=⟨hl.1,hl.2.1,hl.2.2,by simp,by simpa using hM,λq b=>by
  obtain rfl:q=p:=by simpa using b
  exact hp⟩
 intro y a;unfold cO at a;split at a
 ·rename_i x hxe;obtain⟨r,j⟩:=gK.1 hxe;have d:x∈ls:=by rw[<- j];exact gL r
  split at a
  ·rename_i hk;rcases List.mem_or_eq_of_mem_set a with a | rfl
   ·exact e y a
   ·obtain⟨k,f,g,n,o,i⟩:=h x d;have m:=key_inj ⟨f,g⟩ ⟨hl.2.1,hl.2.2⟩ hk;refine⟨k,f,g,by simp,by have:=hx x d hk;simpa using this,λq b=> ?_⟩;simp only[gZ,gTa]at b;rcases b with b | rfl
    ·exact i q b
    ·exact⟨hp.1,by rw[m.2.1];exact hp.2⟩
  ·rw[gZ,gY]at a;rcases a with a | rfl | a
   ·exact e y (List.mem_of_mem_take a)
   ·exact new
   ·exact e y (List.mem_of_mem_drop a)
 ·rw[gZ,gY]at a;rcases a with a | rfl | a
  ·exact e y (List.mem_of_mem_take a)
  ·exact new
  ·exact e y (List.mem_of_mem_drop a)
theorem JU {P:Program}{w:World}(t ty:TypeId)(base:Nat)(e:TypeId)(z:Value)(size bytes:Nat)(ht:P.underlying t=aK (.slice e))(hinfo:(P.info? e).map (λi=>(i.zero,i.size,i.bytes))=aK (aK z,size,bytes))(hsz:0<size)
 (as_:Option Addr) (n cs:Nat) (xs:List Value) (hown:w.ownsRow base e size (aA as_ n cs) n xs)
 (ax:Option Addr) (m cx:Nat) (news:List Value) (hl:news.length=m*size) (hnews:Row w ax news) (h1:∀u∈news,u.oneCell'=true)
 (hroom:n+m<=cs):
 ∃w',(Builtin.append_ #[t,t] ty #[aA as_ n cs,aA ax m cx]).run P w= .ok (aA as_ (n+m) cs) w'/\w'.ownsRow base e size (aA as_ (n+m) cs) (n+m) (xs++news)/\w.grownBy w' (gTh (aA as_ n cs)):=by
 obtain⟨i,x,K,f,E⟩:=info_parts hinfo;subst f;have d:(xs++news).length=(n+m)*i.size:=by rw[gTb,hown.1,hl,Nat.add_mul]
 rcases Nat.eq_zero_or_pos m with rfl | I
 ·obtain rfl:news=[]:=List.eq_nil_of_length_eq_zero (by simpa using hl);refine⟨w,?_,by simpa using hown,⟨rfl,rfl,rfl,gT _,λ_ _ _=>rfl⟩⟩;have L:=nR (P:=P) i.size 0 ax 0 cx [] (by simp) (Row.nil w ax);cases as_ with
  | none=>
   rcases hown.2 with ⟨c,rfl⟩ | ⟨g,o,a,c,_⟩
   ·obtain rfl:cs=0:=by simp at c;exact c
    cases ax <;> simp[Builtin.append_,run_underlying ht,sizeOf,typeInfo,x,Builtin.lenOf,Builtin.firstCells,loadCells,loadCellsFrom]
   ·simp at c
  | some p=>
   have H:n<=cs:=by omega
   cases ax <;> simp[Builtin.append_,run_underlying ht,sizeOf,typeInfo,x,Builtin.lenOf,Builtin.firstCells,loadCells,loadCellsFrom,H,storeCells]
 ·have A:news≠[]:=by
   intro e;subst e;have:=Nat.mul_pos I hsz;simp at hl;omega
  obtain⟨p,rfl⟩:∃p,ax=aK p:=by
   cases news with
   | nil=>exact absurd rfl A
   | cons u l=>obtain⟨b,off,y,_⟩:=hnews 0 u rfl;exact⟨_,y⟩
  rcases hown.2 with ⟨c,rfl⟩ | ⟨g,o,a,c,s,B,F,r,v,h⟩
  ·obtain⟨rfl,rfl⟩:as_=aJ/\cs=0:=by simp at c;exact c
   omega
  ·obtain⟨rfl,rfl⟩:as_=aK ⟨g,0,aJ⟩/\cs=o:=by simpa using c
   have q:n*i.size+news.length<=a.size:=by rw[hl,v,<- Nat.add_mul];exact Nat.mul_le_mul_right _ hroom
   have G:=run_append_room (P:=P) w t ty e i ht x g n cs a B p m cx news hl (λj u J=>by
    obtain⟨b,off,y,_,D⟩:=hnews j u J;obtain rfl:p=⟨b,off,aJ⟩:=by simpa using y
    rw[Addr.add_lit];exact D) h1 hroom q
   refine⟨_,G,⟨d,.inr ⟨g,cs,_,rfl,s,setRow_heap w g a _ e _ B,hroom,r,?_,?_⟩⟩,⟨rfl,rfl,rfl,by simp[World.setRow],λk _ C=>setRow_other w g k _ (λe=>C (by simp[gTh,e]))⟩⟩
   ·simp only[List.size_toArray,gTb,gTc,gTd,Array.length_toList];omega
   ·rw[h,<- d];exact List.take_left
theorem kE {w':World}{base:Nat}{e:TypeId}{size:Nat}{v:Value}{n:Nat}(h:w.ownsRow base e size v n xs)(hg:w.grownBy w' row)(hne:∀k,v.ownBlock=aK k->row≠aK k):w'.ownsRow base e size v n xs:=by
 refine⟨h.1,?_⟩;rcases h.2 with i | ⟨g,d,c,f,j,a,b⟩
 ·exact .inl i
 ·refine .inr ⟨g,d,c,f,j,?_,b⟩;rw[hg.block g (Array.getElem?_eq_some_iff.1 a).1 (λe=>hne g (by rw[f];rfl) e.symm)];exact a
theorem Ei {P:Program}(sT ty:TypeId)(e:TypeId)(hu:P.underlying sT=aK (.slice e))(size:Nat)(z:Value)(hz:∀w,(zeroValue e).run P w= .ok z w)(hzs:z.cells.size=size)(hz1:∀u∈z.cells,u.oneCell'=true)
 (base n k c:Nat) (cc:Nat) (ao:Option Addr) (xs:List Value) (hown:w.ownsRow base e size (aA ao n c) n xs) (hfit:n+k<=c):
 ∃w',(Builtin.clear_ #[sT] ty #[aA (dJ ao n c size) k cc]).run P w= .ok (aG #[]) w'/\w'.ownsRow base e size (aA ao n c) n xs/\w.grownBy w' (gTh (aA ao n c)):=by
 rcases Nat.eq_zero_or_pos k with rfl | s
 ·refine⟨w,?_,hown,⟨rfl,rfl,rfl,gT _,λ_ _ _=>rfl⟩⟩;cases dJ ao n c size <;> simp[Builtin.clear_,run_underlying hu]
 ·rcases hown.2 with ⟨d,C⟩ | ⟨g,q,a,d,hb,r,B,o,v,t⟩
  ·obtain⟨rfl,rfl⟩:ao=aJ/\c=0:=by simp at d;exact⟨d.1,d.2.2⟩
   omega
  ·obtain⟨rfl,rfl⟩:ao=aK ⟨g,0,aJ⟩/\c=q:=by simpa using d
   have hcut:dJ (aK ⟨g,0,aJ⟩) n c size=aK ⟨g,n*size,aJ⟩:=by
    unfold dJ;rw[if_neg (by omega)];simp[Addr.add_lit]
   have h:(Builtin.zeroCells z.cells k).toList.length=k*size:=by rw[<- hzs];simp[Builtin.zeroCells]
   have j:∀u∈(Builtin.zeroCells z.cells k).toList,u.oneCell'=true:=by
    intro u hu;simp only[Builtin.zeroCells,Array.toList_map,List.mem_map,Array.toList_range,List.mem_range]at hu;obtain⟨i,A,rfl⟩:=hu;have f:0<z.cells.size:=by
     rcases Nat.eq_zero_or_pos z.cells.size with p | p
     ·rw[p,Nat.mul_zero]at A;omega
     ·exact p
    have l:i%z.cells.size<z.cells.size:=Nat.mod_lt _ f;rw[getElem!_pos z.cells (i%z.cells.size) l];exact hz1 _ (Array.getElem_mem _)
   have y:n*size+k*size<=c*size:=by rw[<- Nat.add_mul];exact Nat.mul_le_mul_right _ hfit
   have b:=run_storeCells_at P g (n*size) e (Builtin.zeroCells z.cells k).toList 0 a w r (by rw[h];omega) j;refine⟨w.setRow g (a.toList.take (n*size)++(Builtin.zeroCells z.cells k).toList++a.toList.drop (n*size+(Builtin.zeroCells z.cells k).toList.length)).toArray,?_,?_,?_⟩
   ·obtain⟨m,rfl⟩:∃m,k=m+1:=⟨k-1,by omega⟩
    simp only[Nat.add_zero]at b;simp[Builtin.clear_,run_underlying hu,hz,hcut,b]
   ·refine⟨hown.1,.inr ⟨g,c,_,rfl,hb,setRow_heap w g a _ e _ r,B,o,?_,?_⟩⟩
    ·simp only[List.size_toArray,gTb,gTc,gTd,Array.length_toList,h];omega
    ·have x:(a.toList.take (n*size)).length=n*size:=by rw[gTc,Array.length_toList];omega
     rw[List.append_assoc];rw[List.take_left' x];exact t
   ·exact⟨rfl,rfl,rfl,by simp[World.setRow],λk _ s=>setRow_other w g k _ (λe=>s (by simp[gTh,e]))⟩
theorem kF {P:Program}{w:World}(dT sT ty:TypeId)(e:TypeId)(hu:P.underlying dT=aK (.slice e))(size:Nat)(hsz:(P.info? e).map (·.size)=aK size)
 (dp sp:Option Addr) (dLen dCap sLen sCap:Nat)
 (cs:List Value) (hn:cs.length=Nat.min sLen dLen*size) (hcs:Row w sp cs) (h1:∀u∈cs,u.oneCell'=true)
 (base N co p:Nat) (ao:Option Addr) (xs:List Value) (hown:w.ownsRow base e size (aA ao N co) N xs) (hp:0<cs.length->dp=ao.map (·.add (p*size))) (hdn:dp=aJ->cs=[]) (hfit:p*size+cs.length<=N*size):
 ∃w',(Builtin.copy_ #[dT,sT] ty #[aA dp dLen dCap,aA sp sLen sCap]).run P w= .ok (goInt (Nat.min sLen dLen:Nat)) w'/\w'.ownsRow base e size (aA ao N co) N (xs.take (p*size)++cs++xs.drop (p*size+cs.length))/\w.grownBy w' (gTh (aA ao N co)):=by
 cases hq:P.info? e with
 | none=>simp[hq]at hsz
 | some i=>
  have r:i.size=size:=by simpa[hq]using hsz
  have o:=nR (P:=P) size (Nat.min sLen dLen) sp sLen sCap cs hn hcs;by_cases l:0<cs.length
  ·obtain⟨g,b,a,y,q,t,f,m,j,n⟩:∃g b a,aA ao N co=aA (aK ⟨g,0,aJ⟩) N b/\base<=g/\w.heap[g]? =aK (.cells a e (0,0))/\N<=b/\b<=maxLen/\a.size=b*size/\a.toList.take (N*size)=xs:=by
    rcases hown.2 with ⟨_,v⟩ | h
    ·rw[v,Nat.zero_mul]at hfit;omega
    ·exact h
   obtain⟨rfl,rfl⟩:ao=aK ⟨g,0,aJ⟩/\co=b:=by simpa using y
   have c:=hp l;simp only[Option.map_some,Addr.add_lit,Nat.zero_add]at c;subst c;have s:N*size<=a.size:=by rw[j];exact Nat.mul_le_mul_right _ f
   have d:=run_storeCells_at P g (p*size) e cs 0 a w t (by omega) h1;refine⟨w.setRow g (a.toList.take (p*size)++cs++a.toList.drop (p*size+cs.length)).toArray,?_,?_,?_⟩
   ·simp only[Nat.add_zero]at d;simp[Builtin.copy_,run_underlying hu,Builtin.lenOf,sizeOf,typeInfo,hq,r,o,d]
   ·refine⟨?_,.inr ⟨g,co,_,rfl,q,setRow_heap w g a _ e _ t,f,m,?_,?_⟩⟩
    ·have:=hown.1;simp only[gTb,gTc,gTd];omega
    ·simp only[List.size_toArray,gTb,gTc,gTd,Array.length_toList];omega
    ·exact CV _ _ _ _ _ n (by simpa using s) hfit
   ·exact⟨rfl,rfl,rfl,by simp[World.setRow],λk _ x=>setRow_other w g k _ (λe=>x (by simp[gTh,e]))⟩
  ·have z:cs=[]:=List.eq_nil_of_length_eq_zero (by omega);subst z;refine⟨w,?_,by simpa using hown,⟨rfl,rfl,rfl,gT _,λ_ _ _=>rfl⟩⟩;cases dp with
   | none=>simp[Builtin.copy_,run_underlying hu,Builtin.lenOf,sizeOf,typeInfo,hq,r,o]
   | some ad=>simp[Builtin.copy_,run_underlying hu,Builtin.lenOf,sizeOf,typeInfo,hq,r,o,storeCells]
structure Rs where
 e:TypeId
 k:Nat
 v:Value
 n:Nat
 xs:List Value
def Rs.on (r:Rs)(W:World)(base:Nat):Prop:=W.ownsRow base r.e r.k r.v r.n r.xs
def Rs.off (a b:Rs):Prop:=∀g,a.v.ownBlock=aK g->b.v.ownBlock≠aK g
theorem Rs.off.symm {a b:Rs}(h:a.off b):b.off a:=λg d c=>h g c d
structure dY (W:World)(base:Nat)(rs:List Rs):Prop where
 each:∀r∈rs,r.on W base
 GZ:rs.Pairwise Rs.off
section
variable {W W':World}{mF:Nat}{rs:List Rs}
theorem dY.below (h:dY W mF rs)(hb:Below W.heap.size W W'):dY W' mF rs:=⟨λr a=>own_below (h.each r a) hb (gT _),h.GZ⟩
theorem dY.base {base':Nat}(h:dY W mF rs)(hb:base'<=mF):dY W base' rs:=⟨λr a=>own_base (h.each r a) hb,h.GZ⟩
theorem dY.ne (h:dY W mF rs)(hg:g<mF∨W.heap.size<=g):∀r∈rs,r.v.ownBlock≠aK g:=λr a=>own_ne (h.each r a) hg
theorem dY.far (h:dY W mF rs)(hg:∀r∈rs,r.v.ownBlock≠aK g)(i:Nat)(u:Value):dY (W.setCell ⟨g,i,aJ⟩ u) mF rs:=⟨λr a=>bU (h.each r a) (hg r a) u,h.GZ⟩
theorem dY.at (h:dY W mF rs)(hi:i<rs.length):rs[i].on W mF:=h.each _ (gL hi)
theorem dY.off (h:dY W mF rs){j:Nat}(hi:i<rs.length)(hj:j<rs.length)(hne:i≠j):rs[i].off rs[j]:=by
 rcases Nat.lt_or_gt_of_ne hne with b | a
 ·exact gN.1 h.GZ i j hi hj b
 ·exact(gN.1 h.GZ j i hj hi a).symm
theorem JZ {rs:List Rs}{r':Rs}(hd:rs.Pairwise Rs.off)(hi:i<rs.length)(h:∀j (hj:j<rs.length),j≠i->r'.off rs[j]):(rs.set i r').Pairwise Rs.off:=by
 rw[gN];intro a b c hb d;rw[List.length_set]at c hb;rw[List.getElem_set,List.getElem_set];by_cases f:i=a
 ·subst f;rw[if_pos rfl,if_neg (by omega)];exact h b hb (by omega)
 ·rw[if_neg f];by_cases e:i=b
  ·subst e;rw[if_pos rfl];exact(h a c (by omega)).symm
  ·rw[if_neg e];exact gN.1 hd a b c hb d
theorem oN {rs:List Rs}{r' r:Rs}(h:r∈rs.set i r'):r=r'∨∃j,∃(hj:j<rs.length),j≠i/\r=rs[j]:=by
 obtain⟨j,hj,rfl⟩:=List.getElem_of_mem h;rw[List.length_set]at hj;rw[List.getElem_set];by_cases a:i=j
 ·rw[if_pos a];exact .inl rfl
 ·rw[if_neg a];exact .inr ⟨j,hj,λe=>a e.symm,rfl⟩
theorem dY.grown (h:dY W mF rs)(hi:i<rs.length){r':Rs}(hg:W.grownBy W' rs[i].v.ownBlock)(ho:r'.on W' mF)(hn:∀g,r'.v.ownBlock=aK g->rs[i].v.ownBlock=aK g∨W.heap.size<=g):dY W' mF (rs.set i r'):=by
 have c:∀j (b:j<rs.length),j≠i->r'.off rs[j]:=λj b a g n f=>by
  rcases hn g n with d | d
  ·exact h.off hi b (λe=>a e.symm) g d f
  ·exact own_ne (h.at b) (.inr d) f
 refine⟨λr m=> ?_,JZ h.GZ hi c⟩;rcases oN m with rfl | ⟨j,b,a,rfl⟩
 ·exact ho
 ·exact kE (h.at b) hg (λk l e=>h.off hi b (λe=>a e.symm) k e l)
theorem dY.swap (h:dY W mF rs)(hi:i<rs.length){r':Rs}(ho:r'.on W bs)(hb:mF<=bs)(hbs:∀j (hj:j<rs.length),j≠i->∀g,rs[j].v.ownBlock=aK g->g<bs):dY W mF (rs.set i r'):=by
 refine⟨λr c=> ?_,JZ h.GZ hi λj hj a g d b=> ?_⟩
 ·rcases oN c with rfl | ⟨j,hj,a,rfl⟩
  ·exact own_base ho hb
  ·exact h.at hj
 ·have f:=hbs j hj a g b;have e:=(ho.lt g d).1;omega
theorem dY.cell (h:dY W mF rs)(hi:i<rs.length){c:Nat}(hv:rs[i].v=aA (aK ⟨g,0,aJ⟩) rs[i].n c)(j:Nat)(u:Value)(hu:u.oneCell'=true):dY (W.setCell ⟨g,j,aJ⟩ u) mF (rs.set i {rs[i]with xs:=rs[i].xs.set j u}):=by
 have hb:rs[i].v.ownBlock=aK g:=by rw[hv];rfl
 refine⟨λr k=> ?_,JZ h.GZ hi λf a b=>h.off hi a (λe=>b e.symm)⟩;rcases oN k with rfl | ⟨f,a,b,rfl⟩
 ·have d:=h.at hi;unfold Rs.on at*;simp only;rw[hv]at d;have l:=(World.ownsRow.stored d j u).1;rw[hv];exact l
 ·exact bU (h.at a) (h.off hi a (λe=>b e.symm) g hb) u
theorem dY.cons (h:dY W mF rs){r':Rs}(ho:r'.on W bs)(hb:mF<=bs)(hbs:∀r∈rs,∀g,r.v.ownBlock=aK g->g<bs):dY W mF (r'::rs):=
 ⟨λr a=>by
  rw[gY]at a;rcases a with rfl | a
  ·exact own_base ho hb
  ·exact h.each r a,List.pairwise_cons.2 ⟨λr a g c b=>by have e:=hbs r a g b;have d:=(ho.lt g c).1;omega,h.GZ⟩⟩
theorem dY.sub {rs':List Rs}(h:dY W mF rs)(hs:rs'.Sublist rs):dY W mF rs':=⟨λr a=>h.each r (hs.subset a),h.GZ.sublist hs⟩
theorem dY.perm {rs':List Rs}(h:dY W mF rs)(hp:rs.Perm rs'):dY W mF rs':=⟨λr a=>h.each r (hp.mem_iff.2 a),(hp.pairwise_iff (λh=>Rs.off.symm h)).1 h.GZ⟩
theorem dY.nil (W:World)(mF:Nat):dY W mF []:=⟨λr a=>by simp at a,List.Pairwise.nil⟩
theorem dY.lt (h:dY W mF rs):∀r∈rs,∀g,r.v.ownBlock=aK g->mF<=g/\g<W.heap.size:=λr b g a=>(h.each r b).lt g a
end
structure Rg where
 f:Int
 s:Int
deriving DecidableEq
def jE (r:Rg):List Value:=[vI r.f,vI r.s]
theorem kU (r:Rg):(jE r).length=2:=rfl
def Rg.fin (r:Rg):Int:=r.f+r.s
def Rg.small (r:Rg):Prop:= -4611686018427387904<=r.f/\r.f<=4611686018427387903/\ -4611686018427387904<=r.s/\r.s<=4611686018427387903
theorem rO (r:Rg)(w:World)(h:r.small):
 Calls prog 128 #[aC #[aB aI r.f,aB aI r.s]] w λe w'=>e=aN (aB aI (r.f+r.s))/\Below w.heap.size w w':=by
 obtain⟨a,b,d,c⟩:=h;go_enter func128,ntmps128
 go_wp2
 go_ret
 exact⟨rfl,(gX _ _).alloc (gT _) _⟩
def zC (r:Rg):Bool:=decide (0<=r.f/\1<=r.s/\r.s<=256/\r.f<=256-r.s)
theorem mV {r:Rg}(h:zC r=true):0<=r.f/\1<=r.s/\r.s<=256/\r.f<=256-r.s:=of_decide_eq_true h
theorem kJ (r:Rg)(w:World)(h:zC r=true):
 Calls prog 149 #[aC #[aB aI r.f,aB aI r.s]] w λe w'=>e=aN (aB aI 0)/\Below w.heap.size w w':=by
 obtain⟨a,b,d,c⟩:=mV h;clear h;go_enter func149,ntmps149
 go_wp2
 go_ret
 exact⟨rfl,(gX _ _).alloc (gT _) _⟩
theorem vJ (r:Rg)(w:World)(h:zC r=false):
 Calls prog 149 #[aC #[aB aI r.f,aB aI r.s]] w λe w'=>e=aN (aB aI 1)/\Below w.heap.size w w':=by
 obtain⟨f,s⟩:=r;have a:=of_decide_eq_false h;simp only at a ⊢;clear h;by_cases d:0<=f
 ·by_cases b:1<=s
  ·by_cases g:s<=256
   ·have c:256-s<f:=by omega
    clear a;go_enter func149,ntmps149
    go_wp2
    go_ret
    exact⟨rfl,(gX _ _).alloc (gT _) _⟩
   ·clear a;go_enter func149,ntmps149
    go_wp2
    go_ret
    exact⟨rfl,(gX _ _).alloc (gT _) _⟩
  ·clear a;go_enter func149,ntmps149
   go_wp2
   go_ret
   exact⟨rfl,(gX _ _).alloc (gT _) _⟩
 ·clear a;go_enter func149,ntmps149
  go_wp2
  go_ret
  exact⟨rfl,(gX _ _).alloc (gT _) _⟩
def Lj:Option Rg->Rg->Bool
 | none,_=>true
 | some p,r=>decide (p.f+p.s<r.f)
def dS:Option Rg->List Rg->Bool
 | _,[]=>true
 | p,r::l=>zC r&&Lj p r&&dS (aK r) l
def dZ (l:List Rg):Bool:=decide (l.length<=40)&&dS aJ l
theorem qA:∀(l:List Rg) (p:Option Rg) (k:Nat),dS p l=(dS p (l.take k)&&dS ((l.take k).getLast?.or p) (l.drop k))
 | [],p,k=>by simp[dS]
 | r::l,p,0=>by simp[dS]
 | r::l,p,k+1=>by
  rw[List.take_succ_cons,List.drop_succ_cons,dS,dS,qA l (aK r) k,<- Bool.and_assoc];congr 2;cases h:l.take k with
  | nil=>simp
  | cons x t=>simp[List.getLast?_cons]
def RI (l:List Rg)(k:Nat)(r:Rg):Bool:=zC r&&Lj (l[k-1]?.bind λp=>if k=0 then aJ else aK p) r
theorem OV (l:List Rg)(k:Nat)(hk:k<l.length):dS aJ (l.take (k+1))=(dS aJ (l.take k)&&RI l k l[k]):=by
 rw[List.take_succ_eq_append_getElem hk,qA (l.take k++[l[k]]) aJ k];have a:(l.take k).length=k:=by rw[gTc];omega
 rw[List.take_left' a,List.drop_left' a];congr 1;have e:((l.take k).getLast?.or aJ)=(l[k-1]?.bind λp=>if k=0 then aJ else aK p):=by
  rcases k with _ | k
  ·simp
  ·rw[List.getLast?_eq_getElem?,a];simp
 rw[e];simp[dS,RI]
theorem Zt (a:Option Addr)(cap:Nat)(l:List Rg)(w:World)(hl:l.length<=9223372036854775807)(hr:Row w a (flat jE l))(hs:∀r∈l,r.small):
 Calls prog 127 #[aA a l.length cap] w λe w'=>e=aN (.bool (dZ l))/\Below w.heap.size w w':=by
 by_cases t:l.length<=40
 ·have C:decide (40<(l.length:Int))=false:=gV (by omega);have A:dZ l=dS aJ l:=by simp[dZ,t]
  have D:=gO A;clear A;go_enter func127,ntmps127
  go_wp2
  go_loopw [3,4,10] (λ_ _ v wr=>∃k:Nat,k<=l.length/\v=aB aI k/\Hid (dS aJ (l.take k)=true)/\Below w.heap.size w wr) (λ_ _ v _=>l.length-(intOf v).toNat)
  case atStart=>exact⟨0,gU _,rfl,by simp[Hid,dS],gX _ _⟩
  case round=>
   obtain⟨k,R,rfl,n,m⟩:=hrel;by_cases x:k<l.length
   ·obtain⟨b,off,rfl,hb,E⟩:=aZ kU (by decide) (hr.below m) x;have i:=E 0 (vI l[k].f) rfl;have p:=E 1 (vI l[k].s) rfl;simp only[vI,Nat.add_zero]at i p;go_wp2_with fail
    have J:(wr.alloc (aO #[aB aI l[k].f,aB aI l[k].s] 133)).cell? ⟨wr.heap.size,0,aJ⟩=aK (aB aI l[k].f):=by simp[go_sem]
    have N:(wr.alloc (aO #[aB aI l[k].f,aB aI l[k].s] 133)).cell? ⟨wr.heap.size,1,aJ⟩=aK (aB aI l[k].s):=by simp[go_sem]
    have O:wr.heap.size<(wr.alloc (aO #[aB aI l[k].f,aB aI l[k].s] 133)).heap.size:=by simp
    have h:Below w.heap.size w (wr.alloc (aO #[aB aI l[k].f,aB aI l[k].s] 133)):=m.alloc m.size _;clear E i p;generalize wr.alloc _=q at*;have g:=OV l k x;rw[n.out,Bool.true_and]at g;have HS:=gO g;clear g;cases hck:zC l[k]with
    | false=>
     have c:Hid (dS aJ l=false):=by
      rw[Hid,qA l aJ (k+1),HS.out];simp[RI,hck]
     refine bH (by kernel_rfl) (by kernel_rfl) ?_
     repeat (first | go_big_quiet_step ((go_at_call 149;exact Calls.dF (vJ l[k] _ hck))) | quiet_step ((go_at_call 149;exact Calls.dF (vJ l[k] _ hck))))
     refine wpQuiet_nil ?_;rintro _ ⟨wx,rfl⟩;have d:Below w.heap.size w (ext q wx):=gW h (bD q wx);go_wp2
     go_ret
     exact⟨bP (by rw[D.out,c.out]),d⟩
    | true=>
     by_cases K:0<k
     ·have G:decide (0<(k:Int))=true:=gTg (by omega);have j:k-1<l.length:=by omega
      have o:=hs l[k-1] (gL j);obtain⟨I,y,F,P,u⟩:=aZ kU (by decide) (hr.below h) j;obtain⟨rfl,rfl⟩:b=I/\off=y:=by simpa using F
      have i:=u 0 (vI l[k-1].f) rfl;have p:=u 1 (vI l[k-1].s) rfl;simp only[vI,Nat.add_zero]at i p;clear u F;have H:0<=(k:Int)-1:=by omega
      have L:(k:Int)-1<(l.length:Int):=by omega
      have Q:((k:Int)-1).toNat=k-1:=by omega
      have M:IntKind.i64.wrap ((k:Int)-1)=(k:Int)-1:=IntWalk.i64_in _ (by omega);cases hp:decide (l[k].f<=l[k-1].f+l[k-1].s)with
      | true=>
       refine bH (by kernel_rfl) (by kernel_rfl) ?_
       repeat (first | go_big_quiet_step ((first | (go_at_call 149;exact Calls.dF (kJ l[k] _ hck)) | (go_at_call 128;exact Calls.dF (rO l[k-1] _ o)))) | quiet_step ((first | (go_at_call 149;exact Calls.dF (kJ l[k] _ hck)) | (go_at_call 128;exact Calls.dF (rO l[k-1] _ o)))))
       refine wpQuiet_nil ?_;rintro _ ⟨wx,rfl⟩;have d:Below w.heap.size w (ext q wx):=gW h (bD q wx);have c:Hid (dS aJ l=false):=by
        have B:=of_decide_eq_true hp;rw[Hid,qA l aJ (k+1),HS.out];have:RI l k l[k]=false:=by
         unfold RI;rw[hck,Bool.true_and,gJ j,Option.bind_some,if_neg (by omega)];exact gV (by omega)
        rw[this,Bool.false_and]
       go_wp2
       go_ret
       exact⟨bP (by rw[D.out,c.out]),d⟩
      | false=>
       have z:Hid (dS aJ (l.take (k+1))=true):=by
        have B:=of_decide_eq_false hp;rw[Hid,HS.out];unfold RI;rw[hck,Bool.true_and,gJ j,Option.bind_some,if_neg (by omega)];exact gTg (by omega)
       refine bH (by kernel_rfl) (by kernel_rfl) ?_
       repeat (first | go_big_quiet_step ((first | (go_at_call 149;exact Calls.dF (kJ l[k] _ hck)) | (go_at_call 128;exact Calls.dF (rO l[k-1] _ o)))) | quiet_step ((first | (go_at_call 149;exact Calls.dF (kJ l[k] _ hck)) | (go_at_call 128;exact Calls.dF (rO l[k-1] _ o)))))
       refine wpQuiet_nil ?_;rintro _ ⟨wx,rfl⟩;have d:Below w.heap.size w (ext q wx):=gW h (bD q wx);go_wp2
       go_roundw
       case rel=>exact⟨k+1,by omega,by go_num,z.out,d⟩
       case measure=>simp[intOf];omega
     ·have G:decide (0<(k:Int))=false:=gV (by omega);have z:Hid (dS aJ (l.take (k+1))=true):=by
       obtain rfl:k=0:=by omega
       rw[Hid,HS.out];unfold RI;rw[hck,Bool.true_and];cases l[0-1]? <;> rfl
      refine bH (by kernel_rfl) (by kernel_rfl) ?_
      repeat (first | go_big_quiet_step ((go_at_call 149;exact Calls.dF (kJ l[k] _ hck))) | quiet_step ((go_at_call 149;exact Calls.dF (kJ l[k] _ hck))))
      refine wpQuiet_nil ?_;rintro _ ⟨wx,rfl⟩;have d:Below w.heap.size w (ext q wx):=gW h (bD q wx);go_wp2
      go_roundw
      case rel=>exact⟨k+1,by omega,by go_num,z.out,d⟩
      case measure=>simp[intOf];omega
   ·obtain rfl:k=l.length:=by omega
    have z:Hid (dS aJ l=true):=by rw[gTf (gT _)]at n;exact n
    clear n;go_wp2
    go_ret
    exact⟨bP (by rw[D.out,z.out]),m⟩
 ·have C:decide (40<(l.length:Int))=true:=gTg (by omega);have A:Hid (dZ l=false):=by unfold Hid dZ;rw[gV t,Bool.false_and]
  go_enter func127,ntmps127
  go_wp2
  go_ret
  exact⟨bP A.out.symm,gX _ _⟩
theorem Zu (a:Option Addr)(n cap:Nat)(l:List Rg)(w:World)(hn:l.length=n)(hl:n<=9223372036854775807)(hr:Row w a (flat jE l))(hs:∀r∈l,r.small)(b:Bool)(hb:dZ l=b):
 Calls prog 127 #[aA a n cap] w λe w'=>e=aN (.bool b)/\Below w.heap.size w w':=by
 subst hn;subst hb;exact Zt a cap l w hl hr hs
theorem Au (a1 a2:Option Addr)(n1 n2 c1 c2:Nat)(m r:List Rg)(w:World)(hn1:m.length=n1)(hn2:r.length=n2)(hl1:n1<=9223372036854775807)(hl2:n2<=9223372036854775807)(hr1:Row w a1 (flat jE m))(hr2:Row w a2 (flat jE r))(hs1:∀x∈m,x.small)(hs2:∀x∈r,x.small)(h1:dZ m=true)(h2:dZ r=true):
 Calls prog 94 #[aC #[aA a1 n1 c1,aA a2 n2 c2]] w λe w'=>e=aN (aB aI 0)/\Below w.heap.size w w':=by
 have b:Below w.heap.size w (w.alloc (aO #[aA a1 n1 c1,aA a2 n2 c2] 27)):=aT _ _;have d:=hr1.below b;have c:=hr2.below b;clear hr1 hr2;go_enter func94,ntmps94
 go_wp2_with fail
 refine(Zu _ _ _ m _ hn1 hl1 d hs1 true h1).mono ?_;rintro e g ⟨rfl,a⟩;have h:=XH a;go_wp2_with fail
 refine(Zu _ _ _ r _ hn2 hl2 (c.below a) hs2 true h2).mono ?_;rintro e i ⟨rfl,f⟩;go_wp2
 go_ret
 exact⟨rfl,gW b (gW a f)⟩
def vB (b:Bool):Value:= .bool b
def bl (f:Nat->Bool):List Bool:=(List.range 256).map f
theorem lV (f:Nat->Bool):(bl f).length=256:=by simp[bl]
theorem wV {g:Nat->Bool}(h:∀p,p<256->f p=g p):bl f=bl g:=List.map_congr_left λp a=>h p (List.mem_range.1 a)
theorem RJ (f:Nat->Bool)(i:Nat)(h:i<256):(bl f)[i]? =aK (f i):=by simp[bl,h]
theorem Zv (f:Nat->Bool)(i:Nat)(v:Bool):(bl f).set i v=bl (λp=>if p=i then v else f p):=by
 apply List.ext_getElem?;intro j;rw[List.getElem?_set];by_cases a:j<256
 ·rw[RJ _ j a,RJ _ j a,lV];by_cases e:i=j
  ·subst e;simp[a]
  ·rw[if_neg e,if_neg (λh=>e h.symm)]
 ·have c:(bl f)[j]? =aJ:=List.getElem?_eq_none (by rw[lV];omega);have b:(bl (λp=>if p=i then v else f p))[j]? =aJ:=List.getElem?_eq_none (by rw[lV];omega);rw[c,b,lV];split
  ·rw[if_neg (by omega)]
  ·rfl
def rP (r:Rg)(p:Nat):Bool:=decide (r.f<=(p:Int)/\(p:Int)<r.f+r.s)
def dP (l:List Rg)(p:Nat):Bool:=l.any λr=>rP r p
theorem OX {r:Rg}(h:zC r=true):r.small:=by
 have:=mV h;unfold Rg.small;omega
theorem Gg:∀(l:List Rg) (p:Option Rg),dS p l=true->∀r∈l,zC r=true
 | [],_,_,r,hr=>by simp at hr
 | x::l,p,h,r,hr=>by
  simp only[dS,Bool.and_eq_true]at h;rcases gY.1 hr with rfl | hr
  ·exact h.1.1
  ·exact Gg l (aK x) h.2 r hr
theorem oP {l:List Rg}(h:dZ l=true):∀r∈l,zC r=true:=by
 simp only[dZ,Bool.and_eq_true]at h;exact Gg l aJ h.2
theorem uY {l:List Rg}(h:dZ l=true):∀r∈l,r.small:=λr a=>OX (oP h r a)
theorem zD {l:List Rg}(h:dZ l=true):l.length<=40:=by
 simp only[dZ,Bool.and_eq_true,decide_eq_true_eq]at h;exact h.1
theorem VY:(prog.info? 4).map (λi=>(i.zero,i.size,i.bytes))=aK (aK (.bool false),1,1):=by kernel_rfl
theorem aBw:(List.replicate 256 (Value.bool false))=(bl λ_=>false).map vB:=by
 rw[show(bl λ_=>false)=List.replicate 256 false from by decide+kernel,List.map_replicate];rfl
theorem Gh (l:List Rg)(k:Nat)(hk:k<l.length)(p:Nat):dP (l.take (k+1)) p=(dP (l.take k) p||rP l[k] p):=by
 unfold dP;rw[List.take_succ_eq_append_getElem hk,List.any_append];simp
theorem Ji (a:Option Addr)(n cap:Nat)(l:List Rg)(w:World)(hn:l.length=n)(hr:Row w a (flat jE l))(hok:∀r∈l,zC r=true)(hl:n<=9223372036854775807):
 Calls prog 95 #[aA a n cap] w λe w'=>∃a' c',e=aN (aA a' 256 c')/\w'.ownsRow w.heap.size 4 1 (aA a' 256 c') 256 ((bl (dP l)).map vB)/\Below w.heap.size w w':=by
 subst hn;obtain⟨i0,hi,hz,x,S⟩:=info_parts VY;go_enter func95,ntmps95
 go_wp2_with (at_make;refine wpList_make_full _ rfl _ _ 50 rfl w.heap.size 4 i0 (.bool false) 1 underlying50 hi hz x .i64 .i64 _ _ 256 rfl rfl rfl rfl ?q1 ?q2 ?q3 ?_)
 case q1=>rw[S];omega
 case q2=>unfold maxLen;omega
 case q3=>exact gT _
 intro w1 c u;rw[toList_madeCells_one,aBw]at c;have Y:=gO c;have q:=(gX w.heap.size w).grown u (gT _) (by simp);clear c u;go_wp2
 go_loopw [5,6,10] (λ_ _ y wr=>∃k:Nat,k<=l.length/\y=aB aI k/\Hid (wr.ownsRow w.heap.size 4 1 (aA (aK ⟨w.heap.size,0,aJ⟩) 256 256) 256 ((bl (dP (l.take k))).map vB))/\Below w.heap.size w wr) (λ_ _ y _=>l.length-(intOf y).toNat)
 case atStart=>exact⟨0,gU _,rfl,Y,q⟩
 case round=>
  obtain⟨k,hk,rfl,c,q⟩:=hrel;by_cases z:k<l.length
  ·obtain⟨b,off,rfl,hb,X⟩:=aZ kU (by decide) (hr.below q) z;have B:=X 0 (vI l[k].f) rfl;have J:=X 1 (vI l[k].s) rfl;simp only[vI,Nat.add_zero]at B J;have F:=hok l[k] (gL z);obtain⟨Z,g2,g3,g4⟩:=mV F;have D:=OX F;have t:=Gh l k z;generalize T:l[k]=r at*;clear T hok;obtain⟨f,s⟩:=r;simp only at Z g2 g3 g4 B J;obtain⟨f,rfl⟩:=Int.eq_ofNat_of_zero_le Z;obtain⟨s,rfl⟩:=Int.eq_ofNat_of_zero_le (show(0:Int)<=s by omega);have R:=gO t;clear t;go_wp2
   have H:Below w.heap.size w (wr.alloc (aO #[aB aI (f:Int),aB aI (s:Int)] 133)):=q.alloc q.size _;have W:=bI wr #[aB aI (f:Int),aB aI (s:Int)] 133;have E:wr.heap.size<(wr.alloc (aO #[aB aI (f:Int),aB aI (s:Int)] 133)).heap.size:=by simp
   have G:=gO (own_below c.out (aT wr (aO #[aB aI (f:Int),aB aI (s:Int)] 133)) (gT _));have hne:w.heap.size<wr.heap.size:=by
    obtain⟨g,v,e,_,h,_⟩:=iJ c.out 0 (by simp[lV]);obtain rfl:w.heap.size=g:=by simpa using e
    exact h
   generalize wr.alloc _=w2 at*;generalize wr.heap.size=Q at*;go_loopw [6] (λP K=>∃i:Nat,f<=i/\i<=f+s/\P=aB aI i/\Hid (K.ownsRow w.heap.size 4 1 (aA (aK ⟨w.heap.size,0,aJ⟩) 256 256) 256 ((bl (λp=>dP (l.take k) p||(decide (f<=p)&&decide (p<i)))).map vB))/\Below w.heap.size w K/\Hid (∀o,K.cell? ⟨Q,o,aJ⟩=(#[aB aI (f:Int),aB aI (s:Int)]:Array Value)[o]?)/\Q<K.heap.size) (λP _=>256-(intOf P).toNat)
   case atStart=>
    refine⟨f,gT _,by omega,rfl,?_,H,W,E⟩;rw[show bl (λp=>dP (l.take k) p||(decide (f<=p)&&decide (p<f)))=bl (dP (l.take k))from wV λp _=>by
     have:(decide (f<=p)&&decide (p<f))=false:=by
      by_cases h:f<=p
      ·rw[gV (show ¬p<f by omega),Bool.and_false]
      ·rw[gV h,Bool.false_and]
     rw[this,Bool.or_false]]
    exact G
   case round=>
    obtain⟨i,O,hi2,rfl,j,I,L,C⟩:=hrel;have N:=L.out;clear W G Y E H;by_cases Hg:i<f+s
    ·go_wp2_with fail
     refine(rO ⟨(f:Int),(s:Int)⟩ _ D).mono ?_;rintro e V ⟨rfl,m⟩;have B4:=aQ N C m;have d:=own_below j.out m (gT _);have A:=gW I m;have M:Q<V.heap.size:=gI C m.size;obtain⟨g,v,e,hg,hgs,hcg,hfg⟩:=iJ d i (by rw[gTe,lV];omega);obtain rfl:w.heap.size=g:=by simpa using e
     have U:=gO d;clear N d j e;go_wp2
     go_roundw
     case rel=>
      refine⟨i+1,by omega,by omega,by go_num,?_,A.setCell (gT _) _,?_,by simpa using M⟩
      ·have h:=(World.ownsRow.stored U.out i (vB true)).1;rw[<- List.map_set,Zv]at h;rw[show bl (λp=>dP (l.take k) p||(decide (f<=p)&&decide (p<i+1)))=bl (λp=>if p=i then true else dP (l.take k) p||(decide (f<=p)&&decide (p<i)))from wV λp _=>by
        by_cases e:p=i
        ·subst e;rw[if_pos rfl,gTg O,gTg (Nat.lt_succ_self p)];simp
        ·rw[if_neg e,decide_eq_decide.2 (show p<i+1↔p<i by omega)]]
       exact h
      ·intro o;simp[go_sem,B4]
     case measure=>simp[intOf];omega
    ·obtain rfl:i=f+s:=by omega
     go_wp2_with fail
     refine(rO ⟨(f:Int),(s:Int)⟩ _ D).mono ?_;rintro e V ⟨rfl,m⟩;have A:=gW I m;have d:=gO (own_below j.out m (gT _));clear N j;go_wp2
     go_roundw
     case rel=>
      refine⟨k+1,by omega,by go_num,?_,A⟩;rw[show bl (dP (l.take (k+1)))=bl (λp=>dP (l.take k) p||(decide (f<=p)&&decide (p<f+s)))from wV λp _=>by
       rw[R.out p];congr 1;unfold rP;rw[<- Bool.decide_and];exact decide_eq_decide.2 (by simp only;omega)]
      exact d.out
     case measure=>simp[intOf];omega
  ·obtain rfl:k=l.length:=by omega
   rw[gTf (gT _)]at c;go_wp2
   go_ret
   exact⟨_,_,rfl,c.out,q⟩
def mY (l:List Rg)(i:Nat):List Rg:=
 match l.getLast? with
 | some r=>if r.f+r.s=i then l.dropLast++[⟨r.f,r.s+1⟩]else l++[⟨i,1⟩]
 | none=>[⟨i,1⟩]
def iY (f:Nat->Bool):Nat->List Rg
 | 0=>[]
 | i+1=>if f i then mY (iY f i) i else iY f i
def eF (f:Nat->Bool):List Rg:=iY f 256
structure Ll (f:Nat->Bool)(i:Nat)(l:List Rg):Prop where
 chain:∀k (h:k+1<l.length),(l[k]'(by omega)).f+(l[k]'(by omega)).s<l[k+1].f
 low:∀r∈l,0<=r.f/\1<=r.s/\r.f+r.s<=i
 mem:∀p,dP l p=(decide (p<i)&&f p)
theorem wW (l m:List Rg)(p:Nat):dP (l++m) p=(dP l p||dP m p):=by simp[dP]
theorem Aw (r:Rg)(p:Nat):dP [r] p=rP r p:=by simp[dP]
theorem OY {l:List Rg}(h:Ll f i l)(hf:f i=true):Ll f (i+1) (mY l i):=by
 unfold mY;rcases List.eq_nil_or_concat l with rfl | ⟨L,r,rfl⟩
 ·refine⟨λk d=>by simp at d,λr n=> ?_,λp=> ?_⟩
  ·simp only[List.getLast?_nil,gTa]at n;subst n;simp only;omega
  ·have c:=h.mem p;simp only[dP,List.any_nil]at c;show dP [⟨i,1⟩] p=_;rw[Aw];unfold rP;by_cases e:p=i
   ·subst e;simp[hf];omega
   ·rw[gV (by simp only;omega)];by_cases q:p<i
    ·rw[gTg q,Bool.true_and]at c;rw[<- c];simp
    ·rw[gV (by omega)];simp
 ·simp only[List.concat_eq_append,List.getLast?_concat,List.dropLast_concat];rw[List.concat_eq_append]at h;have t:=h.low r (by simp);by_cases e:r.f+r.s=i
  ·rw[if_pos e];refine⟨λk d=> ?_,λx b=> ?_,λp=> ?_⟩
   ·have g:=h.chain k (by simpa using d);simp only[gTb,List.length_cons,List.length_nil]at d;by_cases a:k+1<L.length
    ·rw[List.getElem_append_left (by omega),List.getElem_append_left a]at g ⊢;exact g
    ·have o:∀(x:Rg) (h:k+1<(L++[x]).length),(L++[x])[k+1]=x:=λx h=>by rw[List.getElem_append_right (by omega)];simp
     rw[List.getElem_append_left (by omega),o]at g ⊢;exact g
   ·rw[gZ,gTa]at b;rcases b with b | rfl
    ·have:=h.low x (by simp[b]);omega
    ·simp only;omega
   ·have c:=h.mem p;rw[wW,Aw]at c ⊢;by_cases j:p=i
    ·subst j;rw[show rP ⟨r.f,r.s+1⟩ p=true from gTg (by simp only;omega),hf];simp
    ·rw[show rP ⟨r.f,r.s+1⟩ p=rP r p from decide_eq_decide.2 (by simp only;omega),c,decide_eq_decide.2 (show p<i↔p<i+1 by omega)]
  ·rw[if_neg e];refine⟨λk d=> ?_,λx b=> ?_,λp=> ?_⟩
   ·simp only[gTb,List.length_cons,List.length_nil]at d;by_cases a:k+1<(L++[r]).length
    ·rw[List.getElem_append_left (by omega),List.getElem_append_left a];exact h.chain k a
    ·have m:k=L.length:=by simp only[gTb,List.length_cons,List.length_nil]at a;omega
     subst m;rw[List.getElem_append_left (by simp),List.getElem_append_right (by simp)];simp;omega
   ·rw[gZ,gTa]at b;rcases b with b | rfl
    ·have:=h.low x b;omega
    ·simp only;omega
   ·have c:=h.mem p;rw[wW,c,Aw];unfold rP;by_cases j:p=i
    ·subst j;simp[hf];omega
    ·rw[gV (show ¬((i:Int)<=(p:Int)/\(p:Int)<(i:Int)+1)by omega),Bool.or_false,decide_eq_decide.2 (show p<i↔p<i+1 by omega)]
theorem oQ (f:Nat->Bool):∀i,Ll f i (iY f i)
 | 0=>⟨λk hk=>by simp[iY]at hk,λr hr=>by simp[iY]at hr,λp=>by simp[iY,dP]⟩
 | i+1=>by
  unfold iY;have ih:=oQ f i;cases hf:f i with
  | true=>rw[if_pos rfl];exact OY ih hf
  | false=>
   rw[if_neg (by simp)];refine⟨ih.chain,λr hr=>by have:=ih.low r hr;omega,λp=> ?_⟩;rw[ih.mem];by_cases e:p=i
   ·subst e;simp[hf]
   ·rw[decide_eq_decide.2 (show p<i↔p<i+1 by omega)]
theorem vK:∀(l:List Rg) (p:Option Rg),(∀r∈l,zC r=true)->(∀k (h:k+1<l.length),(l[k]'(by omega)).f+(l[k]'(by omega)).s<l[k+1].f)->(∀r q,l.head?=aK r->p=aK q->q.f+q.s<r.f)->dS p l=true
 | [],_,_,_,_=>rfl
 | r::l,p,h1,h2,h3=>by
  unfold dS;rw[h1 r (by simp),Bool.true_and];rw[vK l (aK r) (λx hx=>h1 x (by simp[hx])) (λk hk=>h2 (k+1) (by simpa using hk)) (λx q hx hq=>by
   obtain rfl:r=q:=by simpa using hq
   cases l with
   | nil=>simp at hx
   | cons y l=>
    obtain rfl:y=x:=by simpa using hx
    exact h2 0 (by simp)),Bool.and_true]
  cases p with
  | none=>rfl
  | some q=>exact gTg (h3 r q rfl rfl)
theorem Lm (f:Nat->Bool):∀r∈eF f,zC r=true:=λr a=>by
 have:=(oQ f 256).low r a;exact gTg (by omega)
theorem wX (f:Nat->Bool):dS aJ (eF f)=true:=
 vK _ aJ (Lm f) (oQ f 256).chain (λ_ _ _ h=>by cases h)
theorem Lp (f:Nat->Bool)(h:(eF f).length<=40):dZ (eF f)=true:=by
 unfold dZ;rw[gTg h,wX,Bool.true_and]
theorem Ib (f:Nat->Bool)(p:Nat)(hp:p<256):dP (eF f) p=f p:=by
 rw[eF,(oQ f 256).mem p,gTg hp,Bool.true_and]
theorem Ic (f:Nat->Bool)(p:Nat)(hp:256<=p):dP (eF f) p=false:=by
 rw[eF,(oQ f 256).mem p,gV (by omega),Bool.false_and]
theorem DJ {g:Nat->Bool}:∀i,(∀p,p<i->f p=g p)->iY f i=iY g i
 | 0,_=>rfl
 | i+1,h=>by
  unfold iY;rw[h i (by omega),DJ i λp hp=>h p (by omega)]
theorem vM {g:Nat->Bool}(h:∀p,p<256->f p=g p):eF f=eF g:=DJ 256 h
def wY (f:Nat->Bool)(p:Nat):Bool:=f p&& !(decide (0<p)&&f (p-1))
def starts (f:Nat->Bool):Nat->Nat
 | 0=>0
 | i+1=>starts f i+if wY f i then 1 else 0
theorem Lr (l:List Rg)(i:Nat):∃r,(mY l i).getLast?=aK r/\r.f+r.s=(i:Int)+1:=by
 unfold mY;split
 ·split
  ·rename_i r hr e;exact⟨_,List.getLast?_concat ..,by simp only;omega⟩
  ·exact⟨_,List.getLast?_concat ..,rfl⟩
 ·exact⟨_,rfl,rfl⟩
theorem Zw (f:Nat->Bool)(i:Nat):(∃r,(iY f i).getLast?=aK r/\r.f+r.s=(i:Int))↔(0<i/\f (i-1)=true):=by
 rcases i with _ | i
 ·simp[iY]
 ·rw[Nat.add_sub_cancel];unfold iY;cases hf:f i with
  | true=>
   rw[if_pos rfl];obtain⟨r,a,b⟩:=Lr (iY f i) i;exact⟨λ_=>⟨by omega,rfl⟩,λ_=>⟨r,a,by omega⟩⟩
  | false=>
   rw[if_neg (by simp)];constructor
   ·rintro⟨r,a,b⟩;have:=(oQ f i).low r (List.mem_of_getLast? a);omega
   ·rintro⟨_,h⟩;cases h
theorem uZ (f:Nat->Bool):∀i,(iY f i).length=starts f i
 | 0=>rfl
 | i+1=>by
  have ih:=uZ f i;have c:=Zw f i;unfold iY starts wY;cases hf:f i with
  | false=>rw[if_neg (by simp),ih,Bool.false_and];rfl
  | true=>
   rw[if_pos rfl,Bool.true_and];unfold mY;split
   ·rename_i r hr;by_cases e:r.f+r.s=(i:Int)
    ·rw[if_pos e];obtain⟨a,b⟩:=c.1 ⟨r,hr,e⟩;rw[b,gTg a];have d:iY f i≠[]:=by intro h;rw[h]at hr;cases hr
     have:=List.length_pos_iff.2 d;simp[List.length_dropLast];omega
    ·rw[if_neg e];have g:¬(0<i/\f (i-1)=true):=λh=>by
      obtain⟨j,b,k⟩:=c.2 h;rw[hr]at b;obtain rfl:r=j:=by simpa using b
      exact e k
     have hb:(decide (0<i)&&f (i-1))=false:=by
      by_cases a:0<i
      ·rw[gTg a,Bool.true_and];cases h:f (i-1)with
       | false=>rfl
       | true=>exact absurd ⟨a,h⟩ g
      ·rw[gV a,Bool.false_and]
     rw[hb,gTb,ih];rfl
   ·rename_i hr;rw[List.getLast?_eq_none_iff]at hr;rw[hr]at ih c;have g:¬(0<i/\f (i-1)=true):=λh=>by
     obtain⟨j,b,k⟩:=c.2 h;cases b
    have hb:(decide (0<i)&&f (i-1))=false:=by
     by_cases a:0<i
     ·rw[gTg a,Bool.true_and];cases h:f (i-1)with
      | false=>rfl
      | true=>exact absurd ⟨a,h⟩ g
     ·rw[gV a,Bool.false_and]
    rw[hb,<- ih];rfl
def upd (f:Nat->Bool)(a b:Nat)(v:Bool)(p:Nat):Bool:=if a<=p/\p<b then v else f p
theorem RN (f:Nat->Bool)(a b:Nat)(v:Bool)(hab:a<b)(p:Nat):(if wY (upd f a b v) p then 1 else 0)<=(if wY f p then 1 else 0)+if p=(if v then a else b)then 1 else 0:=by
 have key:wY (upd f a b v) p=true->wY f p=true∨p=(if v then a else b):=by
  intro h;unfold wY at h ⊢;simp only[Bool.and_eq_true,Bool.not_eq_true',Bool.and_eq_false_iff,decide_eq_false_iff_not]at h ⊢;obtain⟨g,c⟩:=h;unfold upd at g c;cases v with
  | true=>
   simp only[if_true]at g c ⊢;by_cases d:a<=p/\p<b
   ·by_cases e:p=a
    ·exact .inr e
    ·exfalso;rw[if_pos (by omega)]at c;rcases c with c | c
     ·omega
     ·cases c
   ·rw[if_neg d]at g;by_cases e:p=b
    ·exfalso;rw[if_pos (by omega)]at c;rcases c with c | c
     ·omega
     ·cases c
    ·left;refine⟨g,?_⟩;by_cases i:0<p
     ·rw[if_neg (by omega)]at c;exact c
     ·exact .inl i
  | false=>
   simp only[Bool.false_eq_true,if_false]at g c ⊢;by_cases d:a<=p/\p<b
   ·rw[if_pos d]at g;cases g
   ·rw[if_neg d]at g;by_cases e:p=b
    ·exact .inr e
    ·left;refine⟨g,?_⟩;by_cases i:0<p
     ·rw[if_neg (by omega)]at c;exact c
     ·exact .inl i
 cases hs:wY (upd f a b v) p with
 | false=>simp
 | true=>
  rcases key hs with h | h
  ·rw[h];simp
  ·rw[if_pos h];simp
theorem Gi (f:Nat->Bool)(a b:Nat)(v:Bool)(hab:a<b):∀n,starts (upd f a b v) n<=starts f n+if(if v then a else b)<n then 1 else 0
 | 0=>by simp[starts]
 | n+1=>by
  have ih:=Gi f a b v hab n;have h:=RN f a b v hab n;unfold starts;generalize (if v then a else b)=c at*;by_cases i:n=c
  ·subst i;have d:(if n<n then 1 else 0:Nat)=0:=if_neg (by omega);have e:(if n<n+1 then 1 else 0:Nat)=1:=if_pos (by omega);rw[d]at ih;rw[if_pos rfl]at h;rw[e];omega
  ·rw[if_neg i]at h;by_cases g:c<n
   ·have d:(if c<n then 1 else 0:Nat)=1:=if_pos g;have e:(if c<n+1 then 1 else 0:Nat)=1:=if_pos (by omega);rw[d]at ih;rw[e];omega
   ·have d:(if c<n then 1 else 0:Nat)=0:=if_neg g;have e:(if c<n+1 then 1 else 0:Nat)=0:=if_neg (by omega);rw[d]at ih;rw[e];omega
theorem RP (c:Prop)[Decidable c]:(if c then 1 else 0:Nat)<=1:=by split <;> omega
theorem rQ (f:Nat->Bool)(a b:Nat)(v:Bool)(hab:a<b):(eF (upd f a b v)).length<=(eF f).length+1:=by
 unfold eF;rw[uZ,uZ];have c:=Gi f a b v hab 256;have d:=RP ((if v then a else b)<256);omega
theorem vC:∀(l:List Rg) (q:Rg),dS (aK q) l=true->∀r∈l,q.f+q.s<r.f
 | [],_,_,r,hr=>by simp at hr
 | x::l,q,h,r,hr=>by
  simp only[dS,Bool.and_eq_true]at h;have hx:q.f+q.s<x.f:=of_decide_eq_true h.1.2;rcases gY.1 hr with rfl | hr
  ·exact hx
  ·have a:=vC l x h.2 r hr;have b:=mV h.1.1;omega
theorem lQ (l:List Rg)(p:Nat):dP l p=true↔∃r∈l,r.f<=(p:Int)/\(p:Int)<r.f+r.s:=by
 unfold dP rP;simp[List.any_eq_true]
theorem Jj:∀(l m:List Rg) (q q':Option Rg),dS q l=true->dS q' m=true->(∀p,dP l p=dP m p)->l=m
 | [],[],_,_,_,_,_=>rfl
 | [],y::m,_,q',_,h2,h=>by
  simp only[dS,Bool.and_eq_true]at h2;have hy:=mV h2.1.1;obtain⟨n,O⟩:=Int.eq_ofNat_of_zero_le hy.1;have:dP (y::m) n=true:=(lQ _ _).2 ⟨y,by simp,by omega,by omega⟩;rw[<- h n]at this;simp[dP]at this
 | x::l,[],q,_,h1,_,h=>by
  simp only[dS,Bool.and_eq_true]at h1;have hy:=mV h1.1.1;obtain⟨n,O⟩:=Int.eq_ofNat_of_zero_le hy.1;have:dP (x::l) n=true:=(lQ _ _).2 ⟨x,by simp,by omega,by omega⟩;rw[h n]at this;simp[dP]at this
 | x::l,y::m,q,q',h1,h2,h=>by
  simp only[dS,Bool.and_eq_true]at h1 h2;obtain⟨⟨T,_⟩,M⟩:=h1;obtain⟨⟨hy,_⟩,P⟩:=h2;have v:=mV T;have A:=mV hy;have F:=vC l x M;have E:=vC m y P;have e:∀(z:Rg) (t:List Rg),1<=z.s->(∀r∈t,z.f+z.s<r.f)->∀p:Nat,dP (z::t) p=true->z.f<=p:=λz t hz D p o=>by
   obtain⟨r,g,w,G⟩:=(lQ _ _).1 o;rcases gY.1 g with rfl | g
   ·exact w
   ·have:=D r g;omega
  obtain⟨n,O⟩:=Int.eq_ofNat_of_zero_le v.1;obtain⟨B,S⟩:=Int.eq_ofNat_of_zero_le A.1;have e1:y.f<=x.f:=by
   have:dP (x::l) n=true:=(lQ _ _).2 ⟨x,by simp,by omega,by omega⟩;rw[h n]at this;have:=e y m A.2.1 E n this;omega
  have Z:x.f<=y.f:=by
   have:dP (y::m) B=true:=(lQ _ _).2 ⟨y,by simp,by omega,by omega⟩;rw[<- h B]at this;have:=e x l v.2.1 F B this;omega
  have u:x.f=y.f:=by omega
  have j:∀(z i:Rg) (t C:List Rg),z.f=i.f->0<=z.f->1<=z.s->(∀r∈t,z.f+z.s<r.f)->(∀p,dP (z::t) p=dP (i::C) p)->¬z.s<i.s:=λz i t C hf W hs D H Q=>by
   obtain⟨k,Y⟩:=Int.eq_ofNat_of_zero_le (show 0<=z.f+z.s by omega);have w:dP (i::C) k=true:=(lQ _ _).2 ⟨i,by simp,by omega,by omega⟩;rw[<- H k]at w;obtain⟨r,g,G,L⟩:=(lQ _ _).1 w;rcases gY.1 g with rfl | g
   ·omega
   ·have:=D r g;omega
  have N:x.s=y.s:=by
   have g1:=j x y l m u v.1 v.2.1 F h;have X:=j y x m l u.symm A.1 A.2.1 E (λp=>(h p).symm);omega
  have K:x=y:=by
   obtain⟨a,b⟩:=x;obtain⟨c,d⟩:=y;simp only at u N;rw[u,N]
  subst K;congr 1;refine Jj l m (aK x) (aK x) M P λp=> ?_
  have o:=h p;by_cases I:x.f<=(p:Int)/\(p:Int)<x.f+x.s
  ·have U:dP l p=false:=by
    rw[Bool.eq_false_iff];intro J;obtain⟨r,g,G,L⟩:=(lQ _ _).1 J;have:=F r g;omega
   have V:dP m p=false:=by
    rw[Bool.eq_false_iff];intro J;obtain⟨r,g,G,L⟩:=(lQ _ _).1 J;have:=E r g;omega
   rw[U,V]
  ·have R:rP x p=false:=gV I;simp only[dP,List.any_cons]at o ⊢;rw[R,Bool.false_or,Bool.false_or]at o;exact o
theorem Gj {l:List Rg}(h:dZ l=true):l=eF (dP l):=by
 have a:=oP h;simp only[dZ,Bool.and_eq_true]at h;refine Jj l _ aJ aJ h.2 (wX _) λp=> ?_
 by_cases b:p<256
 ·rw[Ib _ p b]
 ·rw[Ic _ p (by omega),Bool.eq_false_iff];intro c;obtain⟨r,d,e,f⟩:=(lQ _ _).1 c;have:=mV (a r d);omega
end Go.Proofs.YtjaogfhcnmjkiaaGreatDoor
