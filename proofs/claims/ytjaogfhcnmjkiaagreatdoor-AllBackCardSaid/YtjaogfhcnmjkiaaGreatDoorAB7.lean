/- joined. -/
import Derived.Test.YtjaogfhcnmjkiaaGreatDoorAB6
set_option linter.all false
set_option maxRecDepth 100000
set_option maxHeartbeats 0
namespace Go.Proofs.YtjaogfhcnmjkiaaGreatDoor
open Go.RowKit
open Go.Value renaming slice->aA,int->aB,agg->aC,string->aF,tuple->aG,pointer->aH,ownBlock->gTh
open Go.IntKind renaming i64->aI
open Option renaming none->aJ,some->aK
open Go.Ending renaming returned->aN
open Go.Obj renaming cells->aO
open Go.Proofs.Tryz
variable {A vs:Array Value}{B G a b cl' cpu g hd i j k n:Nat}{W:World}{X:Nat->Prop}{a1 a2 al' uJ:Option Addr}{f:Nat->Bool}{h:Hp}{l xs:List Int}{ls:List Ls}{most p:Int}{r:Rs}{row:Option Nat}{rs:List Rs}{v':List Bk}{y:Zc}{z':Zn}
def objs (p k i:Nat):List Int:=(List.range i).map λj=>((p+j*k:Nat):Int)
theorem rC (p k i:Nat):(objs p k i).length=i:=by simp[objs]
theorem Uu (p k i:Nat):objs p k (i+1)=objs p k i++[((p+i*k:Nat):Int)]:=by simp[objs,List.range_succ]
theorem CW (xs:List Int)(p k n:Nat)(hk:1<=k)(hin:p+k*n<=xs.length):∀j,j<=n->∀i,i<j->(chainTo xs p k n j)[p+i*k]? =aK (if i+1<n then((p+(i+1)*k:Nat):Int)else-1)
 | 0,_,i,hi=>by omega
 | j+1,hj,i,hi=>by
  have hlt:∀i,i<n->p+i*k<xs.length:=λi hi=>by
   have:i*k+k<=k*n:=by rw[<- Nat.succ_mul,Nat.mul_comm];exact Nat.mul_le_mul_left _ hi
   omega
  unfold chainTo;by_cases e:i=j
  ·subst e;rw[List.getElem?_set_self (by rw[jB];exact hlt i (by omega))]
  ·have a:p+j*k≠p+i*k:=by
    intro h;have b:j*k=i*k:=by omega
    exact e (Nat.eq_of_mul_eq_mul_right (by omega) b).symm
   rw[List.getElem?_set_ne a];exact CW xs p k n hk hin j (by omega) i (by omega)
theorem Bj (xs:List Int)(p k n:Nat)(most:Int)(hk:1<=k)(hn:1<=n)(hin:p+k*n<=xs.length):
 ∀d i f,i+d=n->1<=d->d+1<=f->(i:Int)<=most->jS (chainTo xs p k n n) most f ((p+i*k:Nat):Int) (objs p k i)=if(n:Int)<=most then aK (objs p k n)else aJ:=by
 intro d
 induction d with
 | zero=>intro i f _ h;omega
 | succ d ih=>
  intro i f r _ s o;obtain⟨f,rfl⟩:∃b,f=b+1:=⟨f-1,by omega⟩
  have a:((p+i*k:Nat):Int)≠ -1:=by omega
  have g:p+i*k<xs.length:=by
   have:i*k+k<=k*n:=by rw[<- Nat.succ_mul,Nat.mul_comm];exact Nat.mul_le_mul_left _ (by omega)
   omega
  unfold jS;rw[if_neg a,rC];by_cases t:(i:Int)=most
  ·rw[if_pos (Or.inl (by omega)),if_neg (by omega)]
  ·have l:WU (chainTo xs p k n n).length ((p+i*k:Nat):Int) 1=true:=by
    unfold WU;rw[jB];exact gTg (by omega)
   have q:vO (objs p k i) ((p+i*k:Nat):Int)=false:=by
    unfold vO;rw[List.contains_eq_any_beq,List.any_eq_false];intro x e;simp only[objs,List.mem_map,List.mem_range]at e;obtain⟨j,u,rfl⟩:=e;simp only[beq_iff_eq];intro h;have m:i*k=j*k:=by omega
    have:=Nat.eq_of_mul_eq_mul_right (by omega) m;omega
   rw[if_neg (by rw[l,q];simp;omega),Int.toNat_natCast,List.getD_eq_getElem?_getD,CW xs p k n hk hin n (gT _) i (by omega),Option.getD_some,<- Uu];by_cases c:i+1<n
   ·rw[if_pos c];exact ih (i+1) f (by omega) (by omega) (by omega) (by omega)
   ·rw[if_neg c];obtain rfl:n=i+1:=by omega
    obtain⟨f,rfl⟩:∃b,f=b+1:=⟨f-1,by omega⟩
    unfold jS;rw[if_pos rfl,if_pos (by omega)]
theorem zN (xs:List Int)(p k n:Nat)(most:Int)(hk:1<=k)(hn:1<=n)(hin:p+k*n<=xs.length)(h0:0<=most):
 follow (chainTo xs p k n n) p most=if(n:Int)<=most then aK (objs p k n)else aJ:=by
 have a:n<=k*n:=Nat.le_mul_of_pos_left _ (by omega);have h:=Bj xs p k n most hk hn hin n 0 ((chainTo xs p k n n).length+2) (by omega) hn (by rw[jB];omega) (by omega);simpa[follow,objs]using h
structure Sl where
 p:Nat
 n:Nat
 h:Int
deriving DecidableEq
structure Ca where
 ns:List (List UInt8)
 z:Nat
 r:Nat
 o:Nat
 sl:List Sl
 ac:List Int
deriving DecidableEq
structure Sy where
 w:List Int
 h:Hp
 cs:List Ca
deriving DecidableEq
def fV (k:Nat):Nat:=if 4<=16/k then 0 else if 4<=32/k then 1 else 2
def iR (k:Nat):Nat:=16*2^fV k/k
def nameB (s:List UInt8):Bool:=decide (0<s.length/\s.length<=8)&&s.all λc=>decide ((97<=c/\c<=122)∨(48<=c/\c<=57))
def iO (c:Ca)(p:Nat)(a:Int):Bool:=decide (0<=a-16*p/\a-16*p<c.r*c.z/\(a-16*p)%c.z=0)
structure sZ (s:Sy)(c:Ca)(x:Sl):Prop where
 live:∃b∈s.h.live,b.a=x.p/\b.o=c.o
 chain:∃l,follow s.w x.h c.r=aK l/\l.length=x.n/\∀a∈l,iO c x.p a=true
structure qY (s:Sy)(c:Ca):Prop where
 z:1<=c.z/\c.z<=64
 o:c.o=fV c.z
 r:c.r=iR c.z
 ns:c.ns≠[]
 nm:∀n∈c.ns,nameB n=true
 nr:c.ns.Pairwise λa b=>Go.Op.bytesLess a b=true
 ac:c.ac.length=s.h.aP
 sr:c.sl.Pairwise λa b=>a.p<b.p
 sk:∀x∈c.sl,sZ s c x
 aw:∀a∈c.ac,a= -1∨∃x∈c.sl,(x.p:Int)=a
 ad:c.ac.Pairwise λa b=>a=b->a= -1
structure cZ (s:Sy):Prop where
 wl:s.w.length=4096
 hk:fG s.h
 cl:s.cs.length<=20
 ck:∀c∈s.cs,qY s c
 zd:s.cs.Pairwise λc d=>c.z≠d.z
 nd:s.cs.Pairwise λc d=>∀n∈c.ns,n∉d.ns
 pd:s.cs.Pairwise λc d=>∀x∈c.sl,∀y∈d.sl,x.p≠y.p
def Sy.named (s:Sy)(n:List UInt8):Option Nat:=s.cs.findIdx? λc=>c.ns.contains n
def Sy.fO (s:Sy)(i:Nat)(c:Ca):Sy:={s with cs:=s.cs.set i c}
def Ca.find (c:Ca)(p:Int):Option Nat:=c.sl.findIdx? λx=>decide ((x.p:Int)=p)
def Qo (l:List Sl)(p:Nat):Nat:=(l.takeWhile λx=>decide (x.p<p)).length
def qL (l:List Sl)(x:Sl):List Sl:=l.take (Qo l x.p)++x::l.drop (Qo l x.p)
def Sy.grow (s:Sy)(i cpu:Nat)(c:Ca):Option (Sy×Nat):=match s.h.alloc cpu c.o 0 false false with
 | some (h',a)=>aK ({w:=chainTo s.w (16*a) c.z c.r c.r,h:=h',cs:=s.cs.set i {c with sl:=qL c.sl ⟨a,c.r,((16*a:Nat):Int)⟩}},Qo c.sl a)
 | none=>aJ
def Ca.own (c:Ca)(cpu:Nat):Option Nat:=match c.find (c.ac.getD cpu (-1))with
 | some k=>match c.sl[k]? with
  | some x=>if 0<x.n then aK k else aJ
  | none=>aJ
 | none=>aJ
def Ca.nobody (c:Ca):Option Nat:=c.sl.findIdx? λx=>decide (0<x.n)&& !c.ac.contains (x.p:Int)
def Sy.mine (s:Sy)(i cpu k:Nat):Sy:=match s.cs[i]? with
 | some c=>match c.sl[k]? with
  | some x=>s.fO i {c with ac:=c.ac.set cpu (x.p:Int)}
  | none=>s
 | none=>s
def Sy.choose (s:Sy)(i cpu:Nat):Option (Sy×Nat):=match s.cs[i]? with
 | some c=>match c.own cpu with
  | some k=>aK (s,k)
  | none=>match c.nobody with
   | some k=>aK (s.mine i cpu k,k)
   | none=>match s.grow i cpu c with
    | some (s',k)=>aK (s'.mine i cpu k,k)
    | none=>aJ
 | none=>aJ
def Sy.pop (s:Sy)(i k:Nat):Option (Sy×Int):=match s.cs[i]? with
 | some c=>match c.sl[k]? with
  | some x=>aK (s.fO i {c with sl:=c.sl.set k ⟨x.p,x.n-1,s.w.getD x.h.toNat 0⟩},x.h)
  | none=>aJ
 | none=>aJ
def Sy.one (s:Sy)(i cpu:Nat):Option (Sy×Int):=match s.choose i cpu with
 | some (s',k)=>s'.pop i k
 | none=>aJ
def Sy.bulk (s:Sy)(i cpu:Nat):Nat->Option (Sy×List Int)
 | 0=>aK (s,[])
 | n+1=>match s.bulk i cpu n with
  | some (s',l)=>match s'.one i cpu with
   | some (t,a)=>aK (t,l++[a])
   | none=>aJ
  | none=>aJ
def Df (l:List (List UInt8))(n:List UInt8):Nat:=(l.takeWhile λx=>Go.Op.bytesLess x n).length
def Sy.create (s:Sy)(n:List UInt8)(z:Nat):Option Sy:=match s.cs.findIdx? λc=>decide (c.z=z)with
 | some i=>match s.cs[i]? with
  | some c=>aK (s.fO i {c with ns:=c.ns.take (Df c.ns n)++n::c.ns.drop (Df c.ns n)})
  | none=>aJ
 | none=>if s.cs.length=20 then aJ else aK {s with cs:=s.cs++[⟨[n],z,iR z,fV z,[],List.replicate s.h.aP (-1)⟩]}
theorem aAK :iR k*k<=64:=by
 unfold iR;refine gQ (Nat.div_mul_le_self _ _) ?_;have:fV k<=2:=by unfold fV;split <;> (try split) <;> omega
 rcases(show fV k=0∨fV k=1∨fV k=2 by omega)with h | h | h <;> rw[h] <;> decide
theorem Dj (xs:List Int)(most:Int):∀(f:Nat) (p:Int) (out l:List Int),(out.length:Int)<=most->jS xs most f p out=aK l->(l.length:Int)<=most
 | 0,_,_,_,_,h=>by simp[jS]at h
 | f+1,p,out,l,ho,h=>by
  unfold jS at h;split at h
  ·rw[<- gP h];exact ho
  ·split at h
   ·cases h
   ·rename_i h2;refine Dj xs most f _ _ l ?_ h;simp only[gTb,List.length_cons,List.length_nil];have:¬(most<=(out.length:Int)):=λa=>h2 (.inl a)
    omega
theorem Qs (hm:0<=most)(h:follow xs p most=aK l):(l.length:Int)<=most:=Dj xs most _ p [] l (by simpa using hm) h
theorem qY.rz {s:Sy}{c:Ca}(h:qY s c):c.r*c.z<=64:=by rw[h.r];exact aAK
theorem qY.r64 {s:Sy}{c:Ca}(h:qY s c):c.r<=64:=gQ (Nat.le_mul_of_pos_right _ h.z.1) h.rz
theorem sZ.BF {s:Sy}{c:Ca}{x:Sl}(h:sZ s c x)(hk:fG s.h):x.p<256:=by
 obtain⟨b,hb,a,_⟩:=h.live;have:=(hk.lv b hb).1.2.2.1;omega
theorem sZ.Nb {s:Sy}{c:Ca}{x:Sl}(h:sZ s c x):x.n<=c.r:=by
 obtain⟨l,a,b,_⟩:=h.chain;have:=Qs (by omega) a;omega
theorem kY {c:Ca}{p:Nat}{a:Int}(h:iO c p a=true):16*(p:Int)<=a/\a<16*p+c.r*c.z/\(a-16*p)%c.z=0:=by
 have:=of_decide_eq_true h;omega
theorem Iz:∀{l:List Sl} {k N:Nat},(l.Pairwise λa b=>a.p<b.p)->(∀x∈l,k<=x.p/\x.p<N)->l.length+k<=N∨l=[]
 | [],_,_,_,_=> .inr rfl
 | c::m,k,N,q1,q2=>by
  have q3:=List.pairwise_cons.1 q1;have e:=q2 c (by simp);rcases Iz (k:=c.p+1) (N:=N) q3.2 λx d=>⟨q3.1 x d,(q2 x (by simp[d])).2⟩with q5 | rfl
  ·simp only[List.length_cons];exact .inl (by omega)
  ·simp only[List.length_cons,List.length_nil];exact .inl (by omega)
theorem qY.nS {s:Sy}{c:Ca}(h:qY s c)(hk:fG s.h):c.sl.length<=256:=by
 rcases Iz (k:=0) (N:=256) h.sr λx a=>⟨gU _,(h.sk x a).BF hk⟩with h1 | h1
 ·omega
 ·rw[h1];exact gU _
theorem UC {g:Hp}(hk:fG h)(hg:fG g)(hs:Same h g)(i:Nat)(u lo:Bool):g.held i u lo=h.held i u lo:=by
 have e1:g.z1.f=h.z1.f:=by rw[<- hg.e0,<- hk.e0,hs.split]
 have a:g.z1.e=h.z1.e:=by rw[hg.e1,hk.e1]
 unfold Hp.held Hp.min;rw[e1,a,hs.m0,hs.m1]
theorem fG.UD {h':Hp}(hk:fG h){l:Ls}(hl:l.c<h.aP/\l.z<2/\l.t<3)(h8:∀x∈h.ls,x.key=l.key->x.p.length+(n+1)<=8)(hn:n+1<=8)(he:h.nH l.z 0 l.t hd=aK (h',a)):
 fG h'/\fG {h' with ls:=cO h'.ls l a}/\(∀x∈cO h'.ls l a,x.key=l.key->x.p.length+n<=8)/\Same h {h' with ls:=cO h'.ls l a}:=by
 obtain⟨b,e,m⟩:=hk.nH (by omega) hl.2.2 hl.2.1 he;have g:l.c<h'.aP/\l.z<2/\l.t<3:=by rw[b.same.aP];exact hl
 obtain⟨k,o⟩:=b.ok.push (l:=l) (p:=a) g ⟨b.fit.2.2.1,by rw[b.same.split];exact m⟩ (λx f hk=>by rw[e]at f;have:=h8 x f hk;omega) (λq=>by rw[b.c 0 q];exact hk.one q);refine⟨b.ok,k,λx f d=> ?_,Same.trans b.same ⟨rfl,rfl,rfl,rfl⟩⟩;have:=EI b.ok.lk x f d;have r:zQ h'.ls l.key+(n+1)<=8:=by
  unfold zQ;cases hf:h'.ls.find? λx=>decide (x.key=l.key)with
  | none=>simp only;omega
  | some y=>
   have j:=List.mem_of_find?_eq_some hf;have i:=List.find?_some hf;rw[e]at j;exact h8 y j (of_decide_eq_true i)
 omega
theorem IB (h:sW ls k=true):∃hi:kS ls k<ls.length,ls[kS ls k].key=k:=by
 unfold sW at h;cases he:ls[kS ls k]? with
 | none=>rw[he]at h;cases h
 | some x=>
  rw[he]at h;obtain⟨hi,a⟩:=gK.1 he;exact⟨hi,by rw[a];simpa using h⟩
theorem EJ (h:sW ls k=false):∀y,ls[kS ls k]? =aK y->y.key≠k:=λy a=>by
 unfold sW at h;rw[a]at h;simpa using h
theorem JK {l:Ls}(hh:sW h.ls l.key=true)(hi:kS h.ls l.key<h.ls.length):h.single l hd=aK ({h with ls:=if h.ls[kS h.ls l.key].p.length=1 then h.ls.eraseIdx (kS h.ls l.key)else h.ls.set (kS h.ls l.key) {h.ls[kS h.ls l.key]with p:=h.ls[kS h.ls l.key].p.dropLast}},h.ls[kS h.ls l.key].p.getLastD 0):=by
 obtain⟨_,a⟩:=IB hh;unfold Hp.single;rw[gJ hi];simp only[a,if_true]
theorem Qu {l:Ls}(hh:sW h.ls l.key=false):h.single l hd=(h.nH l.z 0 l.t hd).map λr=>(r.1.fill l hd 3,r.2):=by
 have a:=EJ hh;unfold Hp.single;cases he:h.ls[kS h.ls l.key]? with
 | none=>rfl
 | some x=>simp only[a x he,if_false]
def Link (xs:List Int):Int->List Int->Prop
 | p,[]=>p= -1
 | p,a::m=>p=a/\Link xs (xs.getD a.toNat 0) m
theorem SV :WU n p 1=true↔0<=p/\p<n:=by
 unfold WU;simp only[decide_eq_true_eq];omega
theorem zS :∀(f:Nat) (p:Int) (out l:List Int),jS xs most f p out=aK l->∃m,l=out++m/\Link xs p m/\(∀a∈m,0<=a/\a<xs.length)/\(m≠[]->(l.length:Int)<=most)/\(out.Nodup->l.Nodup)
 | 0,_,_,_,h=>by simp[jS]at h
 | f+1,p,out,l,h=>by
  unfold jS at h;split at h
  ·rename_i hp;obtain rfl:=gP h;exact⟨[],by simp,hp,by simp,by simp,id⟩
  ·rename_i hp;split at h
   ·cases h
   ·rename_i hn;simp only[not_or,Bool.not_eq_false,Bool.not_eq_true]at hn;obtain⟨t,r,j⟩:=hn;obtain⟨m,k,q,s,hb,n⟩:=zS f _ _ l h;have i:=SV.1 r;refine⟨p::m,by rw[k];simp,⟨rfl,q⟩,λa g=> ?_,λ_=> ?_,λo=>n ?_⟩
    ·rcases gY.1 g with rfl | g
     ·exact i
     ·exact s a g
    ·by_cases c:m=[]
     ·subst c;rw[k];simp;omega
     ·exact hb c
    ·rw[List.nodup_append];refine⟨o,by simp,λa g b d e=> ?_⟩;simp only[gTa]at d;subst d e;unfold vO at j;rw[List.contains_iff_mem.2 g]at j;cases j
theorem zT :∀(m:List Int) (p:Int) (out:List Int) (f:Nat),Link xs p m->(∀a∈m,0<=a/\a<xs.length)->(m≠[]->((out++m).length:Int)<=most)->(out++m).Nodup->m.length+1<=f->jS xs most f p out=aK (out++m)
 | [],p,out,f+1,hl,_,_,_,_=>by
  unfold jS;rw[if_pos (show p= -1 from hl),List.append_nil]
 | a::m,p,out,f+1,⟨hp,hl⟩,hr,hb,hd,hf=>by
  subst hp;have hpr:=hr p (by simp);have b:=hb (by simp);unfold jS;rw[if_neg (by omega),if_neg,zT m _ (out++[p]) f hl (λa d=>hr a (List.mem_cons_of_mem _ d)) (λ_=>by simpa using b) (by simpa using hd) (by simpa using hf)]
  ·simp
  ·simp only[not_or,Bool.not_eq_false,Bool.not_eq_true];refine⟨by simp at b;omega,SV.2 hpr,?_⟩;unfold vO;rw[<- Bool.not_eq_true,List.contains_iff_mem];intro c;rw[List.nodup_append]at hd;exact hd.2.2 p c p (by simp) rfl
 | [],_,_,0,_,_,_,_,h=>by simp at h
 | _::_,_,_,0,_,_,_,_,h=>by simp at h
theorem iP :follow xs p most=aK l↔Link xs p l/\(∀a∈l,0<=a/\a<xs.length)/\(l≠[]->(l.length:Int)<=most)/\l.Nodup:=by
 constructor
 ·intro h;obtain⟨m,f,d,b,e,c⟩:=zS _ _ _ _ h;simp only[List.nil_append]at f;subst f;exact⟨d,b,e,c (by simp)⟩
 ·rintro⟨d,b,e,c⟩;have g:=EC xs.length l c b;exact zT l p [] _ d b (by simpa using e) (by simpa using c) (by omega)
theorem Link.move {ys:List Int}:∀{m:List Int} {p:Int},Link xs p m->(∀a∈m,ys.getD a.toNat 0=xs.getD a.toNat 0)->Link ys p m
 | [],_,h,_=>h
 | a::m,_,⟨h1,h2⟩,he=>⟨h1,by rw[he a (by simp)];exact h2.move λb hb=>he b (List.mem_cons_of_mem _ hb)⟩
theorem sZ.move {s s':Sy}{c c':Ca}{x:Sl}(h:sZ s c x)(hz:c'.z=c.z)(hr:c'.r=c.r)(ho:c'.o=c.o)(hl:∀b∈s.h.live,b∈s'.h.live)(hw:s'.w.length=s.w.length)(hs:∀a:Int,iO c x.p a=true->s'.w.getD a.toNat 0=s.w.getD a.toNat 0):sZ s' c' x:=by
 obtain⟨b,hb,k,i⟩:=h.live;obtain⟨l,e,j,g⟩:=h.chain;refine⟨⟨b,hl b hb,k,by rw[ho];exact i⟩,l,?_,j,λa d=> ?_⟩
 ·rw[hr];rw[iP]at e ⊢;rw[hw];exact⟨e.1.move λa d=>hs a (g a d),e.2⟩
 ·have f:=g a d;unfold iO at f ⊢;rw[hz,hr];exact f
theorem qY.move {s s':Sy}{c:Ca}(h:qY s c)(hc:s'.h.aP=s.h.aP)(hs:∀x∈c.sl,sZ s' c x):qY s' c:=
 ⟨h.z,h.o,h.r,h.ns,h.nm,h.nr,by rw[hc];exact h.ac,h.sr,hs,h.aw,h.ad⟩
theorem cZ.upd {s s':Sy}(hk:cZ s){c c':Ca}(hi:s.cs[i]? =aK c)(hw:s'.w.length=4096)(hh:fG s'.h)(hcs:s'.cs=s.cs.set i c')(hz:c'.z=c.z)(hn:c'.ns=c.ns)(hc:qY s' c')(ho:∀d∈s.cs,qY s' d)
 (hp:∀x∈c'.sl,(∃y∈c.sl,y.p=x.p)∨∀d∈s.cs,∀y∈d.sl,y.p≠x.p):cZ s':=by
 obtain⟨D,g⟩:=gK.1 hi;have key:∀{R:Ca->Ca->Prop},s.cs.Pairwise R->(∀j (a:j<s.cs.length),j<i->R s.cs[j] c->R s.cs[j] c')->(∀j (a:j<s.cs.length),i<j->R c s.cs[j]->R c' s.cs[j])->s'.cs.Pairwise R:=fun{R} u v C=>by
  rw[hcs];rw[gN]at u ⊢;intro j k a f b;rw[List.length_set]at a f;have q:=u j k a f b;rw[List.getElem_set,List.getElem_set];split
  ·rename_i e;subst e;rw[if_neg (by omega)];exact C k f b (by rw[<- g];exact q)
  ·split
   ·rename_i e;subst e;exact v j a b (by rw[<- g];exact q)
   ·exact q
 refine⟨hw,hh,by rw[hcs,List.length_set];exact hk.cl,λd t=> ?_,key hk.zd (λ_ _ _ h=>by rw[hz];exact h) (λ_ _ _ h=>by rw[hz];exact h),key hk.nd (λ_ _ _ h=>by rw[hn];exact h) (λ_ _ _ h=>by rw[hn];exact h),key hk.pd (λj a _ h x m y l=> ?_) (λj a _ h x m y l=> ?_)⟩
 ·rw[hcs]at t;rcases List.mem_or_eq_of_mem_set t with h | rfl
  ·exact ho d h
  ·exact hc
 ·rcases hp y l with ⟨A,r,e⟩ | o
  ·rw[<- e];exact h x m A r
  ·exact o _ (gL a) x m
 ·rcases hp x m with ⟨B,n,e⟩ | o
  ·rw[<- e];exact h B n y l
  ·exact λe=>o _ (gL a) y l e.symm
theorem Nc {l:List Sl}:l.take (Qo l a)=l.takeWhile (λx=>decide (x.p<a))/\l.drop (Qo l a)=l.dropWhile (λx=>decide (x.p<a)):=by
 have h:l.takeWhile (λx=>decide (x.p<a))++l.dropWhile (λx=>decide (x.p<a))=l:=List.takeWhile_append_dropWhile;unfold Qo;constructor
 ·conv=>lhs;rw[<- h]
  rw[List.take_left'];rw[h]
 ·conv=>lhs;rw[<- h]
  rw[List.drop_left'];rw[h]
theorem SX (l:List Sl)(x:Sl):qL l x=l.takeWhile (λy=>decide (y.p<x.p))++x::l.dropWhile (λy=>decide (y.p<x.p)):=by
 unfold qL;rw[Nc.1,Nc.2]
theorem o8 {l:List Sl}{x y:Sl}:y∈qL l x↔y=x∨y∈l:=by
 rw[SX];have h:l.takeWhile (λy=>decide (y.p<x.p))++l.dropWhile (λy=>decide (y.p<x.p))=l:=List.takeWhile_append_dropWhile
 conv=>rhs;rw[<- h]
 simp only[gZ,gY];constructor
 ·rintro(h | h | h)
  ·exact .inr (.inl h)
  ·exact .inl h
  ·exact .inr (.inr h)
 ·rintro(h | h | h)
  ·exact .inr (.inl h)
  ·exact .inl h
  ·exact .inr (.inr h)
theorem zU :∀{l:List Sl},(l.Pairwise λx y=>x.p<y.p)->∀y∈l.dropWhile (λx=>decide (x.p<a)),a<=y.p
 | [],_,y,hy=>by simp at hy
 | b::l,hl,y,hy=>by
  rw[List.pairwise_cons]at hl;by_cases hb:b.p<a
  ·rw[List.dropWhile_cons_of_pos (by simpa using hb)]at hy;exact zU hl.2 y hy
  ·rw[List.dropWhile_cons_of_neg (by simpa using hb)]at hy;rcases gY.1 hy with rfl | hy
   ·omega
   ·have:=hl.1 y hy;omega
theorem XC {q:Sl->Bool}{y:Sl}:∀{l:List Sl},y∈l.takeWhile q->q y=true
 | [],h=>by simp at h
 | b::l,h=>by
  by_cases hb:q b=true
  ·rw[List.takeWhile_cons_of_pos hb]at h;rcases gY.1 h with rfl | h
   ·exact hb
   ·exact XC h
  ·rw[List.takeWhile_cons_of_neg hb]at h;simp at h
theorem UE {l:List Sl}{x:Sl}(hl:l.Pairwise λa b=>a.p<b.p)(hx:∀y∈l,y.p≠x.p):(qL l x).Pairwise λa b=>a.p<b.p:=by
 have h:l.takeWhile (λy=>decide (y.p<x.p))++l.dropWhile (λy=>decide (y.p<x.p))=l:=List.takeWhile_append_dropWhile;have g:∀y∈l.takeWhile (λy=>decide (y.p<x.p)),y.p<x.p:=λy c=>by
  have:=XC c;simpa using this
 have f:=zU (a:=x.p) hl;have d:=hl;rw[<- h,List.pairwise_append]at d;rw[SX,List.pairwise_append,List.pairwise_cons];refine⟨d.1,⟨λy c=> ?_,d.2.1⟩,λa e b hb=> ?_⟩
 ·have i:=f y c;have j:=hx y (by rw[<- h];exact List.mem_append_right _ c);omega
 ·rcases gY.1 hb with rfl | hb
  ·exact g a e
  ·exact d.2.2 a e b hb
theorem XD (l:List Sl)(x:Sl):(qL l x)[Qo l x.p]? =aK x:=by
 have h:Qo l x.p<=l.length:=(List.takeWhile_sublist _).length_le;unfold qL;rw[List.getElem?_append_right (by rw[gTc];omega),gTc,Nat.min_eq_left h,Nat.sub_self];rfl
theorem Nh (h:1<=k/\k<=64):1<=iR k:=by
 unfold iR;rw[Nat.le_div_iff_mul_le (by omega)];unfold fV;split
 ·rename_i h1;rw[Nat.le_div_iff_mul_le (by omega)]at h1;omega
 ·split
  ·rename_i h1;rw[Nat.le_div_iff_mul_le (by omega)]at h1;omega
  ·omega
theorem UF (k:Nat):iR k*k<=16*2^fV k:=Nat.div_mul_le_self _ _
theorem mM (k:Nat):fV k<=2:=by unfold fV;split <;> (try split) <;> omega
theorem kD {c:Ca}{p:Nat}{a:Int}(hc:c.r*c.z<=16*2^c.o)(h:iO c p a=true):16*(p:Int)<=a/\a<16*((p+2^c.o:Nat):Int):=by
 have e:=kY h;have b:((c.r*c.z:Nat):Int)<=((16*2^c.o:Nat):Int):=by exact_mod_cast hc
 have g:((c.r*c.z:Nat):Int)=(c.r:Int)*c.z:=by push_cast;rfl
 have d:((16*2^c.o:Nat):Int)=16*((2^c.o:Nat):Int):=by push_cast;rfl
 have f:((p+2^c.o:Nat):Int)=(p:Int)+((2^c.o:Nat):Int):=by push_cast;rfl
 generalize ((2^c.o:Nat):Int)=q at*;omega
theorem qY.room {s:Sy}{c:Ca}(h:qY s c):c.r*c.z<=16*2^c.o:=by rw[h.r,h.o];exact UF _
theorem rF (xs:List Int)(p k n:Nat):∀(j:Nat),j<=n->∀i,(i<p∨p+k*n<=i)->1<=k->(chainTo xs p k n j).getD i 0=xs.getD i 0
 | 0,_,_,_,_=>rfl
 | j+1,hj,i,hi,hk=>by
  have ih:=rF xs p k n j (by omega) i hi hk;have a:p+j*k≠i:=by
   have b:(j+1)*k<=n*k:=Nat.mul_le_mul_right k hj;have c:n*k=k*n:=Nat.mul_comm _ _;rw[Nat.add_mul]at b;omega
  unfold chainTo;rw[List.getD_eq_getElem?_getD,List.getElem?_set_ne a,<- List.getD_eq_getElem?_getD];exact ih
theorem cZ.grow {s s':Sy}(hk:cZ s){c:Ca}(hi:s.cs[i]? =aK c)(dA:cpu<s.h.aP)(hg:s.grow i cpu c=aK (s',k)):
 cZ s'/\s'.h.aP=s.h.aP/\∃(c':Ca) (x:Sl),s'.cs[i]? =aK c'/\c'.sl[k]? =aK x/\0<x.n/\(∀a∈c'.ac,a≠(x.p:Int)):=by
 have R:=(gK.1 hi).1;have f:=hk.ck c (gM hi);have Q:c.o<=4:=by rw[f.o];exact gQ (mM _) (by decide)
 unfold Sy.grow at hg;cases hal:s.h.alloc cpu c.o 0 false false with
 | none=>rw[hal]at hg;cases hg
 | some r=>
  obtain⟨E,a⟩:=r;rw[hal]at hg;have g:=gP hg;rw[Prod.mk.injEq]at g;obtain⟨rfl,rfl⟩:=g;obtain⟨X,V,B,A,H⟩:=hk.hk.alloc dA Q (by decide) hal;have N:E.aP=s.h.aP:=B.aP;have C:E.live=dG s.h.live ⟨a,c.o,0⟩:=A
  -- the new block lies apart from all others
  have M:∀b∈s.h.live,apartB a c.o b:=λb hb=>dU λq g D=>by
   have L:=X.one q;rw[dO,C,tJ]at L;have W:0<cnt s.h.live q:=eG.2 ⟨b,hb,D⟩;have h5:hit (⟨a,c.o,0⟩:Bk) q=1:=kR.2 g;omega
  have Z:=Nat.two_pow_pos c.o;have u:∀d∈s.cs,∀x∈d.sl,x.p≠a/\∀o:Int,iO d x.p o=true->(chainTo s.w (16*a) c.z c.r c.r).getD o.toNat 0=s.w.getD o.toNat 0:=λd t x l=>by
   have J:=hk.ck d t;obtain⟨b,hb,T,S⟩:=(J.sk x l).live;have g:=M b hb;unfold apartB Bk.fin at g;rw[T,S]at g;have hp2:=Nat.two_pow_pos d.o;refine⟨by omega,λo K=>rF _ _ _ _ _ (gT _) _ ?_ f.z.1⟩;have D:=kD J.room K;have L:=f.room;rw[Nat.mul_comm c.z c.r];generalize c.r*c.z=m at*;generalize 2^c.o=q at*;generalize 2^d.o=q' at*;omega
  have F:(chainTo s.w (16*a) c.z c.r c.r).length=s.w.length:=jB _ _ _ _ _;have U:∀b∈s.h.live,b∈E.live:=λb hb=>by
   rw[C];unfold dG;have D:s.h.live.take (lb s.h.live a)++s.h.live.drop (lb s.h.live a)=s.h.live:=List.take_append_drop _ _;rw[<- D]at hb;rcases gZ.1 hb with h | h
   ·exact List.mem_append_left _ h
   ·exact List.mem_append_right _ (List.mem_cons_of_mem _ h)
  have v:∀d∈s.cs,∀x∈d.sl,sZ {w:=chainTo s.w (16*a) c.z c.r c.r,h:=E,cs:=s.cs.set i {c with sl:=qL c.sl ⟨a,c.r,((16*a:Nat):Int)⟩}} d x:=λd t x l=>
   ((hk.ck d t).sk x l).move rfl rfl rfl U F ((u d t x l).2)
  have I:1<=c.r:=by rw[f.r];exact Nh f.z
  have O:16*a+c.z*c.r<=s.w.length:=by
   have g:=f.room;have D:a+2^c.o<=256:=by
    have L:c.o<=2:=by rw[f.o];exact mM _
    obtain⟨_,_,W,h5⟩:=H;generalize c.o=o at*;obtain rfl | rfl | rfl:o=0∨o=1∨o=2:=by omega
    ·omega
    ·omega
    ·omega
   rw[Nat.mul_comm c.z,hk.wl];generalize c.r*c.z=m at*;generalize 2^c.o=q at*;omega
  have G:sZ {w:=chainTo s.w (16*a) c.z c.r c.r,h:=E,cs:=s.cs.set i {c with sl:=qL c.sl ⟨a,c.r,((16*a:Nat):Int)⟩}} {c with sl:=qL c.sl ⟨a,c.r,((16*a:Nat):Int)⟩} ⟨a,c.r,((16*a:Nat):Int)⟩:=by
   refine⟨⟨⟨a,c.o,0⟩,by rw[show E.live=_ from C];unfold dG;simp,rfl,rfl⟩,objs (16*a) c.z c.r,?_,rC _ _ _,λo K=> ?_⟩
   ·have g:=zN s.w (16*a) c.z c.r c.r f.z.1 I O (by omega);rw[if_pos (Int.le_refl _)]at g;exact g
   ·unfold objs at K;obtain⟨j,Y,rfl⟩:=List.mem_map.1 K;rw[List.mem_range]at Y;unfold iO;simp only[decide_eq_true_eq];have g:((16*a+j*c.z:Nat):Int)-16*(a:Int)=(j:Int)*c.z:=by push_cast;omega
    rw[g];have D:(j:Int)*c.z=((j*c.z:Nat):Int):=by push_cast;rfl
    have L:(c.r:Int)*c.z=((c.r*c.z:Nat):Int):=by push_cast;rfl
    have W:j*c.z<c.r*c.z:=Nat.mul_lt_mul_of_pos_right Y f.z.1;refine⟨by omega,by omega,Int.mul_emod_left _ _⟩
  refine⟨hk.upd hi (c':={c with sl:=qL c.sl ⟨a,c.r,((16*a:Nat):Int)⟩}) (by show(chainTo s.w (16*a) c.z c.r c.r).length=4096;rw[F];exact hk.wl) X rfl rfl rfl ?_ (λd t=>(hk.ck d t).move N (v d t)) (λx l=> ?_),N,{c with sl:=qL c.sl ⟨a,c.r,((16*a:Nat):Int)⟩},⟨a,c.r,((16*a:Nat):Int)⟩,?_,XD c.sl ⟨a,c.r,((16*a:Nat):Int)⟩,I,λb hb e=> ?_⟩
  ·refine⟨f.z,f.o,f.r,f.ns,f.nm,f.nr,by rw[show _=_ from N];exact f.ac,UE f.sr (λy P=>(u c (gM hi) y P).1),λx l=> ?_,λb hb=> ?_,f.ad⟩
   ·rcases o8.1 l with rfl | l
    ·exact G
    ·have g:=v c (gM hi) x l;exact⟨g.live,g.chain⟩
   ·rcases f.aw b hb with h | ⟨x,l,h⟩
    ·exact .inl h
    ·exact .inr ⟨x,o8.2 (.inr l),h⟩
  ·rcases o8.1 l with rfl | l
   ·exact .inr λd t y P=>(u d t y P).1
   ·exact .inl ⟨x,l,rfl⟩
  ·show(s.cs.set i _)[i]? =_;rw[List.getElem?_set_self R]
  ·rcases f.aw b hb with h | ⟨x,l,h⟩
   ·rw[h]at e;have e':(-1:Int)=(a:Int):=e;omega
   ·have g:=(u c (gM hi) x l).1;rw[<- h]at e;have e':(x.p:Int)=(a:Int):=e;omega
theorem cZ.mine {s:Sy}(hk:cZ s){cpu:Nat}{c:Ca}{x:Sl}(hi:s.cs[i]? =aK c)(hx:c.sl[k]? =aK x)(hn:∀a∈c.ac,a≠(x.p:Int)):
 cZ (s.mine i cpu k)/\(s.mine i cpu k).h=s.h/\(s.mine i cpu k).w=s.w/\(s.mine i cpu k).cs[i]? =aK {c with ac:=c.ac.set cpu (x.p:Int)}:=by
 have v:=(gK.1 hi).1;have q:=gM hi;have b:=hk.ck c q;have e:s.mine i cpu k=s.fO i {c with ac:=c.ac.set cpu (x.p:Int)}:=by
  unfold Sy.mine;rw[hi];simp only[hx]
 rw[e];refine⟨hk.upd hi (c':={c with ac:=c.ac.set cpu (x.p:Int)}) hk.wl hk.hk rfl rfl rfl ?_ (λd n=>(hk.ck d n).move rfl (λy f=>⟨((hk.ck d n).sk y f).live,((hk.ck d n).sk y f).chain⟩)) (λy f=> .inl ⟨y,f,rfl⟩),rfl,rfl,?_⟩
 ·refine⟨b.z,b.o,b.r,b.ns,b.nm,b.nr,by rw[List.length_set];exact b.ac,b.sr,λy f=>⟨(b.sk y f).live,(b.sk y f).chain⟩,λa D=> ?_,?_⟩
  ·rcases List.mem_or_eq_of_mem_set D with h | rfl
   ·exact b.aw a h
   ·exact .inr ⟨x,gM hx,rfl⟩
  ·have A:=b.ad;rw[gN]at A ⊢;intro j l C B t;have g:j<c.ac.length:=by simpa using C
   have m:l<c.ac.length:=by simpa using B
   simp only[List.getElem_set];split
   ·rename_i e1;rw[if_neg (by omega)];exact λu=>absurd u.symm (hn _ (gL m))
   ·split
    ·exact λu=>absurd u (hn _ (gL g))
    ·exact A j l g m t
 ·show(s.cs.set i _)[i]? =_;rw[List.getElem?_set_self v]
theorem cZ.first {s:Sy}(hk:cZ s){c:Ca}{x:Sl}(hc:c∈s.cs)(hx:x∈c.sl)(hn:0<x.n):∃m,follow s.w x.h c.r=aK (x.h::m)/\m.length+1=x.n/\(∀a∈x.h::m,iO c x.p a=true)/\0<=x.h/\x.h<4096/\follow s.w (s.w.getD x.h.toNat 0) c.r=aK m:=by
 obtain⟨l,f,e,q⟩:=((hk.ck c hc).sk x hx).chain;have j:=iP.1 f;cases l with
 | nil=>simp at e;omega
 | cons a m=>
  obtain⟨⟨rfl,o⟩,b,k,g⟩:=j;have d:=b x.h (by simp);rw[hk.wl]at d;refine⟨m,f,by simpa using e,q,d.1,by omega,iP.2 ⟨o,λa i=>b a (List.mem_cons_of_mem _ i),λ_=> ?_,(List.nodup_cons.1 g).2⟩⟩;have:=k (by simp);simp at this;omega
theorem cZ.pop {s s':Sy}(hk:cZ s){c:Ca}{x:Sl}{a:Int}(hi:s.cs[i]? =aK c)(hx:c.sl[k]? =aK x)(hn:0<x.n)(hp:s.pop i k=aK (s',a)):
 cZ s'/\s'.h=s.h/\s'.w=s.w/\a=x.h/\s'=s.fO i {c with sl:=c.sl.set k ⟨x.p,x.n-1,s.w.getD x.h.toNat 0⟩}:=by
 have O:=(gK.1 hi).1;have v:=gM hi;have u:=gM hx;obtain⟨J,t⟩:=gK.1 hx;have f:=hk.ck c v;unfold Sy.pop at hp;rw[hi]at hp;simp only[hx]at hp;have H:=gP hp;rw[Prod.mk.injEq]at H;obtain⟨rfl,rfl⟩:=H;obtain⟨m,Q,S,K,R,T,L⟩:=hk.first v u hn;have q:∀y∈c.sl.set k ⟨x.p,x.n-1,s.w.getD x.h.toNat 0⟩,y∈c.sl∨y=⟨x.p,x.n-1,s.w.getD x.h.toNat 0⟩:=λy g=>List.mem_or_eq_of_mem_set g
 have D:∀y∈c.sl.set k ⟨x.p,x.n-1,s.w.getD x.h.toNat 0⟩,∃z∈c.sl,z.p=y.p:=λy g=>by
  rcases q y g with h | rfl
  ·exact⟨y,h,rfl⟩
  ·exact⟨x,u,rfl⟩
 refine⟨hk.upd hi (c':={c with sl:=c.sl.set k ⟨x.p,x.n-1,s.w.getD x.h.toNat 0⟩}) hk.wl hk.hk rfl rfl rfl ?_ (λd B=>(hk.ck d B).move rfl (λy g=>⟨((hk.ck d B).sk y g).live,((hk.ck d B).sk y g).chain⟩)) (λy g=> .inl (D y g)),rfl,rfl,rfl,rfl⟩;refine⟨f.z,f.o,f.r,f.ns,f.nm,f.nr,f.ac,?_,λy g=> ?_,λb hb=> ?_,f.ad⟩
 ·have I:=f.sr;rw[gN]at I ⊢;intro j l G N C;have E:j<c.sl.length:=by simpa using G
  have F:l<c.sl.length:=by simpa using N
  have A:=I j l E F C;simp only[List.getElem_set];split
  ·rename_i e1;subst e1;rw[if_neg (by omega)];rw[t]at A;exact A
  ·split
   ·rename_i e1;subst e1;rw[t]at A;exact A
   ·exact A
 ·rcases q y g with h | rfl
  ·exact⟨(f.sk y h).live,(f.sk y h).chain⟩
  ·exact⟨(f.sk x u).live,m,L,by show m.length=x.n-1;omega,λa P=>K a (List.mem_cons_of_mem _ P)⟩
 ·rcases f.aw b hb with h | ⟨z,M,h⟩
  ·exact .inl h
  ·refine .inr ?_;obtain⟨j,G,e⟩:=List.mem_iff_getElem.1 M;refine⟨(c.sl.set k ⟨x.p,x.n-1,s.w.getD x.h.toNat 0⟩)[j]'(by simpa using G),gL _,?_⟩;rw[List.getElem_set];split
   ·rename_i e1;subst e1;rw[t]at e;rw[e];exact h
   ·rw[e];exact h
theorem cZ.choose {s s':Sy}(hk:cZ s){c:Ca}(hi:s.cs[i]? =aK c)(dA:cpu<s.h.aP)(hg:s.choose i cpu=aK (s',k)):
 cZ s'/\s'.h.aP=s.h.aP/\∃(c':Ca) (x:Sl),s'.cs[i]? =aK c'/\c'.sl[k]? =aK x/\0<x.n:=by
 unfold Sy.choose at hg;rw[hi]at hg;simp only at hg;cases hown:c.own cpu with
 | some j=>
  rw[hown]at hg;have b:=gP hg;rw[Prod.mk.injEq]at b;obtain⟨rfl,rfl⟩:=b;unfold Ca.own at hown;split at hown
  ·split at hown
   ·split at hown
    ·obtain rfl:=gP hown;exact⟨hk,rfl,c,_,hi,by assumption,by assumption⟩
    ·cases hown
   ·cases hown
  ·cases hown
 | none=>
  rw[hown]at hg;simp only at hg;cases yG:c.nobody with
  | some j=>
   rw[yG]at hg;have b:=gP hg;rw[Prod.mk.injEq]at b;obtain⟨rfl,rfl⟩:=b;unfold Ca.nobody at yG;rw[List.findIdx?_eq_some_iff_getElem]at yG;obtain⟨v,d,_⟩:=yG;simp only[Bool.and_eq_true,decide_eq_true_eq,Bool.not_eq_true']at d;have o:c.sl[j]? =aK c.sl[j]:=gJ v;obtain⟨m,l,_,f⟩:=hk.mine (cpu:=cpu) hi o (λa w e=>by
    rw[<- e,List.contains_iff_mem.2 w]at d;cases d.2)
   exact⟨m,by rw[l],_,c.sl[j],f,o,d.1⟩
  | none=>
   rw[yG]at hg;simp only at hg;cases hgr:s.grow i cpu c with
   | none=>rw[hgr]at hg;cases hg
   | some r=>
    obtain⟨y,j⟩:=r;rw[hgr]at hg;have b:=gP hg;rw[Prod.mk.injEq]at b;obtain⟨rfl,rfl⟩:=b;obtain⟨d,m,c',x,l,f,t,p⟩:=hk.grow hi dA hgr;obtain⟨q,u,_,g⟩:=d.mine (cpu:=cpu) l f p;exact⟨q,by rw[u];exact m,_,x,g,f,t⟩
theorem cZ.one {s s':Sy}(hk:cZ s){c:Ca}{a:Int}(hi:s.cs[i]? =aK c)(dA:cpu<s.h.aP)(hg:s.one i cpu=aK (s',a)):cZ s'/\s'.h.aP=s.h.aP/\s'.cs.length=s.cs.length/\∃c',s'.cs[i]? =aK c':=by
 unfold Sy.one at hg;cases hch:s.choose i cpu with
 | none=>rw[hch]at hg;cases hg
 | some r=>
  obtain⟨d,k⟩:=r;rw[hch]at hg;simp only at hg;obtain⟨p,n,c',x,l,o,u⟩:=hk.choose hi dA hch;obtain⟨v,q,_,_,g⟩:=p.pop l o u hg;have b:d.cs.length=s.cs.length:=by
   unfold Sy.choose at hch;rw[hi]at hch;simp only at hch;have m:∀(t:Sy) (j:Nat),(t.mine i cpu j).cs.length=t.cs.length:=λt j=>by
    unfold Sy.mine Sy.fO;split
    ·split
     ·simp
     ·rfl
    ·rfl
   split at hch
   ·have h:=gP hch;rw[Prod.mk.injEq]at h;rw[<- h.1]
   ·split at hch
    ·have h:=gP hch;rw[Prod.mk.injEq]at h;rw[<- h.1];exact m _ _
    ·split at hch
     ·rename_i heq;have h:=gP hch;rw[Prod.mk.injEq]at h;rw[<- h.1,m];unfold Sy.grow at heq;split at heq
      ·have f:=gP heq;rw[Prod.mk.injEq]at f;rw[<- f.1];simp
      ·cases heq
     ·cases hch
  have e:i<d.cs.length:=(gK.1 l).1;refine⟨v,by rw[q];exact n,?_,?_⟩
  ·rw[g];unfold Sy.fO;simp[b]
  ·rw[g];exact⟨_,by show(d.cs.set i _)[i]? =_;rw[List.getElem?_set_self e]⟩
structure Safe (X:Nat->Prop)(w w':World):Prop where
 os:w'.os=w.os
 tape:w'.tape=w.tape
 output:w'.output=w.output
 size:w.heap.size<=w'.heap.size
 block:∀k,k<w.heap.size->X k->w'.heap[k]? =w.heap[k]?
section
variable {X Y:Nat->Prop}{a b c w w':World}{B:Nat}
theorem Safe.refl (X:Nat->Prop)(w:World):Safe X w w:=⟨rfl,rfl,rfl,gT _,λ_ _ _=>rfl⟩
theorem Safe.trans (h:Safe X a b)(k:Safe X b c):Safe X a c:=⟨k.os.trans h.os,k.tape.trans h.tape,k.output.trans h.output,gQ h.size k.size,λj d e=>(k.block j (gI d h.size) e).trans (h.block j d e)⟩
theorem Safe.sub (h:Safe X a b)(hy:∀k,k<a.heap.size->Y k->X k):Safe Y a b:=⟨h.os,h.tape,h.output,h.size,λj c d=>h.block j c (hy j c d)⟩
theorem Safe.jT (h:Below w.heap.size w w'):Safe X w w':=⟨h.os,h.tape,h.output,h.size,λk a _=>h.block k a⟩
theorem Safe.o7 (h:w.grownBy w' row)(hr:∀k,X k->aK k≠row):Safe X w w':=⟨h.os,h.tape,h.output,h.size,λk a b=>h.block k a (hr k b)⟩
theorem Safe.then (h:Safe X a b)(k:Below b.heap.size b c):Safe X a c:=h.trans (.jT k)
theorem Safe.below (h:Safe X w w')(hX:∀k,k<B->X k)(hB:B<=w.heap.size):Below B w w':=⟨h.os,h.tape,h.output,h.size,λk a=>h.block k (gI a hB) (hX k a)⟩
theorem Safe.after (h0:Below B a w)(h:Safe X w w')(hX:∀k,k<B->X k)(hB:B<=w.heap.size):Below B a w':=h0.trans (h.below hX hB)
theorem Safe.set (h:Safe X a b)(hg:¬X g)(i:Nat)(u:Value):Safe X a (b.setCell ⟨g,i,aJ⟩ u):=h.trans ⟨rfl,rfl,rfl,by simp[World.setCell],λk d c=>Below.heap_setCell _ _ _ _ (λe=>hg (by rw[<- show k=g from e];exact c))⟩
theorem Safe.cell (h:Safe X w w'){p:Addr}(hp:p.block<w.heap.size)(hx:X p.block):w'.cell? p=w.cell? p:=World.cell?_of_block (w:=w) (h.block p.block hp hx)
theorem Safe.frozen (h:Safe X w w'){p:Addr}(hp:p.block<w.heap.size)(hx:X p.block):w'.frozen? p=w.frozen? p:=World.frozen?_of_block (w:=w) (h.block p.block hp hx)
theorem Safe.box (h:Safe X w w')(hc:∀o,w.cell? ⟨g,o,aJ⟩=vs[o]?)(hg:g<w.heap.size)(hx:X g)(o:Nat):w'.cell? ⟨g,o,aJ⟩=vs[o]? :=(h.cell (p:=⟨g,o,aJ⟩) hg hx).trans (hc o)
theorem Safe.WV (h:Safe X w w')(hc:∀o,w.frozen? ⟨g,o,aJ⟩=false)(hg:g<w.heap.size)(hx:X g)(o:Nat):w'.frozen? ⟨g,o,aJ⟩=false:=(h.frozen (p:=⟨g,o,aJ⟩) hg hx).trans (hc o)
end
structure Hc where
 az:Option Addr
 cz:Nat
 am:Option Addr
 cm:Nat
 al:Option Addr
 cl:Nat
 av:Option Addr
 cv:Nat
 y0:Zc
 y1:Zc
 lc:List Lc
def Bd (c:Hc):Rs:=⟨79,4,aA c.az 2 c.cz,2,flat oG [c.y0,c.y1]⟩
def sN (c:Hc):Rs:=⟨160,4,aA c.al c.lc.length c.cl,c.lc.length,flat dB c.lc⟩
def Af (c:Hc)(h:Hp):Rs:=⟨82,3,aA c.av h.live.length c.cv,h.live.length,flat bC h.live⟩
def lM (r:Lc):Rs:=⟨3,1,aA r.a r.n r.c,r.n,flat jA r.l.p⟩
def mnR (c:Hc)(h:Hp):Rs:=⟨3,1,aA c.am 2 c.cm,2,flat jA [h.m0,h.m1]⟩
def Vg (y:Zc):Rs:=⟨82,3,aA y.a1 y.n1 y.c1,y.n1,flat bC y.z.l⟩
def Vh (y:Zc):Rs:=⟨3,1,aA y.a2 y.n2 y.c2,y.n2,flat jA y.z.y⟩
def Hc.rows (c:Hc)(h:Hp):List Rs:=Bd c::sN c::Af c h::c.lc.map lM
def Hc.reads (c:Hc)(h:Hp):List Rs:=[mnR c h,Vg c.y0,Vh c.y0,Vg c.y1,Vh c.y1]
def Hc.vals (c:Hc)(h:Hp):Array Value:=#[aA c.az 2 c.cz,aA c.am 2 c.cm,aB aI (h.aP:Int),aA c.al c.lc.length c.cl,aA c.av h.live.length c.cv]
structure HR (W:World)(G:Nat)(X:Nat->Prop)(h:Hp)(c:Hc):Prop where
 own:dY W 0 (c.rows h)
 ro:∀r∈c.reads h,r.on W 0
 ds:∀r∈c.reads h,∀s∈c.rows h,r.off s
 og:∀r∈c.rows h,∀g,r.v.ownBlock=aK g->g≠G/\¬X g
 rg:∀r∈c.reads h,r.v.ownBlock≠aK G
 rx:∀r∈c.reads h,∀g,r.v.ownBlock=aK g->¬X g
 gs:G<W.heap.size
 xg:¬X G
 xs:∀k,X k->k<W.heap.size
 e0:c.y0.z=h.z0
 e1:c.y1.z=h.z1
 ll:c.lc.map Lc.l=h.ls
structure HS (W:World)(G:Nat)(X:Nat->Prop)(h:Hp)(c:Hc):Prop where
 r:HR W G X h c
 k:∀o,W.cell? ⟨G,o,aJ⟩=(c.vals h)[o]?
 fz:∀o,W.frozen? ⟨G,o,aJ⟩=false
theorem Yc (h:(Vg y).on W b):y.z.l.length=y.n1:=by
 have a:=h.1;unfold Vg at a;simp only at a;rw[flat_length aX]at a;omega
theorem Yd (h:(Vh y).on W b):y.z.y.length=y.n2:=by
 have a:=h.1;unfold Vh at a;simp only at a;rw[flat_length dH]at a;omega
theorem yY {y:Lc}(h:(lM y).on W b):y.l.p.length=y.n:=by
 have a:=h.1;unfold lM at a;simp only at a;rw[flat_length dH]at a;omega
section
variable {W W':World}{G:Nat}{X Y:Nat->Prop}{h:Hp}{c:Hc}
theorem HR.mG (hs:HR W G X h c):∀r∈c.lc,(lM r).on W 0:=λr a=>hs.own.each _ (by
 unfold Hc.rows;exact List.mem_cons_of_mem _ (List.mem_cons_of_mem _ (List.mem_cons_of_mem _ (List.mem_map_of_mem a))))
theorem HR.zs (hs:HR W G X h c):(Bd c).on W 0:=hs.own.each _ (by simp[Hc.rows])
theorem HR.lsr (hs:HR W G X h c):(sN c).on W 0:=hs.own.each _ (by simp[Hc.rows])
theorem HR.lv (hs:HR W G X h c):(Af c h).on W 0:=hs.own.each _ (by simp[Hc.rows])
theorem HR.mn (hs:HR W G X h c):(mnR c h).on W 0:=hs.ro _ (by simp[Hc.reads])
theorem HR.l0 (hs:HR W G X h c):(Vg c.y0).on W 0:=hs.ro _ (by simp[Hc.reads])
theorem HR.t0 (hs:HR W G X h c):(Vh c.y0).on W 0:=hs.ro _ (by simp[Hc.reads])
theorem HR.l1 (hs:HR W G X h c):(Vg c.y1).on W 0:=hs.ro _ (by simp[Hc.reads])
theorem HR.t1 (hs:HR W G X h c):(Vh c.y1).on W 0:=hs.ro _ (by simp[Hc.reads])
theorem HR.z0 (hs:HR W G X h c):IJ W c.y0.a1 c.y0.a2 c.y0.n1 c.y0.n2 h.z0:=by
 rw[<- hs.e0];exact⟨Yc hs.l0,Yd hs.t0,bJ hs.l0,bJ hs.t0⟩
theorem HR.z1 (hs:HR W G X h c):IJ W c.y1.a1 c.y1.a2 c.y1.n1 c.y1.n2 h.z1:=by
 rw[<- hs.e1];exact⟨Yc hs.l1,Yd hs.t1,bJ hs.l1,bJ hs.t1⟩
theorem HR.at (hs:HR W G X h c):HAt W c.az c.am c.al c.av c.lc.length h.live.length c.y0 c.y1 c.lc h:=
 ⟨bJ hs.zs,bJ hs.mn,bJ hs.lsr,bJ hs.lv,hs.e0,hs.e1,hs.z0,hs.z1,hs.ll,rfl,rfl,λr a=>⟨yY (hs.mG r a),bJ (hs.mG r a)⟩⟩
theorem HR.below (hs:HR W G X h c)(hb:Below W.heap.size W W'):HR W' G X h c:=
 ⟨hs.own.below hb,λr a=>own_below (hs.ro r a) hb (gT _),hs.ds,hs.og,hs.rg,hs.rx,gI hs.gs hb.size,hs.xg,λk b=>gI (hs.xs k b) hb.size,hs.e0,hs.e1,hs.ll⟩
theorem HS.below (hs:HS W G X h c)(hb:Below W.heap.size W W'):HS W' G X h c:=
 ⟨hs.r.below hb,aQ hs.k hs.r.gs hb,aU hs.fz hs.r.gs hb⟩
theorem HR.sub (hs:HR W G X h c)(hy:∀k,Y k->X k):HR W G Y h c:=
 ⟨hs.own,hs.ro,hs.ds,λr a g b=>⟨(hs.og r a g b).1,λe=>(hs.og r a g b).2 (hy g e)⟩,hs.rg,λr a g b e=>hs.rx r a g b (hy g e),hs.gs,λe=>hs.xg (hy _ e),λk d=>hs.xs k (hy k d),hs.e0,hs.e1,hs.ll⟩
theorem HS.sub (hs:HS W G X h c)(hy:∀k,Y k->X k):HS W G Y h c:=⟨hs.r.sub hy,hs.k,hs.fz⟩
theorem HR.more (hs:HR W G X h c)(hy:∀k,Y k->k<W.heap.size/\k≠G/\(∀r∈c.rows h,r.v.ownBlock≠aK k)/\∀r∈c.reads h,r.v.ownBlock≠aK k):HR W G Y h c:=
 ⟨hs.own,hs.ro,hs.ds,λr a g b=>⟨(hs.og r a g b).1,λe=>(hy g e).2.2.1 r a b⟩,hs.rg,λr a g b e=>(hy g e).2.2.2 r a b,hs.gs,λe=>(hy _ e).2.1 rfl,λk d=>(hy k d).1,hs.e0,hs.e1,hs.ll⟩
theorem HS.more (hs:HS W G X h c)(hy:∀k,Y k->k<W.heap.size/\k≠G/\(∀r∈c.rows h,r.v.ownBlock≠aK k)/\∀r∈c.reads h,r.v.ownBlock≠aK k):HS W G Y h c:=⟨hs.r.more hy,hs.k,hs.fz⟩
theorem HS.new (hs:HS W G X h c)(hb:Below W.heap.size W W'):HS W' G (λk=>X k∨(W.heap.size<=k/\k<W'.heap.size)) h c:=
 (hs.below hb).more λk b=>by
  rcases b with b | ⟨g,d⟩
  ·have f:=hs.r.xs k b;exact⟨gI f hb.size,λe=>hs.r.xg (e▸b),λr a e=>(hs.r.og r a k e).2 b,λr a e=>hs.r.rx r a k e b⟩
  ·exact⟨d,λe=>by have:=hs.r.gs;omega,λr a e=>by have:=(hs.r.own.lt r a k e).2;omega,λr a e=>by have:=((hs.r.ro r a).lt k e).2;omega⟩
theorem HR.iQ (hs:HR W G X h c)(i:Nat)(u:Value):HR (W.setCell ⟨G,i,aJ⟩ u) G X h c:=
 ⟨hs.own.far (λr a e=>(hs.og r a G e).1 rfl) i u,λr a=>bU (hs.ro r a) (hs.rg r a) u,hs.ds,hs.og,hs.rg,hs.rx,by simpa using hs.gs,hs.xg,λk b=>by simpa using hs.xs k b,hs.e0,hs.e1,hs.ll⟩
theorem HS.far (hs:HS W G X h c)(hx:X g)(i:Nat)(u:Value):HS (W.setCell ⟨g,i,aJ⟩ u) G X h c:=by
 have b:G≠g:=λe=>hs.r.xg (e▸hx)
 exact⟨⟨hs.r.own.far (λr a e=>(hs.r.og r a g e).2 hx) i u,λr a=>bU (hs.r.ro r a) (λe=>hs.r.rx r a g e hx) u,hs.r.ds,hs.r.og,hs.r.rg,hs.r.rx,by simpa using hs.r.gs,hs.r.xg,λk d=>by simpa using hs.r.xs k d,hs.r.e0,hs.r.e1,hs.r.ll⟩,aS hs.k b i u,aV hs.fz _ _⟩
end
def put4 (W:World)(g o:Nat)(u0 u1 u2 u3:Value):World:=(((W.setCell ⟨g,o,aJ⟩ u0).setCell ⟨g,o+1,aJ⟩ u1).setCell ⟨g,o+2,aJ⟩ u2).setCell ⟨g,o+3,aJ⟩ u3
section
variable {W W1:World}{G:Nat}{X:Nat->Prop}{h:Hp}{c:Hc}
theorem EU {base:Nat}{e:TypeId}{size:Nat}{v:Value}{xs:List Value}(h:W.ownsRow base e size v n xs)(hb:v.ownBlock≠aK g)(o:Nat)(u0 u1 u2 u3:Value):(put4 W g o u0 u1 u2 u3).ownsRow base e size v n xs:=
 bU (bU (bU (bU h hb u0) hb u1) hb u2) hb u3
theorem Safe.put4 (g o:Nat)(u0 u1 u2 u3:Value)(hg:¬X g):Safe X W (put4 W g o u0 u1 u2 u3):=((((Safe.refl X W).set hg o u0).set hg (o+1) u1).set hg (o+2) u2).set hg (o+3) u3
theorem dY.put4 {mF:Nat}(h:dY W mF (r::rs)){c:Nat}(hv:r.v=aA (aK ⟨g,0,aJ⟩) r.n c)(o:Nat)(u0 u1 u2 u3:Value)(h0:u0.oneCell'=true)(h1:u1.oneCell'=true)(h2:u2.oneCell'=true)(h3:u3.oneCell'=true):
 dY (put4 W g o u0 u1 u2 u3) mF ({r with xs:=(((r.xs.set o u0).set (o+1) u1).set (o+2) u2).set (o+3) u3}::rs):=by
 have b:=h.cell (i:=0) (by simp) (g:=g) (c:=c) hv o u0 h0;have k1:=b.cell (i:=0) (by simp) (g:=g) (c:=c) hv (o+1) u1 h1;have k2:=k1.cell (i:=0) (by simp) (g:=g) (c:=c) hv (o+2) u2 h2;have a:=k2.cell (i:=0) (by simp) (g:=g) (c:=c) hv (o+3) u3 h3;exact a
theorem Ye (h:∀o,W.cell? ⟨b,o,aJ⟩=A[o]?)(hne:b≠g)(p:Nat)(u0 u1 u2 u3:Value)(o:Nat):(put4 W g p u0 u1 u2 u3).cell? ⟨b,o,aJ⟩=A[o]? :=
 aS (aS (aS (aS h hne p u0) hne (p+1) u1) hne (p+2) u2) hne (p+3) u3 o
theorem Yf (h:∀o,W.frozen? ⟨b,o,aJ⟩=false)(p:Nat)(u0 u1 u2 u3:Value)(o:Nat):(put4 W g p u0 u1 u2 u3).frozen? ⟨b,o,aJ⟩=false:=
 aV (aV (aV (aV h _ u0) _ u1) _ u2) _ u3 o
theorem IV (g p:Nat)(u0 u1 u2 u3:Value):(put4 W g p u0 u1 u2 u3).heap.size=W.heap.size:=by unfold put4;simp
def Hc.zone (c:Hc)(i:Nat):Zc:=if i=0 then c.y0 else c.y1
def Hc.fA (c:Hc)(i:Nat)(y:Zc):Hc:=if i=0 then{c with y0:=y}else{c with y1:=y}
theorem HR.EW (hs:HR W G X h c):∃g,c.az=aK ⟨g,0,aJ⟩/\g<W.heap.size/\g≠G/\¬X g/\∀j,j<8->W.frozen? ⟨g,j,aJ⟩=false:=by
 obtain⟨g,v,a,_,f,_,_⟩:=iJ hs.zs 0 (by simp[Bd,flat,oG]);have i:(Bd c).v.ownBlock=aK g:=by unfold Bd;rw[a];rfl
 have b:=hs.og (Bd c) (by simp[Hc.rows]) g i;refine⟨g,a,f,b.1,b.2,λj l=> ?_⟩;obtain⟨k,m,d,_,_,_,e⟩:=iJ hs.zs j (by simp[Bd,flat,oG];omega);rw[a]at d;obtain rfl:g=k:=by simpa using d
 exact e
theorem HS.aFF (hs:HS W G X h c)(hb:Below W.heap.size W W1)(hi:i<2){n1 n2 c1 c2:Nat}(hz:jC W1 W.heap.size a1 a2 n1 n2 c1 c2 z')(hg:c.az=aK ⟨g,0,aJ⟩):
 HS (put4 W1 g (i*4) (vI z'.f) (vI z'.e) (aA a1 n1 c1) (aA a2 n2 c2)) G X (h.kL i z') (c.fA i ⟨z',a1,a2,n1,n2,c1,c2⟩)/\Safe X W (put4 W1 g (i*4) (vI z'.f) (vI z'.e) (aA a1 n1 c1) (aA a2 n2 c2)):=by
 have m:=hs.below hb;obtain⟨d,z,J,C,N,_⟩:=hs.r.EW;obtain rfl:g=d:=by rw[hg]at z;simpa using z
 have L:(Bd c).v.ownBlock=aK g:=by unfold Bd;rw[hg];rfl
 have x:Bd c∈c.rows h:=by simp[Hc.rows]
 have y:=hz.ne (g:=g) (.inl J);have O:=hz.ne (g:=G) (.inl hs.r.gs);have p:(h.kL i z').live=h.live:=by unfold Hp.kL;split <;> rfl
 have M:(h.kL i z').ls=h.ls:=by unfold Hp.kL;split <;> rfl
 have B:(h.kL i z').aP=h.aP:=by unfold Hp.kL;split <;> rfl
 have F:(h.kL i z').m0=h.m0:=by unfold Hp.kL;split <;> rfl
 have H:(h.kL i z').m1=h.m1:=by unfold Hp.kL;split <;> rfl
 have q:(c.fA i ⟨z',a1,a2,n1,n2,c1,c2⟩).rows (h.kL i z')={Bd c with xs:=(((((Bd c).xs.set (i*4) (vI z'.f)).set (i*4+1) (vI z'.e)).set (i*4+2) (aA a1 n1 c1)).set (i*4+3) (aA a2 n2 c2))}::sN c::Af c h::c.lc.map lM:=by
  unfold Hc.rows;have e1:Af (c.fA i ⟨z',a1,a2,n1,n2,c1,c2⟩) (h.kL i z')=Af c h:=by unfold Af;rw[p];unfold Hc.fA;split <;> rfl
  have Q:sN (c.fA i ⟨z',a1,a2,n1,n2,c1,c2⟩)=sN c:=by unfold Hc.fA;split <;> rfl
  have R:(c.fA i ⟨z',a1,a2,n1,n2,c1,c2⟩).lc=c.lc:=by unfold Hc.fA;split <;> rfl
  rw[e1,Q,R];congr 1;obtain rfl | rfl:i=0∨i=1:=by omega
  ·rfl
  ·rfl
 have a:∀r∈(c.fA i ⟨z',a1,a2,n1,n2,c1,c2⟩).reads (h.kL i z'),r∈c.reads h∨r=Vg ⟨z',a1,a2,n1,n2,c1,c2⟩∨r=Vh ⟨z',a1,a2,n1,n2,c1,c2⟩:=λr b=>by
  have e1:mnR (c.fA i ⟨z',a1,a2,n1,n2,c1,c2⟩) (h.kL i z')=mnR c h:=by unfold mnR;rw[F,H];unfold Hc.fA;split <;> rfl
  unfold Hc.reads at b ⊢;rw[e1]at b;unfold Hc.fA at b;obtain rfl | rfl:i=0∨i=1:=by omega
  ·simp only[if_true,gY,List.not_mem_nil,or_false]at b ⊢;rcases b with h | h | h | h | h <;> simp[h]
  ·simp only[show ¬(1:Nat)=0 by omega,if_false,gY,List.not_mem_nil,or_false]at b ⊢;rcases b with h | h | h | h | h <;> simp[h]
 have t:∀s∈(c.fA i ⟨z',a1,a2,n1,n2,c1,c2⟩).rows (h.kL i z'),∃u∈c.rows h,u.v=s.v:=λs j=>by
  rw[q,gY]at j;rcases j with rfl | j
  ·exact⟨Bd c,x,rfl⟩
  ·exact⟨s,by unfold Hc.rows;exact List.mem_cons_of_mem _ j,rfl⟩
 refine⟨⟨⟨?_,λr b=> ?_,λr b s j=> ?_,λr b d l=> ?_,λr b=> ?_,λr b d l I=> ?_,by rw[IV];exact m.r.gs,hs.r.xg,λk P=>by rw[IV];exact m.r.xs k P,?_,?_,?_⟩,?_,Yf m.fz _ _ _ _ _⟩,(Safe.jT hb).trans (.put4 _ _ _ _ _ _ N)⟩
 ·rw[q];have o:=m.r.own;unfold Hc.rows at o;exact o.put4 (c:=c.cz) (by unfold Bd;rw[hg]) (i*4) _ _ _ _ rfl rfl rfl rfl
 ·rcases a r b with o | rfl | rfl
  ·exact EU (m.r.ro r o) (λe=>hs.r.ds r o _ x g e L) _ _ _ _ _
  ·exact EU (own_base hz.o1 (gU _)) y.1 _ _ _ _ _
  ·exact EU (own_base hz.o2 (gU _)) y.2 _ _ _ _ _
 ·obtain⟨u,n,K⟩:=t s j;intro d o w;rw[<- K]at w;rcases a r b with A | rfl | rfl
  ·exact hs.r.ds r A u n d o w
  ·have D:=(hz.o1.lt d o).1;have E:=(hs.r.own.lt u n d w).2;omega
  ·have D:=(hz.o2.lt d o).1;have E:=(hs.r.own.lt u n d w).2;omega
 ·obtain⟨u,n,K⟩:=t r b;rw[<- K]at l;exact hs.r.og u n d l
 ·rcases a r b with A | rfl | rfl
  ·exact hs.r.rg r A
  ·exact O.1
  ·exact O.2
 ·rcases a r b with A | rfl | rfl
  ·exact hs.r.rx r A d l I
  ·have D:=(hz.o1.lt d l).1;have E:=hs.r.xs d I;omega
  ·have D:=(hz.o2.lt d l).1;have E:=hs.r.xs d I;omega
 ·have:=hs.r.e0;unfold Hc.fA Hp.kL;obtain rfl | rfl:i=0∨i=1:=by omega
  ·rfl
  ·exact this
 ·have:=hs.r.e1;unfold Hc.fA Hp.kL;obtain rfl | rfl:i=0∨i=1:=by omega
  ·exact this
  ·rfl
 ·have:=hs.r.ll;rw[M,<- this];unfold Hc.fA;split <;> rfl
 ·have o:=Ye m.k (λe=>C e.symm) (i*4) (vI z'.f) (vI z'.e) (aA a1 n1 c1) (aA a2 n2 c2);have w:(c.fA i ⟨z',a1,a2,n1,n2,c1,c2⟩).vals (h.kL i z')=c.vals h:=by
   unfold Hc.vals;rw[p,B];unfold Hc.fA;split <;> rfl
  rw[w];exact o
end
section
variable {W W':World}{G:Nat}{X:Nat->Prop}{h:Hp}{c:Hc}
structure Dis (c:Hc)(h:Hp):Prop where
 zl:(Bd c).off (sN c)
 zv:(Bd c).off (Af c h)
 zp:∀r∈c.lc.map lM,(Bd c).off r
 lv:(sN c).off (Af c h)
 lp:∀r∈c.lc.map lM,(sN c).off r
 vp:∀r∈c.lc.map lM,(Af c h).off r
theorem HR.GZ (hs:HR W G X h c):Dis c h:=by
 have f:=hs.own.GZ;unfold Hc.rows at f;rw[List.pairwise_cons,List.pairwise_cons,List.pairwise_cons]at f;obtain⟨a,b,d,_⟩:=f;exact⟨a _ (by simp),a _ (by simp),λr e=>a r (by simp only[gY];exact .inr (.inr e)),b _ (by simp),λr e=>b r (List.mem_cons_of_mem _ e),λr e=>d r e⟩
theorem nY {c:Hc}{h:Hp}(hr:r∈c.lc.map lM):r∈c.rows h:=by
 unfold Hc.rows;exact List.mem_cons_of_mem _ (List.mem_cons_of_mem _ (List.mem_cons_of_mem _ hr))
theorem Ag (c:Hc)(h:Hp):Bd c∈c.rows h:=by simp[Hc.rows]
theorem jU (c:Hc)(h:Hp):sN c∈c.rows h:=by simp[Hc.rows]
theorem kT (c:Hc)(h:Hp):Af c h∈c.rows h:=by simp[Hc.rows]
structure NP (W:World)(G:Nat)(X:Nat->Prop)(h:Hp)(c:Hc)(g:Nat):Prop where
 rows:∀r∈c.rows h,r.v.ownBlock≠aK g
 reads:∀r∈c.reads h,r.v.ownBlock≠aK g
 ne:g≠G
 x:¬X g
theorem HR.fresh (hs:HR W G X h c)(hg:W.heap.size<=g):NP W' G X h c g:=
 ⟨λr a e=>by have:=(hs.own.lt r a g e).2;omega,λr a e=>by have:=((hs.ro r a).lt g e).2;omega,λe=>by have:=hs.gs;omega,λe=>by have:=hs.xs g e;omega⟩
theorem HR.lists (hs:HR W G X h c)(hg:W.grownBy W' (sN c).v.ownBlock){uS:List Lc}(ho:W'.ownsRow 0 160 4 (aA al' uS.length cl') uS.length (flat dB uS))
 (hb:∀k,(aA al' uS.length cl').ownBlock=aK k->(sN c).v.ownBlock=aK k∨W.heap.size<=k) (hp:dY W 0 (uS.map lM)) (hq:∀r∈uS.map lM,∀g,r.v.ownBlock=aK g->(∃r0∈c.lc.map lM,r0.v.ownBlock=aK g)∨NP W G X h c g):
 HR W' G X {h with ls:=uS.map Lc.l} {c with al:=al',cl:=cl',lc:=uS}:=by
 have D:=hs.GZ;have I:Af {c with al:=al',cl:=cl',lc:=uS} {h with ls:=uS.map Lc.l}=Af c h:=rfl;have H:Bd {c with al:=al',cl:=cl',lc:=uS}=Bd c:=rfl;have F:∀s∈c.rows h,s≠sN c->(sN c).off s->∀k,(aA al' uS.length cl').ownBlock=aK k->s.v.ownBlock≠aK k:=λs w _ o k m e=>by
  rcases hb k m with b | b
  ·exact o k b e
  ·have:=(hs.own.lt s w k e).2;omega
 have f:({c with al:=al',cl:=cl',lc:=uS}:Hc).rows {h with ls:=uS.map Lc.l}=Bd c::sN {c with al:=al',cl:=cl',lc:=uS}::Af c h::uS.map lM:=rfl;have u:∀s∈c.rows h,(sN c).off s->∀k,(aA al' uS.length cl').ownBlock=aK k->s.v.ownBlock≠aK k:=λs w o k m e=>by
  rcases hb k m with b | b
  ·exact o k b e
  ·have:=(hs.own.lt s w k e).2;omega
 have B:(Bd c).on W' 0:=kE hs.zs hg (λk m e=>D.zl k m e);have A:(Af c h).on W' 0:=kE hs.lv hg (λk m e=>D.lv k e m);have z:∀r∈uS.map lM,r.on W' 0:=λr a=>kE (hp.each r a) hg (λk m e=>by
  rcases hq r a k m with ⟨r0,d,b⟩ | b
  ·exact D.lp r0 d k e b
  ·exact b.rows _ (jU c h) e)
 have n:∀r∈uS.map lM,∀s:Rs,(s∈c.rows h∨s∈c.reads h)->(∀r0∈c.lc.map lM,s.off r0)->s.off r:=λr a s C E g b p=>by
  rcases hq r a g p with ⟨r0,d,i⟩ | i
  ·exact E r0 d g b i
  ·rcases C with y | y
   ·exact i.rows _ y b
   ·exact i.reads _ y b
 refine⟨⟨λr a=> ?_,?_⟩,λr a=>kE (hs.ro r a) hg (λk m e=>hs.ds r a _ (jU c h) k m e),λr a s q=> ?_,λr a g t=> ?_,hs.rg,hs.rx,gI hs.gs hg.size,hs.xg,λk m=>gI (hs.xs k m) hg.size,hs.e0,hs.e1,rfl⟩
 ·rw[f,gY,gY,gY]at a;rcases a with rfl | rfl | rfl | a
  ·exact B
  ·exact ho
  ·exact A
  ·exact z r a
 ·rw[f,List.pairwise_cons,List.pairwise_cons,List.pairwise_cons];refine⟨λr a=> ?_,λr a=> ?_,λr a=>n r a _ (.inl (kT c h)) D.vp,hp.GZ⟩
  ·rw[gY,gY]at a;rcases a with rfl | rfl | a
   ·exact λg b p=>u _ (Ag c h) D.zl.symm g p b
   ·exact D.zv
   ·exact n r a _ (.inl (Ag c h)) D.zp
  ·rw[gY]at a;rcases a with rfl | a
   ·exact λg b p=>u _ (kT c h) D.lv g b p
   ·intro g b p;rcases hq r a g p with ⟨r0,d,i⟩ | i
    ·exact u r0 (nY d) (D.lp r0 d) g b i
    ·rcases hb g b with y | y
     ·exact i.rows _ (jU c h) y
     ·have:=((hp.each r a).lt g p).2;omega
 ·rw[f,gY,gY,gY]at q;have j:r∈c.reads h:=a;rcases q with rfl | rfl | rfl | q
  ·exact hs.ds r j _ (Ag c h)
  ·intro g b p;rcases hb g p with i | i
   ·exact hs.ds r j _ (jU c h) g b i
   ·have:=((hs.ro r j).lt g b).2;omega
  ·exact hs.ds r j _ (kT c h)
  ·exact n s q r (.inr j) λr0 d=>hs.ds r j r0 (nY d)
 ·rw[f,gY,gY,gY]at a;rcases a with rfl | rfl | rfl | a
  ·exact hs.og _ (Ag c h) g t
  ·rcases hb g t with i | i
   ·exact hs.og _ (jU c h) g i
   ·exact⟨λe=>by have:=hs.gs;omega,λe=>by have:=hs.xs g e;omega⟩
  ·exact hs.og _ (kT c h) g t
  ·rcases hq r a g t with ⟨r0,d,i⟩ | i
   ·exact hs.og r0 (nY d) g i
   ·exact⟨i.ne,i.x⟩
theorem HS.lists (hs:HS W G X h c)(hg:W.grownBy W' (sN c).v.ownBlock){uS:List Lc}(ho:W'.ownsRow 0 160 4 (aA al' uS.length cl') uS.length (flat dB uS))
 (hb:∀k,(aA al' uS.length cl').ownBlock=aK k->(sN c).v.ownBlock=aK k∨W.heap.size<=k) (hp:dY W 0 (uS.map lM)) (hq:∀r∈uS.map lM,∀g,r.v.ownBlock=aK g->(∃r0∈c.lc.map lM,r0.v.ownBlock=aK g)∨NP W G X h c g):
 HS (W'.setCell ⟨G,3,aJ⟩ (aA al' uS.length cl')) G X {h with ls:=uS.map Lc.l} {c with al:=al',cl:=cl',lc:=uS}/\Safe X W (W'.setCell ⟨G,3,aJ⟩ (aA al' uS.length cl')):=by
 have a:(sN c).v.ownBlock≠aK G:=λe=>(hs.r.og _ (jU c h) G e).1 rfl
 have d:=bV hs.k hs.r.gs hg (λe=>a e.symm);refine⟨⟨(hs.r.lists hg ho hb hp hq).iQ _ _,?_,aV (bY hs.fz hs.r.gs hg (λe=>a e.symm)) _ _⟩,(Safe.o7 hg (λk b e=>(hs.r.og _ (jU c h) k e.symm).2 b)).set hs.r.xg _ _⟩;exact aW d 3 (aA al' uS.length cl')
end
theorem QL (l:List Lc)(i:Nat)(hi:i<l.length)(r:Lc)(h0:r.l.c=l[i].l.c/\r.l.z=l[i].l.z/\r.l.t=l[i].l.t):(flat dB l).set (i*4+3) (aA r.a r.n r.c)=flat dB (l.set i r):=by
 apply List.ext_getElem?;intro j;by_cases u:j<l.length*4
 ·have g:j/4<l.length:=by omega
  have h:j%4<4:=by omega
  have f:j=j/4*4+j%4:=by omega
  have m:=flat_get bF (l.set i r) (j/4) (by simpa using g) (j%4) h;have k:=flat_get bF l (j/4) g (j%4) h;rw[<- f]at m k;rw[m,List.getElem?_set];by_cases o:i*4+3=j
  ·have d:j/4=i:=by omega
   have b:j%4=3:=by omega
   rw[if_pos o,if_pos (by rw[flat_length bF];omega)];simp only[d,b,List.getElem_set_self];rfl
  ·rw[if_neg o,k];by_cases d:j/4=i
   ·subst d;simp only[List.getElem_set_self];have b:j%4=0∨j%4=1∨j%4=2:=by omega
    obtain⟨p,q,s⟩:=h0;rcases b with b | b | b <;> rw[b] <;> simp[dB,p,q,s]
   ·rw[List.getElem_set_ne (λe=>d e.symm)]
 ·rw[List.getElem?_eq_none (by rw[List.length_set,flat_length bF];omega),List.getElem?_eq_none (by rw[flat_length bF,List.length_set];omega)]
section
variable {W W':World}{G:Nat}{X:Nat->Prop}{h:Hp}{c:Hc}
theorem HR.uT (hs:HR W G X h c)(hn:0<c.lc.length):∃g,c.al=aK ⟨g,0,aJ⟩/\g<W.heap.size/\g≠G/\¬X g/\∀j,j<c.lc.length*4->W.frozen? ⟨g,j,aJ⟩=false:=by
 obtain⟨g,v,a,_,f,_,_⟩:=iJ hs.lsr 0 (by show 0<(flat dB c.lc).length;rw[flat_length bF];omega);have i:(sN c).v.ownBlock=aK g:=by unfold sN;rw[a];rfl
 have b:=hs.og (sN c) (jU c h) g i;refine⟨g,a,f,b.1,b.2,λj l=> ?_⟩;obtain⟨k,m,d,_,_,_,e⟩:=iJ hs.lsr j (by show j<(flat dB c.lc).length;rw[flat_length bF];omega);rw[a]at d;obtain rfl:g=k:=by simpa using d
 exact e
theorem HS.page (hs:HS W G X h c)(hi:i<c.lc.length)(hg:W.grownBy W' (lM c.lc[i]).v.ownBlock){r:Lc}(ho:(lM r).on W' 0)(h0:r.l.c=c.lc[i].l.c/\r.l.z=c.lc[i].l.z/\r.l.t=c.lc[i].l.t)
 (hb:∀k,(lM r).v.ownBlock=aK k->(lM c.lc[i]).v.ownBlock=aK k∨W.heap.size<=k) {g:Nat} (hal:c.al=aK ⟨g,0,aJ⟩):
 HS (W'.setCell ⟨g,i*4+3,aJ⟩ (aA r.a r.n r.c)) G X {h with ls:=h.ls.set i r.l} {c with lc:=c.lc.set i r}/\Safe X W (W'.setCell ⟨g,i*4+3,aJ⟩ (aA r.a r.n r.c)):=by
 have D:=hs.r.GZ;have f:lM c.lc[i]∈c.lc.map lM:=List.mem_map_of_mem (gL hi);obtain⟨N,C,O,H,K,_⟩:=hs.r.uT (by omega);obtain rfl:g=N:=by rw[hal]at C;simpa using C
 have w:(sN c).v.ownBlock=aK g:=by unfold sN;rw[hal];rfl
 have y:(lM c.lc[i]).v.ownBlock≠aK G:=λe=>(hs.r.og _ (nY f) G e).1 rfl
 have M:(lM c.lc[i]).v.ownBlock≠aK g:=λe=>D.lp _ f g w e
 have J:3+i<(c.rows h).length:=by simp[Hc.rows];omega
 have F:(c.rows h)[3+i]=lM c.lc[i]:=by
  have:(c.rows h)[3+i]? =aK (lM c.lc[i]):=by
   rw[show 3+i=i+3 by omega];simp[Hc.rows,hi]
  exact(gK.1 this).2
 have k1:=hs.r.own.grown J (W':=W') (r':=lM r) (by rw[F];exact hg) ho (by rw[F];exact hb);have e1:(c.rows h).set (3+i) (lM r)=Bd c::sN c::Af c h::(c.lc.set i r).map lM:=by
  rw[show 3+i=i+3 by omega,List.map_set];rfl
 rw[e1]at k1;have k2:=k1.cell (i:=1) (by simp) (g:=g) (c:=c.cl) (by show(sN c).v=_;unfold sN;rw[hal];rfl) (i*4+3) (aA r.a r.n r.c) rfl;have L:(Bd c::sN c::Af c h::(c.lc.set i r).map lM).set 1 {(Bd c::sN c::Af c h::(c.lc.set i r).map lM)[1]with xs:=((Bd c::sN c::Af c h::(c.lc.set i r).map lM)[1]).xs.set (i*4+3) (aA r.a r.n r.c)}=({c with lc:=c.lc.set i r}:Hc).rows {h with ls:=h.ls.set i r.l}:=by
  unfold Hc.rows;have P:sN {c with lc:=c.lc.set i r}={sN c with xs:=(sN c).xs.set (i*4+3) (aA r.a r.n r.c)}:=by
   unfold sN;simp only[List.length_set];rw[<- QL c.lc i hi r h0]
  rw[P];rfl
 rw[L]at k2;have m:∀s∈({c with lc:=c.lc.set i r}:Hc).rows {h with ls:=h.ls.set i r.l},(∃B∈c.rows h,B.v=s.v)∨s=lM r:=λs d=>by
  rw[<- L]at d;rcases List.mem_or_eq_of_mem_set d with b | b
  ·rw[gY,gY,gY]at b;rcases b with b | b | b | b
   ·exact .inl ⟨_,Ag c h,by rw[b]⟩
   ·exact .inl ⟨_,jU c h,by rw[b]⟩
   ·exact .inl ⟨_,kT c h,by rw[b]⟩
   ·rw[List.map_set]at b;rcases List.mem_or_eq_of_mem_set b with A | A
    ·exact .inl ⟨s,nY A,rfl⟩
    ·exact .inr A
  ·exact .inl ⟨_,jU c h,by rw[b];rfl⟩
 have b:=bV hs.k hs.r.gs hg (λe=>y e.symm);refine⟨⟨⟨k2,λo u=>bU (kE (hs.r.ro o u) hg (λk j e=>hs.r.ds o u _ (nY f) k j e)) (λe=>hs.r.ds o u _ (jU c h) g e w) _,λo u s d k p x=> ?_,λs d k j=> ?_,hs.r.rg,hs.r.rx,by simpa using gI hs.r.gs hg.size,hs.r.xg,λk j=>by simpa using gI (hs.r.xs k j) hg.size,hs.r.e0,hs.r.e1,?_⟩,?_,aV (bY hs.fz hs.r.gs hg (λe=>y e.symm)) _ _⟩,(Safe.o7 hg (λk j e=>(hs.r.og _ (nY f) k e.symm).2 j)).set K _ _⟩
 ·rcases m s d with ⟨B,q,I⟩ | rfl
  ·exact hs.r.ds o u B q k p (by rw[I];exact x)
  ·rcases hb k x with E | E
   ·exact hs.r.ds o u _ (nY f) k p E
   ·have:=((hs.r.ro o u).lt k p).2;omega
 ·rcases m s d with ⟨B,q,I⟩ | rfl
  ·exact hs.r.og B q k (by rw[I];exact j)
  ·rcases hb k j with E | E
   ·exact hs.r.og _ (nY f) k E
   ·exact⟨λe=>by have:=hs.r.gs;omega,λe=>by have:=hs.r.xs k e;omega⟩
 ·rw[List.map_set,hs.r.ll]
 ·have A:({c with lc:=c.lc.set i r}:Hc).vals {h with ls:=h.ls.set i r.l}=c.vals h:=by
   unfold Hc.vals;simp only[List.length_set]
  rw[A];exact aS b (λe=>H e.symm) _ _
theorem HS.away (hs:HS W G X h c)(hg:W.grownBy W' (Af c h).v.ownBlock){cv':Nat}(ho:W'.ownsRow 0 82 3 (aA uJ v'.length cv') v'.length (flat bC v'))
 (hb:∀k,(aA uJ v'.length cv').ownBlock=aK k->(Af c h).v.ownBlock=aK k∨W.heap.size<=k):
 HS (W'.setCell ⟨G,4,aJ⟩ (aA uJ v'.length cv')) G X {h with live:=v'} {c with av:=uJ,cv:=cv'}/\Safe X W (W'.setCell ⟨G,4,aJ⟩ (aA uJ v'.length cv')):=by
 have n:(Af c h).v.ownBlock≠aK G:=λe=>(hs.r.og _ (kT c h) G e).1 rfl
 have q:=bV hs.k hs.r.gs hg (λe=>n e.symm);have k1:=hs.r.own.grown (i:=2) (by simp[Hc.rows]) (W':=W') (r':=Af {c with av:=uJ,cv:=cv'} {h with live:=v'}) hg ho hb;have f:∀s∈({c with av:=uJ,cv:=cv'}:Hc).rows {h with live:=v'},s∈c.rows h∨s=Af {c with av:=uJ,cv:=cv'} {h with live:=v'}:=λs a=>List.mem_or_eq_of_mem_set (l:=c.rows h) (i:=2) a
 refine⟨⟨(⟨k1,λr p=>kE (hs.r.ro r p) hg (λk d e=>hs.r.ds r p _ (kT c h) k d e),λo p s a k g m=> ?_,λs a k d=> ?_,hs.r.rg,hs.r.rx,gI hs.r.gs hg.size,hs.r.xg,λk d=>gI (hs.r.xs k d) hg.size,hs.r.e0,hs.r.e1,hs.r.ll⟩:HR W' G X {h with live:=v'} {c with av:=uJ,cv:=cv'}).iQ _ _,?_,aV (bY hs.fz hs.r.gs hg (λe=>n e.symm)) _ _⟩,(Safe.o7 hg (λk d e=>(hs.r.og _ (kT c h) k e.symm).2 d)).set hs.r.xg _ _⟩
 ·have j:o∈c.reads h:=p;rcases f s a with b | rfl
  ·exact hs.r.ds o j s b k g m
  ·rcases hb k m with b | b
   ·exact hs.r.ds o j _ (kT c h) k g b
   ·have:=((hs.r.ro o j).lt k g).2;omega
 ·rcases f s a with b | rfl
  ·exact hs.r.og s b k d
  ·rcases hb k d with b | b
   ·exact hs.r.og _ (kT c h) k b
   ·exact⟨λe=>by have:=hs.r.gs;omega,λe=>by have:=hs.r.xs k e;omega⟩
 ·exact aW q 4 (aA uJ v'.length cv')
end
def MH (az:Option Addr)(cz:Nat)(zs:List Zc):Rs:=⟨79,4,aA az zs.length cz,zs.length,flat oG zs⟩
def bkR (av:Option Addr)(cv:Nat)(l:List Bk):Rs:=⟨82,3,aA av l.length cv,l.length,flat bC l⟩
def inR (am:Option Addr)(cm:Nat)(l:List Nat):Rs:=⟨3,1,aA am l.length cm,l.length,flat jA l⟩
structure CZ (W:World)(mF g:Nat)(zs:List Zc)(az:Option Addr)(cz:Nat)(am:Option Addr)(cm:Nat)(m:List Nat)(av:Option Addr)(cv:Nat)(v:List Bk)(aP:Nat):Prop where
 oz:(MH az cz zs).on W mF
 ov:(bkR av cv v).on W mF
 om:(inR am cm m).on W mF
 rd:∀y∈zs,(Vg y).on W mF/\(Vh y).on W mF
 zv:(MH az cz zs).off (bkR av cv v)
 zm:(MH az cz zs).off (inR am cm m)
 zy:∀y∈zs,(MH az cz zs).off (Vg y)/\(MH az cz zs).off (Vh y)
 vm:(bkR av cv v).off (inR am cm m)
 vy:∀y∈zs,(bkR av cv v).off (Vg y)/\(bkR av cv v).off (Vh y)
 gz:(MH az cz zs).v.ownBlock≠aK g
 gv:(bkR av cv v).v.ownBlock≠aK g
 gm:(inR am cm m).v.ownBlock≠aK g
 gy:∀y∈zs,(Vg y).v.ownBlock≠aK g/\(Vh y).v.ownBlock≠aK g
 gs:mF<=g/\g<W.heap.size
 k:∀o,W.cell? ⟨g,o,aJ⟩=(#[aA az zs.length cz,aA am m.length cm,aB aI (aP:Int),aA aJ 0 0,aA av v.length cv]:Array Value)[o]?
 fz:∀o,W.frozen? ⟨g,o,aJ⟩=false
section
variable {W W' W1:World}{mF g:Nat}{zs:List Zc}{az:Option Addr}{cz:Nat}{am:Option Addr}{cm:Nat}{m:List Nat}{av:Option Addr}{cv:Nat}{v:List Bk}{aP:Nat}
theorem CZ.below (h:CZ W mF g zs az cz am cm m av cv v aP)(hb:Below W.heap.size W W'):CZ W' mF g zs az cz am cm m av cv v aP:=
 ⟨own_below h.oz hb (gT _),own_below h.ov hb (gT _),own_below h.om hb (gT _),λy a=>⟨own_below (h.rd y a).1 hb (gT _),own_below (h.rd y a).2 hb (gT _)⟩,h.zv,h.zm,h.zy,h.vm,h.vy,h.gz,h.gv,h.gm,h.gy,⟨h.gs.1,gI h.gs.2 hb.size⟩,aQ h.k h.gs.2 hb,aU h.fz h.gs.2 hb⟩
theorem CZ.add (h:CZ W mF g zs az cz am cm m av cv v aP)(hb:Below W.heap.size W W1){n1 n2 c1 c2:Nat}(hz:jC W1 W.heap.size a1 a2 n1 n2 c1 c2 z'){g6 cap6:Nat}
 (ho:W'.ownsRow mF 79 4 (aA (aK ⟨g6,0,aJ⟩) (zs.length+1) cap6) (zs.length+1) (flat oG (zs++[⟨z',a1,a2,n1,n2,c1,c2⟩]))) (hg:W1.grownBy W' (aA az zs.length cz).ownBlock) (hl:(aA az zs.length cz).ownBlock=aK g6∨g6=W1.heap.size):
 CZ (W'.setCell ⟨g,0,aJ⟩ (aA (aK ⟨g6,0,aJ⟩) (zs.length+1) cap6)) mF g (zs++[⟨z',a1,a2,n1,n2,c1,c2⟩]) (aK ⟨g6,0,aJ⟩) cap6 am cm m av cv v aP:=by
 have f:=h.below hb;have C:mF<=W.heap.size:=by have:=h.gs;omega
 have J:(MH az cz zs).v.ownBlock=(aA az zs.length cz).ownBlock:=rfl;have D:∀k,(aA az zs.length cz).ownBlock=aK k->k<W.heap.size:=λk A=>(h.oz.lt k (by rw[J];exact A)).2
 -- the row's new block is aJ of the others'
 have p:∀(r:Rs),(MH az cz zs).off r->(∀k,r.v.ownBlock=aK k->k<W1.heap.size)->r.v.ownBlock≠aK g6:=λr u K e=>by
  rcases hl with c | c
  ·exact u g6 c e
  ·have:=K g6 e;omega
 have n:(Vg ⟨z',a1,a2,n1,n2,c1,c2⟩).on W1 W.heap.size:=hz.o1;have o:(Vh ⟨z',a1,a2,n1,n2,c1,c2⟩).on W1 W.heap.size:=hz.o2;have s:∀(r:Rs),r.on W1 W.heap.size->∀k,r.v.ownBlock=aK k->W.heap.size<=k/\k<W1.heap.size:=λr x k A=>x.lt k A
 have I:(MH az cz zs).off (Vg ⟨z',a1,a2,n1,n2,c1,c2⟩):=λk c z=>by have:=D k c;have:=(s _ n k z).1;omega
 have H:(MH az cz zs).off (Vh ⟨z',a1,a2,n1,n2,c1,c2⟩):=λk c z=>by have:=D k c;have:=(s _ o k z).1;omega
 have F:g6≠g:=λe=>by
  rcases hl with c | c
  ·exact h.gz (by rw[J,c,e])
  ·have:=f.gs.2;omega
 have E:(aA az zs.length cz).ownBlock≠aK g:=h.gz
 -- a row that is kept: own at W1, apart from the aJg row and from g
 have d:∀(r:Rs) (b:Nat),r.on W1 b->(MH az cz zs).off r->r.v.ownBlock≠aK g->r.on (W'.setCell ⟨g,0,aJ⟩ (aA (aK ⟨g6,0,aJ⟩) (zs.length+1) cap6)) b:=λr b x u L=>
  bU (kE x hg (λk A e=>u k e A)) L _
 have j:∀(r:Rs),r.on W1 W.heap.size->r.v.ownBlock≠aK g:=λr x e=>by have:=(s r x g e).1;have:=h.gs.2;omega
 have t:(zs++[(⟨z',a1,a2,n1,n2,c1,c2⟩:Zc)]).length=zs.length+1:=by simp
 have N:(MH (aK ⟨g6,0,aJ⟩) cap6 (zs++[⟨z',a1,a2,n1,n2,c1,c2⟩])).v=aA (aK ⟨g6,0,aJ⟩) (zs.length+1) cap6:=by unfold MH;simp only[t]
 have G:(MH (aK ⟨g6,0,aJ⟩) cap6 (zs++[⟨z',a1,a2,n1,n2,c1,c2⟩])).v.ownBlock=aK g6:=by rw[N];rfl
 have B:∀(r:Rs),r.v.ownBlock≠aK g6->(MH (aK ⟨g6,0,aJ⟩) cap6 (zs++[⟨z',a1,a2,n1,n2,c1,c2⟩])).off r:=λr x k c z=>by
  rw[G]at c;obtain rfl:=gP c;exact x z
 have q:∀(r:Rs) (b:Nat),r.on W1 b->∀k,r.v.ownBlock=aK k->k<W1.heap.size:=λr b x k A=>(x.lt k A).2
 have l:∀y∈zs++[(⟨z',a1,a2,n1,n2,c1,c2⟩:Zc)],y∈zs∨y=⟨z',a1,a2,n1,n2,c1,c2⟩:=λy w=>by simpa using w
 refine⟨?_,d _ _ f.ov h.zv h.gv,d _ _ f.om h.zm h.gm,λy w=> ?_,B _ (p _ h.zv (q _ _ f.ov)),B _ (p _ h.zm (q _ _ f.om)),λy w=> ?_,h.vm,λy w=> ?_,by rw[G];exact λe=>F (gP e),h.gv,h.gm,λy w=> ?_,⟨h.gs.1,by simpa using gI f.gs.2 hg.size⟩,?_,aV (bY f.fz f.gs.2 hg (λe=>E e.symm)) _ _⟩
 ·have c:=bU ho (b:=g) (i:=0) (by intro e;exact F (by simpa[gTh]using e)) (aA (aK ⟨g6,0,aJ⟩) (zs.length+1) cap6);unfold Rs.on MH;simp only[t];exact c
 ·rcases l y w with c | rfl
  ·exact⟨d _ _ (f.rd y c).1 (h.zy y c).1 (h.gy y c).1,d _ _ (f.rd y c).2 (h.zy y c).2 (h.gy y c).2⟩
  ·exact⟨own_base (d _ _ n I (j _ n)) C,own_base (d _ _ o H (j _ o)) C⟩
 ·rcases l y w with c | rfl
  ·exact⟨B _ (p _ (h.zy y c).1 (q _ _ (f.rd y c).1)),B _ (p _ (h.zy y c).2 (q _ _ (f.rd y c).2))⟩
  ·exact⟨B _ (p _ I (q _ _ n)),B _ (p _ H (q _ _ o))⟩
 ·rcases l y w with c | rfl
  ·exact h.vy y c
  ·exact⟨λk z M=>by have:=(h.ov.lt k z).2;have:=(s _ n k M).1;omega,λk z M=>by have:=(h.ov.lt k z).2;have:=(s _ o k M).1;omega⟩
 ·rcases l y w with c | rfl
  ·exact h.gy y c
  ·exact⟨j _ n,j _ o⟩
 ·have c:=aW (bV f.k f.gs.2 hg (λe=>E e.symm)) 0 (aA (aK ⟨g6,0,aJ⟩) (zs.length+1) cap6);rw[t];exact c
theorem CZ.done {y0 y1:Zc}{m0 m1:Nat}(h:CZ W mF g [y0,y1] az cz am cm [m0,m1] av cv v aP)(hX:∀k,X k->k<mF):
 HS W g X ⟨y0.z,y1.z,m0,m1,aP,[],v⟩ ⟨az,cz,am,cm,aJ,0,av,cv,y0,y1,[]⟩:=by
 have m0:y0∈[y0,y1]:=by simp
 have m1:y1∈[y0,y1]:=by simp
 have f:(sN ⟨az,cz,am,cm,aJ,0,av,cv,y0,y1,[]⟩).v.ownBlock=aJ:=rfl;have a:∀(r:Rs),r.on W mF->r.on W 0:=λr b=>own_base b (gU _)
 refine⟨⟨⟨λr b=> ?_,?_⟩,λr b=> ?_,λr b s j=> ?_,λr b k c=> ?_,λr b=> ?_,λr b k c l=> ?_,h.gs.2,λe=>by have:=hX _ e;have:=h.gs.1;omega,λk c=>by have:=hX k c;have:=h.gs;omega,rfl,rfl,rfl⟩,h.k,h.fz⟩
 ·simp only[Hc.rows,List.map_nil,gY,List.not_mem_nil,or_false]at b;rcases b with rfl | rfl | rfl
  ·exact a _ h.oz
  ·exact⟨rfl,.inl ⟨rfl,rfl⟩⟩
  ·exact a _ h.ov
 ·unfold Hc.rows;refine List.pairwise_cons.2 ⟨λr b=> ?_,List.pairwise_cons.2 ⟨λr b k i=>(by rw[f]at i;cases i),List.pairwise_cons.2 ⟨λr b=>(by simp at b),List.Pairwise.nil⟩⟩⟩;simp only[List.map_nil,gY,List.not_mem_nil,or_false]at b;rcases b with rfl | rfl
  ·exact λk _ d=>by rw[f]at d;cases d
  ·exact h.zv
 ·simp only[Hc.reads,gY,List.not_mem_nil,or_false]at b;rcases b with rfl | rfl | rfl | rfl | rfl
  ·exact a _ h.om
  ·exact a _ (h.rd y0 m0).1
  ·exact a _ (h.rd y0 m0).2
  ·exact a _ (h.rd y1 m1).1
  ·exact a _ (h.rd y1 m1).2
 ·simp only[Hc.reads,gY,List.not_mem_nil,or_false]at b;simp only[Hc.rows,List.map_nil,gY,List.not_mem_nil,or_false]at j;rcases j with rfl | rfl | rfl
  ·rcases b with rfl | rfl | rfl | rfl | rfl
   ·exact h.zm.symm
   ·exact(h.zy y0 m0).1.symm
   ·exact(h.zy y0 m0).2.symm
   ·exact(h.zy y1 m1).1.symm
   ·exact(h.zy y1 m1).2.symm
  ·exact λk _ d=>by rw[f]at d;cases d
  ·rcases b with rfl | rfl | rfl | rfl | rfl
   ·exact h.vm.symm
   ·exact(h.vy y0 m0).1.symm
   ·exact(h.vy y0 m0).2.symm
   ·exact(h.vy y1 m1).1.symm
   ·exact(h.vy y1 m1).2.symm
 ·simp only[Hc.rows,List.map_nil,gY,List.not_mem_nil,or_false]at b;rcases b with rfl | rfl | rfl
  ·exact⟨λe=>h.gz (by rw[<- e];exact c),λe=>by have:=hX k e;have:=(h.oz.lt k c).1;omega⟩
  ·rw[f]at c;cases c
  ·exact⟨λe=>h.gv (by rw[<- e];exact c),λe=>by have:=hX k e;have:=(h.ov.lt k c).1;omega⟩
 ·simp only[Hc.reads,gY,List.not_mem_nil,or_false]at b;rcases b with rfl | rfl | rfl | rfl | rfl
  ·exact h.gm
  ·exact(h.gy y0 m0).1
  ·exact(h.gy y0 m0).2
  ·exact(h.gy y1 m1).1
  ·exact(h.gy y1 m1).2
 ·have m:=hX k l;simp only[Hc.reads,gY,List.not_mem_nil,or_false]at b;rcases b with rfl | rfl | rfl | rfl | rfl
  ·have:=(h.om.lt k c).1;omega
  ·have:=((h.rd y0 m0).1.lt k c).1;omega
  ·have:=((h.rd y0 m0).2.lt k c).1;omega
  ·have:=((h.rd y1 m1).1.lt k c).1;omega
  ·have:=((h.rd y1 m1).2.lt k c).1;omega
end
def put5 (W:World)(b:Nat)(u0 u1 u2 u3 u4:Value):World:=((((W.setCell ⟨b,0,aJ⟩ u0).setCell ⟨b,1,aJ⟩ u1).setCell ⟨b,2,aJ⟩ u2).setCell ⟨b,3,aJ⟩ u3).setCell ⟨b,4,aJ⟩ u4
theorem HS.move {c:Hc}(hs:HS W g X h c)(hB:X B){a0 a1 a2 a3 a4:Value}(hk:∀o,W.cell? ⟨B,o,aJ⟩=(#[a0,a1,a2,a3,a4]:Array Value)[o]?)(hf:∀o,W.frozen? ⟨B,o,aJ⟩=false):
 HS (put5 W B (aA c.az 2 c.cz) (aA c.am 2 c.cm) (aB aI (h.aP:Int)) (aA c.al c.lc.length c.cl) (aA c.av h.live.length c.cv)) B (λk=>X k/\k≠B) h c:=by
 have b:=((((hs.far hB 0 (aA c.az 2 c.cz)).far hB 1 (aA c.am 2 c.cm)).far hB 2 (aB aI (h.aP:Int))).far hB 3 (aA c.al c.lc.length c.cl)).far hB 4 (aA c.av h.live.length c.cv);have f:=aW (aW (aW (aW (aW hk 0 (aA c.az 2 c.cz)) 1 (aA c.am 2 c.cm)) 2 (aB aI (h.aP:Int))) 3 (aA c.al c.lc.length c.cl)) 4 (aA c.av h.live.length c.cv);refine⟨⟨b.r.own,b.r.ro,b.r.ds,λr d k a=>⟨λe=>(b.r.og r d k a).2 (by rw[e];exact hB),λe=>(b.r.og r d k a).2 e.1⟩,λr d e=>b.r.rx r d B e hB,λr d k a e=>b.r.rx r d k a e.1,b.r.xs B hB,λe=>e.2 rfl,λk a=>b.r.xs k a.1,b.r.e0,b.r.e1,b.r.ll⟩,f,aV (aV (aV (aV (aV hf _ _) _ _) _ _) _ _) _ _⟩
def lN (W:World)(B:Nat)(h:Hp)(c:Hc):Prop:=HR W B (λk=>k<B) h c
theorem lN.at {c:Hc}(hs:lN W B h c):HAt W c.az c.am c.al c.av c.lc.length h.live.length c.y0 c.y1 c.lc h:=HR.at hs
theorem ret5 {W0 W4:World}{c:Hc}{a0 a1 a2 a3 a4:Value}(hb:Below B W0 W4)(sf:Safe X W4 W)(hs:HS W G X h c)(K2:∀o,W4.cell? ⟨b,o,aJ⟩=(#[a0,a1,a2,a3,a4]:Array Value)[o]?)(F2:∀o,W4.frozen? ⟨b,o,aJ⟩=false)(hsz:b<W4.heap.size)(hX:X b)(hXB:∀k,k<B->X k)(hB:B<=W4.heap.size)(hbB:B<=b)(u0 u1 u2 u3 u4:Value):
 (W.cell? ⟨b,0,aJ⟩=aK a0/\W.cell? ⟨b,1,aJ⟩=aK a1/\W.cell? ⟨b,2,aJ⟩=aK a2/\W.cell? ⟨b,3,aJ⟩=aK a3/\W.cell? ⟨b,4,aJ⟩=aK a4)/\
 (W.frozen? ⟨b,0,aJ⟩=false/\W.frozen? ⟨b,1,aJ⟩=false/\W.frozen? ⟨b,2,aJ⟩=false/\W.frozen? ⟨b,3,aJ⟩=false/\W.frozen? ⟨b,4,aJ⟩=false)/\
 HS (put5 W b u0 u1 u2 u3 u4) G X h c/\Below B W0 (put5 W b u0 u1 u2 u3 u4)/\∀o,(put5 W b u0 u1 u2 u3 u4).cell? ⟨b,o,aJ⟩=(#[u0,u1,u2,u3,u4]:Array Value)[o]? :=by
 have K:=sf.box K2 hsz hX;have F:=sf.WV F2 hsz hX;exact⟨⟨K 0,K 1,K 2,K 3,K 4⟩,⟨F 0,F 1,F 2,F 3,F 4⟩,((((hs.far hX 0 u0).far hX 1 u1).far hX 2 u2).far hX 3 u3).far hX 4 u4,Below.setCell (Below.setCell (Below.setCell (Below.setCell (Below.setCell (Safe.after hb sf hXB hB) hbB u0) hbB u1) hbB u2) hbB u3) hbB u4,aW (aW (aW (aW (aW K 0 u0) 1 u1) 2 u2) 3 u3) 4 u4⟩
theorem NT:∀f:Nat,f<=15->(bits .and .i64 (f:Int) 8=if f/8%2=1 then 8 else 0)/\(bits .and .i64 (f:Int) 1=if f%2=1 then 1 else 0):=by decide+kernel
theorem aAZ (az am al av:Option Addr)(cz cm cl cv nl nv:Nat)(y0 y1:Zc)(lc:List Lc)(h:Hp)(i flags:Nat)(w:World)(hh:HAt w az am al av nl nv y0 y1 lc h)(hk:fG h)(hi:i<2)(hf:flags<=15):
 Calls prog 155 #[aC #[aA az 2 cz,aA am 2 cm,aB aI h.aP,aA al nl cl,aA av nv cv],aB aI i,aB aI flags] w λev w'=>ev=aN (aB aI (h.held i (decide (flags/8%2=1)) (decide (flags%2=1)):Nat))/\Below w.heap.size w w':=by
 have hb:=aT w (aO #[aA az 2 cz,aA am 2 cm,aB aI (h.aP:Int),aA al nl cl,aA av nv cv] 39);obtain⟨N,off,x,S,K⟩:=aZ iV (by decide) (hh.zr.below hb) (j:=1) (by simp);obtain rfl:=x;obtain⟨o,v,C,I⟩:=lK K;obtain⟨O,A,E,T,r⟩:=aZ dH (by decide) (hh.mr.below hb) (j:=i) (by simpa using hi);obtain rfl:=E;have c:=lI r;rw[Nat.mul_one]at c;have g:([h.m0,h.m1]:List Nat)[i]'(by simpa using hi)=h.min i:=by
  unfold Hp.min;obtain rfl | rfl:i=0∨i=1:=by omega
  ·rfl
  ·rfl
 rw[g]at c;have M:=hh.e1;simp only[List.getElem_cons_zero,List.getElem_cons_succ]at o v C I;rw[M]at o v;have X:h.min i<=256:=by unfold Hp.min;have:=hk.m0;have:=hk.m1;split <;> omega
 have q:=hk.e1;have R:=hk.o1.1.fe;have W:h.z1.f<=256:=by omega
 obtain⟨t,d⟩:=NT flags hf;have y:Hid (∀u lo:Bool,h.held i u lo=(if u then h.min i/2 else h.min i)+(if i=0/\lo=false then(h.z1.e-h.z1.f)/32 else 0)):=λ_ _=>rfl
 clear hh K r g M;generalize h.min i=m at*;have Q:(i:Int)<2:=by omega
 have p:((h.z1.e:Int)-h.z1.f)/32=(((h.z1.e-h.z1.f)/32:Nat):Int):=by omega
 have V:(0:Int)<=(h.z1.e:Int)-h.z1.f:=by omega
 have F:(h.z1.e-h.z1.f)/32<=8:=by omega
 have l:(((h.z1.e-h.z1.f)/32:Nat):Int)=((h.z1.e:Int)-h.z1.f)/32:=p.symm;clear p;obtain⟨D,z⟩:∃D,(h.z1.e-h.z1.f)/32=D:=⟨_,rfl⟩
 rw[z]at l F;have U:=gO z;clear z
 -- the four ways: urgent or not, the first zone without the flag or else
 obtain⟨n,G⟩:∃n,(if flags/8%2=1 then m/2 else m)=n:=⟨_,rfl⟩
 have P:n<=256:=by rw[<- G];split <;> omega
 have k:Calls prog 155 #[aC #[aA (aK ⟨N,off,aJ⟩) 2 cz,aA (aK ⟨O,A,aJ⟩) 2 cm,aB aI h.aP,aA al nl cl,aA av nv cv],aB aI i,aB aI flags] w λev w'=>ev=aN (aB aI ((n+if i=0/\¬flags%2=1 then D else 0:Nat):Int))/\Below w.heap.size w w':=by
  have J:(if flags/8%2=1 then(m:Int)/2 else(m:Int))=(n:Int):=by rw[<- G];split <;> omega
  by_cases L:flags/8%2=1
  ·rw[if_pos L]at t J;by_cases a:i=0
   ·subst a;rw[Nat.add_zero]at c;by_cases b:flags%2=1
    ·rw[if_pos b]at d;rw[if_neg (by simp[b])];go_enter func155,ntmps155
     go_wp2
     go_ret
     exact⟨fC (by simp),hb⟩
    ·rw[if_neg b]at d;rw[if_pos ⟨rfl,b⟩];go_enter func155,ntmps155
     go_wp2_with fail
     go_quiet (fail)
     go_wp2
     go_ret
     exact⟨fC (by have H:=l;rw[q]at H;omega),below_drewN hb _⟩
   ·have B:((i:Int) == 0)=false:=by rw[beq_eq_false_iff_ne];omega
    rw[if_neg (λh=>a h.1)];go_enter func155,ntmps155
    go_wp2
    go_ret
    exact⟨fC (by simp),hb⟩
  ·rw[if_neg L]at t J;by_cases a:i=0
   ·subst a;rw[Nat.add_zero]at c;by_cases b:flags%2=1
    ·rw[if_pos b]at d;rw[if_neg (by simp[b])];go_enter func155,ntmps155
     go_wp2
     go_ret
     exact⟨fC (by simp),hb⟩
    ·rw[if_neg b]at d;rw[if_pos ⟨rfl,b⟩];go_enter func155,ntmps155
     go_wp2_with fail
     go_quiet (fail)
     go_wp2
     go_ret
     exact⟨fC (by have H:=l;rw[q]at H;omega),below_drewN hb _⟩
   ·have B:((i:Int) == 0)=false:=by rw[beq_eq_false_iff_ne];omega
    rw[if_neg (λh=>a h.1)];go_enter func155,ntmps155
    go_wp2
    go_ret
    exact⟨fC (by simp),hb⟩
 have s:=y.out (decide (flags/8%2=1)) (decide (flags%2=1));rw[s];have e:(if decide (flags/8%2=1)=true then m/2 else m)+(if i=0/\decide (flags%2=1)=false then(h.z1.e-h.z1.f)/32 else 0)=n+(if i=0/\¬flags%2=1 then D else 0):=by
  rw[U.out,<- G];congr 1
  ·simp only[decide_eq_true_eq]
  ·simp only[decide_eq_false_iff_not]
 rw[e];exact k
theorem NU (b:Bk)(p:Nat)(w:World)(ha:b.a<=1000)(hp:p<=1000):
 Calls prog 123 #[aC #[aB aI b.a,aB aI b.o,aB aI b.t],aB aI p] w λe w'=>e=aN (aB aI ((b.a:Int)-p))/\Below w.heap.size w w':=by
 go_enter func123,ntmps123
 go_wp2
 go_ret
 exact⟨rfl,aT _ _⟩
theorem NV (a:Option Addr)(n cap:Nat)(l:List Bk)(p:Nat)(w:World)(hn:l.length=n)(hl:n<=1000)(hr:Row w a (flat bC l))(hrise:rW l)(ha:∀b∈l,b.a<=1000)(hp:p<=1000):
 Calls prog 69 #[aA a n cap,aB aI p,.func (.func 123) #[] #[]] w λe w'=>e=aN (aG #[aB aI (lb l p:Int),.bool (hasB l p)])/\Below w.heap.size w w':=by
 subst hn;have E:=vH l p;have P:∀k w,(callFunc 123 k).run prog w= .ok (.enter 123 k) w:=enters_of func123 (by kernel_rfl) rfl;go_enter func69,ntmps69
 go_wp2
 go_loopw [9,10,11] (λB s _ wr=>∃i j:Nat,i<=lb l p/\lb l p<=j/\j<=l.length/\B=aB aI i/\s=aB aI j/\Below w.heap.size w wr) (λB s _ _=>(intOf s).toNat-(intOf B).toNat)
 case atStart=>exact⟨0,l.length,gU _,E,gT _,rfl,rfl,gX _ _⟩
 case round=>
  obtain⟨i,j,N,J,O,rfl,rfl,f⟩:=hrel;by_cases I:i<j
  ·have F:(i+j)/2<l.length:=by omega
   have m:=gO (JM hrise (a:=p) F);obtain⟨b,off,rfl,hb,x⟩:=aZ aX (by decide) (hr.below f) F;obtain⟨q,v,r⟩:=bZ x;have t:=ha _ (gL F);clear hr x;generalize l[(i+j)/2]=y at*;go_wp2_with fail
   refine(NU y p _ t hp).mono ?_;rintro e H ⟨rfl,u⟩;have d:=gW f u;clear q v r;by_cases o:y.a<p
   ·have M:=m.out.2 o;have D:(y.a:Int)-p<0:=by omega
    go_wp2
    go_roundw
    case rel=>exact⟨(i+j)/2+1,j,by omega,J,O,by go_num,rfl,d⟩
    case measure=>simp[intOf];omega
   ·have M:¬(i+j)/2<lb l p:=λh=>o (m.out.1 h)
    have D:¬(y.a:Int)-p<0:=by omega
    go_wp2
    go_roundw
    case rel=>exact⟨i,(i+j)/2,N,by omega,by omega,rfl,by go_num,d⟩
    case measure=>simp[intOf];omega
  ·obtain rfl:i=lb l p:=by omega
   have L:(lb l p:Int)<=l.length:=by omega
   by_cases C:lb l p<l.length
   ·obtain⟨b,off,rfl,hb,x⟩:=aZ aX (by decide) (hr.below f) C;obtain⟨q,v,r⟩:=bZ x;have t:=ha _ (gL C);have g:=gO (xW hrise (a:=p) C);have A:(lb l p:Int)<l.length:=by omega
    clear hr x;generalize l[lb l p]=y at*;generalize c:lb l p=K at*;have z:=gO c;clear c;go_wp2_with fail
    refine(NU y p _ t hp).mono ?_;rintro e H ⟨rfl,u⟩;have d:=gW f u;clear q v r;by_cases G:y.a=p
    ·have D:((y.a:Int)-p == 0)=true:=by rw[beq_iff_eq];omega
     go_wp2
     go_ret2
     refine⟨?_,d⟩;rw[g.out,z.out,gTg G];rfl
    ·have D:((y.a:Int)-p == 0)=false:=by rw[beq_eq_false_iff_ne];omega
     go_wp2
     go_ret2
     refine⟨?_,d⟩;rw[g.out,z.out,gV G];rfl
   ·have g:=gO (wG hrise (a:=p) (by omega));have A:¬(lb l p:Int)<l.length:=by omega
    clear hr;generalize c:lb l p=K at*;have z:=gO c;clear c;go_wp2
    go_ret2
    refine⟨?_,f⟩;rw[g.out,z.out];rfl
theorem Ku (az am al av:Option Addr)(cz cm cl cv nl nv:Nat)(y0 y1:Zc)(lc:List Lc)(h:Hp)(p:Nat)(w:World)(hh:HAt w az am al av nl nv y0 y1 lc h)(hk:fG h)(QS:nv<=1000)(hp:p<=1000):
 Calls prog 84 #[aC #[aA az 2 cz,aA am 2 cm,aB aI h.aP,aA al nl cl,aA av nv cv],aB aI p] w λev w'=>ev=aN (aG #[aB aI (lb h.live p:Nat),.bool (hasB h.live p)])/\Below w.heap.size w w':=by
 have hb:=aT w (aO #[aA az 2 cz,aA am 2 cm,aB aI (h.aP:Int),aA al nl cl,aA av nv cv] 39);have e:=(hh.below hb).vr;have f:=hh.nv;have d:∀b∈h.live,b.a<=1000:=λb hb=>by have:=(hk.lv b hb).1.2.2.1;omega
 clear hh;go_enter func84,ntmps84
 go_wp2_with fail
 refine(NV _ _ _ h.live p _ f QS e hk.vs d hp).mono ?_;rintro ev w' ⟨rfl,c⟩;go_wp2
 go_ret2
 exact⟨rfl,gW hb c⟩
theorem aA0 {l:List Ls}(h:mJ l)(hk:k<l.length):k<kS l a↔l[k].key<a:=by
 constructor
 ·intro b;exact Bv _ (List.mem_take_iff_getElem.2 ⟨k,by omega,rfl⟩)
 ·intro b;rcases Nat.lt_or_ge k (kS l a)with h1 | h1
  ·exact h1
  ·have:=xQ h (k:=a) l[k] (List.mem_drop_iff_getElem.2 ⟨k-kS l a,by omega,by congr 1;omega⟩);omega
theorem NW (az am al av:Option Addr)(cz cm cl cv nl nv:Nat)(y0 y1:Zc)(lc:List Lc)(h:Hp)(l:Ls)(x:Option Addr)(kx dx:Nat)(w:World)(hh:HAt w az am al av nl nv y0 y1 lc h)(hrs:mJ h.ls)(aFU:∀y∈h.ls,y.z<2/\y.t<3)(hl:l.z<2/\l.t<3)(hnl:nl<=1000):
 Calls prog 90 #[aC #[aA az 2 cz,aA am 2 cm,aB aI h.aP,aA al nl cl,aA av nv cv],aC #[aB aI l.c,aB aI l.z,aB aI l.t,aA x kx dx]] w λev w'=>ev=aN (aG #[aB aI (kS h.ls l.key:Nat),.bool (sW h.ls l.key)])/\Below w.heap.size w w':=by
 obtain⟨K2,K3,F2,F3,hsz,A⟩:=boxes2 w #[aA az 2 cz,aA am 2 cm,aB aI (h.aP:Int),aA al nl cl,aA av nv cv] 39 #[aB aI (l.c:Int),aB aI (l.z:Int),aB aI (l.t:Int),aA x kx dx] 160;have HR:=gO (hh.below A).lr;have N:lc.length=nl:=hh.nl;have D:=hh.ll;have aJk:h.ls.length=nl:=by rw[<- D,gTe,N]
 have hle:=Xx h.ls l.key;have NY:Hid (mJ h.ls):=hrs;have HLR:=gO aFU;have Z:=gO D;clear hh hrs aFU D;go_enter func90,ntmps90
 go_wp2
 generalize (w.alloc _).alloc _=w0 at*;go_loopw [6] (λW wr=>∃i:Nat,i<=kS h.ls l.key/\W=aB aI (i:Int)/\Hid (Below w0.heap.size w0 wr)) (λW _=>nl-(intOf W).toNat)
 case atStart=>exact⟨0,gU _,rfl,gX _ _⟩
 case round=>
  obtain⟨i,hi,rfl,hb⟩:=hrel;have Dx:=aQ K2 (by omega) hb.out;have g:=aQ K3 (by omega) hb.out;have XV:=hb.out.size;have m:=Dx 3;have F:=g 0;have G:=g 1;have I:=g 2;have J:=g 3;simp only[gB,gC,gD]at m F G I J;clear Dx g;have k:w.heap.size<wr.heap.size:=by omega
  have d:w.heap.size+1<wr.heap.size:=by omega
  by_cases hlt:i<nl
  ·have M:i<lc.length:=by omega
   have s:i<h.ls.length:=by omega
   obtain⟨S,off,U,f,hc⟩:=aZ bF (by decide) (HR.out.below hb.out) M;obtain rfl:=U;obtain⟨v,K,H,R⟩:=o9 hc;have L:lc[i].l=h.ls[i]:=by
    have O:=congrArg (·[i]?) Z.out;simp[M,s]at O;exact O
   have u:=gO (aA0 NY.out (a:=l.key) s);have V:=HLR.out _ (gL s);have Q:Hid (i=kS h.ls l.key->sW h.ls l.key=decide (h.ls[i].key=l.key)):=λe=>by
    unfold sW;rw[<- e,gJ s]
   rw[L]at v K H;clear hc L;generalize h.ls[i]=y at*;generalize lc[i]=r at*;have Hg:decide ((i:Int)<nl)=true:=gTg (by omega);have aL4:(i:Int)<nl:=by omega
   have q:y.z<2/\y.t<3:=V;go_wp2_with fail
   refine bH (by kernel_rfl) (by kernel_rfl) ?_
   repeat (first | go_big_quiet_step ((go_at_call 118;exact Calls.dF (Ae y l _ _ _ _ _ _ _ q hl))) | quiet_step ((go_at_call 118;exact Calls.dF (Ae y l _ _ _ _ _ _ _ q hl))))
   refine wpQuiet_nil ?_;rintro _ ⟨wx,rfl⟩;have b:=bD wr wx;have P:=gO (gW hb.out b);by_cases o:y.key<l.key
   ·rw[gTg o];have h3:=u.out.2 o;generalize ext wr wx=T at*;go_wp2
    go_roundw
    case rel=>exact⟨i+1,h3,by go_num,P⟩
    case measure=>simp[intOf];omega
   ·rw[gV o];have n:i=kS h.ls l.key:=by
     rcases Nat.lt_or_ge i (kS h.ls l.key)with O | O
     ·exact absurd (u.out.1 O) o
     ·omega
    have j:=gO (Q.out n);have E:=gO n;clear n;have Y:=(b.cell (p:=⟨w.heap.size,3,aJ⟩) k).trans m;have m30:=(b.cell (p:=⟨w.heap.size+1,0,aJ⟩) d).trans F;have m31:=(b.cell (p:=⟨w.heap.size+1,1,aJ⟩) d).trans G;have m32:=(b.cell (p:=⟨w.heap.size+1,2,aJ⟩) d).trans I;have m33:=(b.cell (p:=⟨w.heap.size+1,3,aJ⟩) d).trans J;have n0:=(b.cell (p:=⟨S,off+i*4,aJ⟩) f).trans v;have n1:=(b.cell (p:=⟨S,off+i*4+1,aJ⟩) f).trans K;have n2:=(b.cell (p:=⟨S,off+i*4+2,aJ⟩) f).trans H;have n3:=(b.cell (p:=⟨S,off+i*4+3,aJ⟩) f).trans R;have X:=gI k b.size;have aNW:=gI d b.size;have aJm:=gI f b.size;clear m F G I J v K H R b k d f;generalize ext wr wx=T at*;go_wp2_with fail
    refine bH (by kernel_rfl) (by kernel_rfl) ?_
    repeat (first | go_big_quiet_step ((go_at_call 118;exact Calls.dF (Ae l y _ _ _ _ _ _ _ hl q))) | quiet_step ((go_at_call 118;exact Calls.dF (Ae l y _ _ _ _ _ _ _ hl q))))
    refine wpQuiet_nil ?_;rintro _ ⟨wy,rfl⟩;have B:=gO (gW P.out (bD T wy));generalize ext T wy=w6 at*;go_wp2
    go_ret2
    refine⟨?_,gW A B.out⟩;rw[j.out,<- E.out];have e:(!decide (l.key<y.key))=decide (y.key=l.key):=by
     by_cases h9:l.key<y.key
     ·rw[gTg h9,gV (by omega)];rfl
     ·rw[gV h9,gTg (by omega)];rfl
    rw[e];rfl
  ·have n:i=nl:=by omega
   have C:i=kS h.ls l.key:=by omega
   have j:Hid (sW h.ls l.key=false):=by
    unfold Hid sW;rw[<- C,List.getElem?_eq_none (by omega)]
   have Hg:decide ((i:Int)<nl)=false:=gV (by omega);have E:=gO C;clear n C;go_wp2_with fail
   go_quiet (fail)
   have B:=gO (below_drewN hb.out nq);have Y:=((below_drewN (gX wr.heap.size wr) nq).cell (p:=⟨w.heap.size,3,aJ⟩) k).trans m;have X:w.heap.size<(wr.drewN nq).heap.size:=gI k (below_drewN (gX wr.heap.size wr) nq).size;clear m;generalize wr.drewN nq=T at*;go_wp2_with fail
   go_quiet (fail)
   have hb7:=gO (below_drewN B.out nq);go_wp2
   go_ret2
   refine⟨?_,gW A hb7.out⟩;rw[j.out,<- E.out];rfl
theorem Tt (az am al av:Option Addr)(cz cm cl cv nl nv:Nat)(y0 y1:Zc)(lc:List Lc)(h:Hp)(l:Ls)(x:Option Addr)(kx dx:Nat)(w:World)(hh:HAt w az am al av nl nv y0 y1 lc h)(hk:fG h)(hl:l.z<2/\l.t<3)(hnl:nl<=1000):
 Calls prog 90 #[aC #[aA az 2 cz,aA am 2 cm,aB aI h.aP,aA al nl cl,aA av nv cv],aC #[aB aI l.c,aB aI l.z,aB aI l.t,aA x kx dx]] w λev w'=>ev=aN (aG #[aB aI (kS h.ls l.key:Nat),.bool (sW h.ls l.key)])/\Below w.heap.size w w':=
 NW az am al av cz cm cl cv nl nv y0 y1 lc h l x kx dx w hh hk.lk (λy a=>⟨(hk.lr y a).2.1,(hk.lr y a).2.2.1⟩) hl hnl
def uU (f:Nat->Bool)(b:Bool):Array Value:=(((List.range 256).map λp=>Value.bool (f p))++[Value.bool b]).toArray
theorem BN (f:Nat->Bool)(b:Bool):(uU f b).size=257:=by simp[uU]
theorem EY (f:Nat->Bool)(b:Bool)(p:Nat)(h:p<256):(uU f b)[p]? =aK (.bool (f p)):=by
 unfold uU;rw[gB,List.getElem?_append_left (by simpa using h),List.getElem?_map,List.getElem?_range h];rfl
theorem Aj (f:Nat->Bool)(b:Bool):(uU f b)[256]? =aK (.bool b):=by
 unfold uU;rw[gB,List.getElem?_append_right (by simp)];simp
theorem Yk (f g:Nat->Bool)(b:Bool)(q:Nat)(hq:q<256)(v:Bool)(hv:g q=v)(h:∀p,p<256->p≠q->g p=f p):(uU f b).setIfInBounds q (.bool v)=uU g b:=by
 apply Array.ext_getElem?;intro i;rw[Array.getElem?_setIfInBounds];by_cases c:i<256
 ·rw[EY g b i c];by_cases a:q=i
  ·subst a;rw[if_pos rfl,if_pos (by rw[BN];omega),hv]
  ·rw[if_neg a,EY f b i c,h i c (λe=>a e.symm)]
 ·by_cases d:i=256
  ·subst d;rw[if_neg (by omega),Aj,Aj]
  ·rw[Array.getElem?_eq_none (show(uU g b).size<=i by rw[BN];omega),if_neg (by omega),Array.getElem?_eq_none (show(uU f b).size<=i by rw[BN];omega)]
theorem QT {g:Nat->Bool}{b:Bool}(h:∀p,p<256->f p=g p):uU f b=uU g b:=by
 unfold uU;congr 1;congr 1;exact List.map_congr_left λp a=>by rw[h p (List.mem_range.1 a)]
def marked (f:Nat->Bool)(a q p:Nat):Bool:=f p||decide (a<=p/\p<q)
theorem QU (f:Nat->Bool)(a p:Nat):marked f a a p=f p:=by unfold marked;rw[gV (by omega),Bool.or_false]
theorem Vm (f:Nat->Bool)(a q:Nat):marked f a q q=f q:=by unfold marked;rw[gV (by omega),Bool.or_false]
theorem NZ (f:Nat->Bool)(a q:Nat)(h:a<=q)(hq:q<256)(b:Bool):(uU (marked f a q) b).setIfInBounds q (.bool true)=uU (marked f a (q+1)) b:=by
 refine Yk _ _ b q hq true ?_ λp d c=> ?_
 ·unfold marked;rw[gTg (by omega),Bool.or_true]
 ·unfold marked;congr 1;exact decide_eq_decide.2 (by omega)
structure BO (W:World)(G:Nat)(f:Nat->Bool)(b:Bool):Prop where
 k:∀o,W.cell? ⟨G,o,aJ⟩=(uU f b)[o]?
 fz:∀o,W.frozen? ⟨G,o,aJ⟩=false
 hi:G<W.heap.size
theorem BO.below {W':World}{b:Bool}(h:BO W G f b)(hb:Below W.heap.size W W'):BO W' G f b:=⟨aQ h.k h.hi hb,aU h.fz h.hi hb,gI h.hi hb.size⟩
theorem BO.mark {g:Nat->Bool}{b:Bool}(h:BO W G f b)(q:Nat)(v:Bool)(he:(uU f b).setIfInBounds q (.bool v)=uU g b):BO (W.setCell ⟨G,q,aJ⟩ (.bool v)) G g b:=⟨he▸aW h.k q _,aV h.fz _ _,by simpa using h.hi⟩
theorem BO.congr {g:Nat->Bool}{b:Bool}(h:BO W G f b)(hfg:∀p,p<256->f p=g p):BO W G g b:=⟨by rw[<- QT hfg];exact h.k,h.fz,h.hi⟩
theorem aA3 (G a n:Nat)(f:Nat->Bool)(b:Bool)(w:World)(hm:BO w G f b)(hn:a+n<=256)(h1:a<256)(hf:∀p,a<=p->p<a+n->f p=false):
 Calls prog 66 #[aH (aK ⟨G,0,aJ⟩),aB aI a,aB aI n] w λev w'=>ev=aN (aG #[])/\BO w' G (marked f a (a+n)) b/\Safe (λk=>k≠G) w w':=by
 have C:decide ((256:Int)<=a)=false:=gV (by omega);have A:decide (256<=a)=false:=gV (by omega);have B:decide ((256:Int)-a<n)=false:=gV (by omega);have o:=gO hm;clear hm;go_enter func66,ntmps66
 go_wp2
 go_loopw [6] (λi wr=>∃q:Nat,a<=q/\q<=a+n/\i=aB aI (q:Int)/\Hid (BO wr G (marked f a q) b)/\Hid (Safe (λk=>k≠G) w wr)) (λi _=>a+n-(intOf i).toNat)
 case atStart=>exact⟨a,gT _,by omega,rfl,o.out.congr (λp _=>(QU f a p).symm),Safe.refl _ _⟩
 case round=>
  obtain⟨q,d,z,rfl,h,r⟩:=hrel;clear o;have x:=h.out.hi;by_cases j:q<a+n
  ·have s:(q:Int)<a+n:=by omega
   have u:(q:Int)<256:=by omega
   have t:q<256:=by omega
   have c:=(h.out.k q).trans (EY _ b q t);rw[Vm,hf q d j]at c;have y:=h.out.fz q;have l:=gO (h.out.mark q true (NZ f a q d t b));have m:=gO (r.out.set (g:=G) (λe=>e rfl) q (.bool true));go_wp2
   go_roundw
   case rel=>exact⟨q+1,by omega,by omega,by go_num,l,m⟩
   case measure=>simp[intOf];omega
  ·obtain rfl:q=a+n:=by omega
   have D:¬((a:Int)+n<a+n):=by omega
   go_wp2
   refine bodyPost_end (v:=aG #[]) (by simp[results,results66,go_sem]) rfl ⟨rfl,h.out,r.out⟩
def Hl (done:List Bk)(p:Nat):Bool:=decide (0<cnt done p)
theorem Ym (done:List Bk)(b:Bk)(p:Nat):marked (Hl done) b.a b.fin p=Hl (done++[b]) p:=by
 unfold marked Hl;rw[dD];have c:cnt [b] p=hit b p:=by simp[cnt]
 rw[c];unfold hit;by_cases h:b.a<=p/\p<b.fin
 ·rw[if_pos h,gTg h,Bool.or_true,gTg (by omega)]
 ·rw[if_neg h,gV h,Bool.or_false,Nat.add_zero]
theorem EZ (G:Nat)(b:Bk)(done:List Bk)(w:World)(hm:BO w G (Hl done) false)(h1:∀p,cnt (done++[b]) p<=1)(hb:b.fin<=256)(v:Int)(hv:v=((2^b.o:Nat):Int)):
 Calls prog 66 #[aH (aK ⟨G,0,aJ⟩),aB aI b.a,aB aI v] w λev w'=>ev=aN (aG #[])/\BO w' G (Hl (done++[b])) false/\Safe (λk=>k≠G) w w':=by
 subst hv;have g:=dN b.o;have c:b.fin=b.a+2^b.o:=rfl;refine(aA3 G b.a (2^b.o) (Hl done) false w hm (by omega) (by omega) (λp d f=> ?_)).mono λev w' h=>⟨h.1,h.2.1.congr λp _=>by rw[<- c];exact Ym done b p,h.2.2⟩
 have e:=h1 p;rw[dD]at e;have i:cnt [b] p=1:=by
  simp only[cnt,Nat.add_zero];exact kR.2 ⟨d,f⟩
 unfold Hl;exact gV (by omega)
section
attribute [local go_sem ↓] jP
theorem Am:(prog.info? 160).map (λi=>(i.zero,i.size,i.bytes))=aK (aK (aC #[aB aI 0,aB aI 0,aB aI 0,aA aJ 0 0]),4,48):=by kernel_rfl
theorem Hf:Hu dB 36 160 4 48 (aC #[aB aI 0,aB aI 0,aB aI 0,aA aJ 0 0]):=⟨bF,by decide,underlying36,Am,by decide,rfl,λx=>by simp[dB,vI,Value.oneCell'],by simp[Value.cells,Value.oneCell'],Tryz.sizeOf160⟩
theorem Vw (base:Nat)(a:Option Addr)(n c:Nat)(l:List (Lc))(i:Nat)(w:World)(hown:w.ownsRow base 160 4 (aA a n c) n (flat dB l))(hi:i<n)(hn:n<=1000)(hbase:base<=w.heap.size):
 Calls prog 153 #[aA a n c,aB aI i,aB aI (i+1)] w λev w'=>ev=aN (aA a (n-1) c)/\w'.ownsRow base 160 4 (aA a (n-1) c) (n-1) (flat dB (l.eraseIdx i))/\w.grownBy w' (gTh (aA a n c)):=by
 obtain⟨f,x,o,b,g,d,e⟩:=Hf.del hown hi;have h:=eU hown;obtain⟨r,_,_,_,m,p,_⟩:=rG hi hn;have k:(i:Int)+1<=n:=by omega
 have v:(i:Int)<=c:=by omega
 have q:(i:Int)+1<=c:=by omega
 have u:(n:Int)<=c:=by omega
 have t:(n:Int)-1<=n:=by omega
 have y:((n-1:Nat):Int)<=n:=by omega
 have s:n-(n-1)=1:=by omega
 clear hown;go_enter func153,ntmps153
 go_wp2_with fail
 go_still_tail 6,(by kernel_rfl)
 change wpList _ _ _ _ _ w.drew;generalize w.drew=j at*;refine lJ rfl _ _ 36 36 rfl _ _ rfl rfl b ?_;go_wp2
 go_ret
 exact⟨rfl,d.out,e.out⟩
theorem Vx (base:Nat)(a:Option Addr)(n c g i:Nat)(l:List (Lc))(b:Lc)(w:World)(hown:w.ownsRow base 160 4 (aA a n c) n (flat dB l))(hi:i<=n)(hn:n<=1000)(hbase:base<=w.heap.size)(hgb:w.heap[g]? =aK (.cells (dB b).toArray 160 (0,0)))(hne:aK g≠gTh (aA a n c)):
 Calls prog 125 #[aA a n c,aB aI i,aA (aK ⟨g,0,aJ⟩) 1 1] w λev w'=>∃a' c',ev=aN (aA a' (n+1) c')/\w'.ownsRow base 160 4 (aA a' (n+1) c') (n+1) (flat dB (l.take i++b::l.drop i))/\w.grownBy w' (gTh (aA a n c))/\(∀k,(aA a' (n+1) c').ownBlock=aK k->(aA a n c).ownBlock=aK k∨w.heap.size<=k):=by
 obtain⟨Q,S,t,d⟩:=Hf.head hown hgb;have b2:(i:Int)<=c:=by omega
 by_cases V:i=n
 ·subst V;rw[gTf (by omega),List.drop_eq_nil_of_le (by omega)];obtain⟨U,y,u,B,D⟩:=info_parts Hf.info;have H:=gO hown;clear hown hgb t;go_enter func125,ntmps125
  go_wp2_with (at_builtin;refine wpList_append_lies _ rfl _ _ 36 rfl base 160 U _ 4 _ underlying36 y u B D Hf.zs (by decide) _ i _ rfl H.out ⟨g,0,aJ⟩ 1 1 (dB b) rfl rfl d (Hf.one b) (by decide) (by unfold maxLen;omega) (by omega) hbase _ rfl ?_)
  intro R c' I f N j E;rw[show flat dB l++dB b=flat dB (l++[b])from by rw[bG,iC]]at f;have z:=gO f;have A:=gO j;clear f H d j;go_wp2
  go_ret
  exact⟨_,c',rfl,z.out,N,λk s=>by
   obtain rfl:R=k:=by simpa[gTh]using s
   exact A.out.imp id λh=>Nat.le_of_eq h.symm⟩
 ·have p:i<n:=by omega
  obtain⟨b0,b3,Z,s1,b8,b9,M,J⟩:=rG p hn;by_cases Y:n+1<=c
  ·obtain⟨O,C,K,rfl,W,F,r,q,m,o⟩:=Hf.shift hown p hn Y hgb hne t;have v:(callFunc 147 #[aA (aK ⟨g,0,aJ⟩) 1 1,aA (dJ (aK ⟨O,0,aJ⟩) (i+1) c 4) (n-i) (c-(i+1))]).run prog w= .ok (.value (.bool false)) w:=by
    rw[run_callFunc_extern func147 (by kernel_rfl) (by kernel_rfl) (by kernel_rfl) (e:=Extern.SlicesOverlaps.overlaps #[36,36] #[4]) (by kernel_rfl),F];rfl
   have T:¬(c:Int)<(n:Int)+1:=by omega
   have L:(n:Int)+1<=c:=by omega
   have P:((i:Int)+1)<=c:=by omega
   clear hown hgb t F d;go_enter func125,ntmps125
   go_wp2_with (simp only[v])
   go_still_tail 8,(by kernel_rfl)
   change wpList _ _ _ _ _ w.drew;go_wp2
   go_ret
   exact⟨_,_,rfl,m.out,o.out,λk s=> .inl s⟩
  ·obtain⟨G,I,C,K,x,L,r,q,m,o⟩:=Hf.grow hown p hn (by omega) hbase t;have T:(c:Int)<(n:Int)+1:=by omega
   have P:((i:Int)+1)<=G:=by omega
   clear hown hgb t d;go_enter func125,ntmps125
   go_wp2_with (at_builtin;refine lJ rfl _ _ 36 3 rfl _ _ rfl rfl x ?_)
   go_still_tail 8,(by kernel_rfl)
   change wpList _ _ _ _ _ C.drew;generalize C.drew=X at*;go_wp2
   go_ret
   exact⟨_,_,rfl,m.out,o.out,λk s=> .inr (by simp[gTh]at s;omega)⟩
end
theorem wO:∀(a b:List Nat) (h:Hp),bK h (a++b)=bK (bK h a) b
 | [],_,_=>rfl
 | p::a,b,h=>by rw[List.cons_append,bK,bK,wO a b]
theorem yN:∀(a b:List Ls) (h:Hp),dI h (a++b)=dI (dI h a) b
 | [],_,_=>rfl
 | l::a,b,h=>by rw[List.cons_append,dI,dI,yN a b]
theorem Ap (h:Hp)(l:List Nat)(hj:j<l.length):bK h (l.take (j+1))=(bK h (l.take j)).jY l[j] 0:=by
 rw[List.take_succ_eq_append_getElem hj,wO];rfl
theorem Oj (h:Hp)(l:List Ls)(hi:i<l.length):dI h (l.take (i+1))=bK (dI h (l.take i)) l[i].p:=by
 rw[List.take_succ_eq_append_getElem hi,yN];rfl
theorem QY (hk:fG h){o:Nat}(hb:dM 0 256 a o)(hd:∀p,cnt h.all p+hit ⟨a,o,0⟩ p<=1):(h.zone (h.jX a)).ok/\dM (h.zone (h.jX a)).f (h.zone (h.jX a)).e a o/\∀x∈(h.zone (h.jX a)).l,apartB a o x:=
 ⟨hk.zone _,hk.fits hb,λx d=>dU λp c b=>by
  have j:=hd p;have i:=EF h (h.jX a) p;have k:=eG.2 (show fJ (h.zone (h.jX a)).l p from⟨x,d,b⟩);have g:hit ⟨a,o,0⟩ p=1:=kR.2 c;omega⟩
theorem yO (hk:fG h){o:Nat}(m:List Ls)(hb:dM 0 256 a o)(hd:∀p,cnt h.all p+hit ⟨a,o,0⟩ p<=1):(({h with ls:=m}:Hp).zone (({h with ls:=m}:Hp).jX a)).ok/\dM (({h with ls:=m}:Hp).zone (({h with ls:=m}:Hp).jX a)).f (({h with ls:=m}:Hp).zone (({h with ls:=m}:Hp).jX a)).e a o/\∀x∈(({h with ls:=m}:Hp).zone (({h with ls:=m}:Hp).jX a)).l,apartB a o x:=QY hk hb hd
theorem Dy (hk:fG h)(hi:i<h.ls.length)(hj:j<h.ls[i].p.length):
 ((bK (dI h (h.ls.take i)) (h.ls[i].p.take j)).zone ((bK (dI h (h.ls.take i)) (h.ls[i].p.take j)).jX h.ls[i].p[j])).ok/\dM ((bK (dI h (h.ls.take i)) (h.ls[i].p.take j)).zone ((bK (dI h (h.ls.take i)) (h.ls[i].p.take j)).jX h.ls[i].p[j])).f ((bK (dI h (h.ls.take i)) (h.ls[i].p.take j)).zone ((bK (dI h (h.ls.take i)) (h.ls[i].p.take j)).jX h.ls[i].p[j])).e h.ls[i].p[j] 0/\∀x∈((bK (dI h (h.ls.take i)) (h.ls[i].p.take j)).zone ((bK (dI h (h.ls.take i)) (h.ls[i].p.take j)).jX h.ls[i].p[j])).l,apartB h.ls[i].p[j] 0 x:=by
 have g:∀l∈h.ls,∀p∈l.p,p<256:=λl k p g=>((hk.lr l k).2.2.2.2.2 p g).1
 have n:∀q,cnt ({h with ls:=[]}:Hp).all q+cnt (lsB h.ls) q=cnt h.all q:=λq=>by
  rw[dO,dO];simp only[lsB,cnt];omega
 have a:∀q,cnt (lsB h.ls) q=cnt (lsB (h.ls.take i)) q+cnt (mG h.ls[i].p) q+cnt (lsB (h.ls.drop (i+1))) q:=λq=>by
  have c:=EG hi;have b:cnt (lsB h.ls) q=cnt (lsB (h.ls.take i++h.ls[i]::h.ls.drop (i+1))) q:=congrArg (λl=>cnt (lsB l) q) c;rw[lF,jH]at b;omega
 have d:∀q,cnt (mG h.ls[i].p) q=cnt (mG (h.ls[i].p.take j)) q+hit ⟨h.ls[i].p[j],0,0⟩ q+cnt (mG (h.ls[i].p.drop (j+1))) q:=λq=>by
  have c:h.ls[i].p=h.ls[i].p.take j++([h.ls[i].p[j]]++h.ls[i].p.drop (j+1)):=by
   rw[List.singleton_append,List.getElem_cons_drop,List.take_append_drop]
  have b:cnt (mG h.ls[i].p) q=cnt (mG (h.ls[i].p.take j++([h.ls[i].p[j]]++h.ls[i].p.drop (j+1)))) q:=congrArg (λl=>cnt (mG l) q) c;rw[jZ,jZ,Dh]at b;omega
 obtain⟨v,r,z,B,A⟩:=hk.JJ.dI (h.ls.take i) (λl k p m=>g l (List.mem_of_mem_take k) p m) (λq=>by have c:=n q;have b:=a q;have o:=hk.one q;omega);obtain⟨s,u,y,C,w⟩:=v.bK (h.ls[i].p.take j) (λp m=>g _ (gL hi) p (List.mem_of_mem_take m)) (λq=>by rw[r];have c:=n q;have b:=a q;have o:=hk.one q;have t:=d q;omega);have e:bK (dI h (h.ls.take i)) (h.ls[i].p.take j)={bK (dI {h with ls:=[]} (h.ls.take i)) (h.ls[i].p.take j)with ls:=h.ls}:=by
  rw[<- lG,<- BA]
 rw[e];exact yO s h.ls (tH (g _ (gL hi) _ (gL hj))) (λq=>by rw[u,r];have c:=n q;have b:=a q;have o:=hk.one q;have t:=d q;omega)
theorem Fg (h:Hp)(l:List Ls):(dI h l).ls=h.ls/\(dI h l).live=h.live:=by
 have c:∀(g:Hp) (a o:Nat),(g.jY a o).ls=g.ls/\(g.jY a o).live=g.live:=λg a o=>by
  unfold Hp.jY Hp.kL;split <;> exact⟨rfl,rfl⟩
 have d:∀(b:List Nat) (g:Hp),(bK g b).ls=g.ls/\(bK g b).live=g.live:=by
  intro b
  induction b with
  | nil=>intro g;exact⟨rfl,rfl⟩
  | cons p b ih=>intro g;rw[bK];exact⟨(ih _).1.trans (c g p 0).1,(ih _).2.trans (c g p 0).2⟩
 induction l generalizing h with
 | nil=>exact⟨rfl,rfl⟩
 | cons x l ih=>rw[dI];exact⟨(ih _).1.trans (d _ _).1,(ih _).2.trans (d _ _).2⟩
section
attribute [local go_sem ↓] jP
def xJ (xs:List Int)(p q n:Nat):List Int:=xs.take p++(xs.drop q).take n++xs.drop (p+n)
theorem aBI (a:Option Addr)(cap:Nat)(xs:List Int)(p q n:Nat)(w:World)(hl:xs.length<=1000000)(hcap:xs.length<=cap)(hr:Row w a (xs.map vI))(hp:p+n<=xs.length)(hq:q+n<=xs.length):
 Calls prog 109 #[aA a xs.length cap,aB aI p,aB aI q,aB aI n] w λe w'=>∃a' c',e=aN (aG #[aA a' xs.length c',aB aI 0])/\w'.ownsRow w.heap.size 3 1 (aA a' xs.length c') xs.length ((xJ xs p q n).map vI)/\Below w.heap.size w w':=by
 have D:WU xs.length p n=true:=gTg (by omega);have A:WU xs.length q n=true:=gTg (by omega);go_enter func109,ntmps109
 go_wp2_with (first | (go_at_call 126;refine(Ew _ _ _ _ _ _ (by omega) (by omega) (by omega)).mono ?_;rintro e w' ⟨rfl,rfl⟩) | (go_at_call 35;refine(Il _ _ _ _ (by omega) hr).mono ?_;rintro e i ⟨a',c',rfl,b,hb⟩;have t:=gO b;have u:=eU b;clear b))
 have E:IntKind.i64.wrap ((p:Int)+n)=(p:Int)+n:=IntWalk.i64_in _ (by omega);have C:IntKind.i64.wrap ((q:Int)+n)=(q:Int)+n:=IntWalk.i64_in _ (by omega);have z:(p:Int)+n<=(c':Int):=by omega
 have F:(q:Int)+n<=(cap:Int):=by omega
 have B:(p:Int)<=p+n:=by omega
 have G:(q:Int)<=q+n:=by omega
 go_still_tail 12,(by kernel_rfl)
 change wpList _ _ _ _ _ i.drew;have x:((p:Int)+n).toNat-p=n:=by omega
 have v:((q:Int)+n).toNat-q=n:=by omega
 rw[x,v];have j:Below w.heap.size w i.drew:=hb.drew;have f:=own_below t.out ((gX i.heap.size i).drew) (gT _);have d:=(hr.below j).cut q cap 1 n (by omega);generalize i.drew=H at j f d;have m:(prog.info? 3).map (·.size)=aK 1:=by kernel_rfl
 have c:(((xs.drop q).take n).map vI).length=n:=by simp;omega
 refine Ut rfl _ _ 34 34 rfl 3 underlying34 1 m _ _ n _ n _ rfl rfl (((xs.drop q).take n).map vI) (by rw[c];simp) ?_ (Xn _) w.heap.size xs.length c' p a' (xs.map vI) f ?_ ?_ (by rw[c];omega) ?_
 ·rw[Nat.mul_one,<- List.map_drop,<- List.map_take]at d;exact d
 ·intro l;rw[c]at l;unfold dJ;rw[if_neg (by omega)]
 ·intro k;by_cases l:n=0
  ·subst l;simp
  ·exfalso;unfold dJ at k;rw[if_neg (by omega)]at k;obtain⟨g,e,_⟩:=oI f 0 (by simp;omega);rw[e]at k;cases k
 ·intro r b h;have o:Below w.heap.size w r:=below_grown j f h (gT _) j.size;have s:r.ownsRow w.heap.size 3 1 (aA a' xs.length c') xs.length ((xJ xs p q n).map vI):=by
   rw[c]at b;simp only[xJ,List.map_append,List.map_take,List.map_drop,Nat.mul_one]at b ⊢;exact b
  have y:=gO s;clear s b h d t f;go_wp2
  go_ret2
  exact⟨a',c',rfl,y.out,o⟩
end
end Go.Proofs.YtjaogfhcnmjkiaaGreatDoor
