/- joined. -/
import Derived.Test.YtcmpmobhongkiaaGreatDoorRK0
import Derived.Test.YtcmpmobhongkiaaGreatDoorRK25
import Derived.Test.YtcmpmobhongkiaaGreatDoorRK27
import Derived.Test.YtcmpmobhongkiaaGreatDoorRK32
import Derived.Test.YtcmpmobhongkiaaGreatDoorRK34
import Derived.Test.YtcmpmobhongkiaaGreatDoorRK35
set_option linter.unusedVariables false
set_option linter.unusedSimpArgs false
namespace Go.Proofs.YtcmpmobhongkiaaGreatDoor
section
def Sy.push (s:Sy)(i k a:Nat):Sy:=match s.cs[i]? with
 | some c=>match c.sl[k]? with
  | some x=>{s with w:=s.w.set a x.h,cs:=s.cs.set i {c with sl:=c.sl.set k ⟨x.p,x.n+1,(a:Int)⟩}}
  | none=>s
 | none=>s
def Ca.spare (c:Ca)(k:Nat):Bool:=match c.sl[k]? with
 | some x=>c.idle x&&decide (1<(c.sl.filter c.idle).length)
 | none=>false
def Sy.spare (s:Sy)(i k:Nat):Bool:=match s.cs[i]? with
 | some c=>c.spare k
 | none=>false
def Sy.free (s:Sy)(i k a cpu:Nat):Sy:=if(s.push i k a).spare i k then(s.push i k a).discard i k cpu else s.push i k a
theorem QH {s:Sy}{i k a:Nat}{c:Ca}{x:Sl}(hi:s.cs[i]? =some c)(hx:c.sl[k]? =some x):s.push i k a={s with w:=s.w.set a x.h,cs:=s.cs.set i {c with sl:=c.sl.set k ⟨x.p,x.n+1,(a:Int)⟩}}:=by
 unfold Sy.push;rw[hi];simp only[hx]
theorem DF {w:List Int}{a:Nat}{u b:Int}(hb:0<=b)(h:b≠(a:Int)):(w.set a u).getD b.toNat 0=w.getD b.toNat 0:=by
 rw[List.getD_eq_getElem?_getD,List.getElem?_set_ne (by omega),<- List.getD_eq_getElem?_getD]
theorem bK.push {s:Sy}(hk:bK s){i k a:Nat}{c:Ca}{x:Sl}(hi:s.cs[i]? =some c)(hx:c.sl[k]? =some x)(ho:lS s.w c x a):
 bK (s.push i k a)/\(∀j b,(s.push i k a).away j b↔s.away j b/\¬(j=i/\b=a))/\(s.push i k a).cs[i]? =some {c with sl:=c.sl.set k ⟨x.p,x.n+1,(a:Int)⟩}:=by
 have hil:=(List.getElem?_eq_some_iff.1 hi).1;have hcm:=gM hi;have hxm:=gM hx;obtain⟨hkl,hkx⟩:=List.getElem?_eq_some_iff.1 hx;have hck:=hk.ck c hcm;obtain⟨hob,hout⟩:=ho;obtain⟨l,h1,h2,h3⟩:=(hck.sk x hxm).chain;have hal:=hout l h1;obtain⟨f1,f2,f3,f4⟩:=fJ.1 h1;have hnd:((a:Int)::l).Nodup:=List.nodup_cons.2 ⟨hal,f4⟩;have hroom:=Fp (c:=c) (p:=x.p) hck.z.1 hnd fun b hb=>by
  rcases List.mem_cons.1 hb with rfl | hb
  ·exact hob
  ·exact h3 b hb
 have hpg:=iV hck.room hob;have hlow:(a:Int)<4096:=by
  obtain⟨b,hb,hb1,hb2⟩:=(hck.sk x hxm).live;obtain⟨_,_,h4,h5⟩:=(hk.hk.lv b hb).1;have hor:c.o<=2:=by rw[hck.o];exact kT _
  rw[hb1,hb2]at h5;rw[hb1]at h4;generalize c.o=o at*;obtain rfl | rfl | rfl:o=0∨o=1∨o=2:=by omega
  ·simp only[Nat.pow_zero]at hpg;omega
  ·simp only[Nat.pow_one]at hpg h5;omega
  ·have e4:(2:Nat)^2=4:=rfl;rw[e4]at hpg h5;omega
 have hne:∀d∈s.cs,∀y∈d.sl,y.p≠x.p->∀b:Int,fU d y.p b=true->(s.w.set a x.h).getD b.toNat 0=s.w.getD b.toNat 0:=fun d hd y hy hyp b hb=>by
  have h6:=(kG hb).1;refine DF (by omega) fun e=>hyp ?_
  exact hk.JD hd hcm hy hxm hb (by rw[e];exact hob)
 have hwl:(s.w.set a x.h).length=s.w.length:=by simp
 have GY:follow (s.w.set a x.h) (a:Int) c.r=some ((a:Int)::l):=by
  rw[fJ];refine⟨⟨rfl,?_⟩,fun b hb=> ?_,fun _=>by exact_mod_cast hroom,hnd⟩
  ·have e:(s.w.set a x.h).getD ((a:Int)).toNat 0=x.h:=by
    rw[List.getD_eq_getElem?_getD,Int.toNat_natCast,List.getElem?_set_self (by rw[hk.wl];omega)];rfl
   rw[e];exact f1.move fun b hb=>DF (f2 b hb).1 fun e=>hal (e▸hb)
  ·rw[hwl];rcases List.mem_cons.1 hb with rfl | hb
   ·rw[hk.wl];omega
   ·exact f2 b hb
 rw[QH hi hx];have hoth:∀d∈s.cs,∀y∈d.sl,y.p≠x.p->tX {s with w:=s.w.set a x.h,cs:=s.cs.set i {c with sl:=c.sl.set k ⟨x.p,x.n+1,(a:Int)⟩}} d y:=fun d hd y hy hyp=>
  ((hk.ck d hd).sk y hy).move rfl rfl rfl (fun b hb=>hb) hwl (hne d hd y hy hyp)
 have hpk:∀j (hj:j<c.sl.length),j≠k->c.sl[j].p≠x.p:=fun j hj hjk e=>by
  rw[<- hkx]at e;have hsr:=hck.sr;rw[gN]at hsr;rcases Nat.lt_or_gt_of_ne hjk with h | h
  ·have:=hsr j k hj hkl h;omega
  ·have:=hsr k j hkl hj h;omega
 have hpd:∀j,j≠i->∀d,s.cs[j]? =some d->∀y∈d.sl,y.p≠x.p:=fun j hj d hd y hy e=>by
  obtain⟨hjl,hjd⟩:=List.getElem?_eq_some_iff.1 hd;obtain⟨aBw,hic⟩:=List.getElem?_eq_some_iff.1 hi;have hp:=hk.pd;rw[gN]at hp;rcases Nat.lt_or_gt_of_ne hj with h | h
  ·exact hp j i hjl hil h y (by rw[hjd];exact hy) x (by rw[hic];exact hxm) e
  ·exact hp i j hil hjl h x (by rw[hic];exact hxm) y (by rw[hjd];exact hy) e.symm
 have aBx:tX {s with w:=s.w.set a x.h,cs:=s.cs.set i {c with sl:=c.sl.set k ⟨x.p,x.n+1,(a:Int)⟩}} {c with sl:=c.sl.set k ⟨x.p,x.n+1,(a:Int)⟩} ⟨x.p,x.n+1,(a:Int)⟩:=
  ⟨(hck.sk x hxm).live,(a:Int)::l,GY,by simp[h2],fun b hb=>by
   rcases List.mem_cons.1 hb with rfl | hb
   ·exact hob
   ·exact h3 b hb⟩
 have aGT:o8 {s with w:=s.w.set a x.h,cs:=s.cs.set i {c with sl:=c.sl.set k ⟨x.p,x.n+1,(a:Int)⟩}} {c with sl:=c.sl.set k ⟨x.p,x.n+1,(a:Int)⟩}:=by
  refine⟨hck.z,hck.o,hck.r,hck.ns,hck.nm,hck.nr,hck.ac,?_,fun y hy=> ?_,fun b hb=> ?_,hck.ad⟩
  ·have h8:=hck.sr;rw[gN]at h8 ⊢;intro j m hj hm hjm;have hj':j<c.sl.length:=by simpa using hj
   have hm':m<c.sl.length:=by simpa using hm
   have h9:=h8 j m hj' hm' hjm;simp only[List.getElem_set];split
   ·rename_i e1;subst e1;rw[if_neg (by omega)];rw[hkx]at h9;exact h9
   ·split
    ·rename_i e1;subst e1;rw[hkx]at h9;exact h9
    ·exact h9
  ·obtain⟨j,hj,e⟩:=List.mem_iff_getElem.1 hy;have hj':j<c.sl.length:=by simpa using hj
   rw[List.getElem_set]at e;split at e
   ·rw[<- e];exact aBx
   ·rename_i hjk;have h9:=hoth c hcm _ (gL hj') (hpk j hj' fun e=>hjk e.symm);rw[e]at h9;exact⟨h9.live,h9.chain⟩
  ·rcases hck.aw b hb with h | ⟨z,hz,h⟩
   ·exact .inl h
   ·refine .inr ?_;obtain⟨j,hj,e⟩:=List.mem_iff_getElem.1 hz;refine⟨(c.sl.set k ⟨x.p,x.n+1,(a:Int)⟩)[j]'(by simpa using hj),gL _,?_⟩;rw[List.getElem_set];split
    ·rename_i e1;subst e1;rw[hkx]at e;rw[e];exact h
    ·rw[e];exact h
 have hpm:∀y∈c.sl.set k ⟨x.p,x.n+1,(a:Int)⟩,∃z∈c.sl,z.p=y.p:=fun y hy=>by
  rcases List.mem_or_eq_of_mem_set hy with h | rfl
  ·exact⟨y,h,rfl⟩
  ·exact⟨x,hxm,rfl⟩
 have hset:∀j (d:Ca),j<s.cs.length->j≠i->s.cs[j]? =some d->o8 {s with w:=s.w.set a x.h,cs:=s.cs.set i {c with sl:=c.sl.set k ⟨x.p,x.n+1,(a:Int)⟩}} d:=fun j d hj hji hd=>
  (hk.ck d (gM hd)).move rfl fun y hy=>hoth d (gM hd) y hy (hpd j hji d hd y hy)
 have aGU:bK {s with w:=s.w.set a x.h,cs:=s.cs.set i {c with sl:=c.sl.set k ⟨x.p,x.n+1,(a:Int)⟩}}:=by
  have h8:=(hk.upd (s':={s with cs:=s.cs.set i {c with sl:=c.sl.set k ⟨x.p,x.n,x.h⟩}}) (c':={c with sl:=c.sl.set k ⟨x.p,x.n,x.h⟩}) hi hk.wl hk.hk rfl rfl rfl ?_ (fun d hd=>(hk.ck d hd).move rfl (fun y hy=>⟨((hk.ck d hd).sk y hy).live,((hk.ck d hd).sk y hy).chain⟩)) (fun y hy=> .inl ?_))
  ·have hmem:∀{P:Ca->Ca->Prop},s.cs.Pairwise P->(∀d,P d c->P d {c with sl:=c.sl.set k ⟨x.p,x.n+1,(a:Int)⟩})->(∀d,P c d->P {c with sl:=c.sl.set k ⟨x.p,x.n+1,(a:Int)⟩} d)->(s.cs.set i {c with sl:=c.sl.set k ⟨x.p,x.n+1,(a:Int)⟩}).Pairwise P:=fun{P} h g1 g2=>by
    obtain⟨aBw,hic⟩:=List.getElem?_eq_some_iff.1 hi;rw[gN]at h ⊢;intro j m hj hm hjm;have hj':j<s.cs.length:=by simpa using hj
    have hm':m<s.cs.length:=by simpa using hm
    have h9:=h j m hj' hm' hjm;simp only[List.getElem_set];split
    ·rename_i e1;subst e1;rw[if_neg (by omega)];rw[hic]at h9;exact g2 _ h9
    ·split
     ·rename_i e1;subst e1;rw[hic]at h9;exact g1 _ h9
     ·exact h9
   refine⟨by show(s.w.set a x.h).length=4096;rw[hwl];exact hk.wl,hk.hk,by show(s.cs.set i _).length<=20;rw[List.length_set];exact hk.cl,fun d hd=> ?_,hmem hk.zd (fun _ h=>h) (fun _ h=>h),hmem hk.nd (fun _ h=>h) (fun _ h=>h),hmem hk.pd (fun d h y hy z hz=> ?_) (fun d h y hy z hz=> ?_)⟩
   ·obtain⟨j,hj,e⟩:=List.mem_iff_getElem.1 hd;have hj':j<s.cs.length:=by simpa using hj
    rw[List.getElem_set]at e;split at e
    ·rw[<- e];exact aGT
    ·rename_i hji;exact hset j d hj' (fun e=>hji e.symm) (by rw[gJ hj',e])
   ·obtain⟨z',hz',e⟩:=hpm z hz;rw[<- e];exact h y hy z' hz'
   ·obtain⟨y',hy',e⟩:=hpm y hy;rw[<- e];exact h y' hy' z hz
  ·rw[show c.sl.set k ⟨x.p,x.n,x.h⟩=c.sl by
    have:(⟨x.p,x.n,x.h⟩:Sl)=c.sl[k]:=hkx.symm;rw[this,List.set_getElem_self]]
   exact hck.move rfl (fun y hy=>⟨(hck.sk y hy).live,(hck.sk y hy).chain⟩)
  ·rcases List.mem_or_eq_of_mem_set hy with h | rfl
   ·exact⟨y,h,rfl⟩
   ·exact⟨x,hxm,rfl⟩
 refine⟨aGU,fun j b=> ?_,by show(s.cs.set i _)[i]? =_;rw[List.getElem?_set_self hil]⟩;have hst:=oM (s':={s with w:=s.w.set a x.h,cs:=s.cs.set i {c with sl:=c.sl.set k ⟨x.p,x.n+1,(a:Int)⟩}}) (c':={c with sl:=c.sl.set k ⟨x.p,x.n+1,(a:Int)⟩}) hi rfl b;have hsame:∀d∈s.cs,∀y∈d.sl,y.p≠x.p->(lS (s.w.set a x.h) d y b↔lS s.w d y b):=fun d hd y hy hyp=>
  vP (((hk.ck d hd).sk y hy).AQ (s':={s with w:=s.w.set a x.h}) hwl (hne d hd y hy hyp)) b
 by_cases hj:j=i
 ·subst hj;rw[hst.1,nH hi,NZ hkl,Fz hkl,hkx,lT h1];have h8:lS (s.w.set a x.h) {c with sl:=c.sl.set k ⟨x.p,x.n+1,(a:Int)⟩} ⟨x.p,x.n+1,(a:Int)⟩ b↔fU c x.p b=true/\b∉(a:Int)::l:=lT (x:=⟨x.p,x.n+1,(a:Int)⟩) (c:={c with sl:=c.sl.set k ⟨x.p,x.n+1,(a:Int)⟩}) GY b;have h9:(∃j,∃h:j<c.sl.length,j≠k/\lS (s.w.set a x.h) {c with sl:=c.sl.set k ⟨x.p,x.n+1,(a:Int)⟩} c.sl[j] b)↔(∃j,∃h:j<c.sl.length,j≠k/\lS s.w c c.sl[j] b):=by
   constructor
   ·rintro⟨m,hm,hmk,h⟩;exact⟨m,hm,hmk,(hsame c hcm _ (gL hm) (hpk m hm hmk)).1 h⟩
   ·rintro⟨m,hm,hmk,h⟩;exact⟨m,hm,hmk,(hsame c hcm _ (gL hm) (hpk m hm hmk)).2 h⟩
  show(∃j,∃h:j<c.sl.length,j≠k/\lS (s.w.set a x.h) {c with sl:=c.sl.set k ⟨x.p,x.n+1,(a:Int)⟩} c.sl[j] b)∨lS (s.w.set a x.h) {c with sl:=c.sl.set k ⟨x.p,x.n+1,(a:Int)⟩} ⟨x.p,x.n+1,(a:Int)⟩ b↔_;rw[h8,h9,List.mem_cons];constructor
  ·rintro(⟨m,hm,hmk,h⟩ | ⟨h,h'⟩)
   ·refine⟨.inl ⟨m,hm,hmk,h⟩,fun e=> ?_⟩;obtain⟨_,rfl⟩:=e;exact hmk (hk.UK hi hm hkl h.1 (by rw[hkx];exact hob))
   ·exact⟨.inr ⟨h,fun e=>h' (.inr e)⟩,fun e=>h' (.inl e.2)⟩
  ·rintro⟨h | ⟨h,h'⟩,h2'⟩
   ·exact .inl h
   ·exact .inr ⟨h,fun e=>e.elim (fun e=>h2' ⟨rfl,e⟩) h'⟩
 ·rw[hst.2 j hj];unfold Sy.away;constructor
  ·rintro⟨d,hd,y,hy,h⟩;exact⟨⟨d,hd,y,hy,(hsame d (gM hd) y hy (hpd j hj d hd y hy)).1 h⟩,fun e=>hj e.1⟩
  ·rintro⟨⟨d,hd,y,hy,h⟩,_⟩;exact⟨d,hd,y,hy,(hsame d (gM hd) y hy (hpd j hj d hd y hy)).2 h⟩
end
section
theorem xE {s:Sy}(hk:bK s){i k cpu:Nat}{c:Ca}{x:Sl}(hi:s.cs[i]? =some c)(hx:c.sl[k]? =some x):∃hl:lb s.h.live x.p<s.h.live.length,s.h.live[lb s.h.live x.p].a=x.p/\
 s.discard i k cpu={s with h:=s.h.fZ cpu (lb s.h.live x.p) s.h.live[lb s.h.live x.p],cs:=s.cs.set i {c with sl:=c.sl.eraseIdx k}}:=by
 obtain⟨hlb,_,hth⟩:=((hk.ck c (gM hi)).sk x (gM hx)).at hk.hk;refine⟨hlb,?_,?_⟩
 ·unfold hasB at hth;obtain⟨b,hb,e⟩:=List.any_eq_true.1 hth;have h3:=lQ hk.hk.vs hb;rw[of_decide_eq_true e,gJ hlb]at h3;rw[gP h3];exact of_decide_eq_true e
 ·unfold Sy.discard;rw[hi];simp only[hx,gJ hlb]
theorem bK.discard {s:Sy}(hk:bK s){i k cpu:Nat}{c:Ca}{x:Sl}(hi:s.cs[i]? =some c)(hx:c.sl[k]? =some x)(hn:c.r<=x.n)(ha:∀b∈c.ac,b≠(x.p:Int))(bJ:cpu<s.h.aC):
 bK (s.discard i k cpu)/\(∀j b,(s.discard i k cpu).away j b↔s.away j b)/\(s.discard i k cpu).h.aC=s.h.aC/\(s.discard i k cpu).cs=s.cs.set i {c with sl:=c.sl.eraseIdx k}/\(∀b∈(s.discard i k cpu).h.live,b∈s.h.live/\b.a≠x.p)/\(s.discard i k cpu).w=s.w:=by
 have hil:=(List.getElem?_eq_some_iff.1 hi).1;have hcm:=gM hi;have hxm:=gM hx;obtain⟨hkl,hkx⟩:=List.getElem?_eq_some_iff.1 hx;have hck:=hk.ck c hcm;obtain⟨hlb,hlp,he⟩:=xE hk (cpu:=cpu) hi hx;obtain⟨g1,g2,g3,g4⟩:=hk.hk.fZ bJ hlb;have hpk:∀j (hj:j<c.sl.length),j≠k->c.sl[j].p≠x.p:=fun j hj hjk e=>by
  rw[<- hkx]at e;have hsr:=hck.sr;rw[gN]at hsr;rcases Nat.lt_or_gt_of_ne hjk with h | h
  ·have:=hsr j k hj hkl h;omega
  ·have:=hsr k j hkl hj h;omega
 have hpd:∀j,j≠i->∀d,s.cs[j]? =some d->∀y∈d.sl,y.p≠x.p:=fun j hj d hd y hy e=>by
  obtain⟨hjl,hjd⟩:=List.getElem?_eq_some_iff.1 hd;obtain⟨aBw,hic⟩:=List.getElem?_eq_some_iff.1 hi;have hp:=hk.pd;rw[gN]at hp;rcases Nat.lt_or_gt_of_ne hj with h | h
  ·exact hp j i hjl hil h y (by rw[hjd];exact hy) x (by rw[hic];exact hxm) e
  ·exact hp i j hil hjl h x (by rw[hic];exact hxm) y (by rw[hjd];exact hy) e.symm
 rw[he];have hlive:∀b∈s.h.live,b.a≠x.p->b∈(s.h.fZ cpu (lb s.h.live x.p) s.h.live[lb s.h.live x.p]).live:=fun b hb hne=>by
  rw[g4,List.mem_eraseIdx_iff_getElem];obtain⟨j,hj,e⟩:=List.mem_iff_getElem.1 hb;refine⟨j,hj,fun e2=> ?_,e⟩;subst e2;rw[e]at hlp;exact hne hlp
 have hoth:∀d∈s.cs,∀y∈d.sl,y.p≠x.p->tX {s with h:=s.h.fZ cpu (lb s.h.live x.p) s.h.live[lb s.h.live x.p],cs:=s.cs.set i {c with sl:=c.sl.eraseIdx k}} d y:=fun d hd y hy hyp=>by
  obtain⟨b,hb,hb1,hb2⟩:=((hk.ck d hd).sk y hy).live;exact⟨⟨b,hlive b hb (by rw[hb1];exact hyp),hb1,hb2⟩,((hk.ck d hd).sk y hy).chain⟩
 have hmem:∀{P:Ca->Ca->Prop},s.cs.Pairwise P->(∀d,P d c->P d {c with sl:=c.sl.eraseIdx k})->(∀d,P c d->P {c with sl:=c.sl.eraseIdx k} d)->(s.cs.set i {c with sl:=c.sl.eraseIdx k}).Pairwise P:=fun{P} h g1 g2=>by
  obtain⟨aBw,hic⟩:=List.getElem?_eq_some_iff.1 hi;rw[gN]at h ⊢;intro j m hj hm hjm;have hj':j<s.cs.length:=by simpa using hj
  have hm':m<s.cs.length:=by simpa using hm
  have h9:=h j m hj' hm' hjm;simp only[List.getElem_set];split
  ·rename_i e1;subst e1;rw[if_neg (by omega)];rw[hic]at h9;exact g2 _ h9
  ·split
   ·rename_i e1;subst e1;rw[hic]at h9;exact g1 _ h9
   ·exact h9
 have hsub:∀y∈c.sl.eraseIdx k,y∈c.sl:=fun y hy=>(List.eraseIdx_sublist _ _).subset hy
 refine⟨⟨hk.wl,g1,by show(s.cs.set i _).length<=20;rw[List.length_set];exact hk.cl,fun d hd=> ?_,hmem hk.zd (fun _ h=>h) (fun _ h=>h),hmem hk.nd (fun _ h=>h) (fun _ h=>h),hmem hk.pd (fun d h y hy z hz=>h y hy z (hsub z hz)) (fun d h y hy z hz=>h y (hsub y hy) z hz)⟩,fun j b=> ?_,g3.aC,rfl,fun b hb=> ?_,rfl⟩
 ·obtain⟨j,hj,e⟩:=List.mem_iff_getElem.1 hd;have hj':j<s.cs.length:=by simpa using hj
  rw[List.getElem_set]at e;split at e
  ·rw[<- e];refine⟨hck.z,hck.o,hck.r,hck.ns,hck.nm,hck.nr,by rw[show _=_ from g3.aC];exact hck.ac,hck.sr.sublist (List.eraseIdx_sublist _ _),fun y hy=> ?_,fun b hb=> ?_,hck.ad⟩
   ·rw[List.mem_eraseIdx_iff_getElem]at hy;obtain⟨m,hm,hmk,e⟩:=hy;have h9:=hoth c hcm _ (gL hm) (hpk m hm hmk);rw[e]at h9;exact⟨h9.live,h9.chain⟩
   ·rcases hck.aw b hb with h | ⟨z,hz,h⟩
    ·exact .inl h
    ·refine .inr ⟨z,?_,h⟩;rw[List.mem_eraseIdx_iff_getElem];obtain⟨m,hm,ez⟩:=List.mem_iff_getElem.1 hz;refine⟨m,hm,fun e2=> ?_,ez⟩;subst e2;rw[hkx]at ez;exact ha b hb (by rw[<- h,ez])
  ·rename_i hji;have hd':s.cs[j]? =some d:=by rw[gJ hj',e]
   exact(hk.ck d (gM hd')).move g3.aC fun y hy=>hoth d (gM hd') y hy (hpd j (fun e=>hji e.symm) d hd' y hy)
 ·have hst:=oM (s':={s with h:=s.h.fZ cpu (lb s.h.live x.p) s.h.live[lb s.h.live x.p],cs:=s.cs.set i {c with sl:=c.sl.eraseIdx k}}) (c':={c with sl:=c.sl.eraseIdx k}) hi rfl b;by_cases hj:j=i
  ·subst hj;rw[hst.1,nH hi,JE,Fz hkl,hkx];obtain⟨l,h1,h2,h3⟩:=(hck.sk x hxm).chain;constructor
   ·exact fun h=> .inl h
   ·rintro(h | h)
    ·exact h
    ·exfalso;rw[lT h1]at h;exact h.2 (Fv hck.z.1 (fJ.1 h1).2.2.2 h3 (by omega) h.1)
  ·rw[hst.2 j hj];exact Iff.rfl
 ·have hb':b∈s.h.live.eraseIdx (lb s.h.live x.p):=by
   rw[<- g4];exact hb
  rw[List.mem_eraseIdx_iff_getElem]at hb';obtain⟨j,hj,hne,e⟩:=hb';refine⟨by rw[<- e];exact gL hj,fun e2=>hne ?_⟩;have hvs:=hk.hk.vs;rw[gN]at hvs;rcases Nat.lt_trichotomy j (lb s.h.live x.p)with h | h | h
  ·have:=hvs j _ hj hlb h;rw[e]at this;omega
  ·exact h
  ·have:=hvs _ j hlb hj h;rw[e]at this;omega
theorem uZ {s:Sy}{i k cpu:Nat}:(s.discard i k cpu).sig=s.sig:=by
 unfold Sy.discard;cases hc:s.cs[i]? with
 | none=>rfl
 | some c=>
  simp only;cases hx:c.sl[k]? with
  | none=>rfl
  | some x=>
   simp only;split
   ·exact jL hc rfl
   ·rfl
theorem Lp {s:Sy}{i k a:Nat}:(s.push i k a).sig=s.sig:=by
 unfold Sy.push;cases hc:s.cs[i]? with
 | none=>rfl
 | some c=>
  simp only;cases hx:c.sl[k]? with
  | none=>rfl
  | some x=>exact jL hc rfl
theorem Lr {s:Sy}{i k a cpu:Nat}:(s.free i k a cpu).sig=s.sig:=by
 unfold Sy.free;split
 ·exact uZ.trans Lp
 ·exact Lp
theorem Lu {s:Sy}{i k cpu:Nat}:(s.discard i k cpu).nss=s.nss:=kY uZ
theorem WG {s:Sy}{i k a cpu:Nat}:(s.free i k a cpu).nss=s.nss:=kY Lr
end
section
def Ca.jR (c:Ca)(m:Nat):Ca:={c with ac:=List.replicate (min m c.ac.length) (-1)++c.ac.drop m}
def Sy.jR (s:Sy)(i m:Nat):Sy:=match s.cs[i]? with
 | some c=>s.fH i (c.jR m)
 | none=>s
def Sy.nR (s:Sy)(i k:Nat):Sy:=match s.cs[i]? with
 | some c=>match c.sl[k]? with
  | some x=>if x.n=c.r then s.discard i k 0 else s
  | none=>s
 | none=>s
def Sy.shr (s:Sy)(i:Nat):Nat->Sy
 | 0=>s
 | m+1=>(s.nR i m).shr i m
def Sy.shrink (s:Sy)(i:Nat):Sy:=match s.cs[i]? with
 | some c=>(s.jR i c.ac.length).shr i c.sl.length
 | none=>s
theorem Tv (c:Ca):(c.jR c.ac.length).ac=List.replicate c.ac.length (-1):=by
 unfold Ca.jR;simp
theorem WH {s:Sy}{i m:Nat}{c:Ca}(hi:s.cs[i]? =some c):s.jR i m=s.fH i (c.jR m):=by
 unfold Sy.jR;rw[hi]
theorem bK.jR {s:Sy}(hk:bK s){i:Nat}{c:Ca}(hi:s.cs[i]? =some c):
 bK (s.jR i c.ac.length)/\(∀j b,(s.jR i c.ac.length).away j b↔s.away j b)/\(s.jR i c.ac.length).h=s.h/\(s.jR i c.ac.length).cs=s.cs.set i {c with ac:=List.replicate c.ac.length (-1)}/\(s.jR i c.ac.length).w=s.w:=by
 have hck:=hk.ck c (gM hi);have hu:c.jR c.ac.length={c with ac:=List.replicate c.ac.length (-1)}:=by
  have h:=Tv c;unfold Ca.jR at h ⊢;simp only at h;rw[h]
 rw[WH hi,hu];refine⟨hk.upd hi (c':={c with ac:=List.replicate c.ac.length (-1)}) hk.wl hk.hk rfl rfl rfl ?_ (fun d hd=>(hk.ck d hd).move rfl (fun y hy=>⟨((hk.ck d hd).sk y hy).live,((hk.ck d hd).sk y hy).chain⟩)) (fun y hy=> .inl ⟨y,hy,rfl⟩),fun j b=> ?_,rfl,rfl,rfl⟩
 ·refine⟨hck.z,hck.o,hck.r,hck.ns,hck.nm,hck.nr,by rw[List.length_replicate];exact hck.ac,hck.sr,fun y hy=>⟨(hck.sk y hy).live,(hck.sk y hy).chain⟩,fun a ha=> .inl (List.mem_replicate.1 ha).2,?_⟩;rw[gN];intro j l hj hl hjl _;simp
 ·have hst:=oM (s':=s.fH i {c with ac:=List.replicate c.ac.length (-1)}) (c':={c with ac:=List.replicate c.ac.length (-1)}) hi rfl b;by_cases hj:j=i
  ·subst hj;rw[hst.1,nH hi];exact Iff.rfl
  ·rw[hst.2 j hj];exact Iff.rfl
def DI (s:Sy)(i m:Nat):Prop:=∃c,s.cs[i]? =some c/\(∀b∈c.ac,b= -1)/\m<=c.sl.length
theorem bK.nR {s:Sy}(hk:bK s){i k:Nat}(h:DI s i (k+1)):
 bK (s.nR i k)/\(∀j b,(s.nR i k).away j b↔s.away j b)/\(s.nR i k).h.aC=s.h.aC/\DI (s.nR i k) i k/\(s.nR i k).cs.length=s.cs.length/\(s.nR i k).nss=s.nss:=by
 obtain⟨c,hc,ha,hl⟩:=h;have hil:=(List.getElem?_eq_some_iff.1 hc).1;have hx:c.sl[k]? =some (c.sl[k]'(by omega)):=gJ _;unfold Sy.nR;rw[hc];simp only[hx];split
 ·rename_i hn;have hcp:0<s.h.aC:=hk.hk.cp.1;obtain⟨h1,h2,h3,h4,_,_⟩:=hk.discard (cpu:=0) hc hx (by omega) (fun b hb=>by have:=ha b hb;omega) hcp;refine⟨h1,h2,h3,⟨{c with sl:=c.sl.eraseIdx k},by rw[h4,List.getElem?_set_self hil],ha,?_⟩,by rw[h4,List.length_set],Lu⟩;show k<=(c.sl.eraseIdx k).length;rw[List.length_eraseIdx_of_lt (by omega)];omega
 ·exact⟨hk,fun j b=>Iff.rfl,rfl,⟨c,hc,ha,by omega⟩,rfl,rfl⟩
end
section
def Sy.destroy (s:Sy)(i:Nat)(n:List UInt8):Option Sy:=match s.cs[i]? with
 | some c=>if 1<c.ns.length then some (s.fH i {c with ns:=c.ns.eraseIdx (AB c.ns n)})else if c.sl.any (fun x=>decide (x.n<c.r))then none else some {s.shrink i with cs:=(s.shrink i).cs.eraseIdx i}
 | none=>none
theorem bK.shr {i:Nat}:∀{m:Nat} {s:Sy},bK s->DI s i m->bK (s.shr i m)/\(∀j b,(s.shr i m).away j b↔s.away j b)/\(s.shr i m).h.aC=s.h.aC/\(s.shr i m).cs.length=s.cs.length/\(s.shr i m).nss=s.nss
 | 0,s,hk,_=>⟨hk,fun _ _=>Iff.rfl,rfl,rfl,rfl⟩
 | m+1,s,hk,h=>by
  obtain⟨h1,h2,h3,h4,h5,h6⟩:=hk.nR h;obtain⟨g1,g2,g3,g5,g6⟩:=bK.shr h1 h4;exact⟨g1,fun j b=>(g2 j b).trans (h2 j b),g3.trans h3,g5.trans h5,g6.trans h6⟩
theorem bK.shrink {s:Sy}(hk:bK s){i:Nat}(hi:i<s.cs.length):bK (s.shrink i)/\(∀j b,(s.shrink i).away j b↔s.away j b)/\(s.shrink i).h.aC=s.h.aC/\(s.shrink i).cs.length=s.cs.length/\(s.shrink i).nss=s.nss:=by
 have hc:s.cs[i]? =some s.cs[i]:=gJ hi;obtain⟨h1,h2,h3,h4,h5⟩:=hk.jR hc;unfold Sy.shrink;rw[hc];simp only;have hn:DI (s.jR i s.cs[i].ac.length) i s.cs[i].sl.length:=⟨{s.cs[i]with ac:=List.replicate s.cs[i].ac.length (-1)},by rw[h4,List.getElem?_set_self hi],fun b hb=>(List.mem_replicate.1 hb).2,Nat.le_refl _⟩
 obtain⟨g1,g2,g3,g4,g5⟩:=h1.shr hn;refine⟨g1,fun j b=>(g2 j b).trans (h2 j b),by rw[g3,h3],by rw[g4,h4,List.length_set],g5.trans ?_⟩;unfold Sy.nss;rw[h4];exact jL hc rfl
end
section
def Sy.whole (s:Sy)(b:Bk):Prop:=b∈s.h.live/\∀c∈s.cs,∀x∈c.sl,x.p≠b.a
theorem rE {α:Type}{l:List α}{i:Nat}{c c' d:α}(hi:l[i]? =some c):d∈l.set i c'↔d=c'∨∃j,j≠i/\l[j]? =some d:=by
 obtain⟨hil,hic⟩:=List.getElem?_eq_some_iff.1 hi;constructor
 ·intro h;obtain⟨j,hj,e⟩:=List.mem_iff_getElem.1 h;rw[List.length_set]at hj;rw[List.getElem_set]at e;split at e
  ·exact .inl e.symm
  ·rename_i hne;exact .inr ⟨j,fun e'=>hne e'.symm,by rw[gJ hj,e]⟩
 ·rintro(rfl | ⟨j,hj,h⟩)
  ·exact List.mem_iff_getElem.2 ⟨i,by simpa using hil,by simp⟩
  ·obtain⟨hjl,e⟩:=List.getElem?_eq_some_iff.1 h;exact List.mem_iff_getElem.2 ⟨j,by simpa using hjl,by rw[List.getElem_set,if_neg fun e=>hj e.symm,e]⟩
def Sy.LD (s:Sy)(p:Nat):Prop:=∃c∈s.cs,∃x∈c.sl,x.p=p
theorem cO {s:Sy}{b:Bk}:s.whole b↔b∈s.h.live/\¬s.LD b.a:=by
 unfold Sy.whole Sy.LD;constructor
 ·rintro⟨h1,h2⟩;exact⟨h1,fun⟨c,hc,x,hx,e⟩=>h2 c hc x hx e⟩
 ·rintro⟨h1,h2⟩;exact⟨h1,fun c hc x hx e=>h2 ⟨c,hc,x,hx,e⟩⟩
theorem BJ {s s':Sy}{i:Nat}{c c':Ca}(hi:s.cs[i]? =some c)(hcs:s'.cs=s.cs.set i c')(p:Nat):s'.LD p↔(∃x∈c'.sl,x.p=p)∨∃j,j≠i/\∃d,s.cs[j]? =some d/\∃x∈d.sl,x.p=p:=by
 unfold Sy.LD;rw[hcs];constructor
 ·rintro⟨d,hd,h⟩;rcases(rE hi).1 hd with rfl | ⟨j,hj,hd⟩
  ·exact .inl h
  ·exact .inr ⟨j,hj,d,hd,h⟩
 ·rintro(h | ⟨j,hj,d,hd,h⟩)
  ·exact⟨c',(rE hi).2 (.inl rfl),h⟩
  ·exact⟨d,(rE hi).2 (.inr ⟨j,hj,hd⟩),h⟩
theorem OX {s:Sy}{i:Nat}{c:Ca}(hi:s.cs[i]? =some c)(p:Nat):s.LD p↔(∃x∈c.sl,x.p=p)∨∃j,j≠i/\∃d,s.cs[j]? =some d/\∃x∈d.sl,x.p=p:=by
 refine BJ (s':=s) hi ?_ p;obtain⟨hil,hic⟩:=List.getElem?_eq_some_iff.1 hi;rw[<- hic,List.set_getElem_self]
theorem vC {s s':Sy}{i:Nat}{c c':Ca}(hi:s.cs[i]? =some c)(hcs:s'.cs=s.cs.set i c')(h:∀p,(∃x∈c'.sl,x.p=p)↔∃x∈c.sl,x.p=p)(p:Nat):s'.LD p↔s.LD p:=by
 rw[BJ hi hcs,OX hi,h]
theorem LG {l:List Sl}{k:Nat}{x x':Sl}(hx:l[k]? =some x)(hp:x'.p=x.p)(p:Nat):(∃y∈l.set k x',y.p=p)↔∃y∈l,y.p=p:=by
 obtain⟨hkl,hkx⟩:=List.getElem?_eq_some_iff.1 hx;rw[NZ hkl,Fz hkl,hkx,hp]
theorem WI {s:Sy}{i cpu k:Nat}(p:Nat):(s.mine i cpu k).LD p↔s.LD p:=by
 unfold Sy.mine;cases hc:s.cs[i]? with
 | none=>rfl
 | some c=>
  simp only;cases hx:c.sl[k]? with
  | none=>rfl
  | some x=>exact vC (s':=s.fH i {c with ac:=c.ac.set cpu (x.p:Int)}) (c':={c with ac:=c.ac.set cpu (x.p:Int)}) hc rfl (fun _=>Iff.rfl) p
theorem vY {s:Sy}{i cpu k:Nat}:(s.mine i cpu k).h=s.h/\(s.mine i cpu k).w=s.w:=by
 unfold Sy.mine;cases hc:s.cs[i]? with
 | none=>exact⟨rfl,rfl⟩
 | some c=>
  simp only;cases hx:c.sl[k]? with
  | none=>exact⟨rfl,rfl⟩
  | some x=>exact⟨rfl,rfl⟩
theorem DJ {s:Sy}{i cpu k:Nat}(b:Bk):(s.mine i cpu k).whole b↔s.whole b:=by
 rw[cO,cO,WI,vY.1]
theorem IB {s t:Sy}{i k:Nat}{a:Int}(h:s.pop i k=some (t,a)):∃c x,s.cs[i]? =some c/\c.sl[k]? =some x/\t=s.fH i {c with sl:=c.sl.set k ⟨x.p,x.n-1,s.w.getD x.h.toNat 0⟩}/\a=x.h:=by
 unfold Sy.pop at h;cases hc:s.cs[i]? with
 | none=>rw[hc]at h;cases h
 | some c=>
  rw[hc]at h;simp only at h;cases hx:c.sl[k]? with
  | none=>rw[hx]at h;cases h
  | some x=>
   rw[hx]at h;have h1:=gP h;rw[Prod.mk.injEq]at h1;exact⟨c,x,rfl,hx,h1.1.symm,h1.2.symm⟩
theorem Tz {s t:Sy}{i k:Nat}{a:Int}(h:s.pop i k=some (t,a))(b:Bk):t.whole b↔s.whole b:=by
 obtain⟨c,x,hc,hx,rfl,_⟩:=IB h;rw[cO,cO];have h1:=vC (s':=s.fH i {c with sl:=c.sl.set k ⟨x.p,x.n-1,s.w.getD x.h.toNat 0⟩}) hc rfl (LG (x':=⟨x.p,x.n-1,s.w.getD x.h.toNat 0⟩) hx rfl) b.a;rw[h1];exact Iff.rfl
theorem qI {l:List Bk}{b x:Bk}:x∈bF l b↔x=b∨x∈l:=by
 refine⟨Fg,fun hx=> ?_⟩;unfold bF;rw[<- List.take_append_drop (lb l b.a) l]at hx;simp only[List.mem_append,List.mem_cons]at hx ⊢;rcases hx with h | h | h
 ·exact .inr (.inl h)
 ·exact .inl h
 ·exact .inr (.inr h)
def Sy.lw (s:Sy)(q:Nat):Prop:=∃b∈s.h.live,16*b.a<=q/\q<16*(b.a+2^b.o)
theorem bK.LH {s s':Sy}(hk:bK s){i cpu k:Nat}{c:Ca}(hi:s.cs[i]? =some c)(bJ:cpu<s.h.aC)(hg:s.grow i cpu c=some (s',k)):
 ∃a,s'.cs=s.cs.set i {c with sl:=kP c.sl ⟨a,c.r,((16*a:Nat):Int)⟩}/\s'.h.live=bF s.h.live ⟨a,c.o,0⟩/\(∀b∈s.h.live,apartB a c.o b)/\∀q,s.lw q->s'.w.getD q 0=s.w.getD q 0:=by
 have hck:=hk.ck c (gM hi);have hor:c.o<=4:=by rw[hck.o];exact gQ (kT _) (by decide)
 obtain⟨h',a,hal,rfl,rfl⟩:=Ad hg;obtain⟨hh,hcnt,hsame,hlive,hfit⟩:=hk.hk.alloc bJ hor (by decide) hal;have hcl:h'.live=bF s.h.live ⟨a,c.o,0⟩:=hlive;have hap:∀b∈s.h.live,apartB a c.o b:=fun b hb=>dG fun q h1 h2=>by
  have h3:=hh.one q;rw[dI,hcl,qU]at h3;have h4:0<cnt s.h.live q:=iL.2 ⟨b,hb,h2⟩;have h5:hit (⟨a,c.o,0⟩:Bk) q=1:=jI.2 h1;omega
 refine⟨a,rfl,hcl,hap,fun q ⟨b,hb,h1,h2⟩=> ?_⟩;refine pJ _ _ _ _ _ (Nat.le_refl _) _ ?_ hck.z.1;have h3:=hap b hb;unfold apartB Bk.fin at h3;have h4:=hck.room;rw[Nat.mul_comm c.z c.r];generalize c.r*c.z=m at*;generalize 2^c.o=q1 at*;generalize 2^b.o=q2 at*;omega
theorem bK.OY {s s':Sy}(hk:bK s){i cpu k:Nat}{c:Ca}(hi:s.cs[i]? =some c)(bJ:cpu<s.h.aC)(hg:s.grow i cpu c=some (s',k))(b:Bk):s'.whole b↔s.whole b:=by
 obtain⟨a,hcs,hlive,hap,_⟩:=hk.LH hi bJ hg;have hne:∀b∈s.h.live,b.a≠a:=fun b hb e=>by
  have h:=hap b hb;unfold apartB Bk.fin at h;have h1:=Nat.two_pow_pos c.o;have h2:=Nat.two_pow_pos b.o;omega
 rw[cO,cO,hlive,qI,BJ hi hcs,OX hi];constructor
 ·rintro⟨h1,h2⟩;have hba:b.a≠a:=fun e=>h2 (.inl ⟨_,nJ.2 (.inl rfl),e.symm⟩)
  rcases h1 with rfl | h1
  ·exact absurd rfl hba
  ·refine⟨h1,fun h=>h2 ?_⟩;rcases h with ⟨x,hx,e⟩ | h
   ·exact .inl ⟨x,nJ.2 (.inr hx),e⟩
   ·exact .inr h
 ·rintro⟨h1,h2⟩;refine⟨.inr h1,fun h=>h2 ?_⟩;rcases h with ⟨x,hx,e⟩ | h
  ·rcases nJ.1 hx with rfl | hx
   ·exact absurd e.symm (hne b h1)
   ·exact .inl ⟨x,hx,e⟩
  ·exact .inr h
theorem bK.IC {s s':Sy}(hk:bK s){i cpu k:Nat}{c:Ca}(hi:s.cs[i]? =some c)(bJ:cpu<s.h.aC)(hg:s.choose i cpu=some (s',k)):(∀b,s'.whole b↔s.whole b)/\∀q,s.lw q->s'.w.getD q 0=s.w.getD q 0:=by
 unfold Sy.choose at hg;rw[hi]at hg;simp only at hg;split at hg
 ·have h1:=gP hg;rw[Prod.mk.injEq]at h1;rw[<- h1.1];exact⟨fun _=>Iff.rfl,fun _ _=>rfl⟩
 ·split at hg
  ·have h1:=gP hg;rw[Prod.mk.injEq]at h1;rw[<- h1.1];exact⟨fun b=>DJ b,fun q _=>by rw[vY.2]⟩
  ·split at hg
   ·rename_i heq;have h1:=gP hg;rw[Prod.mk.injEq]at h1;rw[<- h1.1];obtain⟨_,_,_,_,h2⟩:=hk.LH hi bJ heq;exact⟨fun b=>(DJ b).trans (hk.OY hi bJ heq b),fun q hq=>by rw[vY.2];exact h2 q hq⟩
   ·cases hg
theorem bK.TA {s s':Sy}(hk:bK s){i cpu:Nat}{c:Ca}{a:Int}(hi:s.cs[i]? =some c)(bJ:cpu<s.h.aC)(hg:s.one i cpu=some (s',a)):(∀b,s'.whole b↔s.whole b)/\∀q,s.lw q->s'.w.getD q 0=s.w.getD q 0:=by
 unfold Sy.one at hg;cases hch:s.choose i cpu with
 | none=>rw[hch]at hg;cases hg
 | some r=>
  obtain⟨s2,k⟩:=r;rw[hch]at hg;simp only at hg;obtain⟨h1,h2⟩:=hk.IC hi bJ hch;obtain⟨_,_,_,_,h3,_⟩:=IB hg;have h4:s'.w=s2.w:=by rw[h3];rfl
  exact⟨fun b=>(Tz hg b).trans (h1 b),fun q hq=>by rw[h4];exact h2 q hq⟩
theorem DK {s:Sy}{i k a:Nat}(b:Bk):(s.push i k a).whole b↔s.whole b:=by
 unfold Sy.push;cases hc:s.cs[i]? with
 | none=>rfl
 | some c=>
  simp only;cases hx:c.sl[k]? with
  | none=>rfl
  | some x=>
   simp only;rw[cO,cO];have h1:=vC (s':={s with w:=s.w.set a x.h,cs:=s.cs.set i {c with sl:=c.sl.set k ⟨x.p,x.n+1,(a:Int)⟩}}) hc rfl (LG (x':=⟨x.p,x.n+1,(a:Int)⟩) hx rfl) b.a;rw[h1]
theorem aBy {s:Sy}{i k a:Nat}:(s.push i k a).h=s.h/\∀q,q≠a->(s.push i k a).w.getD q 0=s.w.getD q 0:=by
 unfold Sy.push;cases hc:s.cs[i]? with
 | none=>exact⟨rfl,fun _ _=>rfl⟩
 | some c=>
  simp only;cases hx:c.sl[k]? with
  | none=>exact⟨rfl,fun _ _=>rfl⟩
  | some x=>
   refine⟨rfl,fun q hq=> ?_⟩;show(s.w.set a x.h).getD q 0=_;rw[List.getD_eq_getElem?_getD,List.getElem?_set_ne (fun e=>hq e.symm),<- List.getD_eq_getElem?_getD]
theorem bK.IE {s:Sy}(hk:bK s){i k cpu:Nat}{c:Ca}{x:Sl}(hi:s.cs[i]? =some c)(hx:c.sl[k]? =some x)(bJ:cpu<s.h.aC)(b:Bk):b∈(s.discard i k cpu).h.live↔b∈s.h.live/\b.a≠x.p:=by
 obtain⟨hlb,hlp,he⟩:=xE hk (cpu:=cpu) hi hx;obtain⟨_,_,_,g4⟩:=hk.hk.fZ bJ hlb;rw[he];show b∈(s.h.fZ cpu (lb s.h.live x.p) s.h.live[lb s.h.live x.p]).live↔_;rw[g4,List.mem_eraseIdx_iff_getElem];constructor
 ·rintro⟨j,hj,hne,e⟩;refine⟨by rw[<- e];exact gL hj,fun e2=>hne ?_⟩;have hvs:=hk.hk.vs;rw[gN]at hvs;rcases Nat.lt_trichotomy j (lb s.h.live x.p)with h | h | h
  ·have:=hvs j _ hj hlb h;rw[e]at this;omega
  ·exact h
  ·have:=hvs _ j hlb hj h;rw[e]at this;omega
 ·rintro⟨hb,hne⟩;obtain⟨j,hj,e⟩:=List.mem_iff_getElem.1 hb;refine⟨j,hj,fun e2=> ?_,e⟩;subst e2;rw[e]at hlp;exact hne hlp
theorem bK.wM {s:Sy}(hk:bK s){i k cpu:Nat}{c:Ca}{x:Sl}(hi:s.cs[i]? =some c)(hx:c.sl[k]? =some x)(bJ:cpu<s.h.aC)(b:Bk):(s.discard i k cpu).whole b↔s.whole b:=by
 have hcs:(s.discard i k cpu).cs=s.cs.set i {c with sl:=c.sl.eraseIdx k}:=by
  obtain⟨_,_,he⟩:=xE hk (cpu:=cpu) hi hx;rw[he]
 obtain⟨hkl,hkx⟩:=List.getElem?_eq_some_iff.1 hx;rw[cO,cO,hk.IE hi hx bJ,BJ hi hcs,OX hi,JE,Fz hkl,hkx];constructor
 ·rintro⟨⟨h1,h2⟩,h3⟩;refine⟨h1,fun h=>h3 ?_⟩;rcases h with (h | h) | h
  ·exact .inl h
  ·exact absurd h.symm h2
  ·exact .inr h
 ·rintro⟨h1,h2⟩;refine⟨⟨h1,fun e=>h2 (.inl (.inr e.symm))⟩,fun h=>h2 ?_⟩;rcases h with h | h
  ·exact .inl (.inl h)
  ·exact .inr h
theorem bK.free {s:Sy}(hk:bK s){i k a cpu:Nat}{c:Ca}{x:Sl}(hi:s.cs[i]? =some c)(hx:c.sl[k]? =some x)(ho:lS s.w c x a)(bJ:cpu<s.h.aC):
 bK (s.free i k a cpu)/\(∀j b,(s.free i k a cpu).away j b↔s.away j b/\¬(j=i/\b=a))/\(s.free i k a cpu).h.aC=s.h.aC/\(∀b,(s.free i k a cpu).whole b↔s.whole b)/\∀q,q≠a->(s.free i k a cpu).w.getD q 0=s.w.getD q 0:=by
 obtain⟨h1,h2,h3⟩:=hk.push hi hx ho;have h4:=aBy (s:=s) (i:=i) (k:=k) (a:=a);obtain⟨hkl,hkx⟩:=List.getElem?_eq_some_iff.1 hx;have hx':(c.sl.set k ⟨x.p,x.n+1,(a:Int)⟩)[k]? =some ⟨x.p,x.n+1,(a:Int)⟩:=List.getElem?_set_self hkl;unfold Sy.free;split
 ·rename_i hsp;unfold Sy.spare at hsp;rw[h3]at hsp;unfold Ca.spare at hsp;simp only[hx',Bool.and_eq_true]at hsp;have hid:=hsp.1;unfold Ca.idle at hid;simp only[Bool.and_eq_true,decide_eq_true_eq,Bool.not_eq_true']at hid;have hac:∀b∈c.ac,b≠(x.p:Int):=fun b hb e=>by
   have h5:=hid.2;rw[<- e,List.contains_iff_mem.2 hb]at h5;cases h5
  have aAb:cpu<(s.push i k a).h.aC:=by rw[h4.1];exact bJ
  obtain⟨g1,g2,g3,g4,g5,g6⟩:=h1.discard (cpu:=cpu) h3 hx' (Nat.le_of_eq hid.1.symm) hac aAb;exact⟨g1,fun j b=>(g2 j b).trans (h2 j b),by rw[g3,h4.1],fun b=>(h1.wM h3 hx' aAb b).trans (DK b),fun q hq=>by rw[g6];exact h4.2 q hq⟩
 ·exact⟨h1,h2,by rw[h4.1],DK,h4.2⟩
theorem bK.LJ {s:Sy}(hk:bK s){i k:Nat}(h:DI s i (k+1)):(∀b,(s.nR i k).whole b↔s.whole b)/\(s.nR i k).w=s.w:=by
 obtain⟨c,hc,ha,hl⟩:=h;have hx:c.sl[k]? =some (c.sl[k]'(by omega)):=gJ _;unfold Sy.nR;rw[hc];simp only[hx];split
 ·rename_i hn;have hcp:0<s.h.aC:=hk.hk.cp.1;obtain⟨_,_,_,_,_,h6⟩:=hk.discard (cpu:=0) hc hx (by omega) (fun b hb=>by have:=ha b hb;omega) hcp;exact⟨fun b=>hk.wM hc hx hcp b,h6⟩
 ·exact⟨fun b=>Iff.rfl,rfl⟩
theorem bK.Gh {i:Nat}:∀{m:Nat} {s:Sy},bK s->DI s i m->(∀b,(s.shr i m).whole b↔s.whole b)/\(s.shr i m).w=s.w
 | 0,s,hk,_=>⟨fun _=>Iff.rfl,rfl⟩
 | m+1,s,hk,h=>by
  obtain⟨h1,_,_,h4,_,_⟩:=hk.nR h;obtain⟨h5,h6⟩:=hk.LJ h;obtain⟨g1,g2⟩:=bK.Gh h1 h4;exact⟨fun b=>(g1 b).trans (h5 b),g2.trans h6⟩
theorem bK.LK {s:Sy}{i:Nat}{c:Ca}(hk:bK s)(hi:s.cs[i]? =some c):DI (s.jR i c.ac.length) i c.sl.length:=by
 obtain⟨_,_,_,h4,_⟩:=hk.jR hi;have hil:=(List.getElem?_eq_some_iff.1 hi).1;exact⟨{c with ac:=List.replicate c.ac.length (-1)},by rw[h4,List.getElem?_set_self hil],fun b hb=>(List.mem_replicate.1 hb).2,Nat.le_refl _⟩
theorem bK.IG {s:Sy}(hk:bK s){i:Nat}(hi:i<s.cs.length):(∀b,(s.shrink i).whole b↔s.whole b)/\(s.shrink i).w=s.w:=by
 have hc:s.cs[i]? =some s.cs[i]:=gJ hi;obtain⟨h1,_,h3,h4,h5⟩:=hk.jR hc;obtain⟨g1,g2⟩:=bK.Gh h1 (hk.LK hc);unfold Sy.shrink;rw[hc];simp only;refine⟨fun b=>(g1 b).trans ?_,g2.trans h5⟩;rw[cO,cO,h3];have h6:=vC (s':=s.jR i s.cs[i].ac.length) hc h4 (fun _=>Iff.rfl) b.a;rw[h6]
theorem bK.WJ {s:Sy}(hk:bK s){i:Nat}{c:Ca}(hc:s.cs[i]? =some c):c.sl.any (fun x=>decide (x.n<c.r))=true↔∃a,s.away i a:=by
 have hck:=hk.ck c (gM hc);rw[List.any_eq_true];constructor
 ·rintro⟨x,hx,hn⟩;obtain⟨l,h1,h2,h3⟩:=(hck.sk x hx).chain;obtain⟨a,h4,h5⟩:=Rx (c:=c) (p:=x.p) (l:=l) hck.z.1 (by have:=of_decide_eq_true hn;omega);exact⟨a,(nH hc a).2 ⟨x,hx,(lT h1 a).2 ⟨h4,h5⟩⟩⟩
 ·rintro⟨a,ha⟩;obtain⟨x,hx,ho⟩:=(nH hc a).1 ha;obtain⟨l,h1,h2,h3⟩:=(hck.sk x hx).chain;refine⟨x,hx,decide_eq_true ?_⟩;apply Decidable.byContradiction;intro hn;rw[lT h1]at ho;exact ho.2 (Fv hck.z.1 (fJ.1 h1).2.2.2 h3 (by omega) ho.1)
theorem kJ (s:Sy)(n:List UInt8):s.named n=s.nss.findIdx? (fun l=>l.contains n):=by
 unfold Sy.named Sy.nss;rw[List.findIdx?_map];rfl
end
section
open Go.RowKit
section
variable {w W W':World}{G B T U Bn:Nat}{X Y:Nat->Prop}{s s2:Sy}{v v2:Sc}{E:Array Value}
theorem SR.ge (hn:fQ W Bn s v):(∀r∈v.rows s,∀g,r.v.ownBlock=some g->Bn<=g)/\∀q∈v.hc.rows s.h++v.hc.reads s.h,∀g,q.v.ownBlock=some g->Bn<=g:=by
 refine⟨fun r hr g hg=>Nat.le_of_not_lt fun h=>(hn.og r hr g hg).2 h,fun q hq g hg=>Nat.le_of_not_lt fun h=> ?_⟩;rcases List.mem_append.1 hq with hq | hq
 ·exact(hn.hr.og q hq g hg).2 h
 ·exact hn.hr.rx q hq g hg h
theorem SR.box (hn:SR W G X s v)(hY:∀k,Y k->X k/\k<W.heap.size):SS (W.alloc (.cells #[.slice v.a1 v.n1 v.c1,.slice v.hc.az 2 v.hc.cz,.slice v.hc.am 2 v.hc.cm,.int .i64 (s.h.aC:Int),.slice v.hc.al v.hc.lc.length v.hc.cl,.slice v.hc.av s.h.live.length v.hc.cv,.slice v.a2 v.ys.length v.c2] 47)) W.heap.size Y s v:=by
 have hb:=aF W (.cells #[.slice v.a1 v.n1 v.c1,.slice v.hc.az 2 v.hc.cz,.slice v.hc.am 2 v.hc.cm,.int .i64 (s.h.aC:Int),.slice v.hc.al v.hc.lc.length v.hc.cl,.slice v.hc.av s.h.live.length v.hc.cv,.slice v.a2 v.ys.length v.c2] 47);have h1:=hn.below hb;have hsz:W.heap.size<(W.alloc (.cells #[.slice v.a1 v.n1 v.c1,.slice v.hc.az 2 v.hc.cz,.slice v.hc.am 2 v.hc.cm,.int .i64 (s.h.aC:Int),.slice v.hc.al v.hc.lc.length v.hc.cl,.slice v.hc.av s.h.live.length v.hc.cv,.slice v.a2 v.ys.length v.c2] 47)).heap.size:=by simp
 refine⟨⟨h1.own,fun r hr g hg=>⟨fun e=>by have:=hn.lt r hr g hg;omega,fun e=>(hn.og r hr g hg).2 (hY g e).1⟩,h1.hr.any hsz (fun q hq k hk=>⟨fun e=>by have:=hn.hr.lt q hq k hk;omega,fun e=> ?_⟩) (fun k hk=>Nat.lt_trans (hY k hk).2 hsz) (fun e=>by have:=(hY _ e).2;omega),h1.hd,h1.cy⟩,aW W _ _,eY W _ _⟩;have h2:=(hY k e).1;rcases List.mem_append.1 hq with hq | hq
 ·exact(hn.hr.og q hq k hk).2 h2
 ·exact hn.hr.rx q hq k hk h2
theorem fQ.box (hn:fQ W Bn s v):SS (W.alloc (.cells #[.slice v.a1 v.n1 v.c1,.slice v.hc.az 2 v.hc.cz,.slice v.hc.am 2 v.hc.cm,.int .i64 (s.h.aC:Int),.slice v.hc.al v.hc.lc.length v.hc.cl,.slice v.hc.av s.h.live.length v.hc.cv,.slice v.a2 v.ys.length v.c2] 47)) W.heap.size (fun k=>k<Bn) s v:=SR.box hn fun k hk=>⟨hk,Nat.lt_trans hk hn.hr.gs⟩
theorem fQ.store {a0 a1 a2 a3 a4 a5 a6:Value}(hn:fQ W Bn s v)(hB:B<Bn)(K:∀o,W.cell? ⟨B,o,none⟩=(#[a0,a1,a2,a3,a4,a5,a6]:Array Value)[o]?)(F:∀o,W.frozen? ⟨B,o,none⟩=false):SS (((((((W.setCell ⟨B,0,none⟩ (.slice v.a1 v.n1 v.c1)).setCell ⟨B,1,none⟩ (.slice v.hc.az 2 v.hc.cz)).setCell ⟨B,2,none⟩ (.slice v.hc.am 2 v.hc.cm)).setCell ⟨B,3,none⟩ (.int .i64 (s.h.aC:Int))).setCell ⟨B,4,none⟩ (.slice v.hc.al v.hc.lc.length v.hc.cl)).setCell ⟨B,5,none⟩ (.slice v.hc.av s.h.live.length v.hc.cv)).setCell ⟨B,6,none⟩ (.slice v.a2 v.ys.length v.c2)) B (fun k=>k<Bn/\k≠B) s v:=
 SS.put7 (SR.lift hn hB (fun k hk=>hk.1) (fun h=>h.2 rfl)) K F
theorem yV {b:Nat}{e:TypeId}{size n:Nat}{a:Value}{xs:List Value}(h:W.ownsRow b e size a n xs)(hT:a.ownBlock≠some T)(v:Sc)(s:Sy):(((((((W.setCell ⟨T,0,none⟩ (.slice v.a1 v.n1 v.c1)).setCell ⟨T,1,none⟩ (.slice v.hc.az 2 v.hc.cz)).setCell ⟨T,2,none⟩ (.slice v.hc.am 2 v.hc.cm)).setCell ⟨T,3,none⟩ (.int .i64 (s.h.aC:Int))).setCell ⟨T,4,none⟩ (.slice v.hc.al v.hc.lc.length v.hc.cl)).setCell ⟨T,5,none⟩ (.slice v.hc.av s.h.live.length v.hc.cv)).setCell ⟨T,6,none⟩ (.slice v.a2 v.ys.length v.c2)).ownsRow b e size a n xs:=
 bI (bI (bI (bI (bI (bI (bI h hT _) hT _) hT _) hT _) hT _) hT _) hT _
end
end
end Go.Proofs.YtcmpmobhongkiaaGreatDoor
