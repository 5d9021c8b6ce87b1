/- joined. -/
import Derived.Test.YtcmpmobhongkiaaGreatDoorRK0
import Derived.Test.YtcmpmobhongkiaaGreatDoorRK18
import Derived.Test.YtcmpmobhongkiaaGreatDoorRK23
import Derived.Test.YtcmpmobhongkiaaGreatDoorRK6
import Derived.Test.YtcmpmobhongkiaaGreatDoorRK7
set_option linter.unusedVariables false
set_option linter.unusedSimpArgs false
namespace Go.Proofs.YtcmpmobhongkiaaGreatDoor
section
theorem dZ.erase {h:Hp}(hk:dZ h){i:Nat}(hi:i<h.live.length):
 dZ {h with live:=h.live.eraseIdx i}/\∀q,cnt ({h with live:=h.live.eraseIdx i}:Hp).all q+hit ⟨h.live[i].a,h.live[i].o,0⟩ q=cnt h.all q:=by
 have hce:∀q,cnt ({h with live:=h.live.eraseIdx i}:Hp).all q+hit ⟨h.live[i].a,h.live[i].o,0⟩ q=cnt h.all q:=fun q=>by
  have h1:=zG hi q;have h2:hit ⟨h.live[i].a,h.live[i].o,0⟩ q=hit h.live[i] q:=rfl;rw[dI,dI,h2];simp only;omega
 exact⟨⟨hk.o0,hk.o1,hk.f0,hk.e0,hk.e1,hk.m0,hk.m1,hk.cp,hk.lk,hk.lr,fun b hb=>hk.lv b ((List.eraseIdx_sublist _ _).subset hb),hk.vs.sublist (List.eraseIdx_sublist _ _),fun q=>by have:=hce q;have:=hk.one q;omega⟩,hce⟩
theorem Td {h:Hp}{cpu i:Nat}{b:Bk}(ho:0<b.o):h.fZ cpu i b=({h with live:=h.live.eraseIdx i}:Hp).iT b.a b.o:=by
 unfold Hp.fZ;simp only;rw[if_pos ho]
theorem Tf {h:Hp}{cpu i:Nat}{b:Bk}(ho:b.o=0):h.fZ cpu i b=({h with live:=h.live.eraseIdx i}:Hp).give cpu b.a:=by
 unfold Hp.fZ;simp only;rw[if_neg (by omega)]
def Hp.typ (h:Hp)(p:Nat):Nat:=(h.zone (h.iR p)).y.getD ((p-(h.zone (h.iR p)).f)/8) 0
theorem dZ.VO {h:Hp}(hk:dZ h)(p:Nat):h.typ p<3:=by
 unfold Hp.typ;have hz:=(hk.zone (h.iR p)).1.typ;rw[List.getD_eq_getElem?_getD];cases hg:(h.zone (h.iR p)).y[(p-(h.zone (h.iR p)).f)/8]? with
 | none=>simp
 | some u=>exact hz u (gM hg)
theorem dZ.giving {h:Hp}(hk:dZ h){cpu p:Nat}(hc:cpu<h.aC)(hp:p<256)(hd:∀q,cnt h.all q+hit ⟨p,0,0⟩ q<=1){l:Ls}(hl:l=⟨cpu,h.iR p,h.typ p,[]⟩):
 (l.c<h.aC/\l.z<2/\l.t<3)/\kS (bG h.ls l p)/\(∀y∈bG h.ls l p,y.z<2/\y.t<3)/\(bG h.ls l p).length<=24/\qQ (bG h.ls l p) l.key=true/\
 ∃x,(bG h.ls l p)[jJ (bG h.ls l p) l.key]? =some x/\x.key=l.key/\x.p.length<=9/\h.give cpu p=(if 8<x.p.length then{Go.Proofs.YtcmpmobhongkiaaGreatDoor.aU {h with ls:=bG h.ls l p} (x.p.take 4)with ls:=(bG h.ls l p).set (jJ (bG h.ls l p) l.key) {x with p:=x.p.drop 4}}else{h with ls:=bG h.ls l p})/\(∀q∈x.p,q<256)/\(∀q,cnt ({h with ls:=[]}:Hp).all q+cnt (kR x.p) q<=1)/\
  ∀j (hj:j<x.p.length),(∀(m:List Ls),(({Go.Proofs.YtcmpmobhongkiaaGreatDoor.aU {h with ls:=bG h.ls l p} (x.p.take j)with ls:=m}:Hp).zone (({Go.Proofs.YtcmpmobhongkiaaGreatDoor.aU {h with ls:=bG h.ls l p} (x.p.take j)with ls:=m}:Hp).iR x.p[j])).ok/\cZ (({Go.Proofs.YtcmpmobhongkiaaGreatDoor.aU {h with ls:=bG h.ls l p} (x.p.take j)with ls:=m}:Hp).zone (({Go.Proofs.YtcmpmobhongkiaaGreatDoor.aU {h with ls:=bG h.ls l p} (x.p.take j)with ls:=m}:Hp).iR x.p[j])).f (({Go.Proofs.YtcmpmobhongkiaaGreatDoor.aU {h with ls:=bG h.ls l p} (x.p.take j)with ls:=m}:Hp).zone (({Go.Proofs.YtcmpmobhongkiaaGreatDoor.aU {h with ls:=bG h.ls l p} (x.p.take j)with ls:=m}:Hp).iR x.p[j])).e x.p[j] 0/\∀b∈(({Go.Proofs.YtcmpmobhongkiaaGreatDoor.aU {h with ls:=bG h.ls l p} (x.p.take j)with ls:=m}:Hp).zone (({Go.Proofs.YtcmpmobhongkiaaGreatDoor.aU {h with ls:=bG h.ls l p} (x.p.take j)with ls:=m}:Hp).iR x.p[j])).l,apartB x.p[j] 0 b):=by
 have ht3:=hk.VO p;have hz2:h.iR p<2:=by unfold Hp.iR;split <;> omega
 have hz3:p<h.z0.e↔h.iR p=0:=by unfold Hp.iR;split <;> simp_all
 have hlr:l.c<h.aC/\l.z<2/\l.t<3:=by rw[hl];exact⟨hc,hz2,ht3⟩
 have hlz:p<256/\(p<h.z0.e↔l.z=0):=by rw[hl];exact⟨hp,hz3⟩
 obtain⟨x,hx,hxk,hxl⟩:=Qe hk.lk l p;have hlen:=Qg (k:=l.key) (fun x hx=>(hk.lr x hx).2.2.2.2.1);have h9:=GU (N:=8) (M:=9) hk.lr hlr hlz (by omega) (by omega) (fun y hy _=>by have:=(hk.lr y hy).2.2.2.2.1;omega);obtain⟨hi,hxi⟩:=List.getElem?_eq_some_iff.1 hx;have hxm:x∈bG h.ls l p:=by rw[<- hxi];exact gL hi
 obtain⟨q1,q2,q3,q4,q5,q6⟩:=h9 x hxm;have hca:∀q,cnt ({h with ls:=[]}:Hp).all q+cnt (kR x.p) q<=1:=fun q=>by
  have h1:=cnt_push h.ls l p q;have h2:=wI hi q;rw[hxi]at h2;have h3:=hd q;rw[dI]at h3;rw[dI];simp only[lsB,cnt];omega
 refine⟨hlr,lG hk.lk l p,fun y hy=>⟨(h9 y hy).2.1,(h9 y hy).2.2.1⟩,?_,?_,x,hx,hxk,q5,?_,fun q hq=>(q6 q hq).1,?_,fun j hj m=> ?_⟩
 ·have hr:=lG hk.lk l p;refine KJ (N:=24) hr fun y hy=> ?_
  obtain⟨g1,g2,g3,_⟩:=h9 y hy;have:=hk.cp.2;unfold Ls.key;omega
 ·unfold qQ;rw[hx];exact decide_eq_true hxk
 ·unfold Hp.give;have e:(⟨cpu,h.iR p,(h.zone (h.iR p)).y.getD ((p-(h.zone (h.iR p)).f)/8) 0,[]⟩:Ls)=l:=hl.symm;rw[e];simp only;rw[hx]
 ·exact hca
 ·have hpg:∀q,cnt (kR x.p) q=cnt (kR (x.p.take j)) q+cnt (kR (x.p.drop j)) q:=fun q=>by rw[<- iU,List.take_append_drop]
  have hk0:dZ {h with ls:=[]}:=hk.GV;obtain⟨k1,k2,k3,k4,k5⟩:=hk0.aU (x.p.take j) (fun q hq=>(q6 q (List.mem_of_mem_take hq)).1) (fun q=>by have:=hca q;have:=hpg q;omega);have hdj:∀q,cnt (Go.Proofs.YtcmpmobhongkiaaGreatDoor.aU ({h with ls:=[]}:Hp) (x.p.take j)).all q+hit ⟨x.p[j],0,0⟩ q<=1:=fun q=>by
   rw[k2];have h1:=hca q;have h2:=hpg q;have h3:x.p.drop j=x.p[j]::x.p.drop (j+1):=List.drop_eq_getElem_cons hj;have h4:cnt (kR (x.p.drop j)) q=hit ⟨x.p[j],0,0⟩ q+cnt (kR (x.p.drop (j+1))) q:=by rw[h3];rfl
   omega
  have h5:=wK k1 m (qR (q6 _ (gL hj)).1) hdj;have e:({Go.Proofs.YtcmpmobhongkiaaGreatDoor.aU ({h with ls:=[]}:Hp) (x.p.take j)with ls:=m}:Hp)={Go.Proofs.YtcmpmobhongkiaaGreatDoor.aU {h with ls:=bG h.ls l p} (x.p.take j)with ls:=m}:=by
   have e1:=jV (x.p.take j) h [];have e2:=jV (x.p.take j) h (bG h.ls l p);rw[e1,e2]
  rw[<- e];exact h5
end
section
structure xC (h0 h:Hp)(away:List Bk):Prop where
 ok:dZ h
 same:Same h0 h
 cn:∀q,cnt h.all q=cnt h0.all q
 lv:(away.map wC).Perm (h.live.map wC)
 t0:∀b∈away,b.t=0
theorem QB:∀{l:List Bk} {k N:Nat},rU l->(∀x∈l,k<=x.a/\x.a<N)->l.length+k<=N∨l=[]
 | [],_,_,_,_=> .inr rfl
 | c::m,k,N,q1,q2=>by
  have q3:=List.pairwise_cons.1 q1;have q4:=q2 c (by simp);rcases QB (k:=c.a+1) (N:=N) q3.2 fun x hx=>⟨q3.1 x hx,(q2 x (by simp[hx])).2⟩with q5 | rfl
  ·simp only[List.length_cons];exact .inl (by omega)
  ·simp only[List.length_cons,List.length_nil];exact .inl (by omega)
theorem dZ.iZ {h:Hp}(hk:dZ h):h.live.length<=256:=by
 rcases QB (k:=0) (N:=256) hk.vs fun x hx=>⟨Nat.zero_le _,(hk.lv x hx).1.2.2.1⟩with h1 | h1
 ·omega
 ·rw[h1];exact Nat.zero_le _
theorem xC.len {h0 h:Hp}{away:List Bk}(hp:xC h0 h away):away.length=h.live.length/\away.length<=256:=by
 have h1:=hp.lv.length_eq;have h2:=hp.ok.iZ;simp only[List.length_map]at h1;omega
theorem xC.start {h0:Hp}(hk:dZ h0)(hl:h0.live=[]):xC h0 h0 []:=⟨hk,Same.refl h0,fun _=>rfl,by rw[hl],by simp⟩
theorem Dl {α:Type}(l:List α){i:Nat}(hi:i<l.length):l.Perm (l[i]::l.eraseIdx i):=by
 have h:l=l.take i++l[i]::l.drop (i+1):=by rw[List.getElem_cons_drop,List.take_append_drop]
 rw[List.eraseIdx_eq_take_drop_succ];exact(List.Perm.of_eq h).trans List.perm_middle
theorem xC.has {h0 h:Hp}{away:List Bk}(hp:xC h0 h away){j:Nat}(hj:j<away.length):
 ∃hi:lb h.live away[j].a<h.live.length,h.live[lb h.live away[j].a].a=away[j].a/\h.live[lb h.live away[j].a].o=away[j].o/\hasB h.live away[j].a=true/\away[j].a<256:=by
 have h1:wC away[j]∈h.live.map wC:=hp.lv.mem_iff.1 (List.mem_map_of_mem (gL hj));obtain⟨b,hb,e⟩:=List.mem_map.1 h1;simp only[wC,Prod.mk.injEq]at e;obtain⟨e1,e2⟩:=e;have h2:=lQ hp.ok.vs hb;rw[e1]at h2;obtain⟨hi,h3⟩:=List.getElem?_eq_some_iff.1 h2;refine⟨hi,by rw[h3,e1],by rw[h3,e2],?_,by have:=(hp.ok.lv b hb).1.2.2.1;omega⟩;exact List.any_eq_true.2 ⟨b,hb,decide_eq_true e1⟩
theorem xC.free {h0 h:Hp}{away:List Bk}(hp:xC h0 h away){cpu j:Nat}(hc:cpu<h0.aC)(hj:j<away.length)(hi:lb h.live away[j].a<h.live.length):
 xC h0 (h.fZ cpu (lb h.live away[j].a) h.live[lb h.live away[j].a]) (away.eraseIdx j):=by
 have hc':cpu<h.aC:=by rw[hp.same.aC];exact hc
 obtain⟨k1,k2,k3,k4⟩:=hp.ok.fZ hc' hi;obtain⟨_,g1,g2,_,_⟩:=hp.has hj;refine⟨k1,hp.same.trans k3,fun q=>by rw[k2,hp.cn],?_,fun b hb=>hp.t0 b ((List.eraseIdx_sublist _ _).subset hb)⟩;rw[k4];have p1:=(Dl away hj).map wC;have p2:=(Dl h.live hi).map wC;have p3:=(p1.symm.trans hp.lv).trans p2;have e:wC h.live[lb h.live away[j].a]=wC away[j]:=by unfold wC;rw[g1,g2]
 simp only[List.map_cons,e]at p3;exact p3.cons_inv
theorem xC.drain {h0 h:Hp}{away:List Bk}(hp:xC h0 h away):xC h0 h.drain away:=by
 obtain⟨k1,k2,k3,k4,k5⟩:=hp.ok.drain;exact⟨k1,hp.same.trans k3,fun q=>by rw[k2,hp.cn],by rw[k5];exact hp.lv,hp.t0⟩
theorem xC.alloc {h0 h h':Hp}{away:List Bk}(hp:xC h0 h away){cpu order t a:Nat}{u lo:Bool}(hc:cpu<h0.aC)(ho:order<=4)(ht:t<3)(he:h.alloc cpu order t u lo=some (h',a)):xC h0 h' (away++[⟨a,order,0⟩]):=by
 obtain⟨k1,k2,k3,k4,k5⟩:=hp.ok.alloc (by rw[hp.same.aC];exact hc) ho ht he;refine⟨k1,hp.same.trans k3,fun q=>by rw[k2,hp.cn],?_,fun b hb=> ?_⟩
 ·rw[k4,List.map_append];unfold bF;rw[List.map_append,List.map_cons];have p1:((List.map wC (h.live.take (lb h.live a)))++wC ⟨a,order,t⟩::List.map wC (h.live.drop (lb h.live a))).Perm (wC ⟨a,order,t⟩::(List.map wC (h.live.take (lb h.live a))++List.map wC (h.live.drop (lb h.live a)))):=List.perm_middle;rw[<- List.map_append,List.take_append_drop]at p1;refine List.Perm.trans ?_ p1.symm;refine(List.perm_append_comm).trans ?_;exact List.Perm.cons _ hp.lv
 ·rcases List.mem_append.1 hb with h1 | h1
  ·exact hp.t0 b h1
  ·rw[List.mem_singleton.1 h1]
end
section
open Go.RowKit
theorem QC (w:World)(o:Obj):w.heap.size<(w.alloc o).heap.size:=by simp
theorem tX.at {s:Sy}{c:Ca}{x:Sl}(h:tX s c x)(hk:dZ s.h):∃hi:lb s.h.live x.p<s.h.live.length,s.h.live[lb s.h.live x.p].o=c.o/\hasB s.h.live x.p=true:=by
 obtain⟨b,hb,h1,h2⟩:=h.live;have h3:=lQ hk.vs hb;rw[h1]at h3;obtain⟨hi,h4⟩:=List.getElem?_eq_some_iff.1 h3;exact⟨hi,by rw[h4];exact h2,List.any_eq_true.2 ⟨b,hb,decide_eq_true h1⟩⟩
set_option maxHeartbeats 8000000 in
set_option maxRecDepth 100000 in
theorem VP (v:Sc)(s:Sy)(y:Cc)(w:World)(hs:nV w v s)(hk:dZ s.h)(hw:s.w.length=4096)(hy:Ht w y)(hc:o8 s y.c):
 Calls Tryz.prog 82 #[.agg #[.slice v.a1 v.n1 v.c1,.slice v.hc.az 2 v.hc.cz,.slice v.hc.am 2 v.hc.cm,.int .i64 s.h.aC,.slice v.hc.al v.hc.lc.length v.hc.cl,.slice v.hc.av s.h.live.length v.hc.cv,.slice v.a2 v.ys.length v.c2],.agg #[.slice y.a1 y.n1 y.c1,.int .i64 y.c.z,.int .i64 y.c.r,.int .i64 y.c.o,.slice y.a2 y.n2 y.c2,.slice y.a3 y.n3 y.c3]] w fun ev w'=>ev= .returned (.bool true)/\Below w.heap.size w w':=by
 obtain⟨K0,K1,F0,F1,hsz,hbw⟩:=boxes2 w #[.slice v.a1 v.n1 v.c1,.slice v.hc.az 2 v.hc.cz,.slice v.hc.am 2 v.hc.cm,.int .i64 (s.h.aC:Int),.slice v.hc.al v.hc.lc.length v.hc.cl,.slice v.hc.av s.h.live.length v.hc.cv,.slice v.a2 v.ys.length v.c2] 47 #[.slice y.a1 y.n1 y.c1,.int .i64 (y.c.z:Int),.int .i64 (y.c.r:Int),.int .i64 (y.c.o:Int),.slice y.a2 y.n2 y.c2,.slice y.a3 y.n3 y.c3] 94;have HS:=gO (hs.below hbw);have HY:=gO (hy.below hbw);have HB:=gO hbw;have HK:=gO hk;have HC:=gO hc;have HK0:=gO K0;have HK1:=gO K1;have hz:=hc.z;have ho:=hc.o;have hr:=hc.r;have hn2:y.n2<=256:=by rw[<- hy.l2];exact hc.mP hk
 have hn3:y.n3=s.h.aC:=by rw[<- hy.l3];exact hc.ac
 have hcp:=hk.cp;have aKl:y.n3<=4:=by rw[hn3];exact hk.cp.2
 have hlv:=hs.hh.nv;have hn1:0<y.n1:=by rw[<- hy.l1];exact List.length_pos_iff.2 hc.ns
 have c0:=K0 3;have c1:=K1 0;have c2:=K1 1;have c3:=K1 2;have c4:=K1 3;have c5:=K1 5;have c6:=K1 4;simp only[gB,gC,gD]at c0 c1 c2 c3 c4 c5 c6;have q1:((y.c.o:Int) != (dS y.c.z:Nat))=false:=by rw[ho];simp
 have q2:((y.c.r:Int) != (fB y.c.z:Nat))=false:=by rw[hr];simp
 have q3:((y.n1:Int) == 0)=false:=by rw[beq_eq_false_iff_ne];omega
 have q4:((y.n3:Int) != (s.h.aC:Int))=false:=by rw[hn3];simp
 have HOO:=gO ho;have HRR:=gO hr;clear hs hy hbw K0 K1 F0 F1 hk hc ho hr hn3;go_enter Tryz.func82,Tryz.ntmps82
 go_wp2_with fail
 generalize (w.alloc _).alloc _=w2 at*;refine(Dk y.c.z w2 hz.1 hz.2).mono ?_;rintro ev _ ⟨rfl,rfl⟩;go_wp2_with fail
 go_loopw [55] (fun s55 wr=>∃i:Nat,i<=y.n2/\s55= .int .i64 (i:Int)/\Hid (Below w2.heap.size w2 wr)) (fun s55 _=>y.n2-(intOf s55).toNat)
 case atStart=>exact⟨0,Nat.zero_le _,rfl,Below.refl _ _⟩
 case round=>
  obtain⟨i,hi,rfl,mG⟩:=hrel;by_cases hlt:i<y.n2
  ·have EC:(i:Int)<y.n2:=by omega
   have hi2:i<y.c.sl.length:=by rw[HY.out.l2];exact hlt
   obtain⟨bb,off,hba,hbb,hbc⟩:=aN aK (by decide) (HY.out.r2.below mG.out) hi2;obtain⟨e0,e1,e2⟩:=fC hbc;have HX:=gO (HC.out.sk _ (gL hi2));have HPV:Hid (∀m (hm:m<i),(y.c.sl[m]'(by omega)).p<(y.c.sl[i]).p):=fun m hm=>List.pairwise_iff_getElem.1 HC.out.sr m i (by omega) hi2 hm
   obtain⟨x,hx⟩:∃x,y.c.sl[i]=x:=⟨_,rfl⟩
   simp only[hx]at e0 e1 e2 HX HPV;obtain⟨hil,NP,hhas⟩:=HX.out.at HK.out;obtain⟨cl,hcl⟩:=HX.out.chain;have hxp:=HX.out.zH HK.out;have HA2:=gO hba;rw[hba]at c6 ⊢;clear hbc hba hx;go_upto_region 7 with fail
   have hb3:=aF wr (.cells #[.int .i64 (x.p:Int),.int .i64 (x.n:Int),.int .i64 x.h] 137);have KX:=aW wr #[.int .i64 (x.p:Int),.int .i64 (x.n:Int),.int .i64 x.h] 137;have hsx:=QC wr (.cells #[.int .i64 (x.p:Int),.int .i64 (x.n:Int),.int .i64 x.h] 137);have HB3:=gO (Below.step mG.out hb3);clear hb3 mG e0 e1 e2 hbb;obtain⟨we,rfl⟩:∃we,we=wr:=⟨_,rfl⟩
   generalize we.alloc _=w3 at*;obtain⟨BX,hBX⟩:∃B,we.heap.size=B:=⟨_,rfl⟩
   rw[hBX]at KX hsx ⊢;clear hBX;have g0:=KX 0;have k05:=(aB HK0.out (by omega) HB3.out) 5;simp only[gB,gC,gD]at g0 k05;have hs3:w.heap.size+1<w3.heap.size:=gI hsz HB3.out.size;go_wp2_with fail
   refine(Iq _ _ _ s.h.live x.p w3 rfl (gQ HK.out.iZ (by decide)) (HS.out.hh.vr.below HB3.out) HK.out.vs (fun b hb=>by have:=(HK.out.lv b hb).1.2.2.1;omega) (by omega)).mono ?_;rintro ev w4 ⟨rfl,hb4⟩;rw[hhas];have HB4:=gO (Below.step HB3.out hb4);have KX4:=aB KX hsx hb4;have Ti:=gI hsx hb4.size;clear g0 k05 hb4 KX hsx hs3;obtain⟨lbk,aKm,hla,aKn,hlc⟩:=aN aJ (by decide) (HS.out.hh.vr.below HB4.out) hil;obtain⟨l0,l1,l2⟩:=bD hlc;rw[NP]at l1;have k05:=(aB HK0.out (by omega) HB4.out) 5;have k14:=(aB HK1.out hsz HB4.out) 4;have d1:=KX4 0;simp only[gB,gC,gD]at k05 k14 d1;rw[hla]at k05;rw[HA2.out]at k14;rw[HOO.out]at l1;have aF4:=hil;clear hla hlc l0 l2 NP;obtain⟨L,hL⟩:∃L,lb s.h.live x.p=L:=⟨_,rfl⟩
   rw[hL]at l1 aF4 ⊢;clear hL hil;have hs4:w.heap.size+1<w4.heap.size:=gI hsz HB4.out.size;have hLi:(L:Int)<s.h.live.length:=by omega
   by_cases hi0:i=0
   ·subst hi0;go_wp2_with fail
    go_quiet (fail)
    have hbq:=below_drewN (Below.refl w4.heap.size w4) nq;have pR:=gO (Below.step HB4.out hbq);have KXq:=aB KX4 Ti hbq;have aF5:=gI Ti hbq.size;clear HB4 KX4 Ti hbq d1 l1 k05 k14;generalize w4.drewN nq=w5 at*;have g0:=KXq 0;have g1:=KXq 1;have g2:=KXq 2;have k00:=(aB HK0.out (by omega) pR.out) 0;have k01:=(aB HK0.out (by omega) pR.out) 1;have k02:=(aB HK0.out (by omega) pR.out) 2;have k03:=(aB HK0.out (by omega) pR.out) 3;have k04:=(aB HK0.out (by omega) pR.out) 4;have k05:=(aB HK0.out (by omega) pR.out) 5;have k06:=(aB HK0.out (by omega) pR.out) 6;have k10:=(aB HK1.out hsz pR.out) 0;have k11:=(aB HK1.out hsz pR.out) 1;have k12:=(aB HK1.out hsz pR.out) 2;have k13:=(aB HK1.out hsz pR.out) 3;have k14:=(aB HK1.out hsz pR.out) 4;have k15:=(aB HK1.out hsz pR.out) 5;simp only[gB,gC,gD]at g0 g1 g2 k00 k01 k02 k03 k04 k05 k06 k10 k11 k12 k13 k14 k15;have hs2:=hsz;go_wp2_with fail
    refine(yJ _ _ _ _ _ _ _ _ _ _ _ _ _ _ _ _ s.h.aC s.w y x cl w5 (HS.out.lw) (by have:=HS.out.lw;omega) (HS.out.rw.below pR.out) hz.1 (by have:=HC.out.rz;omega) (by omega) hcl.1 hcl.2.1 hcl.2.2 (fun a ha=>by have h9:=kG (hcl.2.2 a ha);have:=HC.out.rz;have h8:((y.c.r*y.c.z:Nat):Int)=(y.c.r:Int)*(y.c.z:Int):=Int.natCast_mul _ _;omega) (by have:=HX.out.Ro;have:=HC.out.r64;omega)).mono ?_;rintro ev w6 ⟨a',c',rfl,_,hb6⟩;have HB6:=gO (Below.step pR.out hb6);clear g0 g1 g2 k00 k01 k02 k03 k04 k05 k06 k10 k11 k12 k13 k14 k15;go_wp2_with fail
    go_roundw
    case measure=>simp[intOf];omega
    case rel=>exact⟨1,by omega,by go_num,HB6⟩
   ·obtain⟨m,rfl⟩:∃m,i=m+1:=⟨i-1,by omega⟩
    have hm1:((m+1:Nat):Int)-1=(m:Int):=by omega
    have hml:m<y.c.sl.length:=by omega
    have hpv:=HPV.out m (by omega);obtain⟨bb2,off2,aBd,_,hbc2⟩:=aN aK (by decide) (HY.out.r2.below HB4.out) hml;rw[HA2.out]at aBd;simp only[Option.some.injEq,Addr.mk.injEq,and_true]at aBd;obtain⟨rfl,rfl⟩:=aBd;obtain⟨p0,_,_⟩:=fC hbc2;obtain⟨xq,hxq⟩:∃x',(y.c.sl[m]).p=x':=⟨_,rfl⟩
    rw[hxq]at p0;simp only[hxq]at hpv;have hge:¬(x.p:Int)<=xq:=by omega
    have aKo:decide ((x.p:Int)<=xq)=false:=decide_eq_false hge;clear hbc2 hxq;have hmi:(m:Int)<y.n2:=by omega
    go_wp2_with fail
    go_quiet (fail)
    have hbq:=below_drewN (Below.refl w4.heap.size w4) nq;have pR:=gO (Below.step HB4.out hbq);have KXq:=aB KX4 Ti hbq;have aF5:=gI Ti hbq.size;clear HB4 KX4 Ti hbq d1 l1 k05 k14 p0;generalize w4.drewN nq=w5 at*;have g0:=KXq 0;have g1:=KXq 1;have g2:=KXq 2;have k00:=(aB HK0.out (by omega) pR.out) 0;have k01:=(aB HK0.out (by omega) pR.out) 1;have k02:=(aB HK0.out (by omega) pR.out) 2;have k03:=(aB HK0.out (by omega) pR.out) 3;have k04:=(aB HK0.out (by omega) pR.out) 4;have k05:=(aB HK0.out (by omega) pR.out) 5;have k06:=(aB HK0.out (by omega) pR.out) 6;have k10:=(aB HK1.out hsz pR.out) 0;have k11:=(aB HK1.out hsz pR.out) 1;have k12:=(aB HK1.out hsz pR.out) 2;have k13:=(aB HK1.out hsz pR.out) 3;have k14:=(aB HK1.out hsz pR.out) 4;have k15:=(aB HK1.out hsz pR.out) 5;simp only[gB,gC,gD]at g0 g1 g2 k00 k01 k02 k03 k04 k05 k06 k10 k11 k12 k13 k14 k15;have hs2:=hsz;go_wp2_with fail
    refine(yJ _ _ _ _ _ _ _ _ _ _ _ _ _ _ _ _ s.h.aC s.w y x cl w5 (HS.out.lw) (by have:=HS.out.lw;omega) (HS.out.rw.below pR.out) hz.1 (by have:=HC.out.rz;omega) (by omega) hcl.1 hcl.2.1 hcl.2.2 (fun a ha=>by have h9:=kG (hcl.2.2 a ha);have:=HC.out.rz;have h8:((y.c.r*y.c.z:Nat):Int)=(y.c.r:Int)*(y.c.z:Int):=Int.natCast_mul _ _;omega) (by have:=HX.out.Ro;have:=HC.out.r64;omega)).mono ?_;rintro ev w6 ⟨a',c',rfl,_,hb6⟩;have HB6:=gO (Below.step pR.out hb6);clear g0 g1 g2 k00 k01 k02 k03 k04 k05 k06 k10 k11 k12 k13 k14 k15;go_wp2_with fail
    go_roundw
    case measure=>simp[intOf];omega
    case rel=>exact⟨m+1+1,by omega,by go_num,HB6⟩
  ·have hie:i=y.n2:=by omega
   subst hie;have k15:=(aB HK1.out hsz mG.out) 5;simp only[gB,gC,gD]at k15;have Vg:w.heap.size+1<wr.heap.size:=gI hsz mG.out.size;clear c6;obtain⟨w8,rfl⟩:∃w8,w8=wr:=⟨_,rfl⟩
   go_wp2_with fail
   clear k15;go_loopw [111] (fun s111 wr=>∃j:Nat,j<=y.n3/\s111= .int .i64 (j:Int)/\Hid (Below w2.heap.size w2 wr)) (fun s111 _=>y.n3-(intOf s111).toNat)
   case atStart=>exact⟨0,Nat.zero_le _,rfl,mG⟩
   case round=>
    obtain⟨j,hj,rfl,uD⟩:=hrel;by_cases hjl:j<y.n3
    ·have aKp:(j:Int)<y.n3:=by omega
     have hj2:j<y.c.ac.length:=by rw[HY.out.l3];exact hjl
     obtain⟨bb,off,hba,hbb,e0⟩:=Ur (HY.out.r3.below uD.out) hj2;have HA3:=gO hba;have haw:=HC.out.aw _ (gL hj2);have hno:∀m (hm:m<j),y.c.ac[j]≠ -1->(y.c.ac[m]'(by omega))≠y.c.ac[j]:=fun m hm h1 h2=>h1 (h2▸List.pairwise_iff_getElem.1 HC.out.ad m j (by omega) hj2 hm h2)
     obtain⟨a,ha⟩:∃a,y.c.ac[j]=a:=⟨_,rfl⟩
     rw[ha]at e0 haw;simp only[ha]at hno;have Yr:=gO hno;have HAW:=gO haw;rw[hba];clear hba hno haw;by_cases ham:a= -1
     ·subst ham;go_wp2_with fail
      go_roundw
      case rel=>exact⟨j+1,by omega,by go_num,uD⟩
      case measure=>simp[intOf];omega
     ·have aKq:(a == -1)=false:=by rw[beq_eq_false_iff_ne];exact ham
      have k10:=(aB HK1.out hsz uD.out) 0;have k11:=(aB HK1.out hsz uD.out) 1;have k12:=(aB HK1.out hsz uD.out) 2;have k13:=(aB HK1.out hsz uD.out) 3;have k14:=(aB HK1.out hsz uD.out) 4;have k15:=(aB HK1.out hsz uD.out) 5;simp only[gB,gC,gD]at k10 k11 k12 k13 k14 k15;have hpre:Row wr y.a3 ((y.c.ac.take j).map vI):=fun i v h=>HY.out.r3.below uD.out i v (by
       rw[List.map_take,List.getElem?_take]at h;split at h
       ·exact h
       ·cases h)
      have hcon:=jH y.a3 y.c3 (y.c.ac.take j) a wr (by rw[List.length_take];omega) hpre;rw[List.length_take,Nat.min_eq_left (by omega)]at hcon;have hmiss:tN (y.c.ac.take j) a=false:=by
       unfold tN;rw[List.contains_eq_any_beq,List.any_eq_false];intro x hx;obtain⟨m,hm,e⟩:=List.mem_take_iff_getElem.1 hx;have:=Yr.out m (by omega) ham;rw[e]at this;simpa using fun h=>this h.symm
      rw[hmiss]at hcon;obtain⟨x,hxm,hxa⟩:∃x∈y.c.sl,(x.p:Int)=a:=HAW.out.resolve_left ham;have hxp:=(HC.out.sk x hxm).zH HK.out;have hfind:=fun(W:World) (hW:Below wr.heap.size wr W)=>Qp y a W (HY.out.below (Below.step uD.out hW)) (by omega) (fun x hx=>by have:=(HC.out.sk x hx).zH HK.out;omega) (by omega)
      have hpos:¬dH (fun x=>decide ((x.p:Int)=a)) y.c.sl<0:=by
       have h9:=iE (fun x:Sl=>decide ((x.p:Int)=a)) y.c.sl;rw[show(y.c.sl.any fun x=>decide ((x.p:Int)=a))=true from List.any_eq_true.2 ⟨x,hxm,decide_eq_true hxa⟩]at h9;have:=of_decide_eq_true h9;omega
      have Dp:=gO hcon;have HFI:=gO hfind;have aDl:w.heap.size+1<wr.heap.size:=gI hsz uD.out.size;rw[HA3.out]at k15;rw[HA3.out]at Dp;clear hpre hcon hmiss hfind hxa;obtain⟨fi,hfi⟩:∃f,dH (fun x=>decide ((x.p:Int)=a)) y.c.sl=f:=⟨_,rfl⟩
      simp only[hfi]at HFI hpos;clear hfi;rw[HA3.out]at HFI;have hjc:(j:Int)<=y.c3:=by have:=HY.out.k3;omega
      have aKr:j<=y.c3:=by have:=HY.out.k3;omega
      go_wp2_with (first | (go_at_call 35;refine Dp.out.mono ?_;rintro e w' ⟨rfl,rfl⟩) | (go_at_call 131;refine(HFI.out _ (Below.refl _ _)).mono ?_;rintro e w' ⟨rfl,hb'⟩))
      have Yz:=gO (Below.step uD.out hb');go_roundw
      case rel=>exact⟨j+1,by omega,by go_num,Yz⟩
      case measure=>simp[intOf];omega
    ·obtain rfl:j=y.n3:=by omega
     have HBE:=gO (Below.step HB.out uD.out);go_wp2
     go_ret
     exact⟨rfl,HBE.out⟩
end
end Go.Proofs.YtcmpmobhongkiaaGreatDoor
