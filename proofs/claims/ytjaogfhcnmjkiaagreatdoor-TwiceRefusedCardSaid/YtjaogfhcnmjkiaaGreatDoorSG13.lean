/- joined. -/
import Derived.Test.YtjaogfhcnmjkiaaGreatDoorSG11
set_option linter.all false
set_option maxRecDepth 100000
set_option maxHeartbeats 0
namespace Go.Proofs.YtjaogfhcnmjkiaaGreatDoor
open Go.RowKit
open Go.Value renaming slice->aA,int->aB,agg->aC,string->aF,tuple->aG,pointer->aH,ownBlock->gTh
open Go.IntKind renaming i64->aI
open Option renaming none->aJ,some->aK
open Go.Ending renaming returned->aN
open Go.Obj renaming cells->aO
open Go.Proofs.Tryz
variable {a:Option Addr}{away:List Bk}{b:Bk}{cpu i j:Nat}{h h0:Hp}
theorem eY.erase (hk:eY h)(hi:i<h.live.length):
 eY {h with live:=h.live.eraseIdx i}/\∀q,cnt ({h with live:=h.live.eraseIdx i}:Hp).all q+hit ⟨h.live[i].a,h.live[i].o,0⟩ q=cnt h.all q:=by
 have c:∀q,cnt ({h with live:=h.live.eraseIdx i}:Hp).all q+hit ⟨h.live[i].a,h.live[i].o,0⟩ q=cnt h.all q:=λq=>by
  have e:=BL hi q;have d:hit ⟨h.live[i].a,h.live[i].o,0⟩ q=hit h.live[i] q:=rfl;rw[dJ,dJ,d];simp only;omega
 exact⟨⟨hk.o0,hk.o1,hk.f0,hk.e0,hk.e1,hk.m0,hk.m1,hk.cp,hk.lk,hk.lr,λb hb=>hk.lv b ((List.eraseIdx_sublist _ _).subset hb),hk.vs.sublist (List.eraseIdx_sublist _ _),λq=>by have:=c q;have:=hk.one q;omega⟩,c⟩
theorem VP (ho:0<b.o):h.iD cpu i b=({h with live:=h.live.eraseIdx i}:Hp).jI b.a b.o:=by
 unfold Hp.iD;simp only;rw[if_pos ho]
theorem VQ (ho:b.o=0):h.iD cpu i b=({h with live:=h.live.eraseIdx i}:Hp).give cpu b.a:=by
 unfold Hp.iD;simp only;rw[if_neg (by omega)]
def Hp.typ (h:Hp)(p:Nat):Nat:=(h.zone (h.jH p)).y.getD ((p-(h.zone (h.jH p)).f)/8) 0
theorem eY.YF (hk:eY h)(p:Nat):h.typ p<3:=by
 unfold Hp.typ;have a:=(hk.zone (h.jH p)).1.typ;rw[List.getD_eq_getElem?_getD];cases hg:(h.zone (h.jH p)).y[(p-(h.zone (h.jH p)).f)/8]? with
 | none=>simp
 | some u=>exact a u (gM hg)
theorem eY.giving (hk:eY h){p:Nat}(hc:cpu<h.aAh)(hp:p<256)(hd:∀q,cnt h.all q+hit ⟨p,0,0⟩ q<=1){l:Ls}(hl:l=⟨cpu,h.jH p,h.typ p,[]⟩):
 (l.c<h.aAh/\l.z<2/\l.t<3)/\lJ (bK h.ls l p)/\(∀y∈bK h.ls l p,y.z<2/\y.t<3)/\(bK h.ls l p).length<=24/\sG (bK h.ls l p) l.key=true/\
 ∃x,(bK h.ls l p)[jU (bK h.ls l p) l.key]? =aK x/\x.key=l.key/\x.p.length<=9/\h.give cpu p=(if 8<x.p.length then{Go.Proofs.YtjaogfhcnmjkiaaGreatDoor.aW {h with ls:=bK h.ls l p} (x.p.take 4)with ls:=(bK h.ls l p).set (jU (bK h.ls l p) l.key) {x with p:=x.p.drop 4}}else{h with ls:=bK h.ls l p})/\(∀q∈x.p,q<256)/\(∀q,cnt ({h with ls:=[]}:Hp).all q+cnt (lI x.p) q<=1)/\
  ∀j (hj:j<x.p.length),(∀(m:List Ls),(({Go.Proofs.YtjaogfhcnmjkiaaGreatDoor.aW {h with ls:=bK h.ls l p} (x.p.take j)with ls:=m}:Hp).zone (({Go.Proofs.YtjaogfhcnmjkiaaGreatDoor.aW {h with ls:=bK h.ls l p} (x.p.take j)with ls:=m}:Hp).jH x.p[j])).ok/\cZ (({Go.Proofs.YtjaogfhcnmjkiaaGreatDoor.aW {h with ls:=bK h.ls l p} (x.p.take j)with ls:=m}:Hp).zone (({Go.Proofs.YtjaogfhcnmjkiaaGreatDoor.aW {h with ls:=bK h.ls l p} (x.p.take j)with ls:=m}:Hp).jH x.p[j])).f (({Go.Proofs.YtjaogfhcnmjkiaaGreatDoor.aW {h with ls:=bK h.ls l p} (x.p.take j)with ls:=m}:Hp).zone (({Go.Proofs.YtjaogfhcnmjkiaaGreatDoor.aW {h with ls:=bK h.ls l p} (x.p.take j)with ls:=m}:Hp).jH x.p[j])).e x.p[j] 0/\∀b∈(({Go.Proofs.YtjaogfhcnmjkiaaGreatDoor.aW {h with ls:=bK h.ls l p} (x.p.take j)with ls:=m}:Hp).zone (({Go.Proofs.YtjaogfhcnmjkiaaGreatDoor.aW {h with ls:=bK h.ls l p} (x.p.take j)with ls:=m}:Hp).jH x.p[j])).l,apartB x.p[j] 0 b):=by
 have G:=hk.YF p;have B:h.jH p<2:=by unfold Hp.jH;split <;> omega
 have D:p<h.z0.e↔h.jH p=0:=by unfold Hp.jH;split <;> simp_all
 have o:l.c<h.aAh/\l.z<2/\l.t<3:=by rw[hl];exact⟨hc,B,G⟩
 have A:p<256/\(p<h.z0.e↔l.z=0):=by rw[hl];exact⟨hp,D⟩
 obtain⟨x,g,n,K⟩:=Tt hk.lk l p;have I:=Tv (k:=l.key) (λx g=>(hk.lr x g).2.2.2.2.1);have s:=JQ (N:=8) (M:=9) hk.lr o A (by omega) (by omega) (λy d _=>by have:=(hk.lr y d).2.2.2.2.1;omega);obtain⟨J,r⟩:=gK.1 g;have E:x∈bK h.ls l p:=by rw[<- r];exact gL J
 obtain⟨W,q2,Y,Z,Q,u⟩:=s x E;have a:∀q,cnt ({h with ls:=[]}:Hp).all q+cnt (lI x.p) q<=1:=λq=>by
  have L:=cnt_push h.ls l p q;have H:=yQ J q;rw[r]at H;have C:=hd q;rw[dJ]at C;rw[dJ];simp only[lsB,cnt];omega
 refine⟨o,mG hk.lk l p,λy d=>⟨(s y d).2.1,(s y d).2.2.1⟩,?_,?_,x,g,n,Q,?_,λq v=>(u q v).1,?_,λj hj m=> ?_⟩
 ·have R:=mG hk.lk l p;refine Ot (N:=24) R λy d=> ?_
  obtain⟨g1,T,g3,_⟩:=s y d;have:=hk.cp.2;unfold Ls.key;omega
 ·unfold sG;rw[g];exact gTg n
 ·unfold Hp.give;have e:(⟨cpu,h.jH p,(h.zone (h.jH p)).y.getD ((p-(h.zone (h.jH p)).f)/8) 0,[]⟩:Ls)=l:=hl.symm;rw[e];simp only;rw[g]
 ·exact a
 ·have i:∀q,cnt (lI x.p) q=cnt (lI (x.p.take j)) q+cnt (lI (x.p.drop j)) q:=λq=>by rw[<- jJ,List.take_append_drop]
  have w:eY {h with ls:=[]}:=hk.JR;obtain⟨k1,k2,U,k4,X⟩:=w.aW (x.p.take j) (λq v=>(u q (List.mem_of_mem_take v)).1) (λq=>by have:=a q;have:=i q;omega);have F:∀q,cnt (Go.Proofs.YtjaogfhcnmjkiaaGreatDoor.aW ({h with ls:=[]}:Hp) (x.p.take j)).all q+hit ⟨x.p[j],0,0⟩ q<=1:=λq=>by
   rw[k2];have L:=a q;have H:=i q;have C:x.p.drop j=x.p[j]::x.p.drop (j+1):=List.drop_eq_getElem_cons hj;have V:cnt (lI (x.p.drop j)) q=hit ⟨x.p[j],0,0⟩ q+cnt (lI (x.p.drop (j+1))) q:=by rw[C];rfl
   omega
  have O:=yS k1 m (sH (u _ (gL hj)).1) F;have e:({Go.Proofs.YtjaogfhcnmjkiaaGreatDoor.aW ({h with ls:=[]}:Hp) (x.p.take j)with ls:=m}:Hp)={Go.Proofs.YtjaogfhcnmjkiaaGreatDoor.aW {h with ls:=bK h.ls l p} (x.p.take j)with ls:=m}:=by
   have S:=kJ (x.p.take j) h [];have P:=kJ (x.p.take j) h (bK h.ls l p);rw[S,P]
  rw[<- e];exact O
structure zG (h0 h:Hp)(away:List Bk):Prop where
 ok:eY h
 same:Same h0 h
 cn:∀q,cnt h.all q=cnt h0.all q
 lv:(away.map yJ).Perm (h.live.map yJ)
 t0:∀b∈away,b.t=0
theorem Ua:∀{l:List Bk} {k N:Nat},uN l->(∀x∈l,k<=x.a/\x.a<N)->l.length+k<=N∨l=[]
 | [],_,_,_,_=> .inr rfl
 | c::m,k,N,q1,q2=>by
  have q3:=List.pairwise_cons.1 q1;have d:=q2 c (by simp);rcases Ua (k:=c.a+1) (N:=N) q3.2 λx b=>⟨q3.1 x b,(q2 x (by simp[b])).2⟩with q5 | rfl
  ·simp only[List.length_cons];exact .inl (by omega)
  ·simp only[List.length_cons,List.length_nil];exact .inl (by omega)
theorem eY.iU (hk:eY h):h.live.length<=256:=by
 rcases Ua (k:=0) (N:=256) hk.vs λx a=>⟨gU _,(hk.lv x a).1.2.2.1⟩with h1 | h1
 ·omega
 ·rw[h1];exact gU _
theorem zG.start (hk:eY h0)(hl:h0.live=[]):zG h0 h0 []:=⟨hk,Same.refl h0,λ_=>rfl,by rw[hl],by simp⟩
theorem FI {α:Type}(l:List α)(hi:i<l.length):l.Perm (l[i]::l.eraseIdx i):=by
 have h:l=l.take i++l[i]::l.drop (i+1):=by rw[List.getElem_cons_drop,List.take_append_drop]
 rw[List.eraseIdx_eq_take_drop_succ];exact(List.Perm.of_eq h).trans List.perm_middle
theorem zG.has (hp:zG h0 h away)(hj:j<away.length):
 ∃hi:lb h.live away[j].a<h.live.length,h.live[lb h.live away[j].a].a=away[j].a/\h.live[lb h.live away[j].a].o=away[j].o/\hasB h.live away[j].a=true/\away[j].a<256:=by
 have g:yJ away[j]∈h.live.map yJ:=hp.lv.mem_iff.1 (List.mem_map_of_mem (gL hj));obtain⟨b,hb,e⟩:=List.mem_map.1 g;simp only[yJ,Prod.mk.injEq]at e;obtain⟨c,i⟩:=e;have d:=lX hp.ok.vs hb;rw[c]at d;obtain⟨hi,f⟩:=gK.1 d;refine⟨hi,by rw[f,c],by rw[f,i],?_,by have:=(hp.ok.lv b hb).1.2.2.1;omega⟩;exact List.any_eq_true.2 ⟨b,hb,gTg c⟩
theorem zG.free (hp:zG h0 h away)(hc:cpu<h0.aAh)(hj:j<away.length)(hi:lb h.live away[j].a<h.live.length):
 zG h0 (h.iD cpu (lb h.live away[j].a) h.live[lb h.live away[j].a]) (away.eraseIdx j):=by
 have c:cpu<h.aAh:=by rw[hp.same.aAh];exact hc
 obtain⟨k1,k2,k,m⟩:=hp.ok.iD c hi;obtain⟨_,i,f,_,_⟩:=hp.has hj;refine⟨k1,hp.same.trans k,λq=>by rw[k2,hp.cn],?_,λb hb=>hp.t0 b ((List.eraseIdx_sublist _ _).subset hb)⟩;rw[m];have g:=(FI away hj).map yJ;have l:=(FI h.live hi).map yJ;have d:=(g.symm.trans hp.lv).trans l;have e:yJ h.live[lb h.live away[j].a]=yJ away[j]:=by unfold yJ;rw[i,f]
 simp only[List.map_cons,e]at d;exact d.cons_inv
theorem zG.drain (hp:zG h0 h away):zG h0 h.drain away:=by
 obtain⟨k1,k2,a,c,b⟩:=hp.ok.drain;exact⟨k1,hp.same.trans a,λq=>by rw[k2,hp.cn],by rw[b];exact hp.lv,hp.t0⟩
theorem zG.alloc {h':Hp}(hp:zG h0 h away){order t a:Nat}{u lo:Bool}(hc:cpu<h0.aAh)(ho:order<=4)(ht:t<3)(he:h.alloc cpu order t u lo=aK (h',a)):zG h0 h' (away++[⟨a,order,0⟩]):=by
 obtain⟨k1,k2,e,f,g⟩:=hp.ok.alloc (by rw[hp.same.aAh];exact hc) ho ht he;refine⟨k1,hp.same.trans e,λq=>by rw[k2,hp.cn],?_,λb hb=> ?_⟩
 ·rw[f,List.map_append];unfold bI;rw[List.map_append,List.map_cons];have d:((List.map yJ (h.live.take (lb h.live a)))++yJ ⟨a,order,t⟩::List.map yJ (h.live.drop (lb h.live a))).Perm (yJ ⟨a,order,t⟩::(List.map yJ (h.live.take (lb h.live a))++List.map yJ (h.live.drop (lb h.live a)))):=List.perm_middle;rw[<- List.map_append,List.take_append_drop]at d;refine List.Perm.trans ?_ d.symm;refine(List.perm_append_comm).trans ?_;exact List.Perm.cons _ hp.lv
 ·rcases gZ.1 hb with c | c
  ·exact hp.t0 b c
  ·rw[gTa.1 c]
theorem Ub (w:World)(o:Obj):w.heap.size<(w.alloc o).heap.size:=by simp
theorem vV.at {s:Sy}{c:Ca}{x:Sl}(h:vV s c x)(hk:eY s.h):∃hi:lb s.h.live x.p<s.h.live.length,s.h.live[lb s.h.live x.p].o=c.o/\hasB s.h.live x.p=true:=by
 obtain⟨b,hb,a,e⟩:=h.live;have d:=lX hk.vs hb;rw[a]at d;obtain⟨hi,f⟩:=gK.1 d;exact⟨hi,by rw[f];exact e,List.any_eq_true.2 ⟨b,hb,gTg a⟩⟩
theorem YG (v:Sc)(s:Sy)(y:Cc)(w:World)(hs:lZ w v s)(hk:eY s.h)(hw:s.w.length=4096)(hy:Ku w y)(hc:qJ s y.c):
 Calls prog 31 #[aC #[aA v.a1 v.n1 v.c1,aA v.hc.az 2 v.hc.cz,aA v.hc.am 2 v.hc.cm,aB aI s.h.aAh,aA v.hc.al v.hc.lc.length v.hc.cl,aA v.hc.av s.h.live.length v.hc.cv,aA v.a2 v.ys.length v.c2],aC #[aA y.a1 y.n1 y.c1,aB aI y.c.z,aB aI y.c.r,aB aI y.c.o,aA y.a2 y.n2 y.c2,aA y.a3 y.n3 y.c3]] w λev w'=>ev=aN (.bool true)/\Below w.heap.size w w':=by
 obtain⟨K0,K1,F0,F1,d,hbw⟩:=boxes2 w #[aA v.a1 v.n1 v.c1,aA v.hc.az 2 v.hc.cz,aA v.hc.am 2 v.hc.cm,aB aI (s.h.aAh:Int),aA v.hc.al v.hc.lc.length v.hc.cl,aA v.hc.av s.h.live.length v.hc.cv,aA v.a2 v.ys.length v.c2] 42 #[aA y.a1 y.n1 y.c1,aB aI (y.c.z:Int),aB aI (y.c.r:Int),aB aI (y.c.o:Int),aA y.a2 y.n2 y.c2,aA y.a3 y.n3 y.c3] 67;have HS:=gO (hs.below hbw);have HY:=gO (hy.below hbw);have HB:=gO hbw;have HK:=gO hk;have N:=gO hc;have k:=gO K0;have g:=gO K1;have hz:=hc.z;have ho:=hc.o;have hr:=hc.r;have hn2:y.n2<=256:=by rw[<- hy.l2];exact hc.mW hk
 have hn3:y.n3=s.h.aAh:=by rw[<- hy.l3];exact hc.ac
 have hcp:=hk.cp;have aNX:y.n3<=4:=by rw[hn3];exact hk.cp.2
 have hlv:=hs.hh.nv;have hn1:0<y.n1:=by rw[<- hy.l1];exact List.length_pos_iff.2 hc.ns
 have c0:=K0 3;have c1:=K1 0;have c2:=K1 1;have c3:=K1 2;have c4:=K1 3;have c5:=K1 5;have c6:=K1 4;simp only[gB,gC,gD]at c0 c1 c2 c3 c4 c5 c6;have q1:((y.c.o:Int) != (fG y.c.z:Nat))=false:=by rw[ho];simp
 have q2:((y.c.r:Int) != (aAC y.c.z:Nat))=false:=by rw[hr];simp
 have q3:((y.n1:Int) == 0)=false:=by rw[beq_eq_false_iff_ne];omega
 have q4:((y.n3:Int) != (s.h.aAh:Int))=false:=by rw[hn3];simp
 have HOO:=gO ho;have HRR:=gO hr;clear hs hy hbw K0 K1 F0 F1 hk hc ho hr hn3;go_enter func31,ntmps31
 go_wp2_with fail
 generalize (w.alloc _).alloc _=w2 at*;refine(FH y.c.z w2 hz.1 hz.2).mono ?_;rintro ev _ ⟨rfl,rfl⟩;go_wp2_with fail
 go_loopw [55] (λs55 wr=>∃i:Nat,i<=y.n2/\s55=aB aI (i:Int)/\Hid (Below w2.heap.size w2 wr)) (λs55 _=>y.n2-(intOf s55).toNat)
 case atStart=>exact⟨0,gU _,rfl,gX _ _⟩
 case round=>
  obtain⟨i,hi,rfl,nM⟩:=hrel;by_cases hlt:i<y.n2
  ·have KO:(i:Int)<y.n2:=by omega
   have hi2:i<y.c.sl.length:=by rw[HY.out.l2];exact hlt
   obtain⟨bb,off,I,hbb,hbc⟩:=aAw aAv (by decide) (HY.out.r2.below nM.out) hi2;obtain⟨e0,e1,e2⟩:=fV hbc;have HX:=gO (N.out.sk _ (gL hi2));have HPV:Hid (∀m (hm:m<i),(y.c.sl[m]'(by omega)).p<(y.c.sl[i]).p):=λm hm=>gN.1 N.out.sr m i (by omega) hi2 hm
   obtain⟨x,hx⟩:∃x,y.c.sl[i]=x:=⟨_,rfl⟩
   simp only[hx]at e0 e1 e2 HX HPV;obtain⟨hil,Qx,hhas⟩:=HX.out.at HK.out;obtain⟨cl,D⟩:=HX.out.chain;have hxp:=HX.out.BM HK.out;have HA2:=gO I;rw[I]at c6 ⊢;clear hbc I hx;go_upto_region 7 with fail
   have hb3:=aAq wr (aO #[aB aI (x.p:Int),aB aI (x.n:Int),aB aI x.h] 99);have KX:=aQ wr #[aB aI (x.p:Int),aB aI (x.n:Int),aB aI x.h] 99;have hsx:=Ub wr (aO #[aB aI (x.p:Int),aB aI (x.n:Int),aB aI x.h] 99);have HB3:=gO (gW nM.out hb3);clear hb3 nM e0 e1 e2 hbb;obtain⟨we,rfl⟩:∃we,we=wr:=⟨_,rfl⟩
   generalize we.alloc _=w3 at*;obtain⟨BX,hBX⟩:∃B,we.heap.size=B:=⟨_,rfl⟩
   rw[hBX]at KX hsx ⊢;clear hBX;have g0:=KX 0;have q:=(aAp k.out (by omega) HB3.out) 5;simp only[gB,gC,gD]at g0 q;have hs3:w.heap.size+1<w3.heap.size:=gI d HB3.out.size;go_wp2_with fail
   refine(Ll _ _ _ s.h.live x.p w3 rfl (gQ HK.out.iU (by decide)) (HS.out.hh.vr.below HB3.out) HK.out.vs (λb hb=>by have:=(HK.out.lv b hb).1.2.2.1;omega) (by omega)).mono ?_;rintro ev w4 ⟨rfl,hb4⟩;rw[hhas];have A:=gO (gW HB3.out hb4);have O:=aAp KX hsx hb4;have VR:=gI hsx hb4.size;clear g0 q hb4 KX hsx hs3;obtain⟨lbk,aNY,hla,aNZ,hlc⟩:=aAw aAu (by decide) (HS.out.hh.vr.below A.out) hil;obtain⟨l0,l1,l2⟩:=bH hlc;rw[Qx]at l1;have q:=(aAp k.out (by omega) A.out) 5;have t:=(aAp g.out d A.out) 4;have d1:=O 0;simp only[gB,gC,gD]at q t d1;rw[hla]at q;rw[HA2.out]at t;rw[HOO.out]at l1;have aJn:=hil;clear hla hlc l0 l2 Qx;obtain⟨L,hL⟩:∃L,lb s.h.live x.p=L:=⟨_,rfl⟩
   rw[hL]at l1 aJn ⊢;clear hL hil;have hs4:w.heap.size+1<w4.heap.size:=gI d A.out.size;have hLi:(L:Int)<s.h.live.length:=by omega
   by_cases hi0:i=0
   ·subst hi0;go_wp2_with fail
    go_quiet (fail)
    have C:=below_drewN (gX w4.heap.size w4) nq;have l:=gO (gW A.out C);have E:=aAp O VR C;have aJo:=gI VR C.size;clear A O VR C d1 l1 q t;generalize w4.drewN nq=w5 at*;have g0:=E 0;have g1:=E 1;have g2:=E 2;have V:=(aAp k.out (by omega) l.out) 0;have S:=(aAp k.out (by omega) l.out) 1;have R:=(aAp k.out (by omega) l.out) 2;have U:=(aAp k.out (by omega) l.out) 3;have Q:=(aAp k.out (by omega) l.out) 4;have q:=(aAp k.out (by omega) l.out) 5;have T:=(aAp k.out (by omega) l.out) 6;have F:=(aAp g.out d l.out) 0;have G:=(aAp g.out d l.out) 1;have J:=(aAp g.out d l.out) 2;have H:=(aAp g.out d l.out) 3;have t:=(aAp g.out d l.out) 4;have u:=(aAp g.out d l.out) 5;simp only[gB,gC,gD]at g0 g1 g2 V S R U Q q T F G J H t u;have hs2:=d;go_wp2_with fail
    refine(Au _ _ _ _ _ _ _ _ _ _ _ _ _ _ _ _ s.h.aAh s.w y x cl w5 (HS.out.lw) (by have:=HS.out.lw;omega) (HS.out.rw.below l.out) hz.1 (by have:=N.out.rz;omega) (by omega) D.1 D.2.1 D.2.2 (λa ha=>by have h9:=jV (D.2.2 a ha);have:=N.out.rz;have h8:((y.c.r*y.c.z:Nat):Int)=(y.c.r:Int)*(y.c.z:Int):=Int.natCast_mul _ _;omega) (by have:=HX.out.QE;have:=N.out.r64;omega)).mono ?_;rintro ev w6 ⟨a',c',rfl,_,hb6⟩;have HB6:=gO (gW l.out hb6);clear g0 g1 g2 V S R U Q q T F G J H t u;go_wp2_with fail
    go_roundw
    case measure=>simp[intOf];omega
    case rel=>exact⟨1,by omega,by go_num,HB6⟩
   ·obtain⟨m,rfl⟩:∃m,i=m+1:=⟨i-1,by omega⟩
    have hm1:((m+1:Nat):Int)-1=(m:Int):=by omega
    have hml:m<y.c.sl.length:=by omega
    have hpv:=HPV.out m (by omega);obtain⟨bb2,off2,aDF,_,hbc2⟩:=aAw aAv (by decide) (HY.out.r2.below A.out) hml;rw[HA2.out]at aDF;simp only[Option.some.injEq,Addr.mk.injEq,and_true]at aDF;obtain⟨rfl,rfl⟩:=aDF;obtain⟨p0,_,_⟩:=fV hbc2;obtain⟨xq,hxq⟩:∃x',(y.c.sl[m]).p=x':=⟨_,rfl⟩
    rw[hxq]at p0;simp only[hxq]at hpv;have hge:¬(x.p:Int)<=xq:=by omega
    have aN0:decide ((x.p:Int)<=xq)=false:=gV hge;clear hbc2 hxq;have hmi:(m:Int)<y.n2:=by omega
    go_wp2_with fail
    go_quiet (fail)
    have C:=below_drewN (gX w4.heap.size w4) nq;have l:=gO (gW A.out C);have E:=aAp O VR C;have aJo:=gI VR C.size;clear A O VR C d1 l1 q t p0;generalize w4.drewN nq=w5 at*;have g0:=E 0;have g1:=E 1;have g2:=E 2;have V:=(aAp k.out (by omega) l.out) 0;have S:=(aAp k.out (by omega) l.out) 1;have R:=(aAp k.out (by omega) l.out) 2;have U:=(aAp k.out (by omega) l.out) 3;have Q:=(aAp k.out (by omega) l.out) 4;have q:=(aAp k.out (by omega) l.out) 5;have T:=(aAp k.out (by omega) l.out) 6;have F:=(aAp g.out d l.out) 0;have G:=(aAp g.out d l.out) 1;have J:=(aAp g.out d l.out) 2;have H:=(aAp g.out d l.out) 3;have t:=(aAp g.out d l.out) 4;have u:=(aAp g.out d l.out) 5;simp only[gB,gC,gD]at g0 g1 g2 V S R U Q q T F G J H t u;have hs2:=d;go_wp2_with fail
    refine(Au _ _ _ _ _ _ _ _ _ _ _ _ _ _ _ _ s.h.aAh s.w y x cl w5 (HS.out.lw) (by have:=HS.out.lw;omega) (HS.out.rw.below l.out) hz.1 (by have:=N.out.rz;omega) (by omega) D.1 D.2.1 D.2.2 (λa ha=>by have h9:=jV (D.2.2 a ha);have:=N.out.rz;have h8:((y.c.r*y.c.z:Nat):Int)=(y.c.r:Int)*(y.c.z:Int):=Int.natCast_mul _ _;omega) (by have:=HX.out.QE;have:=N.out.r64;omega)).mono ?_;rintro ev w6 ⟨a',c',rfl,_,hb6⟩;have HB6:=gO (gW l.out hb6);clear g0 g1 g2 V S R U Q q T F G J H t u;go_wp2_with fail
    go_roundw
    case measure=>simp[intOf];omega
    case rel=>exact⟨m+1+1,by omega,by go_num,HB6⟩
  ·have hie:i=y.n2:=by omega
   subst hie;have u:=(aAp g.out d nM.out) 5;simp only[gB,gC,gD]at u;have Yb:w.heap.size+1<wr.heap.size:=gI d nM.out.size;clear c6;obtain⟨w8,rfl⟩:∃w8,w8=wr:=⟨_,rfl⟩
   go_wp2_with fail
   clear u;go_loopw [111] (λP wr=>∃j:Nat,j<=y.n3/\P=aB aI (j:Int)/\Hid (Below w2.heap.size w2 wr)) (λP _=>y.n3-(intOf P).toNat)
   case atStart=>exact⟨0,gU _,rfl,nM⟩
   case round=>
    obtain⟨j,hj,rfl,M⟩:=hrel;by_cases hjl:j<y.n3
    ·have aN1:(j:Int)<y.n3:=by omega
     have hj2:j<y.c.ac.length:=by rw[HY.out.l3];exact hjl
     obtain⟨bb,off,I,hbb,e0⟩:=BF (HY.out.r3.below M.out) hj2;have HA3:=gO I;have haw:=N.out.aw _ (gL hj2);have hno:∀m (hm:m<j),y.c.ac[j]≠ -1->(y.c.ac[m]'(by omega))≠y.c.ac[j]:=λm hm h1 h2=>h1 (h2▸gN.1 N.out.ad m j (by omega) hj2 hm h2)
     obtain⟨a,ha⟩:∃a,y.c.ac[j]=a:=⟨_,rfl⟩
     rw[ha]at e0 haw;simp only[ha]at hno;have VI:=gO hno;have HAW:=gO haw;rw[I];clear I hno haw;by_cases Z:a= -1
     ·subst Z;go_wp2_with fail
      go_roundw
      case rel=>exact⟨j+1,by omega,by go_num,M⟩
      case measure=>simp[intOf];omega
     ·have aN2:(a == -1)=false:=by rw[beq_eq_false_iff_ne];exact Z
      have F:=(aAp g.out d M.out) 0;have G:=(aAp g.out d M.out) 1;have J:=(aAp g.out d M.out) 2;have H:=(aAp g.out d M.out) 3;have t:=(aAp g.out d M.out) 4;have u:=(aAp g.out d M.out) 5;simp only[gB,gC,gD]at F G J H t u;have hpre:Row wr y.a3 ((y.c.ac.take j).map vI):=λi v h=>HY.out.r3.below M.out i v (by
       rw[List.map_take,List.getElem?_take]at h;split at h
       ·exact h
       ·cases h)
      have K:=jS y.a3 y.c3 (y.c.ac.take j) a wr (by rw[gTc];omega) hpre;rw[gTc,Nat.min_eq_left (by omega)]at K;have Y:vU (y.c.ac.take j) a=false:=by
       unfold vU;rw[List.contains_eq_any_beq,List.any_eq_false];intro x hx;obtain⟨m,hm,e⟩:=List.mem_take_iff_getElem.1 hx;have:=VI.out m (by omega) Z;rw[e]at this;simpa using λh=>this h.symm
      rw[Y]at K;obtain⟨x,hxm,hxa⟩:∃x∈y.c.sl,(x.p:Int)=a:=HAW.out.resolve_left Z;have hxp:=(N.out.sk x hxm).BM HK.out;have X:=fun(W:World) (hW:Below wr.heap.size wr W)=>TL y a W (HY.out.below (gW M.out hW)) (by omega) (λx hx=>by have:=(N.out.sk x hx).BM HK.out;omega) (by omega)
      have hpos:¬dA (λx=>decide ((x.p:Int)=a)) y.c.sl<0:=by
       have h9:=iP (λx:Sl=>decide ((x.p:Int)=a)) y.c.sl;rw[show(y.c.sl.any λx=>decide ((x.p:Int)=a))=true from List.any_eq_true.2 ⟨x,hxm,gTg hxa⟩]at h9;have:=of_decide_eq_true h9;omega
      have FK:=gO K;have HFI:=gO X;have aF8:w.heap.size+1<wr.heap.size:=gI d M.out.size;rw[HA3.out]at u;rw[HA3.out]at FK;clear hpre K Y X hxa;obtain⟨fi,hfi⟩:∃f,dA (λx=>decide ((x.p:Int)=a)) y.c.sl=f:=⟨_,rfl⟩
      simp only[hfi]at HFI hpos;clear hfi;rw[HA3.out]at HFI;have hjc:(j:Int)<=y.c3:=by have:=HY.out.k3;omega
      have aN3:j<=y.c3:=by have:=HY.out.k3;omega
      go_wp2_with (first | (go_at_call 45;refine FK.out.mono ?_;rintro e w' ⟨rfl,rfl⟩) | (go_at_call 71;refine(HFI.out _ (gX _ _)).mono ?_;rintro e w' ⟨rfl,hb'⟩))
      have Xh:=gO (gW M.out hb');go_roundw
      case rel=>exact⟨j+1,by omega,by go_num,Xh⟩
      case measure=>simp[intOf];omega
    ·obtain rfl:j=y.n3:=by omega
     have HBE:=gO (gW HB.out M.out);go_wp2
     go_ret
     exact⟨rfl,HBE.out⟩
theorem YH (y z:Cc)(B:Nat)(W:World)(hB:B<W.heap.size)(hc:W.cell? ⟨B,1,aJ⟩=aK (.int .i64 z.c.z)):
 Calls prog 33 (#[.agg (dX y).toArray]++#[aH (aK ⟨B,0,aJ⟩)]) W λev w'=>ev=aN (.bool (decide (y.c.z=z.c.z)))/\Below W.heap.size W w':=by
 show Calls prog 33 #[aC #[aA y.a1 y.n1 y.c1,.int .i64 y.c.z,.int .i64 y.c.r,.int .i64 y.c.o,aA y.a2 y.n2 y.c2,aA y.a3 y.n3 y.c3],aH (aK ⟨B,0,aJ⟩)] W _;have hb:=aAq W (aO #[aA y.a1 y.n1 y.c1,.int .i64 (y.c.z:Int),.int .i64 (y.c.r:Int),.int .i64 (y.c.o:Int),aA y.a2 y.n2 y.c2,aA y.a3 y.n3 y.c3] 67);have K:=aQ W #[aA y.a1 y.n1 y.c1,.int .i64 (y.c.z:Int),.int .i64 (y.c.r:Int),.int .i64 (y.c.o:Int),aA y.a2 y.n2 y.c2,aA y.a3 y.n3 y.c3] 67;have k1:=K 1;simp only[gB,gC,gD]at k1;have b:=(hb.cell (p:=⟨B,1,aJ⟩) hB).trans hc;have a:=gO hb;clear hb K hc;go_enter func33,ntmps33
 go_wp2
 go_ret
 exact⟨aX (by rw[Bool.eq_iff_iff];simp only[beq_iff_eq,decide_eq_true_eq];omega),a.out⟩
theorem YI {α:Type}{enc:α->List Value}{k:Nat}(hk:∀x,(enc x).length=k){w:World}{l:List α}(h:Row w a (flat enc l))(i:Nat):Row w a (flat enc (l.take i)):=λj v b=>h j v (by
 rw[<- fC hk,List.getElem?_take]at b;split at b
 ·exact b
 ·cases b)
def FM (s:Sy)(i:Nat)(x:Lit):Prop:=∃c∈s.cs.take i,∃n∈c.ns,x= .string n
def FN (s:Sy)(i:Nat)(x:Lit):Prop:=∃c∈s.cs.take i,∃q∈c.sl,x= .int .i64 (q.p:Int)
theorem kE (v:Sc)(s:Sy)(w:World)(hs:lZ w v s)(hk:bQ s)(hf:∀c∈s.cs,c.ns.length<=1000):
 Calls prog 11 #[aC #[aA v.a1 v.n1 v.c1,aA v.hc.az 2 v.hc.cz,aA v.hc.am 2 v.hc.cm,.int .i64 s.h.aAh,aA v.hc.al v.hc.lc.length v.hc.cl,aA v.hc.av s.h.live.length v.hc.cv,aA v.a2 v.ys.length v.c2]] w λev w'=>ev=aN (.int .i64 0)/\Below w.heap.size w w':=by
 obtain⟨K0,F0,hsz,hbw⟩:=boxes1 w #[aA v.a1 v.n1 v.c1,aA v.hc.az 2 v.hc.cz,aA v.hc.am 2 v.hc.cm,.int .i64 (s.h.aAh:Int),aA v.hc.al v.hc.lc.length v.hc.cl,aA v.hc.av s.h.live.length v.hc.cv,aA v.a2 v.ys.length v.c2] 42;have HS:=gO (hs.below hbw);have HB:=gO hbw;have HK:=gO hk;have HK0:=gO K0;have hn1:(v.n1:Int)=4096:=by rw[<- hs.lw,hk.wl];rfl
 have q1:((v.n1:Int) != 4096)=false:=by rw[hn1];rfl
 have hyl:v.ys.length<=20:=by have:=congrArg List.length hs.cy;rw[gTe]at this;rw[this];exact hk.cl
 have hyi:¬(20:Int)<v.ys.length:=by omega
 have La:s.h.live.length<=1000:=gQ hk.hk.iU (by decide);have YJ:v.hc.lc.length<=1000:=by
  have R:=congrArg List.length hs.hh.ll;rw[gTe]at R;rw[R];exact gQ hk.hk.oQ (by decide)
 have Xi:=gO (fun(W:World) (hW:Below (w.alloc (aO #[aA v.a1 v.n1 v.c1,aA v.hc.az 2 v.hc.cz,aA v.hc.am 2 v.hc.cm,.int .i64 (s.h.aAh:Int),aA v.hc.al v.hc.lc.length v.hc.cl,aA v.hc.av s.h.live.length v.hc.cv,aA v.a2 v.ys.length v.c2] 42)).heap.size (w.alloc (aO #[aA v.a1 v.n1 v.c1,aA v.hc.az 2 v.hc.cz,aA v.hc.am 2 v.hc.cm,.int .i64 (s.h.aAh:Int),aA v.hc.al v.hc.lc.length v.hc.cl,aA v.hc.av s.h.live.length v.hc.cv,aA v.a2 v.ys.length v.c2] 42)) W)=>yA _ _ _ _ v.hc.cz v.hc.cm v.hc.cl v.hc.cv _ _ _ _ _ s.h W ((hs.below hbw).hh.below hW) hk.hk YJ La);obtain⟨c0,c1,c2,c3,c4,c5,c6⟩:=gA7 K0;have hmm:=@run_makeMap prog;clear hs hbw K0 F0 hk;go_enter func11,ntmps11
 go_upto_region 4 with (go_at_call 30;refine(Xi.out _ (gX _ _)).mono ?_;rintro ev g ⟨rfl,L⟩;have K:=gO L;have c6a:=(L.cell (p:=⟨w.heap.size,6,aJ⟩) hsz).trans c6)
 have Q:=aAq g (.map #[] 0);have T:=aAq (g.alloc (.map #[] 0)) (.map #[] 0);have S1:=(fQ.made g prog 9 4).below T;have S2:=fQ.made (g.alloc (.map #[] 0)) prog 3 4;have HB24:=gO (gW Q T);have hM2:(g.alloc (.map #[] 0)).heap.size=g.heap.size+1:=by simp
 rw[hM2]at S2;have HS1:Hid (fQ _ prog 9 4 g.heap.size 0 (FM s 0)):=S1.imp λx=>⟨λh=>h.elim,fun⟨c,hc,_⟩=>by simp at hc⟩
 have HS2:Hid (fQ _ prog 3 4 (g.heap.size+1) 0 (FN s 0)):=S2.imp λx=>⟨λh=>h.elim,fun⟨c,hc,_⟩=>by simp at hc⟩
 clear S1 S2 Q T hM2 hmm c0 c1 c2 c3 c4 c5 Xi q1;generalize (g.alloc _).alloc _=w4 at*;have U:=K.out.size;have hs4:=HB24.out.size;have hBs:w.heap.size<g.heap.size:=gI hsz U;have c6b:=(HB24.out.cell (p:=⟨w.heap.size,6,aJ⟩) hBs).trans c6a;clear c6 c6a;go_wp2_with fail
 clear c6b;go_loopw [32] (λs32 wr=>∃(i n m:Nat),i<=v.ys.length/\s32= .int .i64 (i:Int)/\n<=1000*i/\m<=256*i/\Hid (fQ wr prog 9 4 g.heap.size n (FM s i))/\Hid (fQ wr prog 3 4 (g.heap.size+1) m (FN s i))/\Hid (Below g.heap.size g wr)) (λs32 _=>v.ys.length-(intOf s32).toNat)
 case atStart=>exact⟨0,0,0,gU _,rfl,gU _,gU _,HS1,HS2,HB24⟩
 case round=>
  obtain⟨i,n,m,hi,rfl,A,hm,HN,HM,nM⟩:=hrel;by_cases D:i<v.ys.length
  ·have KO:(i:Int)<v.ys.length:=by omega
   have t:i<s.cs.length:=by rw[<- HS.out.cy,gTe];exact D
   have O:v.ys[i].c=s.cs[i]:=by
    have R:=congrArg (·[i]?) HS.out.cy;simp[D,t]at R;exact R
   have kG:=gO (HS.out.below (K.out.trans (nM.out.mono U)));obtain⟨bb,off,Q,T,hbc⟩:=aAw eH (by decide) kG.out.rc D;have hcy:=kG.out.ca _ (gL D);have C:qJ s v.ys[i].c:=by rw[O];exact HK.out.ck _ (gL t)
   have hfy:v.ys[i].c.ns.length<=1000:=by rw[O];exact hf _ (gL t)
   have hzd:((v.ys.take i).any λz=>decide (z.c.z=v.ys[i].c.z))=false:=by
    rw[List.any_eq_false];intro z hz;obtain⟨m,hm,e⟩:=List.mem_take_iff_getElem.1 hz;have P:m<s.cs.length:=by omega
    have R:v.ys[m].c=s.cs[m]:=by
     have N:=congrArg (·[m]?) HS.out.cy;simp[show m<v.ys.length by omega,P]at N;exact N
    have N:=gN.1 HK.out.zd m i P t (by omega);rw[<- e,R,O];simpa using N
   have hSS:∀x,FM s (i+1) x↔(FM s i x∨∃n∈v.ys[i].c.ns,x= .string n):=λx=>by
    unfold FM;rw[List.take_succ_eq_append_getElem t,<- O];simp only[gZ,gTa];constructor
    ·rintro⟨c,hc | rfl,h⟩
     ·exact .inl ⟨c,hc,h⟩
     ·exact .inr h
    ·rintro(⟨c,hc,h⟩ | h)
     ·exact⟨c,.inl hc,h⟩
     ·exact⟨_,.inr rfl,h⟩
   have hPP:∀x,FN s (i+1) x↔(FN s i x∨∃q∈v.ys[i].c.sl,x= .int .i64 (q.p:Int)):=λx=>by
    unfold FN;rw[List.take_succ_eq_append_getElem t,<- O];simp only[gZ,gTa];constructor
    ·rintro⟨c,hc | rfl,h⟩
     ·exact .inl ⟨c,hc,h⟩
     ·exact .inr h
    ·rintro(⟨c,hc,h⟩ | h)
     ·exact⟨c,.inl hc,h⟩
     ·exact⟨_,.inr rfl,h⟩
   have HSS:=gO hSS;have HPP:=gO hPP;obtain⟨e0,e1,e2,e3,e4,e5⟩:=kP hbc;have HTK:Hid ((v.ys.take i).length=i):=by unfold Hid;rw[gTc];omega
   obtain⟨y,hy⟩:∃y,v.ys[i]=y:=⟨_,rfl⟩
   rw[hy]at e0 e1 e2 e3 e4 e5 hcy C hfy hzd;have HA:=gO Q;have M:=gO hy;rw[Q];clear hbc Q O hSS hPP hy;go_upto_region 7 with fail
   have S:=aAq wr (aO #[aA y.a1 y.n1 y.c1,.int .i64 (y.c.z:Int),.int .i64 (y.c.r:Int),.int .i64 (y.c.o:Int),aA y.a2 y.n2 y.c2,aA y.a3 y.n3 y.c3] 67);have K6:=aQ wr #[aA y.a1 y.n1 y.c1,.int .i64 (y.c.z:Int),.int .i64 (y.c.r:Int),.int .i64 (y.c.o:Int),aA y.a2 y.n2 y.c2,aA y.a3 y.n3 y.c3] 67;have G:=Ub wr (aO #[aA y.a1 y.n1 y.c1,.int .i64 (y.c.z:Int),.int .i64 (y.c.r:Int),.int .i64 (y.c.o:Int),aA y.a2 y.n2 y.c2,aA y.a3 y.n3 y.c3] 67);have aJt:=HM.out.lt;have HN5:=gO (HN.out.below S);have HM5:=gO (HM.out.below S);have HB5:=gO (gW nM.out S);have HS5:=gO (kG.out.below S);have HY5:=gO (hcy.below S);clear S HN HM nM kG hcy e0 e1 e2 e3 e4 e5 T;obtain⟨we,rfl⟩:∃we,we=wr:=⟨_,rfl⟩
   generalize we.alloc _=w5 at*;obtain⟨BC,hBC⟩:∃B,we.heap.size=B:=⟨_,rfl⟩
   rw[hBC]at K6 G aJt ⊢;clear hBC;have aDI:=K.out.trans (HB5.out.mono U);have k0:=aAp HK0.out hsz aDI;have c0:=k0 0;have c1:=k0 1;have c2:=k0 2;have c3:=k0 3;have c4:=k0 4;have c5:=k0 5;have c6:=k0 6;have g0:=K6 0;have g1:=K6 1;have g2:=K6 2;have g3:=K6 3;have g4:=K6 4;have g5:=K6 5;simp only[gB,gC,gD]at c0 c1 c2 c3 c4 c5 c6 g0 g1 g2 g3 g4 g5;have hcall:=YG v s y w5 HS5.out HK.out.hk HK.out.wl HY5.out C;have HC1:=gO hcall;have eg:∀args w,(callFunc 33 args).run prog w= .ok (.enter 33 args) w:=enters_of func33 (by kernel_rfl) rfl;have hkc:=HS5.out.kc;have HC2:Hid (∀W,Below w5.heap.size w5 W->Calls prog 32 #[aA (aK ⟨bb,off,aJ⟩) i v.c2,.func (.func 33) #[] #[aH (aK ⟨BC,0,aJ⟩)]] W λev w'=>ev=aN (.bool false)/\Below W.heap.size W w'):=λW hW=>by
    have h9:=wP v.a2 i v.c2 (v.ys.take i) 33 #[aH (aK ⟨BC,0,aJ⟩)] (λz=>decide (z.c.z=y.c.z)) W HTK.out (by omega) (YI eH (HS5.out.rc.below hW) i) eg (λW2 hW2 z hz=>YH z y BC W2 (gI (gI G hW.size) hW2.size) ((hW2.cell (p:=⟨BC,1,aJ⟩) (gI G hW.size)).trans ((hW.cell (p:=⟨BC,1,aJ⟩) G).trans g1)));rw[hzd,HA.out]at h9;exact h9
   have aN4:(i:Int)<=v.c2:=by omega
   have aN5:i<=v.c2:=by omega
   have aJu:w.heap.size<w5.heap.size:=gI hsz aDI.size;rw[HA.out]at c6 HC1;clear hcall eg hzd k0;go_upto_region 9 with (first | (go_at_call 31;refine HC1.out.mono ?_;rintro ev w6 ⟨rfl,hb6⟩;have c6b:=(hb6.cell (p:=⟨w.heap.size,6,aJ⟩) aJu).trans c6) | (go_at_call 32;refine(HC2.out _ hb6).mono ?_;rintro ev w7 ⟨rfl,hb7⟩))
   have Ry:=gW hb6 hb7;have HN7:=gO (HN5.out.below Ry);have HM7:=gO (HM5.out.below Ry);have HB7:=gO (gW HB5.out Ry);have HY7:=gO (HY5.out.below Ry);have K7:=aAp K6 G Ry;have hs7:=gI G Ry.size;clear HC1 HC2 hb6 hb7 Ry c0 c1 c2 c3 c4 c5 c6 c6b g0 g1 g2 g3 g4 g5 HN5 HM5 HB5 HS5 HY5 K6 G aDI;have HK7:=gO K7;have k0:=K7 0;simp only[gB,gC,gD]at k0;have hn1:y.n1<=1000:=by rw[<- HY7.out.l1];exact hfy
   clear K7;go_wp2_with fail
   clear k0;obtain⟨wo,rfl⟩:∃wo,wo=w7:=⟨_,rfl⟩
   go_loopw [52] (λs52 wr=>∃(j k:Nat),j<=y.n1/\s52= .int .i64 (j:Int)/\k<=1000*i+j/\Hid (fQ wr prog 9 4 g.heap.size k (λx=>FM s i x∨∃n∈y.c.ns.take j,x= .string n))/\Hid (fQ wr prog 3 4 (g.heap.size+1) m (FN s i))/\Hid (∀o,wr.cell? ⟨BC,o,aJ⟩=(#[aA y.a1 y.n1 y.c1,.int .i64 (y.c.z:Int),.int .i64 (y.c.r:Int),.int .i64 (y.c.o:Int),aA y.a2 y.n2 y.c2,aA y.a3 y.n3 y.c3]:Array Value)[o]?)/\BC<wr.heap.size/\Hid (Below g.heap.size g wr)) (λs52 _=>y.n1-(intOf s52).toNat)
   case atStart=>exact⟨0,n,gU _,rfl,by omega,HN7.out.imp λx=>⟨.inl,λh=>h.resolve_right (by rintro⟨n,A,_⟩;simp at A)⟩,HM7,HK7,hs7,HB7⟩
   case round=>
    obtain⟨j,k,hj,rfl,hkn,VT,YK,BA,u,rM⟩:=hrel;have Oy:=K.out.trans (rM.out.mono U);have F:=(HS.out.below Oy).ca _ (gL D);rw[M.out]at F;by_cases hjl:j<y.n1
    ·have hji:(j:Int)<y.n1:=by omega
     have d:j<y.c.ns.length:=by rw[F.l1];exact hjl
     obtain⟨b1,o1,H,aA8,VU⟩:=aAw bF (by decide) F.r1 d;have n0:=qA VU;have J:nameB y.c.ns[j]=true:=C.nm _ (gL d);have hl8:y.c.ns[j].length<=8:=by
      unfold nameB at J;simp only[Bool.and_eq_true,decide_eq_true_eq]at J;exact J.1.2
     have b:¬(FM s i (.string y.c.ns[j])∨∃n∈y.c.ns.take j,(Lit.string y.c.ns[j])= .string n):=by
      rintro(⟨c,hc,n,A,e⟩ | ⟨n,A,e⟩)
      ·obtain⟨m,hm,e2⟩:=List.mem_take_iff_getElem.1 hc;have P:m<s.cs.length:=by omega
       have N:=gN.1 HK.out.nd m i P t (by omega);have e3:y.c=s.cs[i]:=by
        have R:=congrArg (·[i]?) HS.out.cy;simp[D,t]at R;rw[<- R,M.out]
       refine N n (by rw[e2];exact A) ?_;rw[<- e3];obtain rfl:y.c.ns[j]=n:=by simpa using e
       exact gL d
      ·obtain⟨m,hm,e2⟩:=List.mem_take_iff_getElem.1 A;have N:=gN.1 C.nr m j (by omega) d (by omega);obtain e3:y.c.ns[j]=n:=by simpa using e
       rw[e3,e2,XR]at N;cases N
     have HIM:Hid (∀x,(x=Lit.string y.c.ns[j]∨(FM s i x∨∃n∈y.c.ns.take j,x= .string n))↔(FM s i x∨∃n∈y.c.ns.take (j+1),x= .string n)):=λx=>by
      rw[List.take_succ_eq_append_getElem d];simp only[gZ,gTa];constructor
      ·rintro(h | h | ⟨n,A,h⟩)
       ·exact .inr ⟨_,.inr rfl,h⟩
       ·exact .inl h
       ·exact .inr ⟨n,.inl A,h⟩
      ·rintro(h | ⟨n,A | rfl,h⟩)
       ·exact .inr (.inl h)
       ·exact .inr (.inr ⟨n,A,h⟩)
       ·exact .inl h
     have X:Hid (∀W,Calls prog 34 #[.string ⟨y.c.ns[j].toArray⟩] W λev w'=>ev=aN (.bool true)/\Below W.heap.size W w'):=λW=>by
      have h:=NK y.c.ns[j] W (by omega);rw[J]at h;exact h
     have g0:=BA.out 0;simp only[gB,gC,gD]at g0;have wB:=gO b;by_cases hj0:0<j
     ·have hjp:j-1<y.c.ns.length:=by omega
      obtain⟨b2,o2,L,_,aF9⟩:=aAw bF (by decide) F.r1 hjp;have n1:=qA aF9;rw[H]at L;obtain⟨rfl,rfl⟩:b1=b2/\o1=o2:=by simpa using L
      have V:=gN.1 C.nr (j-1) j hjp d (by omega);have q1:=aAK V;have e1:((j-1:Nat):Int)=(j:Int)-1:=by omega
      generalize y.c.ns[j-1]=l1 at*;generalize y.c.ns[j]=l at*;rw[H]at g0 ⊢;clear VU aF9 L F b aA8 Oy;rw[Nat.mul_one]at n0 n1;have hj1:((j:Int)-1).toNat=j-1:=by omega
      have hj2:(0:Int)<=(j:Int)-1:=by omega
      have hj3:(j:Int)-1<y.n1:=by omega
      have hzj:(0:Int)<j:=by omega
      have aGa:=World.block_lt_of_cell? _ _ n1;clear J d hjp q1;go_upto_region 12 with fail
      go_upto_region 14 with (go_at_call 34;refine(X.out _).mono ?_;rintro ev w8 ⟨rfl,a⟩;have I:=ND (VT.out.below a) l (by omega) wB.out;unfold sV at I;have g8:=(a.cell (p:=⟨BC,0,aJ⟩) u).trans g0;have n8:=(a.cell (p:=⟨b1,o1+(j-1),aJ⟩) aGa).trans n1;have hge:=Vb w8 V)
      clear I g8 n8 g0 n0 n1 hge V;obtain⟨w9,hup,E,f⟩:=NG (VT.out.below a) (by omega) l (by omega);unfold sV at hup;have YL:=gO (E.imp HIM.out);have HM9:=gO ((YK.out.below a).kept f (by simp));have hs8:g.heap.size<=w8.heap.size:=gQ rM.out.size a.size;have Z:=gO (TG (aAp BA.out u a) f (gI u a.size) (by omega));have hs9:=gI (gI u a.size) f.size;have Y:=gO ((rM.out.trans (a.mono rM.out.size)).trans (sO f (gT _) hs8));clear f E VT YK BA rM a u;go_wp2
      go_roundw
      case rel=>exact⟨j+1,k+1,by omega,by go_num,by omega,YL,HM9,(by rw[H]at Z;exact Z),hs9,Y⟩
      case measure=>simp[intOf];omega
     ·obtain rfl:j=0:=by omega
      generalize y.c.ns[0]=l at*;rw[H]at g0 ⊢;simp only[Nat.zero_mul,Nat.add_zero]at n0;have aGa:=World.block_lt_of_cell? _ _ n0;clear VU F b aA8 Oy J d hj0;go_upto_region 12 with fail
      go_upto_region 14 with (go_at_call 34;refine(X.out _).mono ?_;rintro ev w8 ⟨rfl,a⟩;have I:=ND (VT.out.below a) l (by omega) wB.out;unfold sV at I;have g8:=(a.cell (p:=⟨BC,0,aJ⟩) u).trans g0)
      clear I g8 g0 n0;obtain⟨w9,hup,E,f⟩:=NG (VT.out.below a) (by omega) l (by omega);unfold sV at hup;have YL:=gO (E.imp HIM.out);have HM9:=gO ((YK.out.below a).kept f (by simp));have hs8:g.heap.size<=w8.heap.size:=gQ rM.out.size a.size;have Z:=gO (TG (aAp BA.out u a) f (gI u a.size) (by omega));have hs9:=gI (gI u a.size) f.size;have Y:=gO ((rM.out.trans (a.mono rM.out.size)).trans (sO f (gT _) hs8));clear f E VT YK BA rM a u;go_wp2
      go_roundw
      case rel=>exact⟨0+1,k+1,by omega,by go_num,by omega,YL,HM9,(by rw[H]at Z;exact Z),hs9,Y⟩
      case measure=>simp[intOf];omega
    ·obtain rfl:j=y.n1:=by omega
     have k4:=BA.out 4;simp only[gB,gC,gD]at k4;have hn2:y.n2<=256:=by rw[<- F.l2];exact C.mW HK.out.hk
     have HNa:Hid (fQ wr prog 9 4 g.heap.size k (FM s (i+1))):=VT.out.imp λx=>by
      rw[HSS.out x,M.out,gTf (by rw[F.l1];omega)]
     obtain⟨wn,rfl⟩:∃wn,wn=wr:=⟨_,rfl⟩
     clear Oy F VT hj hjl;go_wp2_with fail
     clear k4;go_loopw [85] (λs85 wr=>∃(j q:Nat),j<=y.n2/\s85= .int .i64 (j:Int)/\q<=256*i+j/\Hid (fQ wr prog 9 4 g.heap.size k (FM s (i+1)))/\Hid (fQ wr prog 3 4 (g.heap.size+1) q (λx=>FN s i x∨∃z∈y.c.sl.take j,x= .int .i64 (z.p:Int)))/\Hid (Below g.heap.size g wr)) (λs85 _=>y.n2-(intOf s85).toNat)
     case atStart=>exact⟨0,m,gU _,rfl,by omega,HNa,YK.out.imp λx=>⟨.inl,λh=>h.resolve_right (by rintro⟨n,A,_⟩;simp at A)⟩,rM⟩
     case round=>
      clear YK BA rM HNa;obtain⟨j,q,hj,rfl,hq,HNq,TU,qU⟩:=hrel;have Oy:=K.out.trans (qU.out.mono U);have F:=(HS.out.below Oy).ca _ (gL D);rw[M.out]at F;by_cases hjl:j<y.n2
      ·have hji:(j:Int)<y.n2:=by omega
       have d:j<y.c.sl.length:=by rw[F.l2];exact hjl
       obtain⟨b1,o1,H,aA8,VU⟩:=aAw aAv (by decide) F.r2 d;obtain⟨n0,n1,n2⟩:=fV VU;have hp:=(C.sk _ (gL d)).BM HK.out.hk;have e3:y.c=s.cs[i]:=by
        have R:=congrArg (·[i]?) HS.out.cy;simp[D,t]at R;rw[<- R,M.out]
       have b:¬(FN s i (.int .i64 (y.c.sl[j].p:Int))∨∃z∈y.c.sl.take j,(Lit.int .i64 (y.c.sl[j].p:Int))= .int .i64 (z.p:Int)):=by
        rintro(⟨c,hc,n,A,e⟩ | ⟨n,A,e⟩)
        ·obtain⟨m,hm,e2⟩:=List.mem_take_iff_getElem.1 hc;have P:m<s.cs.length:=by omega
         have N:=gN.1 HK.out.pd m i P t (by omega);refine N n (by rw[e2];exact A) y.c.sl[j] (by rw[<- e3];exact gL d) ?_;have e4:(y.c.sl[j].p:Int)=n.p:=by simpa using e
         omega
        ·obtain⟨m,hm,e2⟩:=List.mem_take_iff_getElem.1 A;have N:=gN.1 C.sr m j (by omega) d (by omega);have e4:(y.c.sl[j].p:Int)=n.p:=by simpa using e
         rw[e2]at N;omega
       have HIM:Hid (∀x,(x=Lit.int .i64 (y.c.sl[j].p:Int)∨(FN s i x∨∃z∈y.c.sl.take j,x= .int .i64 (z.p:Int)))↔(FN s i x∨∃z∈y.c.sl.take (j+1),x= .int .i64 (z.p:Int))):=λx=>by
        rw[List.take_succ_eq_append_getElem d];simp only[gZ,gTa];constructor
        ·rintro(h | h | ⟨n,A,h⟩)
         ·exact .inr ⟨_,.inr rfl,h⟩
         ·exact .inl h
         ·exact .inr ⟨n,.inl A,h⟩
        ·rintro(h | ⟨n,A | rfl,h⟩)
         ·exact .inr (.inl h)
         ·exact .inr (.inr ⟨n,A,h⟩)
         ·exact .inl h
       have wB:=gO b;generalize y.c.sl[j]=x at*;rw[H];clear VU b aA8 Oy F d e3;go_upto_region 19 with fail
       have a:=aAq wr (aO #[.int .i64 (x.p:Int),.int .i64 (x.n:Int),.int .i64 x.h] 99);have c0:=aQ wr #[.int .i64 (x.p:Int),.int .i64 (x.n:Int),.int .i64 x.h] 99 0;simp only[gB,gC,gD]at c0;have hss:wr.heap.size<(wr.alloc (aO #[.int .i64 (x.p:Int),.int .i64 (x.n:Int),.int .i64 x.h] 99)).heap.size:=by simp
       have aN6:=TU.out.lt;clear n0 n1 n2;generalize wr.alloc _=w8 at*;have I:=XT (TU.out.below a) x.p (by omega) wB.out;obtain⟨w9,hup,E,f⟩:=XU (TU.out.below a) (by omega) x.p (by omega);have YL:=gO (E.imp HIM.out);have HN9:=gO ((HNq.out.below a).kept f (by simp));have Y:=gO ((qU.out.trans (a.mono qU.out.size)).trans (sO f (Nat.le_succ _) (gQ qU.out.size a.size)));clear f E HNq TU qU a;go_wp2
       go_roundw
       case rel=>exact⟨j+1,q+1,by omega,by go_num,by omega,HN9,YL,Y⟩
       case measure=>simp[intOf];omega
      ·obtain rfl:j=y.n2:=by omega
       have HPa:Hid (fQ wr prog 3 4 (g.heap.size+1) q (FN s (i+1))):=TU.out.imp λx=>by
        rw[HPP.out x,M.out,gTf (by rw[F.l2];omega)]
       clear F Oy;go_wp2
       go_roundw
       case rel=>exact⟨i+1,k,q,by omega,by go_num,by omega,by omega,HNq,HPa,qU⟩
       case measure=>simp[intOf];omega
  ·obtain rfl:i=v.ys.length:=by omega
   have HBE:=gO (gW HB.out (gW K.out nM.out));go_wp2
   go_ret
   exact⟨rfl,HBE.out⟩
end Go.Proofs.YtjaogfhcnmjkiaaGreatDoor
