/- joined. -/
import Derived.Test.YtcmpmobhongkiaaGreatDoorRK0
import Derived.Test.YtcmpmobhongkiaaGreatDoorRK13
import Derived.Test.YtcmpmobhongkiaaGreatDoorRK23
import Derived.Test.YtcmpmobhongkiaaGreatDoorRK3
import Derived.Test.YtcmpmobhongkiaaGreatDoorRK7
set_option linter.unusedVariables false
set_option linter.unusedSimpArgs false
namespace Go.Proofs.YtcmpmobhongkiaaGreatDoor
section
open Go.RowKit
set_option maxHeartbeats 8000000 in
set_option maxRecDepth 100000 in
theorem KO (G:Nat)(X:Nat->Prop)(h:Hp)(c:Hc)(w:World)(hs:HS w G X h c)(hk:dZ h):
 Calls Tryz.prog 94 #[.pointer (some ⟨G,0,none⟩)] w fun ev w'=>ev= .returned (.tuple #[])/\(∃c',HS w' G X h.drain c')/\Safe X w w':=by
 have HS0:=gO hs;have HK:=gO hk;have QA:=gO (zX hs.r);have OH:=hk.oW;have hc24:c.lc.length<=24:=by rw[QA.out];exact OH
 obtain⟨k0,k1,k2,k3,k4⟩:=hs.words;have Ik:=hs.r.gs;clear hs hk;go_enter Tryz.func94,Tryz.ntmps94
 go_wp2_with fail
 clear k0 k1 k2 k3 k4;obtain⟨n,hn⟩:∃n,c.lc.length=n:=⟨_,rfl⟩
 have HN:=gO hn;obtain⟨A,hA⟩:∃A,c.al=A:=⟨_,rfl⟩
 have HA:=gO hA;rw[hn]at hc24 ⊢;rw[hA];clear hn hA;go_loopw [11] (fun s11 wr=>∃(i:Nat) (y0 y1:Zc),i<=n/\s11= .int .i64 (i:Int)/\Hid (HS wr G X (bW h (h.ls.take i)) {c with y0:=y0,y1:=y1})/\Hid (Safe X w wr)) (fun s11 _=>n-(intOf s11).toNat)
 case atStart=>exact⟨0,c.y0,c.y1,Nat.zero_le _,rfl,HS0,Safe.refl _ _⟩
 case round=>
  obtain⟨i,y0,y1,hi,rfl,lM,zZ⟩:=hrel;clear HS0;have hGr:G<wr.heap.size:=lM.out.r.gs;by_cases hlt:i<n
  ·have hlt2:(i:Int)<n:=by omega
   have hi1:i<c.lc.length:=by rw[HN.out];exact hlt
   have hi2:i<h.ls.length:=by rw[<- QA.out];exact hi1
   obtain⟨gl,hgl,zY,aA5,aA6,Ip⟩:=lM.out.r.sJ (show 0<c.lc.length by omega);obtain⟨x0,x1,x2,x3⟩:=lM.out.r.xB hgl hi1;have h7:c.lc[i].l=h.ls[i]:=by
    have h8:=Io lM.out.r hi1 (by rw[(Dj h _).1];exact hi2);simp only[(Dj h _).1]at h8;exact h8
   have EG:c.al=some ⟨gl,0,none⟩:=hgl;have x0':wr.cell? ⟨gl,i*4,none⟩=some (.int .i64 (c.lc[i].l.c:Int)):=x0;have x1':wr.cell? ⟨gl,i*4+1,none⟩=some (.int .i64 (c.lc[i].l.z:Int)):=x1;have x2':wr.cell? ⟨gl,i*4+2,none⟩=some (.int .i64 (c.lc[i].l.t:Int)):=x2;have x3':wr.cell? ⟨gl,i*4+3,none⟩=some (.slice c.lc[i].a c.lc[i].n c.lc[i].c):=x3;clear x0 x1 x2 x3 hgl Ip;have hrm:c.lc[i]∈c.lc:=gL hi1;have HOWN:=lM.out.r.kR _ hrm;have hlen:=wZ HOWN;have hok:=HK.out.lr _ (gL hi2);have h88:=hok.2.2.2.2.1;have hpos:=hok.2.2.2.1;have aDf:Hid (∀j (hj:j<h.ls[i].p.length),_):=fun j hj=>Bd HK.out hi2 hj
   have HNX:=gO (KN h h.ls hi2);rw[h7]at hlen;have HOWN':Hid ((jZ c.lc[i]).on wr 0):=HOWN;have H7:=gO h7;obtain rfl:A=some ⟨gl,0,none⟩:=HA.out.symm.trans EG;have HRM:=gO hrm;clear HOWN h7 hok hrm;obtain⟨r,hr⟩:∃r,c.lc[i]=r:=⟨_,rfl⟩
   simp only[hr]at x0' x1' x2' x3' hlen HOWN' H7 HRM;obtain⟨pb,kZ,hpa,_,_⟩:=aN bQ (by decide) (aY HOWN'.out) (j:=0) (by show 0<r.l.p.length;rw[H7.out];omega);rw[hpa]at x3';have HPA:=gO hpa;clear hr hpa EG;go_wp2_with fail
   have hbw:=aF wr (.cells #[.int .i64 (r.l.c:Int),.int .i64 (r.l.z:Int),.int .i64 (r.l.t:Int),.slice (some ⟨pb,kZ,none⟩) r.n r.c] 207);have HS5:=gO (lM.out.below hbw);have SF5:=gO (zZ.out.then hbw);obtain⟨we,rfl⟩:∃we,we=wr:=⟨_,rfl⟩
   clear hbw lM zZ x0' x1' x2' x3' hGr zY;generalize we.alloc _=w5 at*;go_loopw [18] (fun s18 wq=>∃(j:Nat) (z0 z1:Zc),j<=r.n/\s18= .int .i64 (j:Int)/\Hid (HS wq G X (aU (bW h (h.ls.take i)) (h.ls[i].p.take j)) {c with y0:=z0,y1:=z1})/\Hid (Safe X w wq)) (fun s18 _=>r.n-(intOf s18).toNat)
   case atStart=>exact⟨0,y0,y1,Nat.zero_le _,rfl,HS5,SF5⟩
   case round=>
    obtain⟨j,z0,z1,hj,rfl,Kz,SFq⟩:=hrel;clear HS5 SF5;by_cases hjl:j<r.n
    ·have aAX:(j:Int)<r.n:=by omega
     have hjp:j<h.ls[i].p.length:=by omega
     have hjr:j<r.l.p.length:=by rw[H7.out];exact hjp
     obtain⟨pb',Df,hp9,hpb,hpc⟩:=aN bQ (by decide) (aY (Kz.out.r.kR r HRM.out)) (j:=j) hjr;obtain⟨rfl,rfl⟩:pb=pb'/\kZ=Df:=by
      rw[HPA.out]at hp9;simpa using hp9
     have Dh:=iJ hpc;rw[Nat.mul_one]at Dh;obtain⟨P,hP⟩:∃P,r.l.p[j]=P:=⟨_,rfl⟩
     have hP2:h.ls[i].p[j]=P:=by rw[<- hP];simp only[H7.out]
     obtain⟨g1,g2,g3⟩:=Bd HK.out hi2 hjp;have ZN:=gO (yP (bW h (h.ls.take i)) h.ls[i].p hjp);rw[hP2]at g1 g2 g3 ZN;rw[hP]at Dh;have G1:=gO g1;have G2:=gO g2;have G3:=gO g3;clear hpc hP hP2 g1 g2 g3 hp9;go_wp2_with fail
     refine(Di G P 0 X _ _ wr Kz.out G1.out G2.out G3.out).mono ?_;rintro ev w6 ⟨rfl,⟨u0,u1,hs6⟩,sf6⟩;rw[<- ZN.out]at hs6;have HS6:=gO hs6;have SF6:=gO (SFq.out.trans sf6);clear hs6 sf6 Dh;go_wp2
     go_roundw
     case rel=>exact⟨j+1,u0,u1,by omega,by go_num,HS6,SF6⟩
     case measure=>simp[intOf];omega
    ·obtain rfl:j=r.n:=by omega
     have HS6:Hid (HS wr G X (bW h (h.ls.take (i+1))) {c with y0:=z0,y1:=z1}):=by
      unfold Hid;rw[HNX.out];have h1:=Kz.out;rw[List.take_of_length_le (show h.ls[i].p.length<=r.n by omega)]at h1;exact h1
     go_wp2
     go_roundw
     case rel=>exact⟨i+1,z0,z1,by omega,by go_num,HS6,SFq⟩
     case measure=>simp[intOf];omega
  ·obtain rfl:i=n:=by omega
   obtain⟨hs6,sf6⟩:=lM.out.lists (World.grownBy.refl wr _) (al':=none) (cl':=0) (sH:=[]) ⟨rfl,.inl ⟨rfl,rfl⟩⟩ (fun k hk=>by cases hk) (dJ.nil _ _) (fun r hr=>by cases hr);have e:({bW h (h.ls.take i)with ls:=([]:List Lc).map Lc.l}:Hp)=h.drain:=by
    rw[List.take_of_length_le (by rw[<- QA.out,HN.out];exact Nat.le_refl _)];rfl
   rw[e]at hs6;have HS6:Hid (HS (wr.setCell ⟨G,3,none⟩ (.slice none 0 0)) G X h.drain _):=hs6;have SF6:Hid (Safe X w (wr.setCell ⟨G,3,none⟩ (.slice none 0 0))):=zZ.out.trans sf6;obtain⟨k0,k1,k2,k3,k4⟩:=lM.out.words;have kf:=lM.out.fz 3;clear hs6 sf6 e;go_wp2
   refine bodyPost_end (v:= .tuple #[]) (by simp[results,Tryz.results94,go_sem]) rfl ⟨rfl,⟨_,HS6.out⟩,SF6.out⟩
end
section
open Go.RowKit
section
variable {W Wm Wv:World}{kQ bm bv g:Nat}{am av:Option Addr}{cm cv:Nat}{m:List Nat}{v:List Bk}{aC:Nat}
theorem aA9 (hm:Wm.ownsRow bm 3 1 (.slice am m.length cm) m.length (flat gV m))(hv:Wv.ownsRow bv 63 3 (.slice av v.length cv) v.length (flat aO v))(h1:kQ<=bm)(h2:kQ<=bv)(hbm:Below Wm.heap.size Wm W)(hbv:Below Wv.heap.size Wv W)(hd:Wm.heap.size<=bv∨Wv.heap.size<=bm)(hbs:kQ<=W.heap.size):
 CZ (W.alloc (.cells #[.slice none 0 0,.slice am m.length cm,.int .i64 (aC:Int),.slice none 0 0,.slice av v.length cv] 44)) kQ W.heap.size [] none 0 am cm m av cv v aC:=by
 have hm1:=own_below (own_below hm hbm (Nat.le_refl _)) (aF W (.cells #[.slice none 0 0,.slice am m.length cm,.int .i64 (aC:Int),.slice none 0 0,.slice av v.length cv] 44)) (Nat.le_refl _);have hv1:=own_below (own_below hv hbv (Nat.le_refl _)) (aF W (.cells #[.slice none 0 0,.slice am m.length cm,.int .i64 (aC:Int),.slice none 0 0,.slice av v.length cv] 44)) (Nat.le_refl _);have e0:∀(r:Rs),(Jk none 0 []).off r:=fun r k h=>by cases h
 exact⟨⟨rfl,.inl ⟨rfl,rfl⟩⟩,own_base hv1 h2,own_base hm1 h1,fun y hy=>(by simp at hy),e0 _,e0 _,fun y hy=>(by simp at hy),fun k h3 h4=>by
  have g1:=hm.lt k h4;have g2:=hv.lt k h3;omega,fun y hy=>(by simp at hy),fun e=>(by cases e),fun e=>by have:=(hv.lt _ e).2;have:=hbv.size;omega,fun e=>by have:=(hm.lt _ e).2;have:=hbm.size;omega,fun y hy=>(by simp at hy),⟨hbs,by simp⟩,aW _ _ _,eY _ _ _⟩
theorem VG (hm:Wm.ownsRow bm 3 1 (.slice am m.length cm) m.length (flat gV m))(hv:Wv.ownsRow bv 63 3 (.slice av v.length cv) v.length (flat aO v))(h1:kQ<=bm)(h2:kQ<=bv)(hbm:Below Wm.heap.size Wm W)(hbv:Below Wv.heap.size Wv W)(hd:Wm.heap.size<=bv∨Wv.heap.size<=bm)
 (hk:∀o,W.cell? ⟨g,o,none⟩=(#[.slice none 0 0,.slice none 0 0,.int .i64 0,.slice none 0 0,.slice none 0 0]:Array Value)[o]?) (hf:∀o,W.frozen? ⟨g,o,none⟩=false) (hg:kQ<=g/\g<W.heap.size) (hgm:g<bm∨Wm.heap.size<=g) (hgv:g<bv∨Wv.heap.size<=g):
 CZ (((((W.setCell ⟨g,0,none⟩ (.slice none 0 0)).setCell ⟨g,1,none⟩ (.slice am m.length cm)).setCell ⟨g,2,none⟩ (.int .i64 (aC:Int))).setCell ⟨g,3,none⟩ (.slice none 0 0)).setCell ⟨g,4,none⟩ (.slice av v.length cv)) kQ g [] none 0 am cm m av cv v aC:=by
 have nm:=own_ne hm hgm;have nv:=own_ne hv hgv;have s5:∀{b:Nat} {e:TypeId} {size:Nat} {x:Value} {n:Nat} {xs:List Value},W.ownsRow b e size x n xs->x.ownBlock≠some g->(((((W.setCell ⟨g,0,none⟩ (.slice none 0 0)).setCell ⟨g,1,none⟩ (.slice am m.length cm)).setCell ⟨g,2,none⟩ (.int .i64 (aC:Int))).setCell ⟨g,3,none⟩ (.slice none 0 0)).setCell ⟨g,4,none⟩ (.slice av v.length cv)).ownsRow b e size x n xs:=fun h hn=>
  bI (bI (bI (bI (bI h hn _) hn _) hn _) hn _) hn _
 have hm1:=s5 (own_below hm hbm (Nat.le_refl _)) nm;have hv1:=s5 (own_below hv hbv (Nat.le_refl _)) nv;have e0:∀(r:Rs),(Jk none 0 []).off r:=fun r k h=>by cases h
 exact⟨⟨rfl,.inl ⟨rfl,rfl⟩⟩,own_base hv1 h2,own_base hm1 h1,fun y hy=>(by simp at hy),e0 _,e0 _,fun y hy=>(by simp at hy),fun k h3 h4=>by
  have g1:=hm.lt k h4;have g2:=hv.lt k h3;omega,fun y hy=>(by simp at hy),fun e=>(by cases e),nv,nm,fun y hy=>(by simp at hy),⟨hg.1,by simpa using hg.2⟩,aI (aI (aI (aI (aI hk 0 _) 1 _) 2 _) 3 _) 4 _,aG (aG (aG (aG (aG hf _ _) _ _) _ _) _ _) _ _⟩
end
theorem VH {W W0:World}{G:Nat}{X:Nat->Prop}{h:Hp}{c:Hc}{r:Lc}(hs:HR W G X h c)(ho:W.ownsRow W0.heap.size 3 1 (.slice r.a r.n r.c) r.n (flat gV r.l.p))(h0:HR W0 G X h c):dJ W 0 ((c.lc++[r]).map jZ):=by
 have h1:dJ W 0 (c.lc.map jZ):=hs.own.sub (by unfold Hc.rows;exact((List.sublist_cons_self _ _).trans (List.sublist_cons_self _ _)).trans (List.sublist_cons_self _ _));have h2:dJ W 0 (jZ r::c.lc.map jZ):=h1.cons (r':=jZ r) (bs:=W0.heap.size) ho (Nat.zero_le _) fun s hs' g hg=>by
  have h3:=h0.own.lt s (lX hs') g hg;exact h3.2
 refine h2.perm ?_;rw[List.map_append];exact(List.perm_append_singleton _ _).symm
theorem OJ {W W' W0:World}{G:Nat}{X:Nat->Prop}{h:Hp}{c:Hc}{r:Lc}(ho:W.ownsRow W0.heap.size 3 1 (.slice r.a r.n r.c) r.n (flat gV r.l.p))(h0:HR W0 G X h c):∀s∈(c.lc++[r]).map jZ,∀g,s.v.ownBlock=some g->(∃r0∈c.lc.map jZ,r0.v.ownBlock=some g)∨JX W' G X h c g:=fun s hs g hg=>by
 rw[List.map_append,List.mem_append]at hs;rcases hs with hs | hs
 ·exact .inl ⟨s,hs,hg⟩
 ·obtain rfl:s=jZ r:=by simpa using hs
  exact .inr (h0.fresh (ho.lt g hg).1)
theorem Yv {W:World}{G:Nat}{X:Nat->Prop}{h:Hp}{c:Hc}{B:Nat}(hs:HR W G X h c)(hx:∀k,k<B->X k):∀k,(qM c).v.ownBlock=some k->B<=k:=fun k hk=>by
 rcases Nat.lt_or_ge k B with h1 | h1
 ·exact absurd (hx k h1) (hs.og _ (iO c h) k hk).2
 ·exact h1
theorem Yw:(Tryz.prog.info? 102).map (fun i=>(i.zero,i.size,i.bytes))=some (some (.agg #[.int .i64 0,.int .i64 0,.slice none 0 0,.slice none 0 0]),4,64):=by kernel_rfl
theorem VI {h:Hp}(hk:dZ h)(i:Nat):(h.zone i).l.length<=256/\(h.zone i).y.length<=256:=by
 have hz:=hk.zone i;have h1:=rQ.length_le hz.2 (fun b hb=>(hz.2.fit b hb).1.2.2.1);have h2:=hz.1.e2;have h3:=hz.1.len;omega
set_option maxHeartbeats 8000000 in
set_option maxRecDepth 100000 in
theorem yQ (az am al av:Option Addr)(cz cm cl cv nl nv:Nat)(y0 y1:Zc)(lc:List Lc)(h:Hp)(w:World)(hh:HAt w az am al av nl nv y0 y1 lc h)(hk:dZ h)(OB:nv<=1000):
 Calls Tryz.prog 86 #[.agg #[.slice az 2 cz,.slice am 2 cm,.int .i64 h.aC,.slice al nl cl,.slice av nv cv]] w fun ev w'=>∃(g:Nat) (c':Hc),ev= .returned (.agg (c'.vals h))/\HS w' g (fun k=>k<w.heap.size) h c'/\w.heap.size<=g/\Below w.heap.size w w':=by
 obtain rfl:=hh.nv;obtain⟨K1,K2,F1,F2,hsz,hbw⟩:=boxes2 w #[.slice az 2 cz,.slice am 2 cm,.int .i64 (h.aC:Int),.slice al nl cl,.slice av h.live.length cv] 44 #[.slice none 0 0,.slice none 0 0,.int .i64 0,.slice none 0 0,.slice none 0 0] 44;have HH:=gO hh;have HK:=gO hk;have HB1:=gO hbw;clear hh hk;have aDg:((w.alloc (.cells #[.slice az 2 cz,.slice am 2 cm,.int .i64 (h.aC:Int),.slice al nl cl,.slice av h.live.length cv] 44)).alloc (.cells #[.slice none 0 0,.slice none 0 0,.int .i64 0,.slice none 0 0,.slice none 0 0] 44)).heap.size=w.heap.size+2:=by simp
 have aDh:=gO aDg;clear aDg;go_enter Tryz.func86,Tryz.ntmps86
 go_upto_region 1 with fail
 generalize (w.alloc _).alloc _=w1 at*;have q1:=(HH.out.below HB1.out).mr;have q2:=(HH.out.below HB1.out).vr;have LK0:∀W,Below w1.heap.size w1 W->∀o,W.cell? ⟨w.heap.size,o,none⟩=(#[.slice az 2 cz,.slice am 2 cm,.int .i64 (h.aC:Int),.slice al nl cl,.slice av h.live.length cv]:Array Value)[o]? :=fun W h o=>aB K1 (by omega) h o
 go_cut [3] (fun s3 wx=>∃(g:Nat) (SY rO:Option Addr) (Tc cv':Nat),s3= .pointer (some ⟨g,0,none⟩)/\Hid (CZ wx w1.heap.size g [] none 0 SY Tc [h.m0,h.m1] rO cv' h.live h.aC)/\Hid (Below w1.heap.size w1 wx))
 case first=>
  go_region_held3 (fun W=>Below w1.heap.size w1 W) ((repeat (first | with_reducible assumption | with_reducible exact Below.refl _ _ | with_reducible refine Below.setCell ?_ ?_ _ | with_reducible apply Below.drew | with_reducible refine Below.step ?_ (aF _ _) | with_reducible refine Below.step ?_ (by with_reducible assumption) | (simp only;omega)))) (first | (go_at_call 85;refine(He _ 2 _ [h.m0,h.m1] _ rfl (by decide) (q1.below (by assumption))).mono ?_;rintro e wm ⟨SY,Tc,rfl,BF,hbm⟩;(try ((have hx:Below ((w1.alloc (.cells (#[.slice none 0 0,.slice none 0 0,.int .i64 0,.slice none 0 0,.slice none 0 0]:Array Value) 44)).drew).heap.size ((w1.alloc (.cells (#[.slice none 0 0,.slice none 0 0,.int .i64 0,.slice none 0 0,.slice none 0 0]:Array Value) 44)).drew) wm:=by with_reducible exact hbm);have KA:=aB (w1:=(w1.alloc (.cells (#[.slice none 0 0,.slice none 0 0,.int .i64 0,.slice none 0 0,.slice none 0 0]:Array Value) 44)).drew) (vs:=#[.slice none 0 0,.slice none 0 0,.int .i64 0,.slice none 0 0,.slice none 0 0]) (fun o=>aW w1 #[.slice none 0 0,.slice none 0 0,.int .i64 0,.slice none 0 0,.slice none 0 0] 44 o) (show w1.heap.size<((w1.alloc (.cells (#[.slice none 0 0,.slice none 0 0,.int .i64 0,.slice none 0 0,.slice none 0 0]:Array Value) 44)).drew).heap.size by simp) hx;have FA:=aH (w1:=(w1.alloc (.cells (#[.slice none 0 0,.slice none 0 0,.int .i64 0,.slice none 0 0,.slice none 0 0]:Array Value) 44)).drew) (fun o=>eY w1 #[.slice none 0 0,.slice none 0 0,.int .i64 0,.slice none 0 0,.slice none 0 0] 44 o) (show w1.heap.size<((w1.alloc (.cells (#[.slice none 0 0,.slice none 0 0,.int .i64 0,.slice none 0 0,.slice none 0 0]:Array Value) 44)).drew).heap.size by simp) hx;have SA:w1.heap.size<wm.heap.size:=gI (show w1.heap.size<((w1.alloc (.cells (#[.slice none 0 0,.slice none 0 0,.int .i64 0,.slice none 0 0,.slice none 0 0]:Array Value) 44)).drew).heap.size by simp) hx.size));(first | have SM:w1.heap.size<=wm.heap.size:=gR SA | have SM:w1.heap.size<=wm.heap.size:=hbm.size)) | (go_at_call 132;refine(Qk _ _ _ h.live _ rfl (by omega) (q2.below (by assumption))).mono ?_;rintro e wv ⟨rO,cv',rfl,hov,hbv⟩;(try first | (have KB:=aB KA SA hbv;have FB:=aH FA SA hbv) | ((have hx:Below (wm.alloc (.cells (#[.slice none 0 0,.slice none 0 0,.int .i64 0,.slice none 0 0,.slice none 0 0]:Array Value) 44)).heap.size (wm.alloc (.cells (#[.slice none 0 0,.slice none 0 0,.int .i64 0,.slice none 0 0,.slice none 0 0]:Array Value) 44)) wv:=by with_reducible exact hbv);have KB:=aB (w1:=wm.alloc (.cells (#[.slice none 0 0,.slice none 0 0,.int .i64 0,.slice none 0 0,.slice none 0 0]:Array Value) 44)) (vs:=#[.slice none 0 0,.slice none 0 0,.int .i64 0,.slice none 0 0,.slice none 0 0]) (fun o=>aW wm #[.slice none 0 0,.slice none 0 0,.int .i64 0,.slice none 0 0,.slice none 0 0] 44 o) (show wm.heap.size<(wm.alloc (.cells (#[.slice none 0 0,.slice none 0 0,.int .i64 0,.slice none 0 0,.slice none 0 0]:Array Value) 44)).heap.size by simp) hx;have FB:=aH (w1:=wm.alloc (.cells (#[.slice none 0 0,.slice none 0 0,.int .i64 0,.slice none 0 0,.slice none 0 0]:Array Value) 44)) (fun o=>eY wm #[.slice none 0 0,.slice none 0 0,.int .i64 0,.slice none 0 0,.slice none 0 0] 44 o) (show wm.heap.size<(wm.alloc (.cells (#[.slice none 0 0,.slice none 0 0,.int .i64 0,.slice none 0 0,.slice none 0 0]:Array Value) 44)).heap.size by simp) hx))))
  all_goals (go_wp2_with fail;go_meet)
  ·exact⟨wv.heap.size,SY,rO,Tc,cv',rfl,aA9 (m:=[h.m0,h.m1]) BF hov (Nat.le_refl _) SM hbv (Below.refl _ _) (.inl (Nat.le_refl _)) (gQ SM hbv.size),by assumption⟩
  ·have hs:=hbv.size;simp at hs;exact⟨wm.heap.size,SY,rO,Tc,cv',rfl,VG (m:=[h.m0,h.m1]) BF hov (Nat.le_refl _) (by simp;omega) (Below.step (aF _ _) hbv) (Below.refl _ _) (.inl (by simp)) KB FB ⟨SM,by omega⟩ (.inr (Nat.le_refl _)) (.inl (by simp)),by assumption⟩
  ·have hs:=hbv.size;exact⟨w1.heap.size,SY,rO,Tc,cv',rfl,VG (m:=[h.m0,h.m1]) BF hov (by simp) SM hbv (Below.refl _ _) (.inl (Nat.le_refl _)) KB FB ⟨Nat.le_refl _,by omega⟩ (.inl (by simp)) (.inl SA),by assumption⟩
 case rest=>
  obtain⟨g,SY,rO,Tc,cv',rfl,HCZ,jF⟩:=hcut;clear q1 q2;have K2h:=gO K2;have F2h:=gO F2;have k0:=LK0 wc jF.out 0;have LKH:=gO LK0;simp only[gB,gC]at k0;clear LK0 K1 K2 F1 F2 hbw;obtain⟨qb,qo,ha1,_,_⟩:=aN iF (by decide) HH.out.zr (j:=0) (by simp);obtain rfl:=ha1;have aF0:=jF.out.size;have hBw:w.heap.size<wc.heap.size:=by omega
  go_wp2_with fail
  go_loopw [20] (fun s20 wr=>∃(i:Nat) (zs:List Zc) (az':Option Addr) (cz':Nat),i<=2/\s20= .int .i64 (i:Int)/\zs.length=i/\Hid (∀j (hj:j<zs.length),zs[j].z=h.zone j)/\Hid (CZ wr w1.heap.size g zs az' cz' SY Tc [h.m0,h.m1] rO cv' h.live h.aC)/\Hid (Below w1.heap.size w1 wr)) (fun s20 _=>2-(intOf s20).toNat)
  case atStart=>exact⟨0,[],none,0,Nat.zero_le _,rfl,rfl,fun j hj=>(by simp at hj),HCZ,jF⟩
  case round=>
   obtain⟨i,zs,az',cz',hi,rfl,hzl,HZE,HC,HB⟩:=hrel;clear HCZ jF k0;by_cases hlt:i<2
   ·subst hzl;have hlt2:((zs.length:Nat):Int)<2:=by omega
    obtain⟨y,hyz,hya,hrow⟩:∃y:Zc,y.z=h.zone zs.length/\Hf wr y.a1 y.a2 y.n1 y.n2 (h.zone zs.length)/\(wr.cell? ⟨qb,qo+zs.length*4,none⟩=some (.int .i64 (h.zone zs.length).f)/\wr.cell? ⟨qb,qo+zs.length*4+1,none⟩=some (.int .i64 (h.zone zs.length).e)/\wr.cell? ⟨qb,qo+zs.length*4+2,none⟩=some (.slice y.a1 y.n1 y.c1)/\wr.cell? ⟨qb,qo+zs.length*4+3,none⟩=some (.slice y.a2 y.n2 y.c2)):=by
     have hA:=HH.out.below (Below.trans HB1.out (HB.out.mono (HB1.out.size)));obtain⟨b1,o1,h1,h2,h3⟩:=aN iF (by decide) hA.zr (j:=zs.length) (by simp;omega);obtain⟨rfl,rfl⟩:qb=b1/\qo=o1:=by simpa using h1
     have h4:=lI h3;obtain h5 | h5:zs.length=0∨zs.length=1:=by omega
     ·refine⟨y0,?_,?_,?_⟩
      ·rw[h5];exact hA.e0
      ·rw[h5];exact hA.t0
      ·have e:[y0,y1][zs.length]'(by simp;omega)=y0:=by simp[h5]
       have e2:h.zone zs.length=h.z0:=by rw[h5];rfl
       rw[e,hA.e0]at h4;rw[e2];exact h4
     ·refine⟨y1,?_,?_,?_⟩
      ·rw[h5];exact hA.e1
      ·rw[h5];exact hA.t1
      ·have e:[y0,y1][zs.length]'(by simp;omega)=y1:=by simp[h5]
       have e2:h.zone zs.length=h.z1:=by rw[h5];rfl
       rw[e,hA.e1]at h4;rw[e2];exact h4
    obtain⟨z0,z1,z2,z3⟩:=hrow;have aF1:=VI HK.out zs.length;have HAT:=gO hya;have Ud:qb<wr.heap.size:=World.block_lt_of_cell? _ _ z0;have hnn:=hya.l1;have aF2:=hya.l2;have hL1:y.n1<=1000:=by omega
    have hL2:y.n2<=1000:=by omega
    obtain⟨z,hz⟩:∃z,h.zone zs.length=z:=⟨_,rfl⟩
    rw[hz]at z0 z1 HAT;have HZ:=gO hz;clear hya hz hyz hnn aF2 aF1;go_wp2_with fail
    obtain⟨E1,EF1,Ii,sN⟩:=boxes1 wr #[.int .i64 (z.f:Int),.int .i64 (z.e:Int),.slice y.a1 y.n1 y.c1,.slice y.a2 y.n2 y.c2] 102;have e0:=E1 0;have e1:=E1 1;have e2:=E1 2;have e3:=E1 3;simp only[gB,gC,gD]at e0 e1 e2 e3;have HC5:=gO (HC.out.below sN);have HB5:=gO (Below.step HB.out sN);have HAT5:=gO (HAT.out.below sN);clear E1 EF1 sN z0 z1 z2 z3 HC HB HAT;generalize wr.alloc _=w5 at*;have g0:=HC5.out.k 0;have aKf:=HC5.out.gs.2;simp only[gB,gC]at g0;have VJ:=gO (HC5.out.below ((Below.refl w5.heap.size w5).drew));have ZO:=gO (HAT5.out.below ((Below.refl w5.heap.size w5).drew));have aDi:=gO HB5.out.drew;obtain⟨ti,hti,htz,hts,htb⟩:=info_parts Yw;go_region_law (first | (refine step_append_lies _ rfl _ _ 40 rfl w1.heap.size 102 ti (.agg #[.int .i64 0,.int .i64 0,.slice none 0 0,.slice none 0 0]) 4 64 Tryz.underlying40 hti htz hts htb rfl (by decide) (.slice az' zs.length cz') zs.length (flat mF zs) rfl hc8.out.oz ⟨w6.heap.size,0,none⟩ 1 1 [.int .i64 (z.f:Int),.int .i64 (z.e:Int),.slice a1' y.n1 c1',.slice a2' y.n2 c2'] rfl rfl hnw.out (by simp[Value.oneCell']) (by decide) (by unfold maxLen;omega) (by omega) aDj _ rfl ?_;intro g7 cap7 w7 ho7 hg7 hl7 VK;have q7:=(bT hc8.out.k hc8.out.gs.2 hg7 (fun e=>hc8.out.gz e.symm) 0).trans (show _=some (.slice az' zs.length cz')from rfl);have f7:=bU hc8.out.fz hc8.out.gs.2 hg7 (fun e=>hc8.out.gz e.symm) 0) | (go_simp;go_at_call 133;refine(BH y.a1 y.a2 y.n1 y.n2 y.c1 y.c2 z.f z.e z _ ZO.out hL1 hL2).mono ?_;rintro ev w6 ⟨a1',a2',c1',c2',rfl,hz6,hb6⟩;have hc6:=VJ.out.below hb6;have hg6:=hc6.gs.2;have q6':=(hc6.k 0).trans (show _=some (.slice az' zs.length cz')from rfl);have hc8:=gO (hc6.below (aF w6 (.cells #[.int .i64 (z.f:Int),.int .i64 (z.e:Int),.slice a1' y.n1 c1',.slice a2' y.n2 c2'] 102)));have hnw:=gO (World.news_of_block (heap_alloc_new w6 (.cells #[.int .i64 (z.f:Int),.int .i64 (z.e:Int),.slice a1' y.n1 c1',.slice a2' y.n2 c2'] 102)));have HB6:=gO (Below.step aDi.out hb6);have aDj:w1.heap.size<=(w6.alloc (.cells #[.int .i64 (z.f:Int),.int .i64 (z.e:Int),.slice a1' y.n1 c1',.slice a2' y.n2 c2'] 102)).heap.size:=gQ HB6.out.size (aF w6 _).size;clear hc6))
    all_goals
     have hba:=aF w6 (.cells #[.int .i64 (z.f:Int),.int .i64 (z.e:Int),.slice a1' y.n1 c1',.slice a2' y.n2 c2'] 102);have ho8:w7.ownsRow w1.heap.size 102 4 (.slice (some ⟨g7,0,none⟩) (zs.length+1) cap7) (zs.length+1) (flat mF (zs++[⟨z,a1',a2',y.n1,y.n2,c1',c2'⟩])):=by
      rw[aT,gX];exact ho7
     have C9:=gO (VJ.out.add (Below.step hb6 hba) (hz6.below hba) ho8 hg7 hl7);have HB9:=gO (Below.setCell (Below.grown (Below.step HB6.out hba) hg7 aDj (fun k hk=>(VJ.out.oz.lt k hk).1)) (show w1.heap.size<=(⟨g,0,none⟩:Addr).block from VJ.out.gs.1) (.slice (some ⟨g7,0,none⟩) (zs.length+1) cap7));have HZ9:Hid (∀j (hj:j<(zs++[(⟨z,a1',a2',y.n1,y.n2,c1',c2'⟩:Zc)]).length),(zs++[(⟨z,a1',a2',y.n1,y.n2,c1',c2'⟩:Zc)])[j].z=h.zone j):=fun j hj=>by
      by_cases hjl:j<zs.length
      ·rw[List.getElem_append_left hjl];exact HZE.out j hjl
      ·have hje:j=zs.length:=by simp at hj;omega
       subst hje;rw[List.getElem_append_right (Nat.le_refl _)];simp[HZ.out]
     clear ho7 ho8 hg7 hl7 hba hc8 hnw HC5 VJ HB5 aDi HAT5 ZO hz6 hb6 q7 f7;go_wp2
     go_roundw
     case rel=>exact⟨zs.length+1,_,_,_,by omega,by go_num,by simp,HZ9,C9,HB9⟩
     case measure=>simp[intOf];omega
   ·have hi22:zs.length=2:=by omega
    have hlt2:¬((i:Int)<2):=by omega
    obtain⟨ya,yb,rfl⟩:∃ya yb,zs=[ya,yb]:=by
     match zs,hi22 with
     | [a,b],_=>exact⟨a,b,rfl⟩
    have hya:=HZE.out 0 (by simp);have hyb:=HZE.out 1 (by simp);have hs0:=HC.out.done (X:=fun k=>k<w1.heap.size) (fun k hk=>hk);have HS0:Hid (HS wr g (fun k=>k<w1.heap.size) {h with ls:=h.ls.take 0} ⟨az',cz',SY,Tc,none,0,rO,cv',ya,yb,[]⟩):=by
     have e0:ya.z=h.z0:=hya;have e1:yb.z=h.z1:=hyb;unfold Hid;rw[e0,e1]at hs0;exact hs0
    have hgb:=HC.out.gs.1;have hBr:w.heap.size<wr.heap.size:=by have:=HB.out.size;omega
    have k3:=LKH.out wr HB.out 3;simp only[gB,gC,gD]at k3;have hnl:=HH.out.nl;have hll:=HH.out.ll;have hlc:=HK.out.oW;have hlen:lc.length=h.ls.length:=by rw[<- hll,List.length_map]
    clear hs0 hya hyb HC HZE hi22;have HI0:=gO hzl;clear hzl hlt hi;obtain⟨i0,rfl⟩:∃i0,i0=i:=⟨_,rfl⟩
    obtain rfl:=hnl;have OH:lc.length<=24:=by omega
    have QA:=gO hlen;have Yi:=gO hll;clear hlen hll hlc;go_wp2_with fail
    clear k3;go_loopw [35] (fun s35 wq=>∃(i:Nat) (ci:Hc),i<=lc.length/\s35= .int .i64 (i:Int)/\Hid (HS wq g (fun k=>k<w1.heap.size) {h with ls:=h.ls.take i} ci)/\Hid (Below w1.heap.size w1 wq)) (fun s35 _=>lc.length-(intOf s35).toNat)
    case atStart=>exact⟨0,_,Nat.zero_le _,rfl,HS0,HB⟩
    case round=>
     obtain⟨i,ci,hi,rfl,lM,mG⟩:=hrel;clear HS0 HB;by_cases hlt:i<lc.length
     ·have hlt2:(i:Int)<lc.length:=by omega
      have hA:=HH.out.below (Below.trans HB1.out (mG.out.mono (HB1.out.size)));obtain⟨pb,kZ,hpa,hpb,hpc⟩:=aN aP (by decide) hA.lr hlt;obtain⟨x0,x1,x2,x3⟩:=nK hpc;have hpr:=hA.pr _ (gL hlt);have hi2:i<h.ls.length:=by rw[<- QA.out];exact hlt
      have h7:lc[i].l=h.ls[i]:=by
       have h3:=congrArg (·[i]?) Yi.out;simp[hlt,hi2]at h3;exact h3
      have h8:=(HK.out.lr _ (gL hi2)).2.2.2.2.1;obtain⟨r,hr⟩:∃r,lc[i]=r:=⟨_,rfl⟩
      simp only[hr]at x0 x1 x2 x3 hpr h7;rw[<- h7]at h8;have H7:=gO h7;obtain⟨hrn,hrow⟩:=hpr;have hn8:r.n<=8:=by omega
      have KP:=gO hrow;have Vj:w1.heap.size<=wr.heap.size:=mG.out.size;obtain rfl:=hpa;clear hpc hA hr hrow h7;go_wp2_with fail
      obtain⟨E1,EF1,Ii,sN⟩:=boxes1 wr #[.int .i64 (r.l.c:Int),.int .i64 (r.l.z:Int),.int .i64 (r.l.t:Int),.slice r.a r.n r.c] 207;have HS5:=gO (lM.out.new sN);have HB5:=gO (Below.step mG.out sN);have HROW5:=gO (KP.out.below sN);have e3:=E1 3;simp only[gB,gC,gD]at e3;have HE:=gO E1;have HEF:=gO EF1;clear E1 EF1 sN x0 x1 x2 x3 KP lM mG;generalize wr.alloc _=w5 at*;generalize wr.heap.size=T7 at*;have hXT:(fun k=>k<w1.heap.size∨(T7<=k/\k<w5.heap.size)) T7:= .inr ⟨Nat.le_refl _,Ii⟩;clear e3;refine(He r.a r.n r.c r.l.p w5 hrn (by omega) HROW5.out).mono ?_;rintro ev w6 ⟨a',c',rfl,ho6,hb6⟩;have HE6:=aB HE.out Ii hb6;have HEF6:=aH HEF.out Ii hb6;have esz6:T7<w6.heap.size:=gI Ii hb6.size;have HS7:=gO ((HS5.out.below hb6).far hXT 3 (.slice a' r.n c'));have HO7:Hid ((w6.setCell ⟨T7,3,none⟩ (.slice a' r.n c')).ownsRow w5.heap.size 3 1 (.slice a' r.n c') r.n (flat gV r.l.p)):=bI (i:=3) ho6 (own_ne ho6 (b:=T7) (.inl Ii)) (.slice a' r.n c');have K7:=aI HE6 3 (.slice a' r.n c');have HB7:=gO (Below.setCell (Below.step HB5.out hb6) (show w1.heap.size<=(⟨T7,3,none⟩:Addr).block from Vj) (.slice a' r.n c'));have f3:=HEF6 3;have e3':=HE6 3;simp only[gB,gC,gD]at e3';have k0':=K7 0;have k1':=K7 1;have k2':=K7 2;have k3':=K7 3;simp only[gE,gG,gH,gB,gC,gD]at k0' k1' k2' k3';obtain⟨_,_,_,q3,_⟩:=HS7.out.words;have H8:=gO (HS7.out.below (aF (w6.setCell ⟨T7,3,none⟩ (.slice a' r.n c')) (.cells #[.int .i64 (r.l.c:Int),.int .i64 (r.l.z:Int),.int .i64 (r.l.t:Int),.slice a' r.n c'] 207)));have hnw:=(World.news_of_block (heap_alloc_new (w6.setCell ⟨T7,3,none⟩ (.slice a' r.n c')) (.cells #[.int .i64 (r.l.c:Int),.int .i64 (r.l.z:Int),.int .i64 (r.l.t:Int),.slice a' r.n c'] 207)))
      have XI:Hid ((qM ci).v.ownBlock≠some g):=fun e=>(H8.out.r.og _ (iO ci _) g e).1 rfl
      have aBa:(w6.setCell ⟨T7,3,none⟩ (.slice a' r.n c')).heap.size=w6.heap.size:=by simp
      rw[aBa]at hnw;have OL:=gO hnw;clear hnw aBa;obtain⟨ti,hti,htz,hts,htb⟩:=info_parts yO;have hcl:ci.lc.length<=24:=by have h1:=zX H8.out.r;rw[h1];simp;omega
      have aKi:g<w6.heap.size:=(HS5.out.below hb6).r.gs;have H5:=gO HS5.out;have HB6:=gO hb6;clear HE6 HEF6 K7 ho6 hb6;go_wp2_with (at_builtin;refine wpList_append_lies _ rfl _ _ 41 rfl 0 207 ti (.agg #[.int .i64 0,.int .i64 0,.int .i64 0,.slice none 0 0]) 4 48 Tryz.underlying41 hti htz hts htb rfl (by decide) (.slice ci.al ci.lc.length ci.cl) ci.lc.length (flat bH ci.lc) rfl H8.out.r.lsr ⟨w6.heap.size,0,none⟩ 1 1 [.int .i64 (r.l.c:Int),.int .i64 (r.l.z:Int),.int .i64 (r.l.t:Int),.slice a' r.n c'] rfl rfl OL.out (by simp[Value.oneCell']) (by decide) (by unfold maxLen;omega) (by omega) (Nat.zero_le _) _ rfl ?_;intro g9 cap9 w9 ho9 hg9 hl9 Yx;have q9:=(bT H8.out.k H8.out.r.gs hg9 (fun e=>XI.out e.symm) 3).trans (show _=some (.slice ci.al ci.lc.length ci.cl)from rfl);have f9:=bU H8.out.fz H8.out.r.gs hg9 (fun e=>XI.out e.symm) 3)
      have hl1:(ci.lc++[(⟨r.l,a',r.n,c'⟩:Lc)]).length=ci.lc.length+1:=by simp
      have hpo:dJ ((w6.setCell ⟨T7,3,none⟩ (.slice a' r.n c')).alloc (.cells #[.int .i64 (r.l.c:Int),.int .i64 (r.l.z:Int),.int .i64 (r.l.t:Int),.slice a' r.n c'] 207)) 0 ((ci.lc++[(⟨r.l,a',r.n,c'⟩:Lc)]).map jZ):=VH (r:=⟨r.l,a',r.n,c'⟩) H8.out.r (own_below HO7.out (aF _ _) (Nat.le_refl _)) H5.out.r;have hpq:=OJ (r:=⟨r.l,a',r.n,c'⟩) (W':=(w6.setCell ⟨T7,3,none⟩ (.slice a' r.n c')).alloc (.cells #[.int .i64 (r.l.c:Int),.int .i64 (r.l.z:Int),.int .i64 (r.l.t:Int),.slice a' r.n c'] 207)) HO7.out H5.out.r;obtain⟨hs9,sf9⟩:=H8.out.lists hg9 (al':=some ⟨g9,0,none⟩) (cl':=cap9) (sH:=ci.lc++[(⟨r.l,a',r.n,c'⟩:Lc)]) (by rw[hl1,aT,gX];exact ho9) (by
       rw[hl1];intro k hk;obtain rfl:g9=k:=by simpa[Value.ownBlock]using hk
       rcases hl9 with h1 | h1
       ·exact .inl h1
       ·exact .inr (Nat.le_of_eq h1.symm)) hpo hpq
      rw[hl1]at hs9;have aF3:(ci.lc++[(⟨r.l,a',r.n,c'⟩:Lc)]).map Lc.l=h.ls.take (i+1):=by
       have h1:=H8.out.r.ll;rw[List.map_append,h1,List.take_succ_eq_append_getElem hi2,<- H7.out];rfl
      rw[aF3]at hs9;have HS9:=gO (hs9.sub (Y:=fun k=>k<w1.heap.size) fun k hk=> .inl hk);have HB9:Hid (Below w1.heap.size w1 (w9.setCell ⟨g,3,none⟩ (.slice (some ⟨g9,0,none⟩) (ci.lc.length+1) cap9))):=Below.setCell (Below.grown (Below.step HB7.out (aF _ _)) hg9 (gQ HB7.out.size (aF _ _).size) (fun k hk=>(Yv H5.out.r (fun k hk=> .inl hk) k hk))) (show w1.heap.size<=(⟨g,3,none⟩:Addr).block from hgb) (.slice (some ⟨g9,0,none⟩) (ci.lc.length+1) cap9);go_roundw
      case rel=>exact⟨i+1,_,by omega,by go_num,HS9,HB9⟩
      case measure=>simp[intOf];omega
     ·obtain rfl:i=lc.length:=by omega
      have HS9:Hid (HS wr g (fun k=>k<w1.heap.size) h ci):=by
       have h1:=lM.out;rw[List.take_of_length_le (by rw[QA.out];exact Nat.le_refl _)]at h1;exact h1
      obtain⟨x0,x1,x2,x3,x4⟩:=HS9.out.words;have Bc:=aB K2h.out hsz mG.out;have F2r:=aH F2h.out hsz mG.out;have y0':=Bc 0;have y1':=Bc 1;have y2':=Bc 2;have y3':=Bc 3;have y4':=Bc 4;obtain⟨f0,f1,f2,f3,f4⟩:=gF5 F2r;simp only[gB,gC,gD]at y0' y1' y2' y3' y4';have KX:=aI (aI (aI (aI (aI Bc 0 (.slice ci.az 2 ci.cz)) 1 (.slice ci.am 2 ci.cm)) 2 (.int .i64 (h.aC:Int))) 3 (.slice ci.al ci.lc.length ci.cl)) 4 (.slice ci.av h.live.length ci.cv);have nP:=gO (((((HS9.out.far hsz 0 (.slice ci.az 2 ci.cz)).far hsz 1 (.slice ci.am 2 ci.cm)).far hsz 2 (.int .i64 (h.aC:Int))).far hsz 3 (.slice ci.al ci.lc.length ci.cl)).far hsz 4 (.slice ci.av h.live.length ci.cv));have hle1:w.heap.size<=w.heap.size+1:=Nat.le_succ _;have HBX2:=gO (Below.setCell (Below.setCell (Below.setCell (Below.setCell (Below.setCell (Below.trans HB1.out (mG.out.mono (HB1.out.size))) (show w.heap.size<=(⟨w.heap.size+1,0,none⟩:Addr).block from hle1) (.slice ci.az 2 ci.cz)) (show w.heap.size<=(⟨w.heap.size+1,1,none⟩:Addr).block from hle1) (.slice ci.am 2 ci.cm)) (show w.heap.size<=(⟨w.heap.size+1,2,none⟩:Addr).block from hle1) (.int .i64 (h.aC:Int))) (show w.heap.size<=(⟨w.heap.size+1,3,none⟩:Addr).block from hle1) (.slice ci.al ci.lc.length ci.cl)) (show w.heap.size<=(⟨w.heap.size+1,4,none⟩:Addr).block from hle1) (.slice ci.av h.live.length ci.cv));go_wp2
      generalize ((((wr.setCell _ _).setCell _ _).setCell _ _).setCell _ _).setCell _ _=wx at*;change ∀o,wx.cell? ⟨w.heap.size+1,o,none⟩=(#[.slice ci.az 2 ci.cz,.slice ci.am 2 ci.cm,.int .i64 (h.aC:Int),.slice ci.al ci.lc.length ci.cl,.slice ci.av h.live.length ci.cv]:Array Value)[o]? at KX;refine bodyPost_ret (v:= .agg #[.slice ci.az 2 ci.cz,.slice ci.am 2 ci.cm,.int .i64 (h.aC:Int),.slice ci.al ci.lc.length ci.cl,.slice ci.av h.live.length ci.cv]) (by simp[results,Tryz.results86,go_sem,KX]) rfl ⟨g,ci,rfl,nP.out.sub (fun k hk=>by have:=HB1.out.size;exact gI hk this),by have:=HB1.out.size;omega,HBX2.out⟩
end
end Go.Proofs.YtcmpmobhongkiaaGreatDoor
