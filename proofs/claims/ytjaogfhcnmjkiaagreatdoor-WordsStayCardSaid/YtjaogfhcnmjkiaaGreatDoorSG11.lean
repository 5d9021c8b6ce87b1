/- joined. -/
import Derived.Test.YtjaogfhcnmjkiaaGreatDoorSG10
import Derived.Test.YtjaogfhcnmjkiaaGreatDoorSG8
set_option linter.all false
set_option maxRecDepth 100000
set_option maxHeartbeats 0
namespace Go.Proofs.YtjaogfhcnmjkiaaGreatDoor
open Go.RowKit
open Go.Value renaming slice->aA,int->aB,agg->aC,string->aF,tuple->aG,pointer->aH,ownBlock->gTh
open Go.IntKind renaming i64->aI
open Option renaming none->aJ,some->aK
open Go.Ending renaming returned->aN
open Go.Obj renaming cells->aO
open Go.Proofs.Tryz
variable {G:Nat}{W W0:World}{X:Nat->Prop}{c:Hc}{h:Hp}{r:Lc}
theorem Ov (G:Nat)(X:Nat->Prop)(h:Hp)(c:Hc)(w:World)(hs:HS w G X h c)(hk:eY h):
 Calls prog 59 #[aH (aK ⟨G,0,aJ⟩)] w λev w'=>ev=aN (aG #[])/\(∃c',HS w' G X h.drain c')/\Safe X w w':=by
 have S:=gO hs;have HK:=gO hk;have TY:=gO (CG hs.r);have Rt:=hk.oQ;have M:c.lc.length<=24:=by rw[TY.out];exact Rt
 obtain⟨k0,k1,k2,k3,k4⟩:=hs.words;have Ld:=hs.r.gs;clear hs hk;go_enter func59,ntmps59
 go_wp2_with fail
 clear k0 k1 k2 k3 k4;obtain⟨n,hn⟩:∃n,c.lc.length=n:=⟨_,rfl⟩
 have HN:=gO hn;obtain⟨A,hA⟩:∃A,c.al=A:=⟨_,rfl⟩
 have HA:=gO hA;rw[hn]at M ⊢;rw[hA];clear hn hA;go_loopw [11] (λD wr=>∃(i:Nat) (y0 y1:Zc),i<=n/\D=aB aI (i:Int)/\Hid (HS wr G X (bW h (h.ls.take i)) {c with y0:=y0,y1:=y1})/\Hid (Safe X w wr)) (λD _=>n-(intOf D).toNat)
 case atStart=>exact⟨0,c.y0,c.y1,gU _,rfl,S,Safe.refl _ _⟩
 case round=>
  obtain⟨i,y0,y1,hi,rfl,q,CO⟩:=hrel;clear S;have hGr:G<wr.heap.size:=q.out.r.gs;by_cases hlt:i<n
  ·have hlt2:(i:Int)<n:=by omega
   have s:i<c.lc.length:=by rw[HN.out];exact hlt
   have f:i<h.ls.length:=by rw[<- TY.out];exact s
   obtain⟨L,F,CJ,aDy,aDz,Lj⟩:=q.out.r.uY (show 0<c.lc.length by omega);obtain⟨x0,x1,x2,x3⟩:=q.out.r.zD F s;have h7:c.lc[i].l=h.ls[i]:=by
    have h8:=Lh q.out.r s (by rw[(Fz h _).1];exact f);simp only[(Fz h _).1]at h8;exact h8
   have Ib:c.al=aK ⟨L,0,aJ⟩:=F;have W:wr.cell? ⟨L,i*4,aJ⟩=aK (aB aI (c.lc[i].l.c:Int)):=x0;have U:wr.cell? ⟨L,i*4+1,aJ⟩=aK (aB aI (c.lc[i].l.z:Int)):=x1;have O:wr.cell? ⟨L,i*4+2,aJ⟩=aK (aB aI (c.lc[i].l.t:Int)):=x2;have x:wr.cell? ⟨L,i*4+3,aJ⟩=aK (aA c.lc[i].a c.lc[i].n c.lc[i].c):=x3;clear x0 x1 x2 x3 F Lj;have E:c.lc[i]∈c.lc:=gL s;have d:=q.out.r.lI _ E;have u:=zB d;have C:=HK.out.lr _ (gL f);have h88:=C.2.2.2.2.1;have hpos:=C.2.2.2.1;have aF2:Hid (∀j (hj:j<h.ls[i].p.length),_):=λj hj=>DF HK.out f hj
   have TT:=gO (Ou h h.ls f);rw[h7]at u;have g:Hid ((kQ c.lc[i]).on wr 0):=d;have H7:=gO h7;obtain rfl:A=aK ⟨L,0,aJ⟩:=HA.out.symm.trans Ib;have Q:=gO E;clear d h7 C E;obtain⟨r,hr⟩:∃r,c.lc[i]=r:=⟨_,rfl⟩
   simp only[hr]at W U O x u g H7 Q;obtain⟨pb,l7,I,_,_⟩:=aAw bU (by decide) (aV g.out) (j:=0) (by show 0<r.l.p.length;rw[H7.out];omega);rw[I]at x;have HPA:=gO I;clear hr I Ib;go_wp2_with fail
   have y:=aAq wr (aO #[aB aI (r.l.c:Int),aB aI (r.l.z:Int),aB aI (r.l.t:Int),aA (aK ⟨pb,l7,aJ⟩) r.n r.c] 160);have Y:=gO (q.out.below y);have Z:=gO (CO.out.then y);obtain⟨we,rfl⟩:∃we,we=wr:=⟨_,rfl⟩
   clear y q CO W U O x hGr CJ;generalize we.alloc _=w5 at*;go_loopw [18] (λH wq=>∃(j:Nat) (z0 z1:Zc),j<=r.n/\H=aB aI (j:Int)/\Hid (HS wq G X (aW (bW h (h.ls.take i)) (h.ls[i].p.take j)) {c with y0:=z0,y1:=z1})/\Hid (Safe X w wq)) (λH _=>r.n-(intOf H).toNat)
   case atStart=>exact⟨0,y0,y1,gU _,rfl,Y,Z⟩
   case round=>
    obtain⟨j,z0,z1,hj,rfl,Oj,N⟩:=hrel;clear Y Z;by_cases hjl:j<r.n
    ·have aDr:(j:Int)<r.n:=by omega
     have B:j<h.ls[i].p.length:=by omega
     have hjr:j<r.l.p.length:=by rw[H7.out];exact B
     obtain⟨pb',Fj,J,hpb,T⟩:=aAw bU (by decide) (aV (Oj.out.r.lI r Q.out)) (j:=j) hjr;obtain⟨rfl,rfl⟩:pb=pb'/\l7=Fj:=by
      rw[HPA.out]at J;simpa using J
     have Fp:=iZ T;rw[Nat.mul_one]at Fp;obtain⟨P,hP⟩:∃P,r.l.p[j]=P:=⟨_,rfl⟩
     have V:h.ls[i].p[j]=P:=by rw[<- hP];simp only[H7.out]
     obtain⟨g1,g2,g3⟩:=DF HK.out f B;have R:=gO (AL (bW h (h.ls.take i)) h.ls[i].p B);rw[V]at g1 g2 g3 R;rw[hP]at Fp;have G1:=gO g1;have G2:=gO g2;have G3:=gO g3;clear T hP V g1 g2 g3 J;go_wp2_with fail
     refine(Fv G P 0 X _ _ wr Oj.out G1.out G2.out G3.out).mono ?_;rintro ev w6 ⟨rfl,⟨u0,u1,b⟩,m⟩;rw[<- R.out]at b;have o:=gO b;have K:=gO (N.out.trans m);clear b m Fp;go_wp2
     go_roundw
     case rel=>exact⟨j+1,u0,u1,by omega,by go_num,o,K⟩
     case measure=>simp[intOf];omega
    ·obtain rfl:j=r.n:=by omega
     have o:Hid (HS wr G X (bW h (h.ls.take (i+1))) {c with y0:=z0,y1:=z1}):=by
      unfold Hid;rw[TT.out];have h1:=Oj.out;rw[gTf (show h.ls[i].p.length<=r.n by omega)]at h1;exact h1
     go_wp2
     go_roundw
     case rel=>exact⟨i+1,z0,z1,by omega,by go_num,o,N⟩
     case measure=>simp[intOf];omega
  ·obtain rfl:i=n:=by omega
   obtain⟨b,m⟩:=q.out.lists (World.grownBy.refl wr _) (al':=aJ) (cl':=0) (uX:=[]) ⟨rfl,.inl ⟨rfl,rfl⟩⟩ (λk hk=>by cases hk) (dL.nil _ _) (λr hr=>by cases hr);have e:({bW h (h.ls.take i)with ls:=([]:List Lc).map Lc.l}:Hp)=h.drain:=by
    rw[gTf (by rw[<- TY.out,HN.out];exact gT _)];rfl
   rw[e]at b;have o:Hid (HS (wr.setCell ⟨G,3,aJ⟩ (aA aJ 0 0)) G X h.drain _):=b;have K:Hid (Safe X w (wr.setCell ⟨G,3,aJ⟩ (aA aJ 0 0))):=CO.out.trans m;obtain⟨k0,k1,k2,k3,k4⟩:=q.out.words;have kf:=q.out.fz 3;clear b m e;go_wp2
   refine bodyPost_end (v:=aG #[]) (by simp[results,results59,go_sem]) rfl ⟨rfl,⟨_,o.out⟩,K.out⟩
section
variable {W Wm Wv:World}{lH bm bv g:Nat}{am av:Option Addr}{cm cv:Nat}{m:List Nat}{v:List Bk}{aAh:Nat}
theorem aDC (hm:Wm.ownsRow bm 3 1 (aA am m.length cm) m.length (flat iF m))(hv:Wv.ownsRow bv 82 3 (aA av v.length cv) v.length (flat aAx v))(h1:lH<=bm)(h2:lH<=bv)(hbm:Below Wm.heap.size Wm W)(hbv:Below Wv.heap.size Wv W)(hd:Wm.heap.size<=bv∨Wv.heap.size<=bm)(hbs:lH<=W.heap.size):
 CZ (W.alloc (aO #[aA aJ 0 0,aA am m.length cm,aB aI (aAh:Int),aA aJ 0 0,aA av v.length cv] 39)) lH W.heap.size [] aJ 0 am cm m av cv v aAh:=by
 have c:=own_below (own_below hm hbm (gT _)) (aAq W (aO #[aA aJ 0 0,aA am m.length cm,aB aI (aAh:Int),aA aJ 0 0,aA av v.length cv] 39)) (gT _);have b:=own_below (own_below hv hbv (gT _)) (aAq W (aO #[aA aJ 0 0,aA am m.length cm,aB aI (aAh:Int),aA aJ 0 0,aA av v.length cv] 39)) (gT _);have d:∀(r:Rs),(MS aJ 0 []).off r:=λr k h=>by cases h
 exact⟨⟨rfl,.inl ⟨rfl,rfl⟩⟩,own_base b h2,own_base c h1,λy a=>(by simp at a),d _,d _,λy a=>(by simp at a),λk g f=>by
  have j:=hm.lt k f;have i:=hv.lt k g;omega,λy a=>(by simp at a),λe=>(by cases e),λe=>by have:=(hv.lt _ e).2;have:=hbv.size;omega,λe=>by have:=(hm.lt _ e).2;have:=hbm.size;omega,λy a=>(by simp at a),⟨hbs,by simp⟩,aQ _ _ _,eG _ _ _⟩
theorem Yz (hm:Wm.ownsRow bm 3 1 (aA am m.length cm) m.length (flat iF m))(hv:Wv.ownsRow bv 82 3 (aA av v.length cv) v.length (flat aAx v))(h1:lH<=bm)(h2:lH<=bv)(hbm:Below Wm.heap.size Wm W)(hbv:Below Wv.heap.size Wv W)(hd:Wm.heap.size<=bv∨Wv.heap.size<=bm)
 (hk:∀o,W.cell? ⟨g,o,aJ⟩=(#[aA aJ 0 0,aA aJ 0 0,aB aI 0,aA aJ 0 0,aA aJ 0 0]:Array Value)[o]?) (hf:∀o,W.frozen? ⟨g,o,aJ⟩=false) (hg:lH<=g/\g<W.heap.size) (hgm:g<bm∨Wm.heap.size<=g) (hgv:g<bv∨Wv.heap.size<=g):
 CZ (((((W.setCell ⟨g,0,aJ⟩ (aA aJ 0 0)).setCell ⟨g,1,aJ⟩ (aA am m.length cm)).setCell ⟨g,2,aJ⟩ (aB aI (aAh:Int))).setCell ⟨g,3,aJ⟩ (aA aJ 0 0)).setCell ⟨g,4,aJ⟩ (aA av v.length cv)) lH g [] aJ 0 am cm m av cv v aAh:=by
 have nm:=own_ne hm hgm;have i:=own_ne hv hgv;have l:∀{b:Nat} {e:TypeId} {size:Nat} {x:Value} {n:Nat} {xs:List Value},W.ownsRow b e size x n xs->x.ownBlock≠aK g->(((((W.setCell ⟨g,0,aJ⟩ (aA aJ 0 0)).setCell ⟨g,1,aJ⟩ (aA am m.length cm)).setCell ⟨g,2,aJ⟩ (aB aI (aAh:Int))).setCell ⟨g,3,aJ⟩ (aA aJ 0 0)).setCell ⟨g,4,aJ⟩ (aA av v.length cv)).ownsRow b e size x n xs:=λh c=>
  bC (bC (bC (bC (bC h c _) c _) c _) c _) c _
 have f:=l (own_below hm hbm (gT _)) nm;have d:=l (own_below hv hbv (gT _)) i;have j:∀(r:Rs),(MS aJ 0 []).off r:=λr k h=>by cases h
 exact⟨⟨rfl,.inl ⟨rfl,rfl⟩⟩,own_base d h2,own_base f h1,λy a=>(by simp at a),j _,j _,λy a=>(by simp at a),λk q p=>by
  have t:=hm.lt k p;have s:=hv.lt k q;omega,λy a=>(by simp at a),λe=>(by cases e),i,nm,λy a=>(by simp at a),⟨hg.1,by simpa using hg.2⟩,aAr (aAr (aAr (aAr (aAr hk 0 _) 1 _) 2 _) 3 _) 4 _,aAs (aAs (aAs (aAs (aAs hf _ _) _ _) _ _) _ _) _ _⟩
end
theorem YA (hs:HR W G X h c)(ho:W.ownsRow W0.heap.size 3 1 (aA r.a r.n r.c) r.n (flat iF r.l.p))(h0:HR W0 G X h c):dL W 0 ((c.lc++[r]).map kQ):=by
 have e:dL W 0 (c.lc.map kQ):=hs.own.sub (by unfold Hc.rows;exact((List.sublist_cons_self _ _).trans (List.sublist_cons_self _ _)).trans (List.sublist_cons_self _ _));have d:dL W 0 (kQ r::c.lc.map kQ):=e.cons (r':=kQ r) (bs:=W0.heap.size) ho (gU _) λs b g i=>by
  have f:=h0.own.lt s (nG b) g i;exact f.2
 refine d.perm ?_;rw[List.map_append];exact(List.perm_append_singleton _ _).symm
theorem Rx {W':World}(ho:W.ownsRow W0.heap.size 3 1 (aA r.a r.n r.c) r.n (flat iF r.l.p))(h0:HR W0 G X h c):∀s∈(c.lc++[r]).map kQ,∀g,s.v.ownBlock=aK g->(∃r0∈c.lc.map kQ,r0.v.ownBlock=aK g)∨NW W' G X h c g:=λs b g d=>by
 rw[List.map_append,gZ]at b;rcases b with b | b
 ·exact .inl ⟨s,b,d⟩
 ·obtain rfl:s=kQ r:=by simpa using b
  exact .inr (h0.fresh (ho.lt g d).1)
theorem aA4 {B:Nat}(hs:HR W G X h c)(hx:∀k,k<B->X k):∀k,(rW c).v.ownBlock=aK k->B<=k:=λk b=>by
 rcases Nat.lt_or_ge k B with a | a
 ·exact absurd (hx k a) (hs.og _ (jE c h) k b).2
 ·exact a
theorem aA5:(prog.info? 79).map (λi=>(i.zero,i.size,i.bytes))=aK (aK (aC #[aB aI 0,aB aI 0,aA aJ 0 0,aA aJ 0 0]),4,64):=by kernel_rfl
theorem YB (hk:eY h)(i:Nat):(h.zone i).l.length<=256/\(h.zone i).y.length<=256:=by
 have a:=hk.zone i;have d:=uM.length_le a.2 (λb hb=>(a.2.fit b hb).1.2.2.1);have c:=a.1.e2;have e:=a.1.len;omega
theorem AO (az am al av:Option Addr)(cz cm cl cv nl nv:Nat)(y0 y1:Zc)(lc:List Lc)(h:Hp)(w:World)(hh:HAt w az am al av nl nv y0 y1 lc h)(hk:eY h)(Rk:nv<=1000):
 Calls prog 36 #[aC #[aA az 2 cz,aA am 2 cm,aB aI h.aAh,aA al nl cl,aA av nv cv]] w λev w'=>∃(g:Nat) (c':Hc),ev=aN (.agg (c'.vals h))/\HS w' g (λk=>k<w.heap.size) h c'/\w.heap.size<=g/\Below w.heap.size w w':=by
 obtain rfl:=hh.nv;obtain⟨K1,K2,F1,F2,I,hbw⟩:=boxes2 w #[aA az 2 cz,aA am 2 cm,aB aI (h.aAh:Int),aA al nl cl,aA av h.live.length cv] 39 #[aA aJ 0 0,aA aJ 0 0,aB aI 0,aA aJ 0 0,aA aJ 0 0] 39;have HH:=gO hh;have HK:=gO hk;have u:=gO hbw;clear hh hk;have aF3:((w.alloc (aO #[aA az 2 cz,aA am 2 cm,aB aI (h.aAh:Int),aA al nl cl,aA av h.live.length cv] 39)).alloc (aO #[aA aJ 0 0,aA aJ 0 0,aB aI 0,aA aJ 0 0,aA aJ 0 0] 39)).heap.size=w.heap.size+2:=by simp
 have aF4:=gO aF3;clear aF3;go_enter func36,ntmps36
 go_upto_region 1 with fail
 generalize (w.alloc _).alloc _=w1 at*;have q1:=(HH.out.below u.out).mr;have q2:=(HH.out.below u.out).vr;have LK0:∀W,Below w1.heap.size w1 W->∀o,W.cell? ⟨w.heap.size,o,aJ⟩=(#[aA az 2 cz,aA am 2 cm,aB aI (h.aAh:Int),aA al nl cl,aA av h.live.length cv]:Array Value)[o]? :=λW h o=>aAp K1 (by omega) h o
 go_cut [3] (λs3 wx=>∃(g:Nat) (VN uK:Option Addr) (VO D:Nat),s3=aH (aK ⟨g,0,aJ⟩)/\Hid (CZ wx w1.heap.size g [] aJ 0 VN VO [h.m0,h.m1] uK D h.live h.aAh)/\Hid (Below w1.heap.size w1 wx))
 case first=>
  go_region_held3 (λW=>Below w1.heap.size w1 W) ((repeat (first | with_reducible assumption | with_reducible exact gX _ _ | with_reducible refine Below.setCell ?_ ?_ _ | with_reducible apply Below.drew | with_reducible refine gW ?_ (aAq _ _) | with_reducible refine gW ?_ (by with_reducible assumption) | (simp only;omega)))) (first | (go_at_call 35;refine(JX _ 2 _ [h.m0,h.m1] _ rfl (by decide) (q1.below (by assumption))).mono ?_;rintro e K ⟨VN,VO,rfl,Eh,hbm⟩;(try ((have hx:Below ((w1.alloc (.cells (#[aA aJ 0 0,aA aJ 0 0,aB aI 0,aA aJ 0 0,aA aJ 0 0]:Array Value) 39)).drew).heap.size ((w1.alloc (.cells (#[aA aJ 0 0,aA aJ 0 0,aB aI 0,aA aJ 0 0,aA aJ 0 0]:Array Value) 39)).drew) K:=by with_reducible exact hbm);have KA:=aAp (w1:=(w1.alloc (.cells (#[aA aJ 0 0,aA aJ 0 0,aB aI 0,aA aJ 0 0,aA aJ 0 0]:Array Value) 39)).drew) (vs:=#[aA aJ 0 0,aA aJ 0 0,aB aI 0,aA aJ 0 0,aA aJ 0 0]) (λo=>aQ w1 #[aA aJ 0 0,aA aJ 0 0,aB aI 0,aA aJ 0 0,aA aJ 0 0] 39 o) (show w1.heap.size<((w1.alloc (.cells (#[aA aJ 0 0,aA aJ 0 0,aB aI 0,aA aJ 0 0,aA aJ 0 0]:Array Value) 39)).drew).heap.size by simp) hx;have FA:=aAt (w1:=(w1.alloc (.cells (#[aA aJ 0 0,aA aJ 0 0,aB aI 0,aA aJ 0 0,aA aJ 0 0]:Array Value) 39)).drew) (λo=>eG w1 #[aA aJ 0 0,aA aJ 0 0,aB aI 0,aA aJ 0 0,aA aJ 0 0] 39 o) (show w1.heap.size<((w1.alloc (.cells (#[aA aJ 0 0,aA aJ 0 0,aB aI 0,aA aJ 0 0,aA aJ 0 0]:Array Value) 39)).drew).heap.size by simp) hx;have SA:w1.heap.size<K.heap.size:=gI (show w1.heap.size<((w1.alloc (.cells (#[aA aJ 0 0,aA aJ 0 0,aB aI 0,aA aJ 0 0,aA aJ 0 0]:Array Value) 39)).drew).heap.size by simp) hx.size));(first | have SM:w1.heap.size<=K.heap.size:=gR SA | have SM:w1.heap.size<=K.heap.size:=hbm.size)) | (go_at_call 75;refine(TD _ _ _ h.live _ rfl (by omega) (q2.below (by assumption))).mono ?_;rintro e wv ⟨uK,D,rfl,hov,x⟩;(try first | (have KB:=aAp KA SA x;have FB:=aAt FA SA x) | ((have hx:Below (K.alloc (.cells (#[aA aJ 0 0,aA aJ 0 0,aB aI 0,aA aJ 0 0,aA aJ 0 0]:Array Value) 39)).heap.size (K.alloc (.cells (#[aA aJ 0 0,aA aJ 0 0,aB aI 0,aA aJ 0 0,aA aJ 0 0]:Array Value) 39)) wv:=by with_reducible exact x);have KB:=aAp (w1:=K.alloc (.cells (#[aA aJ 0 0,aA aJ 0 0,aB aI 0,aA aJ 0 0,aA aJ 0 0]:Array Value) 39)) (vs:=#[aA aJ 0 0,aA aJ 0 0,aB aI 0,aA aJ 0 0,aA aJ 0 0]) (λo=>aQ K #[aA aJ 0 0,aA aJ 0 0,aB aI 0,aA aJ 0 0,aA aJ 0 0] 39 o) (show K.heap.size<(K.alloc (.cells (#[aA aJ 0 0,aA aJ 0 0,aB aI 0,aA aJ 0 0,aA aJ 0 0]:Array Value) 39)).heap.size by simp) hx;have FB:=aAt (w1:=K.alloc (.cells (#[aA aJ 0 0,aA aJ 0 0,aB aI 0,aA aJ 0 0,aA aJ 0 0]:Array Value) 39)) (λo=>eG K #[aA aJ 0 0,aA aJ 0 0,aB aI 0,aA aJ 0 0,aA aJ 0 0] 39 o) (show K.heap.size<(K.alloc (.cells (#[aA aJ 0 0,aA aJ 0 0,aB aI 0,aA aJ 0 0,aA aJ 0 0]:Array Value) 39)).heap.size by simp) hx))))
  all_goals (go_wp2_with fail;go_meet)
  ·exact⟨wv.heap.size,VN,uK,VO,D,rfl,aDC (m:=[h.m0,h.m1]) Eh hov (gT _) SM x (gX _ _) (.inl (gT _)) (gQ SM x.size),by assumption⟩
  ·have hs:=x.size;simp at hs;exact⟨K.heap.size,VN,uK,VO,D,rfl,Yz (m:=[h.m0,h.m1]) Eh hov (gT _) (by simp;omega) (gW (aAq _ _) x) (gX _ _) (.inl (by simp)) KB FB ⟨SM,by omega⟩ (.inr (gT _)) (.inl (by simp)),by assumption⟩
  ·have hs:=x.size;exact⟨w1.heap.size,VN,uK,VO,D,rfl,Yz (m:=[h.m0,h.m1]) Eh hov (by simp) SM x (gX _ _) (.inl (gT _)) KB FB ⟨gT _,by omega⟩ (.inl (by simp)) (.inl SA),by assumption⟩
 case rest=>
  obtain⟨g,VN,uK,VO,D,rfl,HCZ,jA⟩:=hcut;clear q1 q2;have K2h:=gO K2;have F2h:=gO F2;have k0:=LK0 wc jA.out 0;have LKH:=gO LK0;simp only[gB,gC]at k0;clear LK0 K1 K2 F1 F2 hbw;obtain⟨qb,qo,ha1,_,_⟩:=aAw iR (by decide) HH.out.zr (j:=0) (by simp);obtain rfl:=ha1;have aJj:=jA.out.size;have hBw:w.heap.size<wc.heap.size:=by omega
  go_wp2_with fail
  go_loopw [20] (λs20 wr=>∃(i:Nat) (zs:List Zc) (P:Option Addr) (O:Nat),i<=2/\s20=aB aI (i:Int)/\zs.length=i/\Hid (∀j (hj:j<zs.length),zs[j].z=h.zone j)/\Hid (CZ wr w1.heap.size g zs P O VN VO [h.m0,h.m1] uK D h.live h.aAh)/\Hid (Below w1.heap.size w1 wr)) (λs20 _=>2-(intOf s20).toNat)
  case atStart=>exact⟨0,[],aJ,0,gU _,rfl,rfl,λj hj=>(by simp at hj),HCZ,jA⟩
  case round=>
   obtain⟨i,zs,P,O,hi,rfl,hzl,Z,HC,HB⟩:=hrel;clear HCZ jA k0;by_cases N:i<2
   ·subst hzl;have hlt2:((zs.length:Nat):Int)<2:=by omega
    obtain⟨y,hyz,J,L⟩:∃y:Zc,y.z=h.zone zs.length/\JY wr y.a1 y.a2 y.n1 y.n2 (h.zone zs.length)/\(wr.cell? ⟨qb,qo+zs.length*4,aJ⟩=aK (aB aI (h.zone zs.length).f)/\wr.cell? ⟨qb,qo+zs.length*4+1,aJ⟩=aK (aB aI (h.zone zs.length).e)/\wr.cell? ⟨qb,qo+zs.length*4+2,aJ⟩=aK (aA y.a1 y.n1 y.c1)/\wr.cell? ⟨qb,qo+zs.length*4+3,aJ⟩=aK (aA y.a2 y.n2 y.c2)):=by
     have R:=HH.out.below (Below.trans u.out (HB.out.mono (u.out.size)));obtain⟨b1,o1,Q,h2,h3⟩:=aAw iR (by decide) R.zr (j:=zs.length) (by simp;omega);obtain⟨rfl,rfl⟩:qb=b1/\qo=o1:=by simpa using Q
     have h4:=mO h3;obtain h5 | h5:zs.length=0∨zs.length=1:=by omega
     ·refine⟨y0,?_,?_,?_⟩
      ·rw[h5];exact R.e0
      ·rw[h5];exact R.t0
      ·have e:[y0,y1][zs.length]'(by simp;omega)=y0:=by simp[h5]
       have e2:h.zone zs.length=h.z0:=by rw[h5];rfl
       rw[e,R.e0]at h4;rw[e2];exact h4
     ·refine⟨y1,?_,?_,?_⟩
      ·rw[h5];exact R.e1
      ·rw[h5];exact R.t1
      ·have e:[y0,y1][zs.length]'(by simp;omega)=y1:=by simp[h5]
       have e2:h.zone zs.length=h.z1:=by rw[h5];rfl
       rw[e,R.e1]at h4;rw[e2];exact h4
    obtain⟨z0,z1,z2,z3⟩:=L;have aJk:=YB HK.out zs.length;have HAT:=gO J;have NV:qb<wr.heap.size:=World.block_lt_of_cell? _ _ z0;have hnn:=J.l1;have aJl:=J.l2;have hL1:y.n1<=1000:=by omega
    have hL2:y.n2<=1000:=by omega
    obtain⟨z,hz⟩:∃z,h.zone zs.length=z:=⟨_,rfl⟩
    rw[hz]at z0 z1 HAT;have HZ:=gO hz;clear J hz hyz hnn aJl aJk;go_wp2_with fail
    obtain⟨E1,EF1,KW,vC⟩:=boxes1 wr #[aB aI (z.f:Int),aB aI (z.e:Int),aA y.a1 y.n1 y.c1,aA y.a2 y.n2 y.c2] 79;have e0:=E1 0;have e1:=E1 1;have e2:=E1 2;have e3:=E1 3;simp only[gB,gC,gD]at e0 e1 e2 e3;have HC5:=gO (HC.out.below vC);have HB5:=gO (gW HB.out vC);have HAT5:=gO (HAT.out.below vC);clear E1 EF1 vC z0 z1 z2 z3 HC HB HAT;generalize wr.alloc _=w5 at*;have g0:=HC5.out.k 0;have aNR:=HC5.out.gs.2;simp only[gB,gC]at g0;have YC:=gO (HC5.out.below ((gX w5.heap.size w5).drew));have aCq:=gO (HAT5.out.below ((gX w5.heap.size w5).drew));have aF5:=gO HB5.out.drew;obtain⟨ti,hti,htz,hts,htb⟩:=info_parts aA5;go_region_law (first | (refine step_append_lies _ rfl _ _ 35 rfl w1.heap.size 79 ti (aC #[aB aI 0,aB aI 0,aA aJ 0 0,aA aJ 0 0]) 4 64 underlying35 hti htz hts htb rfl (by decide) (aA P zs.length O) zs.length (flat nK zs) rfl E.out.oz ⟨B.heap.size,0,aJ⟩ 1 1 [aB aI (z.f:Int),aB aI (z.e:Int),aA H y.n1 G,aA A y.n2 C] rfl rfl M.out (by simp[Value.oneCell']) (by decide) (by unfold maxLen;omega) (by omega) aF6 _ rfl ?_;intro g7 cap7 w7 ho7 U hl7 lN;have q7:=(bD E.out.k E.out.gs.2 U (λe=>E.out.gz e.symm) 0).trans (show _=aK (aA P zs.length O)from rfl);have f7:=bG E.out.fz E.out.gs.2 U (λe=>E.out.gz e.symm) 0) | (go_simp;go_at_call 76;refine(Eo y.a1 y.a2 y.n1 y.n2 y.c1 y.c2 z.f z.e z _ aCq.out hL1 hL2).mono ?_;rintro ev B ⟨H,A,G,C,rfl,hz6,q⟩;have hc6:=YC.out.below q;have hg6:=hc6.gs.2;have q6':=(hc6.k 0).trans (show _=aK (aA P zs.length O)from rfl);have E:=gO (hc6.below (aAq B (aO #[aB aI (z.f:Int),aB aI (z.e:Int),aA H y.n1 G,aA A y.n2 C] 79)));have M:=gO (World.news_of_block (heap_alloc_new B (aO #[aB aI (z.f:Int),aB aI (z.e:Int),aA H y.n1 G,aA A y.n2 C] 79)));have HB6:=gO (gW aF5.out q);have aF6:w1.heap.size<=(B.alloc (aO #[aB aI (z.f:Int),aB aI (z.e:Int),aA H y.n1 G,aA A y.n2 C] 79)).heap.size:=gQ HB6.out.size (aAq B _).size;clear hc6))
    all_goals
     have hba:=aAq B (aO #[aB aI (z.f:Int),aB aI (z.e:Int),aA H y.n1 G,aA A y.n2 C] 79);have ho8:w7.ownsRow w1.heap.size 79 4 (aA (aK ⟨g7,0,aJ⟩) (zs.length+1) cap7) (zs.length+1) (flat nK (zs++[⟨z,H,A,y.n1,y.n2,G,C⟩])):=by
      rw[aS,fJ];exact ho7
     have C9:=gO (YC.out.add (gW q hba) (hz6.below hba) ho8 U hl7);have HB9:=gO (gS (Below.grown (gW HB6.out hba) U aF6 (λk hk=>(YC.out.oz.lt k hk).1)) g 0 YC.out.gs.1 (aA (aK ⟨g7,0,aJ⟩) (zs.length+1) cap7));have HZ9:Hid (∀j (hj:j<(zs++[(⟨z,H,A,y.n1,y.n2,G,C⟩:Zc)]).length),(zs++[(⟨z,H,A,y.n1,y.n2,G,C⟩:Zc)])[j].z=h.zone j):=λj hj=>by
      by_cases hjl:j<zs.length
      ·rw[List.getElem_append_left hjl];exact Z.out j hjl
      ·have hje:j=zs.length:=by simp at hj;omega
       subst hje;rw[List.getElem_append_right (gT _)];simp[HZ.out]
     clear ho7 ho8 U hl7 hba E M HC5 YC HB5 aF5 HAT5 aCq hz6 q q7 f7;go_wp2
     go_roundw
     case rel=>exact⟨zs.length+1,_,_,_,by omega,by go_num,by simp,HZ9,C9,HB9⟩
     case measure=>simp[intOf];omega
   ·have hi22:zs.length=2:=by omega
    have hlt2:¬((i:Int)<2):=by omega
    obtain⟨ya,yb,rfl⟩:∃ya yb,zs=[ya,yb]:=by
     match zs,hi22 with
     | [a,b],_=>exact⟨a,b,rfl⟩
    have J:=Z.out 0 (by simp);have hyb:=Z.out 1 (by simp);have hs0:=HC.out.done (X:=λk=>k<w1.heap.size) (λk hk=>hk);have HS0:Hid (HS wr g (λk=>k<w1.heap.size) {h with ls:=h.ls.take 0} ⟨P,O,VN,VO,aJ,0,uK,D,ya,yb,[]⟩):=by
     have e0:ya.z=h.z0:=J;have e1:yb.z=h.z1:=hyb;unfold Hid;rw[e0,e1]at hs0;exact hs0
    have hgb:=HC.out.gs.1;have hBr:w.heap.size<wr.heap.size:=by have:=HB.out.size;omega
    have k3:=LKH.out wr HB.out 3;simp only[gB,gC,gD]at k3;have hnl:=HH.out.nl;have hll:=HH.out.ll;have hlc:=HK.out.oQ;have hlen:lc.length=h.ls.length:=by rw[<- hll,gTe]
    clear hs0 J hyb HC Z hi22;have HI0:=gO hzl;clear hzl N hi;obtain⟨i0,rfl⟩:∃i0,i0=i:=⟨_,rfl⟩
    obtain rfl:=hnl;have Rt:lc.length<=24:=by omega
    have TY:=gO hlen;have HLL:=gO hll;clear hlen hll hlc;go_wp2_with fail
    clear k3;go_loopw [35] (λs35 wq=>∃(i:Nat) (d:Hc),i<=lc.length/\s35=aB aI (i:Int)/\Hid (HS wq g (λk=>k<w1.heap.size) {h with ls:=h.ls.take i} d)/\Hid (Below w1.heap.size w1 wq)) (λs35 _=>lc.length-(intOf s35).toNat)
    case atStart=>exact⟨0,_,gU _,rfl,HS0,HB⟩
    case round=>
     obtain⟨i,d,hi,rfl,kG,nM⟩:=hrel;clear HS0 HB;by_cases N:i<lc.length
     ·have hlt2:(i:Int)<lc.length:=by omega
      have R:=HH.out.below (Below.trans u.out (nM.out.mono (u.out.size)));obtain⟨pb,l7,hpa,hpb,hpc⟩:=aAw aP (by decide) R.lr N;obtain⟨x0,x1,x2,x3⟩:=oH hpc;have hpr:=R.pr _ (gL N);have hi2:i<h.ls.length:=by rw[<- TY.out];exact N
      have h7:lc[i].l=h.ls[i]:=by
       have h3:=congrArg (·[i]?) HLL.out;simp[N,hi2]at h3;exact h3
      have h8:=(HK.out.lr _ (gL hi2)).2.2.2.2.1;obtain⟨r,hr⟩:∃r,lc[i]=r:=⟨_,rfl⟩
      simp only[hr]at x0 x1 x2 x3 hpr h7;rw[<- h7]at h8;have H7:=gO h7;obtain⟨hrn,L⟩:=hpr;have hn8:r.n<=8:=by omega
      have Ox:=gO L;have Yd:w1.heap.size<=wr.heap.size:=nM.out.size;obtain rfl:=hpa;clear hpc R hr L h7;go_wp2_with fail
      obtain⟨E1,EF1,KW,vC⟩:=boxes1 wr #[aB aI (r.l.c:Int),aB aI (r.l.z:Int),aB aI (r.l.t:Int),aA r.a r.n r.c] 160;have HS5:=gO (kG.out.new vC);have HB5:=gO (gW nM.out vC);have HROW5:=gO (Ox.out.below vC);have e3:=E1 3;simp only[gB,gC,gD]at e3;have HE:=gO E1;have HEF:=gO EF1;clear E1 EF1 vC x0 x1 x2 x3 Ox kG nM;generalize wr.alloc _=w5 at*;generalize wr.heap.size=T at*;have hXT:(λk=>k<w1.heap.size∨(T<=k/\k<w5.heap.size)) T:= .inr ⟨gT _,KW⟩;clear e3;refine(JX r.a r.n r.c r.l.p w5 hrn (by omega) HROW5.out).mono ?_;rintro ev B ⟨s,c',rfl,ho6,q⟩;have HE6:=aAp HE.out KW q;have HEF6:=aAt HEF.out KW q;have esz6:T<B.heap.size:=gI KW q.size;have HS7:=gO ((HS5.out.below q).far hXT 3 (aA s r.n c'));have HO7:Hid ((B.setCell ⟨T,3,aJ⟩ (aA s r.n c')).ownsRow w5.heap.size 3 1 (aA s r.n c') r.n (flat iF r.l.p)):=bC (i:=3) ho6 (own_ne ho6 (b:=T) (.inl KW)) (aA s r.n c');have K7:=aAr HE6 3 (aA s r.n c');have HB7:=gO (gS (gW HB5.out q) T 3 Yd (aA s r.n c'));have f3:=HEF6 3;have e3':=HE6 3;simp only[gB,gC,gD]at e3';have k0':=K7 0;have k1':=K7 1;have k2':=K7 2;have k3':=K7 3;simp only[gE,gG,gH,gB,gC,gD]at k0' k1' k2' k3';obtain⟨_,_,_,q3,_⟩:=HS7.out.words;have V:=gO (HS7.out.below (aAq (B.setCell ⟨T,3,aJ⟩ (aA s r.n c')) (aO #[aB aI (r.l.c:Int),aB aI (r.l.z:Int),aB aI (r.l.t:Int),aA s r.n c'] 160)));have M:=(World.news_of_block (heap_alloc_new (B.setCell ⟨T,3,aJ⟩ (aA s r.n c')) (aO #[aB aI (r.l.c:Int),aB aI (r.l.z:Int),aB aI (r.l.t:Int),aA s r.n c'] 160)))
      have HNE:Hid ((rW d).v.ownBlock≠aK g):=λe=>(V.out.r.og _ (jE d _) g e).1 rfl
      have aDD:(B.setCell ⟨T,3,aJ⟩ (aA s r.n c')).heap.size=B.heap.size:=by simp
      rw[aDD]at M;have zF:=gO M;clear M aDD;obtain⟨ti,hti,htz,hts,htb⟩:=info_parts AB;have hcl:d.lc.length<=24:=by have Q:=CG V.out.r;rw[Q];simp;omega
      have aNU:g<B.heap.size:=(HS5.out.below q).r.gs;have H5:=gO HS5.out;have HB6:=gO q;clear HE6 HEF6 K7 ho6 q;go_wp2_with (at_builtin;refine wpList_append_lies _ rfl _ _ 36 rfl 0 160 ti (aC #[aB aI 0,aB aI 0,aB aI 0,aA aJ 0 0]) 4 48 underlying36 hti htz hts htb rfl (by decide) (aA d.al d.lc.length d.cl) d.lc.length (flat bP d.lc) rfl V.out.r.lsr ⟨B.heap.size,0,aJ⟩ 1 1 [aB aI (r.l.c:Int),aB aI (r.l.z:Int),aB aI (r.l.t:Int),aA s r.n c'] rfl rfl zF.out (by simp[Value.oneCell']) (by decide) (by unfold maxLen;omega) (by omega) (gU _) _ rfl ?_;intro g9 S w9 ho9 hg9 hl9 aA6;have q9:=(bD V.out.k V.out.r.gs hg9 (λe=>HNE.out e.symm) 3).trans (show _=aK (aA d.al d.lc.length d.cl)from rfl);have f9:=bG V.out.fz V.out.r.gs hg9 (λe=>HNE.out e.symm) 3)
      have hl1:(d.lc++[(⟨r.l,s,r.n,c'⟩:Lc)]).length=d.lc.length+1:=by simp
      have hpo:dL ((B.setCell ⟨T,3,aJ⟩ (aA s r.n c')).alloc (aO #[aB aI (r.l.c:Int),aB aI (r.l.z:Int),aB aI (r.l.t:Int),aA s r.n c'] 160)) 0 ((d.lc++[(⟨r.l,s,r.n,c'⟩:Lc)]).map kQ):=YA (r:=⟨r.l,s,r.n,c'⟩) V.out.r (own_below HO7.out (aAq _ _) (gT _)) H5.out.r;have hpq:=Rx (r:=⟨r.l,s,r.n,c'⟩) (W':=(B.setCell ⟨T,3,aJ⟩ (aA s r.n c')).alloc (aO #[aB aI (r.l.c:Int),aB aI (r.l.z:Int),aB aI (r.l.t:Int),aA s r.n c'] 160)) HO7.out H5.out.r;obtain⟨hs9,sf9⟩:=V.out.lists hg9 (al':=aK ⟨g9,0,aJ⟩) (cl':=S) (uX:=d.lc++[(⟨r.l,s,r.n,c'⟩:Lc)]) (by rw[hl1,aS,fJ];exact ho9) (by
       rw[hl1];intro k hk;obtain rfl:g9=k:=by simpa[gTh]using hk
       rcases hl9 with Q | Q
       ·exact .inl Q
       ·exact .inr (Nat.le_of_eq Q.symm)) hpo hpq
      rw[hl1]at hs9;have aJm:(d.lc++[(⟨r.l,s,r.n,c'⟩:Lc)]).map Lc.l=h.ls.take (i+1):=by
       have Q:=V.out.r.ll;rw[List.map_append,Q,List.take_succ_eq_append_getElem hi2,<- H7.out];rfl
      rw[aJm]at hs9;have HS9:=gO (hs9.sub (Y:=λk=>k<w1.heap.size) λk hk=> .inl hk);have HB9:Hid (Below w1.heap.size w1 (w9.setCell ⟨g,3,aJ⟩ (aA (aK ⟨g9,0,aJ⟩) (d.lc.length+1) S))):=gS (Below.grown (gW HB7.out (aAq _ _)) hg9 (gQ HB7.out.size (aAq _ _).size) (λk hk=>(aA4 H5.out.r (λk hk=> .inl hk) k hk))) g 3 hgb (aA (aK ⟨g9,0,aJ⟩) (d.lc.length+1) S);go_roundw
      case rel=>exact⟨i+1,_,by omega,by go_num,HS9,HB9⟩
      case measure=>simp[intOf];omega
     ·obtain rfl:i=lc.length:=by omega
      have HS9:Hid (HS wr g (λk=>k<w1.heap.size) h d):=by
       have Q:=kG.out;rw[gTf (by rw[TY.out];exact gT _)]at Q;exact Q
      obtain⟨x0,x1,x2,x3,x4⟩:=HS9.out.words;have DC:=aAp K2h.out I nM.out;have F2r:=aAt F2h.out I nM.out;have y0':=DC 0;have y1':=DC 1;have y2':=DC 2;have y3':=DC 3;have y4':=DC 4;obtain⟨f0,f1,f2,f3,f4⟩:=gF5 F2r;simp only[gB,gC,gD]at y0' y1' y2' y3' y4';have KX:=aAr (aAr (aAr (aAr (aAr DC 0 (aA d.az 2 d.cz)) 1 (aA d.am 2 d.cm)) 2 (aB aI (h.aAh:Int))) 3 (aA d.al d.lc.length d.cl)) 4 (aA d.av h.live.length d.cv);have oI:=gO (((((HS9.out.far I 0 (aA d.az 2 d.cz)).far I 1 (aA d.am 2 d.cm)).far I 2 (aB aI (h.aAh:Int))).far I 3 (aA d.al d.lc.length d.cl)).far I 4 (aA d.av h.live.length d.cv));have F:w.heap.size<=w.heap.size+1:=Nat.le_succ _;have HBX2:=gO (gS (gS (gS (gS (gS (Below.trans u.out (nM.out.mono (u.out.size))) (w.heap.size+1) 0 F (aA d.az 2 d.cz)) (w.heap.size+1) 1 F (aA d.am 2 d.cm)) (w.heap.size+1) 2 F (aB aI (h.aAh:Int))) (w.heap.size+1) 3 F (aA d.al d.lc.length d.cl)) (w.heap.size+1) 4 F (aA d.av h.live.length d.cv));go_wp2
      generalize ((((wr.setCell _ _).setCell _ _).setCell _ _).setCell _ _).setCell _ _=wx at*;change ∀o,wx.cell? ⟨w.heap.size+1,o,aJ⟩=(#[aA d.az 2 d.cz,aA d.am 2 d.cm,aB aI (h.aAh:Int),aA d.al d.lc.length d.cl,aA d.av h.live.length d.cv]:Array Value)[o]? at KX;refine bodyPost_ret (v:=aC #[aA d.az 2 d.cz,aA d.am 2 d.cm,aB aI (h.aAh:Int),aA d.al d.lc.length d.cl,aA d.av h.live.length d.cv]) (by simp[results,results36,go_sem,KX]) rfl ⟨g,d,rfl,oI.out.sub (λk hk=>by have:=u.out.size;exact gI hk this),by have:=u.out.size;omega,HBX2.out⟩
end Go.Proofs.YtjaogfhcnmjkiaaGreatDoor
