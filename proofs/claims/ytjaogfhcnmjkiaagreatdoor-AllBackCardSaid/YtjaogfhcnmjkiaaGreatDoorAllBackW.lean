/- the walk of this law. -/
import Derived.Test.YtjaogfhcnmjkiaaGreatDoorAB33
import Derived.Test.YtjaogfhcnmjkiaaGreatDoorAB34
set_option linter.all false
set_option maxRecDepth 100000
set_option maxHeartbeats 0
namespace Go.Proofs.YtjaogfhcnmjkiaaGreatDoor
open Go.Value renaming slice->aA,int->aB,agg->aC,string->aF,tuple->aG,pointer->aH,ownBlock->gTh
open Go.IntKind renaming i64->aI
open Option renaming none->aJ,some->aK
open Go.Ending renaming returned->aN
open Go.Obj renaming cells->aO
open Go.Proofs.Tryz
open Go.RowKit Go.WideShapes Go.ChangeShapes
theorem aIj {w0 W:World}{t:Sy}{vt:Sc}{bs:List (Nat×Array Value)}(h:kV w0 t vt t vt CU bs W)(hs:nO W vt t)(hg:Ii t){n:List UInt8}{i:Nat}(hi:t.named n=aK i){u:Sy}(hu:t.shrink i=u):
 Calls prog 22 #[aC #[aA vt.a1 vt.n1 vt.c1,aA vt.hc.az 2 vt.hc.cz,aA vt.hc.am 2 vt.hc.cm,aB aI (t.h.aP:Int),aA vt.hc.al vt.hc.lc.length vt.hc.cl,aA vt.hc.av t.h.live.length vt.hc.cv,aA vt.a2 vt.ys.length vt.c2],aF ⟨n.toArray⟩] W λev w5=>∃v',ev=aN (aG #[aC #[aA v'.a1 v'.n1 v'.c1,aA v'.hc.az 2 v'.hc.cz,aA v'.hc.am 2 v'.hc.cm,aB aI (u.h.aP:Int),aA v'.hc.al v'.hc.lc.length v'.hc.cl,aA v'.hc.av u.h.live.length v'.hc.cv,aA v'.a2 v'.ys.length v'.c2],aB aI 0])/\kV w0 t vt u v' CU bs w5/\Below W.heap.size W w5:=
 (Gw vt t n i W hs hg.ok (λc hc=>gQ (hg.nm c hc) (by decide)) hi).mono λev w5 ⟨v',e,d,a⟩=>by
  subst hu;exact⟨v',e,h.call (λG X hr=>SR.lift d hr.hr.gs (λk b=>hr.hr.xs k b) hr.hr.xg) a (World.ownsRow_nil _ _ _ _),a⟩
theorem MC (a:Option Addr)(n c:Nat)(l:List Rw)(hl:l.length=n){w:World}(hr:Row w a (flat yQ l))(hnc:n<=c)(hcm:c<=maxLen)(hwf:∀r∈l,r.wf)(x:Int)(hx:(Lit.int .i64 x).wf=true)(y:Int)(hy:(Lit.int .i64 y).wf=true)(z:Int)(hz:(Lit.int .i64 z).wf=true)(ho:vP w)(hsz:Bg w):
 Calls prog 8 #[aA a n c,aB aI x,aB aI y,aB aI z] w λev w'=>ev=aN (.bool true)/\Below w.heap.size w w':=by
 have HO:=gO ho;have kH:=gO hsz;have HST:Hid (∀W,Below w.heap.size w W->Calls prog 10 #[aA a n c,aB aI x,aB aI y,aB aI z] W (aAe x y z W)):=λW hW=>aAf a n c l x y z W hl (hr.below hW) hwf (gQ hnc hcm) (bounds_i64 hx) (bounds_i64 hy) (bounds_i64 hz) (ho.below hW) (hsz.below hW)
 clear hr hwf hl ho hsz hx hy hz hnc hcm;go_enter func8,ntmps8
 go_upto_region 3 with (go_at_call 9;refine(GI _ HO.out kH.out).mono ?_;rintro ev w1 ⟨rfl,hb1⟩)
 have aIk:=gO (HST.out w1 hb1);clear HST;go_upto_region 4 with (go_at_call 10;refine aIk.out.mono ?_;rintro ev w2 ⟨h,Z,least,aP,m1,m2,d1,d2,G,s,v,L,acts,qs,pa,pt,⟨wa,wc9⟩,rfl,hs2⟩)
 have hb3:=aT w2 (aO #[aA m1 2 d1,aA m2 2 d2,aB aI (Z:Int),aB aI (least:Int),aB aI (aP:Int)] 29);have KU:=gO (bI w2 #[aA m1 2 d1,aA m2 2 d2,aB aI (Z:Int),aB aI (least:Int),aB aI (aP:Int)] 29);have hsU:w2.heap.size<(w2.alloc (aO #[aA m1 2 d1,aA m2 2 d2,aB aI (Z:Int),aB aI (least:Int),aB aI (aP:Int)] 29)).heap.size:=by simp
 have HS3:=gO (hs2.below hb3);have HB3:=gO (gW hb1 (HS3.out.b));have KN:Hid (∀c∈s.cs,c.ns.length<=1000):=λc hc=>gQ (HS3.out.i.g.nm c hc) (by decide)
 clear hs2 hb3 hb1 aIk;generalize w2.alloc _=w3 at*;have nP:=gO (HS3.out.new w3 (gX _ _) (kH.out.below HB3.out));obtain⟨sn,hsn⟩:∃sn,dW h 6=sn:=⟨_,rfl⟩
 unfold AA Sc.vals at nP;rw[hsn]at nP;generalize w2.heap.size=U at*;obtain⟨u0,u1,u2,u3,u4⟩:=gA5 KU.out;go_upto_region 5 with (go_at_call 20;refine nP.out.mono ?_;rintro ev w4 ⟨I,rfl,hn4,hb4⟩)
 have hb5:=aT w4 (aO #[aA I.a1 I.n1 I.c1,aA I.hc.az 2 I.hc.cz,aA I.hc.am 2 I.hc.cm,aB aI (sn.h.aP:Int),aA I.hc.al I.hc.lc.length I.hc.cl,aA I.hc.av sn.h.live.length I.hc.cv,aA I.a2 I.ys.length I.c2] 42);have J:=gO ((HS3.out.below hb4).below hb5);have HB5:=gO (gW HB3.out (gW hb4 hb5));have HV0:=gO (hn4.hr.at.below hb5);have HKF:=gO (bI w4 #[aA I.a1 I.n1 I.c1,aA I.hc.az 2 I.hc.cz,aA I.hc.am 2 I.hc.cm,aB aI (sn.h.aP:Int),aA I.hc.al I.hc.lc.length I.hc.cl,aA I.hc.av sn.h.live.length I.hc.cv,aA I.a2 I.ys.length I.c2] 42);have GL:=yA w4 (aO #[aA I.a1 I.n1 I.c1,aA I.hc.az 2 I.hc.cz,aA I.hc.am 2 I.hc.cm,aB aI (sn.h.aP:Int),aA I.hc.al I.hc.lc.length I.hc.cl,aA I.hc.av sn.h.live.length I.hc.cv,aA I.a2 I.ys.length I.c2] 42);clear u0 u1 u2 u3 u4 nP KU hsU hn4 hb4 hb5 HB3;generalize w4.alloc _=w5 at*;generalize w4.heap.size=F at*;obtain⟨k0,k1,k2,k3,k4,k5,k6⟩:=J.out.st.sv;go_upto_region 6 with fail
 have hb6:=aT w5 (aO #[aA v.a1 v.n1 v.c1,aA v.hc.az 2 v.hc.cz,aA v.hc.am 2 v.hc.cm,aB aI (s.h.aP:Int),aA v.hc.al v.hc.lc.length v.hc.cl,aA v.hc.av s.h.live.length v.hc.cv,aA v.a2 v.ys.length v.c2] 42);have HP6:=gO ((kV.start w5 s v).box #[aA v.a1 v.n1 v.c1,aA v.hc.az 2 v.hc.cz,aA v.hc.am 2 v.hc.cm,aB aI (s.h.aP:Int),aA v.hc.al v.hc.lc.length v.hc.cl,aA v.hc.av s.h.live.length v.hc.cv,aA v.a2 v.ys.length v.c2] 42);have HS6:=gO (J.out.below hb6);clear k0 k1 k2 k3 k4 k5 k6 HS3 hb6;generalize w5.alloc _=w6 at*;obtain⟨B,hB⟩:∃B,w5.heap.size=B:=⟨_,rfl⟩
 rw[hB]at HP6 ⊢;clear hB;have k9:w6.cell? ⟨G,9,aJ⟩=aK (aA wa L.length wc9):=HS6.out.st.k 9;have hL:=HS6.out.l;go_wp2_with fail
 have HHK:Hid (Hk h s.h):=by
  have h9:=Hk.run HS6.out.r;exact h9
 go_loopw [53] (λs53 wr=>∃(j:Nat) (M:Sy) (E:Sc),j<=L.length/\s53=aB aI (j:Int)/\Hid (fK M (L.drop j))/\Hid (Hk h M.h)/\Hid (kV w5 s v M E CU [(B,#[aA E.a1 E.n1 E.c1,aA E.hc.az 2 E.hc.cz,aA E.hc.am 2 E.hc.cm,aB aI (M.h.aP:Int),aA E.hc.al E.hc.lc.length E.hc.cl,aA E.hc.av M.h.live.length E.hc.cv,aA E.a2 E.ys.length E.c2])] wr)) (λs53 _=>L.length-(intOf s53).toNat)
 case atStart=>exact⟨0,s,v,gU _,rfl,HS6.out.i,HHK,HP6⟩
 case round=>
  obtain⟨j,M,E,hj,rfl,HI,HH,HP⟩:=hrel;clear k9 HP6 HS6 HHK;by_cases hlt:j<L.length
  ·have hji:(j:Int)<L.length:=by omega
   have HSR:=gO (J.out.below HP.out.b);obtain⟨g,hg,hgl,t0,t1,t2,t3,t4,t5⟩:=HSR.out.thing hlt;obtain rfl:wa=aK ⟨g,0,aJ⟩:=hg;have hI:fK M (L[j]::L.drop (j+1)):=by
    have h9:=HI.out
    rwa [List.drop_eq_getElem_cons hlt]at h9
   obtain⟨m,hm⟩:=hI.th L[j] (List.mem_cons_self ..);have hmk:=hm.k;have hap:=(hmk.pos hI.g.ok)
   obtain⟨s2,V,hi2⟩:=hI.back;have HG:=gO hI.g;generalize L[j]=t at*;obtain⟨ta,tz,tk,tn,tw,tb⟩:=t;unfold backAct at V;simp only at t0 t1 t2 t3 t4 t5 hap hmk V;have hkd:(tk=1∨tk=5)∨tk=8:=by cases hmk <;> simp
   have HD:=gO V;have HI2:=gO hi2;clear hm hmk hI hi2 V HI;have HT:=gO (HP.out.box #[aB aI ta,aB aI tz,aB aI tk,aF ⟨tn.toArray⟩,aB aI tw,.bool tb] 52);go_upto_region 9 with fail
   clear t0 t1 t2 t3 t4 t5 HSR;generalize wr.alloc _=w7 at*;generalize wr.heap.size=T at*;have KT:=HT.out.k1.1;obtain⟨b0,b1,b2,b3,b4,b5⟩:=gA6 KT;have HA:=gO (HT.out.box #[aB aI 9,aB aI 0,aB aI 0,aB aI 0,aB aI ta,aB aI 0,aF ⟨#[]⟩] 70);go_upto_region 10 with fail
   clear b0 b1 b2 b3 b4 b5 KT;generalize w7.alloc _=w8 at*;generalize w7.heap.size=A at*;have KT:=HA.out.k2.1;obtain⟨b0,b1,b2,b3,b4,b5⟩:=gA6 KT;have KA:=HA.out.k1.2.1;have f0:=KA 0;have f1:=KA 1;have f2:=KA 2;have f3:=KA 3;have f4:=KA 4;have f5:=KA 5;have f6:=KA 6;have R:=HA.out.k1.1;obtain⟨S,Y,e2,e3,e4,e5,e6⟩:=gA7 R
   go_upto_if 62 with fail
   go_cut [] (λwx=>∃(ck cp:Int) (cs:List UInt8),Hid (Dn M ⟨ck,0,0,0,cp,0,cs⟩ (s2,⟨0,0,[]⟩))/\Hid (kV w5 s v M E CU [(A,#[aB aI ck,aB aI 0,aB aI 0,aB aI 0,aB aI cp,aB aI 0,aF ⟨cs.toArray⟩]),(T,#[aB aI ta,aB aI tz,aB aI tk,aF ⟨tn.toArray⟩,aB aI tw,.bool tb]),(B,#[aA E.a1 E.n1 E.c1,aA E.hc.az 2 E.hc.cz,aA E.hc.am 2 E.hc.cm,aB aI (M.h.aP:Int),aA E.hc.al E.hc.lc.length E.hc.cl,aA E.hc.av M.h.live.length E.hc.cv,aA E.a2 E.ys.length E.c2])] wx))
   case first=>
    rcases hkd with (rfl | rfl) | rfl
    ·have V:=HD.out;rw[if_pos rfl]at V;go_wp2_with fail
     go_meet
     exact⟨2,ta/16,[],gO V,gO (HA.out.act7 (aB aI 2) (aB aI 0) (aB aI 0) (aB aI 0) (aB aI (ta/16)) (aB aI 0) (aF ⟨[].toArray⟩))⟩
    ·have V:=HD.out;rw[if_neg (by decide),if_pos rfl]at V;go_wp2_with fail
     go_meet
     exact⟨6,ta,tn,gO V,gO (HA.out.act7 (aB aI 6) (aB aI 0) (aB aI 0) (aB aI 0) (aB aI ta) (aB aI 0) (aF ⟨tn.toArray⟩))⟩
    ·have V:=HD.out;rw[if_neg (by decide),if_neg (by decide)]at V;go_wp2_with fail
     go_meet
     exact⟨9,ta,[],gO V,HA⟩
   case rest=>
    obtain⟨ck,cp,cs,HD9,HA2⟩:=hcut;clear HD HA HT KT KA R b0 b1 b2 b3 b4 b5 f0 f1 f2 f3 f4 f5 f6 S Y e2 e3 e4 e5 e6;obtain⟨W,rfl⟩:∃W,W=wc:=⟨_,rfl⟩
    have HR2:=gO (HA2.out.c G _ J.out.st.r);have HD0:Hid (Calls prog 21 #[aC #[aA E.a1 E.n1 E.c1,aA E.hc.az 2 E.hc.cz,aA E.hc.am 2 E.hc.cm,aB aI (M.h.aP:Int),aA E.hc.al E.hc.lc.length E.hc.cl,aA E.hc.av M.h.live.length E.hc.cv,aA E.a2 E.ys.length E.c2],aC #[aB aI ck,aB aI 0,aB aI 0,aB aI 0,aB aI cp,aB aI 0,aF ⟨cs.toArray⟩]] W (λev w5=>∃(H:Sc) (d:Option Addr) (cap:Nat),ev=aN (aG #[aC #[aA H.a1 H.n1 H.c1,aA H.hc.az 2 H.hc.cz,aA H.hc.am 2 H.hc.cm,aB aI (s2.h.aP:Int),aA H.hc.al H.hc.lc.length H.hc.cl,aA H.hc.av s2.h.live.length H.hc.cv,aA H.a2 H.ys.length H.c2],aC #[aB aI 0,aB aI 0,aA d 0 cap]])/\kV W M E s2 H ⟨⟨0,0,[]⟩,d,cap⟩ [] w5)):=by
     have hL:=kV.start W M E;refine(Ui E M ck 0 0 0 cp 0 cs (s2,⟨0,0,[]⟩) W (hL.c G _ HR2.out).at HG.out (HO.out.below (gW HB5.out HA2.out.b)) (kH.out.below (gW HB5.out HA2.out.b)) HD9.out).mono ?_;rintro ev w5 ⟨H,d,cap,rfl,htr,hb,ho⟩;exact⟨H,d,cap,rfl,hL.call (q:=⟨⟨0,0,[]⟩,d,cap⟩) htr hb ho⟩
    have HPB:=gO HA2.out.sub1.sub1;have KA:=HA2.out.k1.1;obtain⟨q0,q1,q2,q3,q4,q5,q6⟩:=gA7 KA;have R:=HPB.out.k1.1;obtain⟨S,Y,e2,e3,e4,e5,e6⟩:=gA7 R;clear HR2 KA R HA2;go_upto_region 15 with (go_at_call 21;refine HD0.out.mono ?_;rintro ev w9 ⟨H,d,cap,rfl,Q⟩)
    have GK:=((Q.box #[aA H.a1 H.n1 H.c1,aA H.hc.az 2 H.hc.cz,aA H.hc.am 2 H.hc.cm,aB aI (s2.h.aP:Int),aA H.hc.al H.hc.lc.length H.hc.cl,aA H.hc.av s2.h.live.length H.hc.cv,aA H.a2 H.ys.length H.c2] 42).WQ (n:=w9.heap.size+1) (A:=#[aB aI 0,aB aI 0,aA d 0 cap]) (by simp) 72).swap;clear q0 q1 q2 q3 q4 q5 q6 S Y e2 e3 e4 e5 e6 HD0 Q;generalize (w9.alloc _).alloc _=W6 at*;generalize w9.heap.size=X at*;clear w9;have y0:W6.cell? ⟨X+1,0,aJ⟩=aK (aB aI 0):=GK.k2.1 0;have HPN:=gO (HPB.out.trans GK);have KX:=GK.k1.1;obtain⟨x0,x1,x2,x3,x4,x5,x6⟩:=gA7 KX;have P:=HPN.out.k1.2.1;have f0:=P 0;have f1:=P 1;have f2:=P 2;have f3:=P 3;have f4:=P 4;have f5:=P 5;have f6:=P 6;have R:=HPN.out.k1.1;obtain⟨S,Y,e2,e3,e4,e5,e6⟩:=gA7 R;have HPW:=gO (HPN.out.put7 H s2);clear GK KX P R;go_wp2_with fail
    go_roundw
    case rel=>exact⟨j+1,s2,H,by omega,by go_num,HI2,HH.out.trans (Hk.dn HG.out HD9.out),HPW⟩
    case measure=>simp[intOf];omega
  ·obtain rfl:j=L.length:=by omega
   have HI0:Hid (fK M []):=by
    have h9:=HI.out
    rwa [List.drop_length]at h9
   have R:=HP.out.k1.1;obtain⟨S,Y,e2,e3,e4,e5,e6⟩:=gA7 R;have HSH0:Hid (Kr h M M 0):=⟨HI0.out,rfl,HH.out,λj hj=>by omega⟩
   have hyn:E.ys.length=M.cs.length:=by rw[<- (HP.out.c G _ J.out.st.r).cy,gTe]
   have aPT:M.cs.length<=20:=HI0.out.g.ok.cl;clear HI HH R;go_wp2_with fail
   clear S Y e2 e3 e4 e5 e6;go_loopw [89] (λs89 wr=>∃(i:Nat) (t:Sy) (C:Sc),i<=E.ys.length/\s89=aB aI (i:Int)/\Hid (Kr h M t i)/\Hid (kV w5 s v M E CU [(B,#[aA C.a1 C.n1 C.c1,aA C.hc.az 2 C.hc.cz,aA C.hc.am 2 C.hc.cm,aB aI (t.h.aP:Int),aA C.hc.al C.hc.lc.length C.hc.cl,aA C.hc.av t.h.live.length C.hc.cv,aA C.a2 C.ys.length C.c2])] wr)/\Hid (kV w5 s v t C CU [(B,#[aA C.a1 C.n1 C.c1,aA C.hc.az 2 C.hc.cz,aA C.hc.am 2 C.hc.cm,aB aI (t.h.aP:Int),aA C.hc.al C.hc.lc.length C.hc.cl,aA C.hc.av t.h.live.length C.hc.cv,aA C.a2 C.ys.length C.c2])] wr)) (λs89 _=>E.ys.length-(intOf s89).toNat)
   case atStart=>exact⟨0,M,E,gU _,rfl,HSH0,HP,HP⟩
   case round=>
    obtain⟨i,t,C,hi,rfl,WC,HP1,N⟩:=hrel;clear HSH0 HP;by_cases hlt2:i<E.ys.length
    ·have hii:(i:Int)<E.ys.length:=by omega
     have TL:=gO ((HP1.out.c G _ J.out.st.r).at);obtain⟨bb,off,hba,hbb,hbc⟩:=aZ eY (by decide) TL.out.rc hlt2;have hcy:=TL.out.ca _ (gL hlt2);have hci:M.cs[i]? =aK E.ys[i].c:=by
      rw[<- TL.out.cy];simp[hlt2]
     obtain⟨y,hy⟩:∃y,E.ys[i]=y:=⟨_,rfl⟩
     rw[hy]at hbc hcy hci;obtain⟨S,Y,e2,e3,e4,e5⟩:=kM hbc;have hn0:0<y.c.ns.length:=List.length_pos_iff.2 (HI0.out.g.ok.ck _ (gM hci)).ns;obtain⟨nb,SH,hna,hnb,hnc⟩:=aZ bW (by decide) hcy.r1 hn0;have n0:=hnc 0 _ rfl;have aEJ:=gO (WC.out.next HI0.out.g.ok hci (gL hn0));have hy1:(0:Int)<y.n1:=by rw[<- hcy.l1];omega
     have hy2:0<y.n1:=by omega
     have hy3:¬y.n1=0:=by omega
     generalize y.c.ns[0]=nm at*;rw[hna]at S;rw[hba];have Oh:=gO (WC.out.step (by rw[WC.out.len];omega));have HG:=gO WC.out.i.g;obtain⟨u,hu⟩:∃u,t.shrink i=u:=⟨_,rfl⟩
     rw[hu]at Oh;have HU:=gO hu;have hbz:=aT wr (aO #[aA (aK ⟨nb,SH,aJ⟩) y.n1 y.c1,aB aI (y.c.z:Int),aB aI (y.c.r:Int),aB aI (y.c.o:Int),aA y.a2 y.n2 y.c2,aA y.a3 y.n3 y.c3] 67);have KK:=bI wr #[aA (aK ⟨nb,SH,aJ⟩) y.n1 y.c1,aB aI (y.c.z:Int),aB aI (y.c.r:Int),aB aI (y.c.o:Int),aA y.a2 y.n2 y.c2,aA y.a3 y.n3 y.c3] 67;have hsk:=yA wr (aO #[aA (aK ⟨nb,SH,aJ⟩) y.n1 y.c1,aB aI (y.c.z:Int),aB aI (y.c.r:Int),aB aI (y.c.o:Int),aA y.a2 y.n2 y.c2,aA y.a3 y.n3 y.c3] 67);have aIl:=gO (HP1.out.below hbz);have aAo:=gO (N.out.below hbz);have n1:=(hbz.cell (p:=⟨nb,SH+0*1+0,aJ⟩) hnb).trans n0;have aIm:=gI hnb hbz.size;clear hu hnc n0 hbc hcy hci hy hna hba hn0 TL WC HP1 N;go_upto_region 22 with fail
     clear S Y e2 e3 e4 e5 hbz;generalize wr.alloc _=W at*;generalize wr.heap.size=K at*;have LB:∀X,Below W.heap.size W X->X.cell? ⟨B,0,aJ⟩=aK (aA C.a1 C.n1 C.c1)/\X.cell? ⟨B,1,aJ⟩=aK (aA C.hc.az 2 C.hc.cz)/\X.cell? ⟨B,2,aJ⟩=aK (aA C.hc.am 2 C.hc.cm)/\X.cell? ⟨B,3,aJ⟩=aK (aB aI (t.h.aP:Int))/\X.cell? ⟨B,4,aJ⟩=aK (aA C.hc.al C.hc.lc.length C.hc.cl)/\X.cell? ⟨B,5,aJ⟩=aK (aA C.hc.av t.h.live.length C.hc.cv)/\X.cell? ⟨B,6,aJ⟩=aK (aA C.a2 C.ys.length C.c2):=λX hX=>by
      have k:=aQ aAo.out.k1.1 aAo.out.k1.2.2 hX;exact⟨k 0,k 1,k 2,k 3,k 4,k 5,k 6⟩
     have LK:∀X,Below W.heap.size W X->X.cell? ⟨K,0,aJ⟩=aK (aA (aK ⟨nb,SH,aJ⟩) y.n1 y.c1):=λX hX=>(aQ KK hsk hX) 0
     have LN:∀X,Below W.heap.size W X->X.cell? ⟨nb,SH,aJ⟩=aK (aF ⟨nm.toArray⟩):=λX hX=>(hX.cell (p:=⟨nb,SH,aJ⟩) aIm).trans n1
     have h0:=kV.start W t C;have h1:=h0.box #[aA aJ 0 0,aA aJ 0 0,aA aJ 0 0,aB aI 0,aA aJ 0 0,aA aJ 0 0,aA aJ 0 0] 42;have HAT:=gO (λbs X (hL:kV W t C t C CU bs X)=>(hL.c G _ (aAo.out.c G _ J.out.st.r)).at);have HD0:=gO (aIj h0.drew (HAT.out _ _ h0.drew) HG.out aEJ.out HU.out);have HD1:=gO (aIj h1.drew (HAT.out _ _ h1.drew) HG.out aEJ.out HU.out);clear h0 h1 HAT n1 aIm hnb KK hsk;go_cut [22,23] (λs22 s23 wx=>∃(X:Nat) (H:Sc),s22=aH (aK ⟨X,0,aJ⟩)/\s23=aB aI 0/\kV W t C u H CU [(X,#[aA H.a1 H.n1 H.c1,aA H.hc.az 2 H.hc.cz,aA H.hc.am 2 H.hc.cm,aB aI (u.h.aP:Int),aA H.hc.al H.hc.lc.length H.hc.cl,aA H.hc.av u.h.live.length H.hc.cv,aA H.a2 H.ys.length H.c2])] wx)
     case first=>
      clear HU HG Oh aIl aAo aEJ HI0 KN J HV0 HO kH HB5 HKF;go_region_held3 (λX=>Below W.heap.size W X) ((repeat (first | with_reducible assumption | with_reducible exact gX _ _ | with_reducible refine Below.setCell ?_ ?_ _ | with_reducible apply Below.drew | with_reducible refine gW ?_ (aT _ _) | with_reducible refine gW ?_ (by with_reducible assumption) | (simp only;omega)))) (first | (go_at_call 22;(with_reducible refine HD0.out.mono ?_);rintro ev w5 ⟨H,rfl,Q,hb5⟩;have hs5:=Q.b.size) | (go_at_call 22;(with_reducible refine HD1.out.mono ?_);rintro ev w5 ⟨H,rfl,Q,hb5⟩;have hs5:=Q.b.size;obtain⟨K51,F51,aB3⟩:=Q.k1))
      all_goals (go_wp2_with fail;go_meet)
      all_goals refine⟨_,H,rfl,rfl,?_⟩
      all_goals (repeat (first | with_reducible exact Q | with_reducible apply kV.put7 | with_reducible refine kV.WQ ?_ (by simp) _))
     case rest=>
      obtain⟨X,H,rfl,rfl,GK⟩:=hcut;obtain⟨W6,rfl⟩:∃W6,W6=wc:=⟨_,rfl⟩
      have KX:=GK.k1.1;obtain⟨x0,x1,x2,x3,x4,x5,x6⟩:=gA7 KX;have HQ1:=gO (aIl.out.below GK.b);have HQ2:=gO (aAo.out.trans GK);have R:=HQ2.out.k1.1;obtain⟨S,Y,e2,e3,e4,e5,e6⟩:=gA7 R;have P:=HQ2.out.k1.2.1;have f0:=P 0;have f1:=P 1;have f2:=P 2;have f3:=P 3;have f4:=P 4;have f5:=P 5;have f6:=P 6;have HR1:=gO (HQ1.out.put7 H u);have HR2:=gO (HQ2.out.put7 H u);clear KX R P LB LK LN GK HD0 HD1;go_wp2_with fail
      go_roundw
      case rel=>exact⟨i+1,u,H,by omega,by go_num,Oh,HR1,HR2⟩
      case measure=>simp[intOf];omega
    ·obtain rfl:i=E.ys.length:=by omega
     have aAp:=gO (WC.out.done (by rw[WC.out.len];omega) J.out.hk (by rw[J.out.hh];rfl) (by rw[J.out.hh];rfl));have HDK:=gO ((WC.out.hp J.out.hk).1.drain).1;have HT:=gO ((N.out.c G _ J.out.st.r).at);have hgt:=WC.out.i.g.ok.hk;have hll:C.hc.lc.length<=1000:=by
      have h9:=congrArg List.length HT.out.hh.ll;rw[gTe]at h9;rw[h9];have:=hgt.pK;omega
     have hvl:t.h.live.length<=1000:=by have:=hgt.jM;omega
     have HX:Hid (Calls prog 23 #[aC #[aA C.hc.az 2 C.hc.cz,aA C.hc.am 2 C.hc.cm,aB aI (t.h.aP:Int),aA C.hc.al C.hc.lc.length C.hc.cl,aA C.hc.av t.h.live.length C.hc.cv]] wr λev w'=>∃c':Hc,ev=aN (aG #[aC #[aA c'.az 2 c'.cz,aA c'.am 2 c'.cm,aB aI (t.h.drain.aP:Int),aA c'.al c'.lc.length c'.cl,aA c'.av t.h.drain.live.length c'.cv],aB aI 0])/\lN w' wr.heap.size t.h.drain c'/\Below wr.heap.size wr w'):=
      Cm C.hc.az C.hc.am C.hc.al C.hc.av C.hc.cz C.hc.cm C.hc.cl C.hc.cv C.hc.lc.length t.h.live.length C.hc.y0 C.hc.y1 C.hc.lc t.h wr HT.out.hh hgt hll hvl
     have aIn:sn.h=h:=by rw[<- hsn];rfl
     have hv9:=HV0.out.below N.out.b;rw[aIn]at hv9;have HV9:=gO hv9;have HKF9:=gO (aQ HKF.out GL N.out.b);have aEK:=gI GL N.out.b.size;have HB9:=gO (gW HB5.out N.out.b);have HKH:=gO J.out.hk;have R:=N.out.k1.1;obtain⟨S,Y,e2,e3,e4,e5,e6⟩:=gA7 R;clear hgt hll hvl aIn hv9 HT HV0 HKF GL HP1 N WC R J HB5 HO kH KN;obtain⟨d,V⟩:∃d,t.h.drain=d:=⟨_,rfl⟩
     rw[V]at aAp HDK HX;clear V;go_upto_region 28 with (go_at_call 23;refine HX.out.mono ?_;rintro ev w7 ⟨c2,rfl,hn7,hb7⟩)
     have hb8:=aT w7 (aO #[aA c2.az 2 c2.cz,aA c2.am 2 c2.cm,aB aI (d.aP:Int),aA c2.al c2.lc.length c2.cl,aA c2.av d.live.length c2.cv] 39);have HD8:=gO (hn7.at.below hb8);have aAq:=gW hb7 hb8;have HV8:=gO (HV9.out.below aAq);have HKF8:=gO (aQ HKF9.out aEK aAq);have aIo:=gI aEK aAq.size;have HB8:=gO (gW HB9.out aAq);have KD:=bI w7 #[aA c2.az 2 c2.cz,aA c2.am 2 c2.cm,aB aI (d.aP:Int),aA c2.al c2.lc.length c2.cl,aA c2.av d.live.length c2.cv] 39;have hsD:=yA w7 (aO #[aA c2.az 2 c2.cz,aA c2.am 2 c2.cm,aB aI (d.aP:Int),aA c2.al c2.lc.length c2.cl,aA c2.av d.live.length c2.cv] 39);clear S Y e2 e3 e4 e5 e6 HX HV9 HKF9 aEK HB9 hn7 hb7 hb8 aAq;generalize w7.alloc _=w8 at*;generalize w7.heap.size=D at*;have HKD:=gO KD;obtain⟨g0,g1,g2,g3,g4⟩:=gA5 KD;clear KD;go_wp2_with fail
     clear g0 g1 g2 g3 g4;go_loopw [115] (λs115 wr=>∃k:Nat,k<=2/\s115=aB aI (k:Int)/\Hid (Below w8.heap.size w8 wr)) (λs115 _=>2-(intOf s115).toNat)
     case atStart=>exact⟨0,gU _,rfl,gX _ _⟩
     case round=>
      obtain⟨k,hk,rfl,TR⟩:=hrel;by_cases hlt3:k<2
      ·have Hg:(k:Int)<2:=by omega
       have HDk:=gO (HD8.out.below TR.out);have HVk:=gO (HV8.out.below TR.out);obtain⟨b,off,O,hzc,hb,⟨S,Y,e2,e3⟩,hzt⟩:=HDk.out.zcA hlt3;have HKEY:=gO (aAp.out.2 k hlt3);have hzl:=(Om HDK.out k).1;have HZT:=gO hzt;rw[hzc];clear hzt hzc;generalize d.zone k=z9 at*;go_upto_region 31 with fail
       have nZ:=aT wr (aO #[aB aI (z9.f:Int),aB aI (z9.e:Int),aA O.a1 O.n1 O.c1,aA O.a2 O.n2 O.c2] 79);have KZ:=bI wr #[aB aI (z9.f:Int),aB aI (z9.e:Int),aA O.a1 O.n1 O.c1,aA O.a2 O.n2 O.c2] 79;have hsZ:=yA wr (aO #[aB aI (z9.f:Int),aB aI (z9.e:Int),aA O.a1 O.n1 O.c1,aA O.a2 O.n2 O.c2] 79);have HZT5:=gO (HZT.out.below nZ);have HV10:=gO (HVk.out.below nZ);have HB10:=gO (gW TR.out nZ);clear nZ S Y e2 e3 hb HDk HVk HZT TR;generalize wr.alloc _=w10 at*;generalize wr.heap.size=BZ at*;have z2:=KZ 2;have q0:=(aQ HKF8.out aIo HB10.out) 1;have aNx:=gI aIo HB10.out.size;simp only[gB,gC,gD]at z2 q0;obtain⟨b2,off2,zc2,aIp,hb2',⟨S,Y,e2,e3⟩,aEL⟩:=HV10.out.zcA hlt3;have HZ8:=gO aEL;have l9:=HZT5.out.l1;have l8:=aEL.l1;rw[aIp]at q0;clear aEL aIp KZ S Y e3;generalize h.zone k=z8 at*;have hn9:O.n1<=256:=by omega
       refine bH (by kernel_rfl) (by kernel_rfl) ?_
       repeat (first | go_big_quiet_step ((go_at_call 24;exact Calls.dF (JA _ _ _ _ _ _ z9.l z8.l _ l9 l8 (by omega) ((HZT5.out.below (bD w10 _)).r1) ((HZ8.out.below (bD w10 _)).r1) HKEY.out))) | quiet_step ((go_at_call 24;exact Calls.dF (JA _ _ _ _ _ _ z9.l z8.l _ l9 l8 (by omega) ((HZT5.out.below (bD w10 _)).r1) ((HZ8.out.below (bD w10 _)).r1) HKEY.out))))
       refine wpQuiet_nil ?_;rintro _ ⟨wx,rfl⟩;have kP:=gO (gW HB10.out (bD w10 wx));go_wp2_with fail
       go_roundw
       case rel=>exact⟨k+1,by omega,by go_num,kP⟩
       case measure=>simp[intOf];omega
      ·obtain rfl:k=2:=by omega
       have KD:=aQ HKD.out hsD TR.out;obtain⟨g0,g1,g2,g3,g4⟩:=gA5 KD;have HBE:=gO (gW HB8.out TR.out);have hl0:d.live.length=0:=by rw[aAp.out.1];rfl
       rw[hl0]at g4;clear hl0 KD;go_wp2_with fail
       all_goals go_ret
       all_goals exact⟨rfl,HBE.out⟩
end Go.Proofs.YtjaogfhcnmjkiaaGreatDoor
