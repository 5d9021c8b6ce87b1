/- joined. -/
import Derived.Test.YtjaogfhcnmjkiaaGreatDoorAB17
set_option linter.all false
set_option maxRecDepth 100000
set_option maxHeartbeats 0
namespace Go.Proofs.YtjaogfhcnmjkiaaGreatDoor
open Go.RowKit
open Go.Value renaming slice->aA,int->aB,agg->aC,string->aF,tuple->aG,pointer->aH,ownBlock->gTh
open Go.IntKind renaming i64->aI
open Option renaming none->aJ,some->aK
open Go.Ending renaming returned->aN
open Go.Obj renaming cells->aO
open Go.Proofs.Tryz
variable {a:Int}{i:Nat}{l:List Int}{s:Sy}
theorem Rx (v:Sc)(s:Sy)(i k:Nat)(a:Int)(l:List Int)(w:World)(hs:nO w v s)(hk:cZ s)(hf:∀c∈s.cs,c.ns.length<=1000)(hi:i<s.cs.length)(hkk:k<s.cs[i].sl.length)(hob:iO s.cs[i] s.cs[i].sl[k].p a=true)(hfl:follow s.w s.cs[i].sl[k].h s.cs[i].r=aK l)(hal:a∉l):
 Calls prog 18 #[aC #[aA v.a1 v.n1 v.c1,aA v.hc.az 2 v.hc.cz,aA v.hc.am 2 v.hc.cm,aB aI (s.h.aP:Int),aA v.hc.al v.hc.lc.length v.hc.cl,aA v.hc.av s.h.live.length v.hc.cv,aA v.a2 v.ys.length v.c2],aB aI a] w λev w'=>ev=aN (aG #[aB aI i,aB aI k,aB aI 0])/\Below w.heap.size w w':=by
 obtain⟨K0,F0,Z,O⟩:=boxes1 w #[aA v.a1 v.n1 v.c1,aA v.hc.az 2 v.hc.cz,aA v.hc.am 2 v.hc.cm,aB aI (s.h.aP:Int),aA v.hc.al v.hc.lc.length v.hc.cl,aA v.hc.av s.h.live.length v.hc.cv,aA v.a2 v.ys.length v.c2] 42;have HS:=gO (hs.below O);have HB:=gO O;have HK:=gO hk;have HK0:=gO K0;have uK:=gO (nJ v s _ (hs.below O) hk hf);have hyl:v.ys.length<=20:=by have:=congrArg List.length hs.cy;rw[gTe]at this;rw[this];exact hk.cl
 have Zj:v.ys.length=s.cs.length:=by have:=congrArg List.length hs.cy;simpa using this
 have hab:0<=a/\a<4096:=by
  have h1:=kD (hk.ck _ (gL hi)).room hob;obtain⟨b,hb,hb1,H⟩:=((hk.ck _ (gL hi)).sk _ (gL hkk)).live;obtain⟨⟨_,_,h3,h4⟩,_⟩:=hk.hk.lv b hb;have h5:s.cs[i].o<=2:=by rw[(hk.ck _ (gL hi)).o];exact mM _
  rw[hb1]at h3 h4;rw[H]at h4;generalize s.cs[i].o=o at*;obtain rfl | rfl | rfl:o=0∨o=1∨o=2:=by omega
  ·omega
  ·omega
  ·omega
 have aBq:=gO Zj;have HOB:=gO hob;have HFL:=gO hfl;have Ea:=gO hal;obtain⟨k0,k1,k2,k3,k4,k5,k6⟩:=gA7 K0;clear hs hk hf O K0 F0 hob hfl hal Zj;go_enter func18,ntmps18
 go_upto_region 1 with fail
 generalize w.alloc _=w1 at*;go_upto_region 4 with (go_at_call 11;refine uK.out.mono ?_;rintro ev w2 ⟨rfl,H⟩)
 have HB2:=gO H;have k6':=(H.cell (p:=⟨w.heap.size,6,aJ⟩) Z).trans k6;clear k0 k1 k2 k3 k4 k5 k6 uK H;go_wp2_with fail
 clear k6';go_loopw [22] (λs22 wr=>∃(f:Nat),f<=i/\s22=aB aI (f:Int)/\Hid (Below w1.heap.size w1 wr)) (λs22 _=>v.ys.length-(intOf s22).toNat)
 case atStart=>exact⟨0,gU _,rfl,HB2⟩
 case round=>
  obtain⟨f,hi',rfl,oH⟩:=hrel;have L:f<v.ys.length:=by rw[aBq.out];omega
  have hic:f<s.cs.length:=by omega
  have Hg:(f:Int)<v.ys.length:=by omega
  have P:v.ys[f].c=s.cs[f]:=by
   have h1:=congrArg (·[f]?) HS.out.cy;simp[L,hic]at h1;exact h1
  have lD:=HS.out.below oH.out;obtain⟨bb,off,hba,hbb,hbc⟩:=aZ eY (by decide) lD.rc L;obtain⟨e0,e1,e2,e3,e4,e5⟩:=kM hbc;have M:=lD.ca _ (gL L);have G:=HK.out.ck _ (gL hic);rw[<- P]at G;have aCI:∀(c:Ca),c=s.cs[f]->∀g x,c.sl[g]? =aK x->¬(f=i/\g=k)->iO c x.p a=false:=λc hc g x hx X=>by
   subst hc;obtain⟨hk',e⟩:=gK.1 hx;cases h:iO s.cs[f] x.p a with
   | false=>rfl
   | true=>
    rw[<- e]at h;exact absurd (HK.out.only hic hi hk' hkk h HOB.out) X
  have aCJ:∀(c:Ca),c=s.cs[f]->f=i->∃x,c.sl[k]? =aK x/\iO c x.p a=true/\follow s.w x.h c.r=aK l:=λc hc he=>by
   subst hc;subst he;exact⟨_,gJ hkk,HOB.out,HFL.out⟩
  have Ry:=aCI _ P;have Rz:=aCJ _ P;obtain⟨y,hy⟩:∃y,v.ys[f]=y:=⟨_,rfl⟩
  rw[hy]at Ry Rz;rw[hy]at e0 e1 e2 e3 e4 e5 M G;have HON:=gO Ry;have HTH:=gO Rz;have HY:=gO hy;have hsl:=G.nS HK.out.hk;have hl2:=M.l2;have hn2:y.n2<=256:=by omega
  have HL2:=gO hl2;have KJ:=gO M;have K:=gO G;have HA:=gO hba;rw[hba];clear hbc hba P lD hbb aCI aCJ Ry Rz hy hl2 hsl M G;go_upto_region 7 with fail
  have hb6:=aT wr (aO #[aA y.a1 y.n1 y.c1,aB aI (y.c.z:Int),aB aI (y.c.r:Int),aB aI (y.c.o:Int),aA y.a2 y.n2 y.c2,aA y.a3 y.n3 y.c3] 67);have K6:=bI wr #[aA y.a1 y.n1 y.c1,aB aI (y.c.z:Int),aB aI (y.c.r:Int),aB aI (y.c.o:Int),aA y.a2 y.n2 y.c2,aA y.a3 y.n3 y.c3] 67;have hs6:wr.heap.size<(wr.alloc (aO #[aA y.a1 y.n1 y.c1,aB aI (y.c.z:Int),aB aI (y.c.r:Int),aB aI (y.c.o:Int),aA y.a2 y.n2 y.c2,aA y.a3 y.n3 y.c3] 67)).heap.size:=by simp
  have HB6:=gO (gW oH.out hb6);have HC6:=gO (KJ.out.below hb6);have HK6:=gO K6;have k4:=K6 4;simp only[gB,gC,gD]at k4;clear hb6 K6 e0 e1 e2 e3 e4 e5 KJ oH;obtain⟨we,rfl⟩:∃we,we=wr:=⟨_,rfl⟩
  generalize we.alloc _=w6 at*;obtain⟨BC,hBC⟩:∃B,we.heap.size=B:=⟨_,rfl⟩
  rw[hBC]at HK6 hs6 k4 ⊢;clear hBC;go_wp2_with fail
  clear k4;go_loopw [30] (λs30 wr=>∃(g:Nat),g<=y.n2/\(f=i->g<=k)/\s30=aB aI (g:Int)/\Hid (Below w1.heap.size w1 wr)/\BC<wr.heap.size/\Hid (∀o,wr.cell? ⟨BC,o,aJ⟩=(#[aA y.a1 y.n1 y.c1,aB aI (y.c.z:Int),aB aI (y.c.r:Int),aB aI (y.c.o:Int),aA y.a2 y.n2 y.c2,aA y.a3 y.n3 y.c3]:Array Value)[o]?)) (λs30 _=>y.n2-(intOf s30).toNat)
  case atStart=>exact⟨0,gU _,λ_=>gU _,rfl,HB6,hs6,HK6⟩
  case round=>
   obtain⟨g,hkn,u,rfl,TR,hsk,HKk⟩:=hrel;clear HB6 hs6 HK6 HC6;have hsr:=HS.out.below TR.out;have FY:=hsr.ca _ (gL L);rw[HY.out]at FY;by_cases hkl:g<y.n2
   ·have hki:(g:Int)<y.n2:=by omega
    have Q:g<y.c.sl.length:=by rw[HL2.out];exact hkl
    obtain⟨sb,so,I,KQ,vU⟩:=aZ aY (by decide) FY.r2 Q;obtain⟨n0,n1,n2⟩:=iK vU;have hxp:=(K.out.sk _ (gL Q)).BF HK.out.hk;have Y:y.c.sl[g]? =aK y.c.sl[g]:=gJ Q;have HXN:=gO (HON.out g _ Y);have aKA:=gO FY;have HXG:=gO Y;generalize y.c.sl[g]=x at*;rw[I];have b9:=aT wr (aO #[aB aI (x.p:Int),aB aI (x.n:Int),aB aI x.h] 99);have KX:=bI wr #[aB aI (x.p:Int),aB aI (x.n:Int),aB aI x.h] 99;have hs9:wr.heap.size<(wr.alloc (aO #[aB aI (x.p:Int),aB aI (x.n:Int),aB aI x.h] 99)).heap.size:=by simp
    have j:=gO (gW TR.out b9);have m:=aQ HKk.out hsk b9;have RD:=gI hsk b9.size;have m0:=KX 0;have m1:=KX 1;have m2:=KX 2;have c0:=m 0;have c1:=m 1;have c2:=m 2;have c3:=m 3;have U:=m 4;have c5:=m 5;simp only[gB,gC,gD]at m0 m1 m2 c0 c1 c2 c3 U c5;rw[I]at U;have C:=gO m;have TS:=gO KX;have Hz:=gO (λW=>yT y.c y.a1 y.a2 y.a3 y.n1 y.c1 y.n2 y.c2 y.n3 y.c3 x.p a W K.out.z.1 (gQ K.out.rz (by decide)) (by omega) (by omega) (by omega));rw[I]at Hz;have HSB:=gO I;clear vU hsr FY Q Y m KX I;go_upto_region 10 with fail
    clear n0 n1 n2;generalize (wr.alloc _)=w9 at*;generalize wr.heap.size=BX at*;by_cases he:f=i/\g=k
    ·obtain⟨he1,he2⟩:=he;obtain⟨V,N,Zk,aD8⟩:=HTH.out he1;have hxx:V=x:=by
      have E:=HXG.out;rw[he2,N]at E;exact gP E
     subst hxx;rw[Zk]at Hz;obtain⟨l2,aD9,Zl,RF⟩:=(K.out.sk V (gM N)).chain;rw[aD8]at aD9;obtain rfl:=gP aD9;have hlb:∀b∈l,0<=b/\b<=1000000:=λb hb=>by
      have E:=kD K.out.room (RF b hb);have h8:y.c.o<=2:=by rw[K.out.o];exact mM _
      have h7:2^y.c.o<=4:=by
       generalize y.c.o=o at*;obtain rfl | rfl | rfl:o=0∨o=1∨o=2:=by omega
       all_goals decide
      generalize 2^y.c.o=q at*;omega
     have aEa:=(K.out.sk V (gM N)).Nb;have VK:=K.out.r64;have hxn:V.n<=1000000:=by omega
     have hn1:v.n1<=4096:=by rw[<- HS.out.lw,HK.out.wl];exact gT _
     have R:l.length<=1000000:=by omega
     have Ox:Hid (∀W,Below w9.heap.size w9 W->Calls prog 44 #[aC #[aA v.a1 v.n1 v.c1,aA v.hc.az 2 v.hc.cz,aA v.hc.am 2 v.hc.cm,aB aI s.h.aP,aA v.hc.al v.hc.lc.length v.hc.cl,aA v.hc.av s.h.live.length v.hc.cv,aA (aK ⟨bb,off,aJ⟩) v.ys.length v.c2],aC #[aA y.a1 y.n1 y.c1,aB aI y.c.z,aB aI y.c.r,aB aI y.c.o,aA (aK ⟨sb,so,aJ⟩) y.n2 y.c2,aA y.a3 y.n3 y.c3],aC #[aB aI V.p,aB aI V.n,aB aI V.h]] W λev w'=>∃(a':Option Addr) (c':Nat),ev=aN (aG #[aA a' l.length c',.bool true])/\Row w' a' (l.map vI)/\Below W.heap.size W w'):=λW hW=>by
      have E:=Ah v.a1 v.hc.az v.hc.am v.hc.al v.hc.av (aK ⟨bb,off,aJ⟩) v.n1 v.c1 v.hc.cz v.hc.cm v.hc.lc.length v.hc.cl s.h.live.length v.hc.cv v.ys.length v.c2 s.h.aP s.w y V l W HS.out.lw hn1 ((HS.out.below (j.out.trans (hW.mono j.out.size))).rw) K.out.z.1 (gQ K.out.rz (by decide)) (by omega) aD8 Zl RF hlb hxn;rw[HSB.out]at E;exact E
     have hnc:vO l a=false:=by
      unfold vO;rw[<- Bool.not_eq_true,List.contains_iff_mem];exact Ea.out
     have HNC:=gO hnc;have k0':=(j.out.cell (p:=⟨w.heap.size,0,aJ⟩) Z)
     have A:Hid (∀W,Below w9.heap.size w9 W->∀o,W.cell? ⟨w.heap.size,o,aJ⟩=(#[aA v.a1 v.n1 v.c1,aA v.hc.az 2 v.hc.cz,aA v.hc.am 2 v.hc.cm,aB aI (s.h.aP:Int),aA v.hc.al v.hc.lc.length v.hc.cl,aA v.hc.av s.h.live.length v.hc.cv,aA v.a2 v.ys.length v.c2]:Array Value)[o]?):=λW hW=>aQ HK0.out Z (j.out.trans (hW.mono j.out.size))
     have Ia:=gO R;clear k0' hnc hlb Zl RF aEa VK aD8 N Zk HXN HXG HTH HON R;go_upto_region 11 with (go_at_call 43;refine(Hz.out _).mono ?_;rintro ev w10 ⟨rfl,F⟩)
     have t:=A.out w10 F;have d:=aQ C.out RD F;have D:=aQ TS.out hs9 F;clear m0 m1 m2 c0 c1 c2 c3 U c5 aD9;have p0:=t 0;have p1:=t 1;have p2:=t 2;have p3:=t 3;have p4:=t 4;have p5:=t 5;have p6:=t 6;have c0:=d 0;have c1:=d 1;have c2:=d 2;have c3:=d 3;have U:=d 4;have c5:=d 5;have m0:=D 0;have m1:=D 1;have m2:=D 2;simp only[gB,gC,gD]at p0 p1 p2 p3 p4 p5 p6 c0 c1 c2 c3 U c5 m0 m1 m2;rw[HA.out]at p6;rw[HSB.out]at U;have HC11:=gO (Ox.out w10 F);have J:=gO (gW j.out F);have hi0:(f:Int)=i:=by omega
     have hk0:(g:Int)=k:=by omega
     have HI0:=gO hi0;have aOU:=gO hk0;clear t d D F C TS j Hz Ox A hi0 hk0 he1 he2;go_upto_region 12 with (go_at_call 44;refine HC11.out.mono ?_;rintro ev w11 ⟨a',c',rfl,T,aBr⟩)
     have Fp:=gO (kQ a' c' l a w11 (by have:=Ia.out;omega) T);rw[HNC.out]at Fp;clear p0 p1 p2 p3 p4 p5 p6 c0 c1 c2 c3 U c5 m0 m1 m2 T;go_wp2_with (go_at_call 45;refine Fp.out.mono ?_;rintro ev w12 ⟨rfl,rfl⟩)
     exact bodyPost_ret (v:=aG #[aB aI (i:Int),aB aI (k:Int),aB aI 0]) (by simp[results,results18,go_sem]) rfl ⟨rfl,gW HB.out (gW J.out aBr)⟩
    ·have Zk:=HXN.out he;rw[Zk]at Hz;clear Zk;go_upto_region 15 with (go_at_call 43;refine(Hz.out _).mono ?_;rintro ev w10 ⟨rfl,F⟩)
     have J:=gO (gW j.out F);have S:=gO (aQ C.out RD F);have Zm:=gI RD F.size;have hke:f=i->g+1<=k:=λE=>by
      have:=u E;have:g≠k:=λh8=>he ⟨E,h8⟩
      omega
     have HKE:=gO hke;clear m0 m1 m2 c0 c1 c2 c3 U c5 F C TS j Hz hke u he;go_wp2
     go_roundw
     case rel=>exact⟨g+1,by omega,HKE.out,by go_num,J,Zm,(by rw[HSB.out]at S;exact S)⟩
     case measure=>simp[intOf];omega
   ·obtain rfl:g=y.n2:=by omega
    have X:f≠i:=λE=>by
     obtain⟨x,hx,_⟩:=HTH.out E;have h8:=(gK.1 hx).1;have h7:=u E;have h6:=HL2.out;omega
    have hii:f+1<=i:=by omega
    clear hsr FY u X;go_wp2
    go_roundw
    case rel=>exact⟨f+1,hii,by go_num,TR⟩
    case measure=>simp[intOf];omega
def Sy.jD (s:Sy)(i k:Nat)(a:Int):Prop:=∃c x,s.cs[i]? =aK c/\c.sl[k]? =aK x/\nN s.w c x a
theorem eH :s.away i a↔∃k,s.jD i k a:=by
 constructor
 ·rintro⟨c,d,x,f,b⟩;obtain⟨k,g,e⟩:=List.mem_iff_getElem.1 f;exact⟨k,c,x,d,by rw[gJ g,e],b⟩
 ·rintro⟨k,c,x,d,f,b⟩;exact⟨c,d,x,gM f,b⟩
theorem cZ.uX (hk:cZ s){k j l:Nat}(h1:s.jD i k a)(h2:s.jD j l a):i=j/\k=l:=by
 obtain⟨c,x,o,q,g⟩:=h1;obtain⟨d,y,f,n,e⟩:=h2;obtain⟨p,rfl⟩:=gK.1 o;obtain⟨h,rfl⟩:=gK.1 f;obtain⟨b,rfl⟩:=gK.1 q;obtain⟨m,rfl⟩:=gK.1 n;exact hk.only p h b m g.1 e.1
def DF (s:Sy)(a:Int)(ev:Ending):Prop:=(∃i k,s.jD i k a/\ev=aN (aG #[aB aI (i:Int),aB aI (k:Int),aB aI 0]))∨((∀i k,¬s.jD i k a)/\ev=aN (aG #[aB aI 0,aB aI 0,aB aI 4]))
def OO (s:Sy)(a:Int)(n:Nat):Prop:=∀i c,i<n->s.cs[i]? =aK c->∀x∈c.sl,iO c x.p a=false
theorem OO.none (h:OO s a s.cs.length):∀i k,¬s.jD i k a:=λi k ⟨c,x,d,f,e⟩=>by
 have b:=h i c (gK.1 d).1 d x (gM f);rw[e.1]at b;cases b
theorem cZ.Zo (hk:cZ s){k:Nat}{c:Ca}{x:Sl}(hc:s.cs[i]? =aK c)(hx:c.sl[k]? =aK x)(ho:iO c x.p a=true)(hl:follow s.w x.h c.r=aK l)(ha:a∈l):∀j m,¬s.jD j m a:=λj m h=>by
 obtain⟨d,y,g,o,b⟩:=h;obtain⟨q,rfl⟩:=gK.1 hc;obtain⟨n,rfl⟩:=gK.1 g;obtain⟨e,rfl⟩:=gK.1 hx;obtain⟨f,rfl⟩:=gK.1 o;obtain⟨rfl,rfl⟩:=hk.only q n e f ho b.1;exact b.2 l hl ha
theorem Jg (v:Sc)(s:Sy)(a:Int)(w:World)(hs:nO w v s)(hk:cZ s)(hf:∀c∈s.cs,c.ns.length<=1000)(hab: -1000000<=a/\a<=1000000):
 Calls prog 18 #[aC #[aA v.a1 v.n1 v.c1,aA v.hc.az 2 v.hc.cz,aA v.hc.am 2 v.hc.cm,aB aI (s.h.aP:Int),aA v.hc.al v.hc.lc.length v.hc.cl,aA v.hc.av s.h.live.length v.hc.cv,aA v.a2 v.ys.length v.c2],aB aI a] w λev w'=>DF s a ev/\Below w.heap.size w w':=by
 obtain⟨K0,F0,Q,J⟩:=boxes1 w #[aA v.a1 v.n1 v.c1,aA v.hc.az 2 v.hc.cz,aA v.hc.am 2 v.hc.cm,aB aI (s.h.aP:Int),aA v.hc.al v.hc.lc.length v.hc.cl,aA v.hc.av s.h.live.length v.hc.cv,aA v.a2 v.ys.length v.c2] 42;have HS:=gO (hs.below J);have HB:=gO J;have HK:=gO hk;have HK0:=gO K0;have uK:=gO (nJ v s _ (hs.below J) hk hf);have hyl:v.ys.length<=20:=by have:=congrArg List.length hs.cy;rw[gTe]at this;rw[this];exact hk.cl
 have Zj:v.ys.length=s.cs.length:=by have:=congrArg List.length hs.cy;simpa using this
 have aBq:=gO Zj;obtain⟨k0,k1,k2,k3,k4,k5,k6⟩:=gA7 K0;clear hs hk hf J K0 F0 Zj;go_enter func18,ntmps18
 go_upto_region 1 with fail
 generalize w.alloc _=w1 at*;go_upto_region 4 with (go_at_call 11;refine uK.out.mono ?_;rintro ev w2 ⟨rfl,Z⟩)
 have HB2:=gO Z;have k6':=(Z.cell (p:=⟨w.heap.size,6,aJ⟩) Q).trans k6;clear k0 k1 k2 k3 k4 k5 k6 uK Z;go_wp2_with fail
 clear k6';go_loopw [22] (λs22 wr=>∃(f:Nat),f<=v.ys.length/\Hid (OO s a f)/\s22=aB aI (f:Int)/\Hid (Below w1.heap.size w1 wr)) (λs22 _=>v.ys.length-(intOf s22).toNat)
 case atStart=>exact⟨0,gU _,λ_ _ h=>by omega,rfl,HB2⟩
 case round=>
  obtain⟨f,hi',Yu,rfl,oH⟩:=hrel;by_cases D:f<v.ys.length
  ·have V:f<s.cs.length:=by rw[<- aBq.out];exact D
   have Hg:(f:Int)<v.ys.length:=by omega
   have hel:v.ys[f].c=s.cs[f]:=by
    have h1:=congrArg (·[f]?) HS.out.cy;simp[D,V]at h1;exact h1
   have lD:=HS.out.below oH.out;obtain⟨bb,off,hba,hbb,hbc⟩:=aZ eY (by decide) lD.rc D;obtain⟨e0,e1,e2,e3,e4,e5⟩:=kM hbc;have H:=lD.ca _ (gL D);have C:=HK.out.ck _ (gL V);have I:s.cs[f]? =aK s.cs[f]:=gJ V;rw[<- hel]at C I;obtain⟨y,hy⟩:∃y,v.ys[f]=y:=⟨_,rfl⟩
   rw[hy]at e0 e1 e2 e3 e4 e5 H C I;have HY:=gO hy;have Dz:=gO I;have hsl:=C.nS HK.out.hk;have hl2:=H.l2;have hn2:y.n2<=256:=by omega
   have HL2:=gO hl2;have KJ:=gO H;have G:=gO C;have HA:=gO hba;rw[hba];clear hbc hba hel lD hbb hy hl2 hsl H C I;go_upto_region 7 with fail
   have hb6:=aT wr (aO #[aA y.a1 y.n1 y.c1,aB aI (y.c.z:Int),aB aI (y.c.r:Int),aB aI (y.c.o:Int),aA y.a2 y.n2 y.c2,aA y.a3 y.n3 y.c3] 67);have K6:=bI wr #[aA y.a1 y.n1 y.c1,aB aI (y.c.z:Int),aB aI (y.c.r:Int),aB aI (y.c.o:Int),aA y.a2 y.n2 y.c2,aA y.a3 y.n3 y.c3] 67;have R:wr.heap.size<(wr.alloc (aO #[aA y.a1 y.n1 y.c1,aB aI (y.c.z:Int),aB aI (y.c.r:Int),aB aI (y.c.o:Int),aA y.a2 y.n2 y.c2,aA y.a3 y.n3 y.c3] 67)).heap.size:=by simp
   have HB6:=gO (gW oH.out hb6);have HC6:=gO (KJ.out.below hb6);have HK6:=gO K6;have k4:=K6 4;simp only[gB,gC,gD]at k4;clear hb6 K6 e0 e1 e2 e3 e4 e5 KJ oH;obtain⟨we,rfl⟩:∃we,we=wr:=⟨_,rfl⟩
   generalize we.alloc _=w6 at*;obtain⟨BC,hBC⟩:∃B,we.heap.size=B:=⟨_,rfl⟩
   rw[hBC]at HK6 R k4 ⊢;clear hBC;go_wp2_with fail
   clear k4;go_loopw [30] (λS wr=>∃(j:Nat),j<=y.n2/\Hid (∀d x,d<j->y.c.sl[d]? =aK x->iO y.c x.p a=false)/\S=aB aI (j:Int)/\Hid (Below w1.heap.size w1 wr)/\BC<wr.heap.size/\Hid (∀o,wr.cell? ⟨BC,o,aJ⟩=(#[aA y.a1 y.n1 y.c1,aB aI (y.c.z:Int),aB aI (y.c.r:Int),aB aI (y.c.o:Int),aA y.a2 y.n2 y.c2,aA y.a3 y.n3 y.c3]:Array Value)[o]?)) (λS _=>y.n2-(intOf S).toNat)
   case atStart=>exact⟨0,gU _,λ_ _ h=>by omega,rfl,HB6,R,HK6⟩
   case round=>
    obtain⟨j,hkn,K,rfl,TR,hsk,HKk⟩:=hrel;clear HB6 R HK6 HC6;have U:=HS.out.below TR.out;have FY:=U.ca _ (gL D);rw[HY.out]at FY;by_cases hkl:j<y.n2
    ·have hki:(j:Int)<y.n2:=by omega
     have L:j<y.c.sl.length:=by rw[HL2.out];exact hkl
     obtain⟨sb,so,E,KQ,vU⟩:=aZ aY (by decide) FY.r2 L;obtain⟨n0,n1,n2⟩:=iK vU;have hxp:=(G.out.sk _ (gL L)).BF HK.out.hk;have hxg:y.c.sl[j]? =aK y.c.sl[j]:=gJ L;have aKA:=gO FY;have F:=gO hxg;generalize y.c.sl[j]=x at*;rw[E];have b9:=aT wr (aO #[aB aI (x.p:Int),aB aI (x.n:Int),aB aI x.h] 99);have KX:=bI wr #[aB aI (x.p:Int),aB aI (x.n:Int),aB aI x.h] 99;have hs9:wr.heap.size<(wr.alloc (aO #[aB aI (x.p:Int),aB aI (x.n:Int),aB aI x.h] 99)).heap.size:=by simp
     have i:=gO (gW TR.out b9);have Y:=aQ HKk.out hsk b9;have RD:=gI hsk b9.size;have m0:=KX 0;have m1:=KX 1;have m2:=KX 2;simp only[gB,gC,gD]at m0 m1 m2;obtain⟨c0,c1,c2,c3,c4,c5⟩:=gA6 Y;rw[E]at c4;have m:=gO Y;have TS:=gO KX;have T:=gO (λW=>yT y.c y.a1 y.a2 y.a3 y.n1 y.c1 y.n2 y.c2 y.n3 y.c3 x.p a W G.out.z.1 (gQ G.out.rz (by decide)) (by omega) (by omega) (by omega));rw[E]at T;have HSB:=gO E;clear vU U FY L hxg Y KX E;go_upto_region 10 with fail
     clear n0 n1 n2;generalize (wr.alloc _)=w9 at*;generalize wr.heap.size=BX at*;cases hob:iO y.c x.p a with
     | true=>
      rw[hob]at T;have HOB:=gO hob;obtain⟨l,X,Zl,RF⟩:=(G.out.sk x (gM F.out)).chain;have hlb:∀b∈l,0<=b/\b<=1000000:=λb hb=>by
       have h9:=kD G.out.room (RF b hb);have h8:y.c.o<=2:=by rw[G.out.o];exact mM _
       have h7:2^y.c.o<=4:=by
        generalize y.c.o=o at*;obtain rfl | rfl | rfl:o=0∨o=1∨o=2:=by omega
        all_goals decide
       generalize 2^y.c.o=q at*;omega
      have aEa:=(G.out.sk x (gM F.out)).Nb;have VK:=G.out.r64;have hxn:x.n<=1000000:=by omega
      have hn1:v.n1<=4096:=by rw[<- HS.out.lw,HK.out.wl];exact gT _
      have M:l.length<=1000000:=by omega
      have Ox:Hid (∀W,Below w9.heap.size w9 W->Calls prog 44 #[aC #[aA v.a1 v.n1 v.c1,aA v.hc.az 2 v.hc.cz,aA v.hc.am 2 v.hc.cm,aB aI s.h.aP,aA v.hc.al v.hc.lc.length v.hc.cl,aA v.hc.av s.h.live.length v.hc.cv,aA (aK ⟨bb,off,aJ⟩) v.ys.length v.c2],aC #[aA y.a1 y.n1 y.c1,aB aI y.c.z,aB aI y.c.r,aB aI y.c.o,aA (aK ⟨sb,so,aJ⟩) y.n2 y.c2,aA y.a3 y.n3 y.c3],aC #[aB aI x.p,aB aI x.n,aB aI x.h]] W λev w'=>∃(a':Option Addr) (c':Nat),ev=aN (aG #[aA a' l.length c',.bool true])/\Row w' a' (l.map vI)/\Below W.heap.size W w'):=λW hW=>by
       have h9:=Ah v.a1 v.hc.az v.hc.am v.hc.al v.hc.av (aK ⟨bb,off,aJ⟩) v.n1 v.c1 v.hc.cz v.hc.cm v.hc.lc.length v.hc.cl s.h.live.length v.hc.cv v.ys.length v.c2 s.h.aP s.w y x l W HS.out.lw hn1 ((HS.out.below (i.out.trans (hW.mono i.out.size))).rw) G.out.z.1 (gQ G.out.rz (by decide)) (by omega) X Zl RF hlb hxn;rw[HSB.out]at h9;exact h9
      have HFL:=gO X;have k0':=(i.out.cell (p:=⟨w.heap.size,0,aJ⟩) Q)
      have k:Hid (∀W,Below w9.heap.size w9 W->∀o,W.cell? ⟨w.heap.size,o,aJ⟩=(#[aA v.a1 v.n1 v.c1,aA v.hc.az 2 v.hc.cz,aA v.hc.am 2 v.hc.cm,aB aI (s.h.aP:Int),aA v.hc.al v.hc.lc.length v.hc.cl,aA v.hc.av s.h.live.length v.hc.cv,aA v.a2 v.ys.length v.c2]:Array Value)[o]?):=λW hW=>aQ HK0.out Q (i.out.trans (hW.mono i.out.size))
      have Ia:=gO M;clear k0' hlb Zl RF aEa VK X M hob;go_upto_region 11 with (go_at_call 43;refine(T.out _).mono ?_;rintro ev w10 ⟨rfl,A⟩)
      have K10:=k.out w10 A;have N:=aQ m.out RD A;have t:=aQ TS.out hs9 A;clear m0 m1 m2 c0 c1 c2 c3 c4 c5;obtain⟨p0,p1,p2,p3,p4,p5,p6⟩:=gA7 K10;obtain⟨c0,c1,c2,c3,c4,c5⟩:=gA6 N;have m0:=t 0;have m1:=t 1;have m2:=t 2;simp only[gB,gC,gD]at m0 m1 m2;rw[HA.out]at p6;rw[HSB.out]at c4;have HC11:=gO (Ox.out w10 A);have u:=gO (gW i.out A);clear K10 N t A m TS i T Ox k;go_upto_region 12 with (go_at_call 44;refine HC11.out.mono ?_;rintro ev w11 ⟨a',c',rfl,P,aBr⟩)
      have g:=kQ a' c' l a w11 (by have:=Ia.out;omega) P;clear p0 p1 p2 p3 p4 p5 p6 c0 c1 c2 c3 c4 c5 m0 m1 m2 P;cases hal:vO l a with
      | false=>
       rw[hal]at g;have Fp:=gO g;have HE:Hid (DF s a (aN (aG #[aB aI (f:Int),aB aI (j:Int),aB aI 0]))):= .inl ⟨f,j,⟨y.c,x,Dz.out,F.out,(nT HFL.out a).2 ⟨HOB.out,λhm=>by
        unfold vO at hal;rw[List.contains_iff_mem.2 hm]at hal;cases hal⟩⟩,rfl⟩
       clear g hal;go_wp2_with (go_at_call 45;refine Fp.out.mono ?_;rintro ev w12 ⟨rfl,rfl⟩)
       exact bodyPost_ret (v:=aG #[aB aI (f:Int),aB aI (j:Int),aB aI 0]) (by simp[results,results18,go_sem]) rfl ⟨HE.out,gW HB.out (gW u.out aBr)⟩
      | true=>
       rw[hal]at g;have Fp:=gO g;have HE:Hid (DF s a (aN (aG #[aB aI 0,aB aI 0,aB aI 4]))):= .inr ⟨HK.out.Zo Dz.out F.out HOB.out HFL.out (by
        unfold vO at hal;exact List.contains_iff_mem.1 hal),rfl⟩
       clear g hal;go_wp2_with (go_at_call 45;refine Fp.out.mono ?_;rintro ev w12 ⟨rfl,rfl⟩)
       exact bodyPost_ret (v:=aG #[aB aI 0,aB aI 0,aB aI 4]) (by simp[results,results18,go_sem]) rfl ⟨HE.out,gW HB.out (gW u.out aBr)⟩
     | false=>
      rw[hob]at T;have aKB:Hid (∀d x,d<j+1->y.c.sl[d]? =aK x->iO y.c x.p a=false):=λd x' h1 h2=>by
       by_cases e:d<j
       ·exact K.out d x' e h2
       ·obtain rfl:d=j:=by omega
        rw[F.out]at h2;obtain rfl:=gP h2;exact hob
      clear hob K;go_upto_region 15 with (go_at_call 43;refine(T.out _).mono ?_;rintro ev w10 ⟨rfl,A⟩)
      have u:=gO (gW i.out A);have O:=gO (aQ m.out RD A);have Zm:=gI RD A.size;clear m0 m1 m2 c0 c1 c2 c3 c4 c5 A m TS i T;go_wp2
      go_roundw
      case rel=>exact⟨j+1,by omega,aKB,by go_num,u,Zm,(by rw[HSB.out]at O;exact O)⟩
      case measure=>simp[intOf];omega
    ·obtain rfl:j=y.n2:=by omega
     have aKC:Hid (OO s a (f+1)):=λi'' c h1 h2 x hx=>by
      by_cases e:i''<f
      ·exact Yu.out i'' c e h2 x hx
      ·obtain rfl:i''=f:=by omega
       rw[Dz.out]at h2;obtain rfl:=gP h2;obtain⟨d,hk'',e'⟩:=List.mem_iff_getElem.1 hx;exact K.out d x (by have:=HL2.out;omega) (by rw[gJ hk'',e'])
     clear U FY K Yu;go_wp2
     go_roundw
     case rel=>exact⟨f+1,by omega,aKC,by go_num,TR⟩
     case measure=>simp[intOf];omega
  ·obtain rfl:f=v.ys.length:=by omega
   have HE:Hid (DF s a (aN (aG #[aB aI 0,aB aI 0,aB aI 4]))):= .inr ⟨OO.none (by rw[<- aBq.out];exact Yu.out),rfl⟩;go_wp2_with fail
   exact bodyPost_ret (v:=aG #[aB aI 0,aB aI 0,aB aI 4]) (by simp[results,results18,go_sem]) rfl ⟨HE.out,gW HB.out oH.out⟩
end Go.Proofs.YtjaogfhcnmjkiaaGreatDoor
