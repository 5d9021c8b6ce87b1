/- joined. -/
import Derived.Test.YtcmpmobhongkiaaGreatDoorRK0
import Derived.Test.YtcmpmobhongkiaaGreatDoorRK8
set_option linter.unusedVariables false
set_option linter.unusedSimpArgs false
namespace Go.Proofs.YtcmpmobhongkiaaGreatDoor
section
open Go.RowKit
theorem AX (t:Nat):∀(l:List Bk) (k:Nat) (hk:k<l.length),(flat aO l).set (k*3+2) (vI t)=flat aO (l.set k {l[k]with t:=t})
 | x::l,0,_=>by rw[dM,gG,dM];rfl
 | x::l,k+1,hk=>by
  have hk':k<l.length:=by simpa using hk
  rw[dM,gH,dM,List.set_append_right _ _ (by rw[aJ];omega),aJ,show(k+1)*3+2-3=k*3+2 by omega,AX t l k hk'];rfl
theorem gY.aAG {W:World}{bs:Nat}{a1 a2:Option Addr}{n1 n2 c1 c2:Nat}{z:Zn}(h:gY W bs a1 a2 n1 n2 c1 c2 z){j g:Nat}(hj:j<n2)(hg:a2=some ⟨g,0,none⟩)(t:Nat):gY (W.setCell ⟨g,j,none⟩ (.int .i64 (t:Int))) bs a1 a2 n1 n2 c1 c2 {z with y:=z.y.set j t}:=by
 subst hg;have h1:=(World.ownsRow.stored h.o2 j (vI t)).1;rw[FI]at h1;exact⟨h.l1,by simp only[List.length_set];exact h.l2,bI h.o1 (fun e=>yB h.o1 h.o2 (by decide) g e rfl) _,h1⟩
theorem gY.Yb {W:World}{bs:Nat}{a1 a2:Option Addr}{n1 n2 c1 c2:Nat}{z:Zn}(h:gY W bs a1 a2 n1 n2 c1 c2 z){k g:Nat}(hk:k<z.l.length)(hg:a1=some ⟨g,0,none⟩)(t:Nat):gY (W.setCell ⟨g,k*3+2,none⟩ (.int .i64 (t:Int))) bs a1 a2 n1 n2 c1 c2 {z with l:=z.l.set k {z.l[k]with t:=t}}:=by
 subst hg;have h1:=(World.ownsRow.stored h.o1 (k*3+2) (vI t)).1;rw[AX t z.l k hk]at h1;exact⟨by simp only[List.length_set];exact h.l1,h.l2,h1,bI h.o2 (fun e=>yB h.o1 h.o2 (by decide) g rfl e) _⟩
structure oQ (w W:World)(bs:Nat)(a1 a2:Option Addr)(n1 n2 c1 c2 f e:Nat)(b:Bk)(z:Zn):Prop where
 k3:∀i,W.cell? ⟨w.heap.size,i,none⟩=(#[.int .i64 f,.int .i64 e,.slice a1 n1 c1,.slice a2 n2 c2]:Array Value)[i]?
 k6:∀i,W.cell? ⟨w.heap.size+1,i,none⟩=(#[.int .i64 b.a,.int .i64 b.o,.int .i64 b.t]:Array Value)[i]?
 own:gY W bs a1 a2 n1 n2 c1 c2 z
 hi:w.heap.size+2<=W.heap.size
 bw:Below bs w W
 g1:∀g,a1=some ⟨g,0,none⟩->g<w.heap.size/\bs<=g
 g2:∀g,a2=some ⟨g,0,none⟩->g<w.heap.size/\bs<=g
section
variable {w W W':World}{bs:Nat}{a1 a2:Option Addr}{n1 n2 c1 c2 f e:Nat}{b:Bk}{z:Zn}
theorem oQ.below (h:oQ w W bs a1 a2 n1 n2 c1 c2 f e b z)(hb:Below W.heap.size W W')(hbs:bs<=w.heap.size):oQ w W' bs a1 a2 n1 n2 c1 c2 f e b z:=by
 have h2:=h.hi;exact⟨aB h.k3 (by omega) hb,aB h.k6 (by omega) hb,h.own.below hb,gQ h2 hb.size,AU hb h.bw (by omega),h.g1,h.g2⟩
theorem oQ.aAG (h:oQ w W bs a1 a2 n1 n2 c1 c2 f e b z){j g:Nat}(hj:j<n2)(hg:a2=some ⟨g,0,none⟩)(t:Nat):oQ w (W.setCell ⟨g,j,none⟩ (.int .i64 (t:Int))) bs a1 a2 n1 n2 c1 c2 f e b {z with y:=z.y.set j t}:=by
 have h1:=h.g2 g hg;exact⟨aA h.k3 (by omega) _ _,aA h.k6 (by omega) _ _,h.own.aAG hj hg t,by simpa using h.hi,h.bw.setCell h1.2 _,h.g1,h.g2⟩
theorem oQ.Yb (h:oQ w W bs a1 a2 n1 n2 c1 c2 f e b z){k g:Nat}(hk:k<z.l.length)(hg:a1=some ⟨g,0,none⟩)(t:Nat):oQ w (W.setCell ⟨g,k*3+2,none⟩ (.int .i64 (t:Int))) bs a1 a2 n1 n2 c1 c2 f e b {z with l:=z.l.set k {z.l[k]with t:=t}}:=by
 have h1:=h.g1 g hg;exact⟨aA h.k3 (by omega) _ _,aA h.k6 (by omega) _ _,h.own.Yb hk hg t,by simpa using h.hi,h.bw.setCell h1.2 _,h.g1,h.g2⟩
end
def fM (fr tp t:Nat)(l:List Bk)(k:Nat):List Bk:=(l.take k).map (oJ fr tp t)++l.drop k
theorem FM (fr tp t:Nat)(l:List Bk):fM fr tp t l l.length=l.map (oJ fr tp t):=by simp[fM]
theorem rY (fr tp t:Nat)(l:List Bk)(k:Nat):(fM fr tp t l k).length=l.length:=by
 unfold fM;rw[List.length_append,List.length_map,List.length_take,List.length_drop];omega
theorem RX (fr tp t:Nat)(l:List Bk)(k:Nat)(hk:k<l.length):(fM fr tp t l k)[k]? =some l[k]:=by
 unfold fM;rw[List.getElem?_append_right (by rw[List.length_map,List.length_take];omega),List.length_map,List.length_take,List.getElem?_drop,show k+(k-min k l.length)=k by omega];exact gJ hk
theorem yD (fr tp t:Nat)(l:List Bk)(k:Nat)(hk:k<l.length)(hk2:k<(fM fr tp t l k).length):(fM fr tp t l k)[k]=l[k]:=by
 have h:=RX fr tp t l k hk;rw[gJ hk2]at h;exact gP h
theorem CQ (fr tp t:Nat)(l:List Bk)(k:Nat)(hk:k<l.length):fM fr tp t l (k+1)=(fM fr tp t l k).set k (oJ fr tp t l[k]):=by
 unfold fM;rw[List.take_succ_eq_append_getElem hk,List.map_append,List.drop_eq_getElem_cons hk,List.set_append_right _ _ (by rw[List.length_map,List.length_take];omega)];rw[show k-((l.take k).map (oJ fr tp t)).length=0 by rw[List.length_map,List.length_take];omega,gG,List.append_assoc];rfl
theorem CS (fr tp t:Nat)(l:List Bk)(k:Nat)(hk:k<l.length)(h:¬(fr<=l[k].a/\l[k].fin<=tp)):fM fr tp t l (k+1)=fM fr tp t l k:=by
 have e:oJ fr tp t l[k]=l[k]:=by unfold oJ;rw[if_neg h]
 rw[CQ _ _ _ _ _ hk,e];have hk2:k<(fM fr tp t l k).length:=by rw[rY];exact hk
 have h2:=List.set_getElem_self hk2;rw[yD fr tp t l k hk hk2]at h2;exact h2
theorem FN (fr tp t:Nat)(l:List Bk)(k:Nat)(hk:k<l.length)(hk2:k<(fM fr tp t l k).length)(h:fr<=l[k].a/\l[k].fin<=tp):fM fr tp t l (k+1)=(fM fr tp t l k).set k {(fM fr tp t l k)[k]with t:=t}:=by
 rw[CQ _ _ _ _ _ hk,yD fr tp t l k hk hk2];unfold oJ;rw[if_pos h]
set_option maxHeartbeats 4000000 in
set_option maxRecDepth 100000 in
theorem oK (bs:Nat)(a1 a2:Option Addr)(n1 n2 c1 c2:Nat)(z:Zn)(i t:Nat)(hi:i<z.l.length)(w:World)(hown:gY w bs a1 a2 n1 n2 c1 c2 z)(hz:z.ok)(ht:t<3)(hbs:bs<=w.heap.size):
 Calls Tryz.prog 192 #[.agg #[.int .i64 z.f,.int .i64 z.e,.slice a1 n1 c1,.slice a2 n2 c2],.int .i64 i,.int .i64 t] w fun ev w'=>ev= .returned (.tuple #[])/\gY w' bs a1 a2 n1 n2 c1 c2 (z.steal z.l[i] t)/\Below bs w w':=by
 have hlen:z.l.length<=256:=gQ (rQ.length_le hz.2 (fun b hb=>(hz.2.fit b hb).1.2.2.1)) hz.1.e2;have hee:=hz.1.e2;have l1:=hown.l1;have l2:=hown.l2;have hfit:=(hz.2.fit _ (gL hi)).1;obtain⟨K3,F3,hsz,hbw⟩:=boxes1 w #[.int .i64 (z.f:Int),.int .i64 (z.e:Int),.slice a1 n1 c1,.slice a2 n2 c2] 102;have hown0:=hown.below hbw;obtain⟨bb,off,ha1,hbb,hc⟩:=aN aJ (by decide) hown0.at.r1 hi;obtain⟨gg,vg,eg1,hg2,hg3,_⟩:=fA hown.o1 (i*3) (by rw[flat_length aJ];omega);have hbg:bb=gg/\off=0:=by rw[ha1]at eg1;simpa using eg1
 obtain⟨rfl,rfl⟩:=hbg;obtain rfl:=ha1;rw[Nat.zero_add]at hc;obtain⟨hc0,hc1,hc2⟩:=bD (o:=i*3) hc;have hG2:∀g,a2=some ⟨g,0,none⟩->g<w.heap.size/\bs<=g:=fun g hg=>by have:=hown.o2.lt g (by subst hg;rfl);omega
 have hin:i<n1:=by omega
 have hbt:=(hz.2.fit _ (gL hi)).2;generalize hb:z.l[i]=b at*;have HB:=gO hb;clear hb hc;have hae:b.a<=256:=by have:=hfit.2.2.1;omega
 have hfin:=uF hz.1.e16 hfit;have hpw:=wR hfit.1;have hbw2:=aF (w.alloc (.cells #[.int .i64 (z.f:Int),.int .i64 (z.e:Int),.slice (some ⟨bb,0,none⟩) n1 c1,.slice a2 n2 c2] 102)) (.cells #[.int .i64 (b.a:Int),.int .i64 (b.o:Int),.int .i64 (b.t:Int)] 63);have aAH:=Below.step hbw hbw2;have hG1:∀g,some (⟨bb,0,none⟩:Addr)=some ⟨g,0,none⟩->g<w.heap.size/\bs<=g:=fun g hg=>by
  obtain rfl:bb=g:=by simpa using hg
  exact⟨hg3,hg2⟩
 have I0:oQ w ((w.alloc (.cells #[.int .i64 (z.f:Int),.int .i64 (z.e:Int),.slice (some ⟨bb,0,none⟩) n1 c1,.slice a2 n2 c2] 102)).alloc (.cells #[.int .i64 (b.a:Int),.int .i64 (b.o:Int),.int .i64 (b.t:Int)] 63)) bs (some ⟨bb,0,none⟩) a2 n1 n2 c1 c2 z.f z.e b z:=
  ⟨aB K3 (by omega) hbw2,fun i=>by have:=aW (w.alloc (.cells #[.int .i64 (z.f:Int),.int .i64 (z.e:Int),.slice (some ⟨bb,0,none⟩) n1 c1,.slice a2 n2 c2] 102)) #[.int .i64 (b.a:Int),.int .i64 (b.o:Int),.int .i64 (b.t:Int)] 63 i;rwa [World.size_alloc]at this,hown.below aAH,by simp,aAH.mono hbs,hG1,hG2⟩
 have HI:=gO I0;clear I0 K3 F3 hbw2;go_enter Tryz.func192,Tryz.ntmps192
 by_cases ho2:b.o<2
 ·go_wp2_with fail
  refine bodyPost_ret (v:= .tuple #[]) (by simp[results,Tryz.results192,go_sem]) rfl ⟨rfl,?_,?_⟩
  ·unfold Zn.steal;rw[if_pos ho2];exact HI.out.own
  ·exact HI.out.bw
 ·have aJL:¬(b.o:Int)<2:=by omega
  go_wp2_with fail
  clear hc0 hc1 hc2;generalize (w.alloc _).alloc _=w0 at*;go_loopw [7] (fun s7 wr=>∃j:Nat,j<=2^b.o/\s7= .int .i64 ((b.a+j:Nat):Int)/\Hid (oQ w wr bs (some ⟨bb,0,none⟩) a2 n1 n2 c1 c2 z.f z.e b {z with y:=qO z.y z.f b.a t j})) (fun s7 _=>b.fin-(intOf s7).toNat)
  case atStart=>exact⟨0,Nat.zero_le _,by simp,HI⟩
  case round=>
   obtain⟨j,hj,rfl,HK⟩:=hrel;clear HI hown hown0;have I:=HK.out;have hHi:=I.hi;have k60:=I.k6 0;have k61:=I.k6 1;have k62:=I.k6 2;simp only[gB,gC,gD]at k60 k61 k62;clear I;have hwr:w.heap.size+1<wr.heap.size:=by omega
   go_wp2_with fail
   refine(jQ b _ hfit.1 (by omega)).mono ?_;rintro ev w1 ⟨rfl,hb1⟩;have HK1:=gO (HK.out.below hb1 hbs);clear hb1 k60 k61 k62 HK;have I:=HK1.out;have aJM:=I.hi;have k60:=I.k6 0;have k61:=I.k6 1;have k62:=I.k6 2;have k30:=I.k3 0;have k32:=I.k3 2;have k33:=I.k3 3;simp only[gB,gC,gD]at k60 k61 k62 k30 k32 k33;clear hwr;have hwr:w.heap.size+1<w1.heap.size:=by omega
   by_cases hlt:j<2^b.o
   ·have hJ:(b.a+j-z.f)/8<z.y.length:=by rw[hz.1.len];have:=hfit.2.1;have:=hz.1.f16;have:=hz.1.e16;omega
    have ZH:((b.a:Int)+j-z.f)/8=(((b.a+j-z.f)/8:Nat):Int):=by have:=hfit.2.1;omega
    have hfa:(z.f:Int)<=b.a+j:=by have:=hfit.2.1;omega
    have dl:(b.a:Int)+j<b.fin:=by unfold Bk.fin;omega
    have hset:Hid (qO z.y z.f b.a t (j+1)=(qO z.y z.f b.a t j).set ((b.a+j-z.f)/8) t):=rfl;have hlen2:=pI z.y z.f b.a t j;generalize (b.a+j-z.f)/8=J at*;have hJn:(J:Int)<n2:=by omega
    have hJ2:J<n2:=by omega
    obtain⟨g,v,eg,hgb,hgs,hgc,hgf⟩:=fA I.own.o2 J (by rw[flat_length bQ];show J<(qO z.y z.f b.a t j).length*1;omega);obtain rfl:=eg;have HK2:=gO (I.aAG hJ2 rfl t);clear I HK1;go_wp2
    go_roundw
    case rel=>exact⟨j+1,by omega,by go_num,by rw[hset.out];exact HK2⟩
    case measure=>simp[intOf];omega
   ·obtain rfl:j=2^b.o:=by omega
    have dl:¬(b.a:Int)+2^b.o<b.fin:=by unfold Bk.fin;push_cast;omega
    clear I;go_wp2_with fail
    refine(jQ b _ hfit.1 (by omega)).mono ?_;rintro ev w2 ⟨rfl,hb2⟩;have HK2:=gO (HK1.out.below hb2 hbs);clear hb2 k60 k61 k62 HK1 k30 k32 k33 hwr
    dsimp only
    have hdv:(b.a:Int)/8*8=((b.a/8*8:Nat):Int):=by omega
    simp only[hdv];clear hdv;have hFR:b.a/8*8<=256:=by omega
    obtain⟨FR,aAI⟩:∃FR,b.a/8*8=FR:=⟨_,rfl⟩
    rw[aAI]at hFR ⊢;have wX:=gO aAI;clear aAI;have hmz:fM FR (max b.fin (FR+8)) t z.l 0=z.l:=rfl;have k32:=HK2.out.k3 2;simp only[gB,gC,gD]at k32;by_cases hmx:FR+8<=b.fin
    ·have aFs:(FR:Int)+8<=(b.fin:Int):=by omega
     have aAJ:max b.fin (FR+8)=b.fin:=by omega
     go_wp2
     go_loopw [10,11,49] (fun _ _ s49 wr=>∃k:Nat,k<=n1/\s49= .int .i64 (k:Int)/\Hid (oQ w wr bs (some ⟨bb,0,none⟩) a2 n1 n2 c1 c2 z.f z.e b {z with l:=fM FR (b.fin) t z.l k,y:=qO z.y z.f b.a t (2^b.o)})) (fun _ _ s49 _=>n1-(intOf s49).toNat)
     case atStart=>exact⟨0,Nat.zero_le _,rfl,HK2⟩
     case round=>
      obtain⟨k,hk,rfl,HK3⟩:=hrel;clear HK2 k32;by_cases hlt:k<n1
      ·have hkl:k<z.l.length:=by omega
       have hkm:k<(fM FR (b.fin) t z.l k).length:=by rw[rY];exact hkl
       have I:=HK3.out;have hHi:=I.hi;obtain⟨bb',off',e',Hy,hc'⟩:=aN aJ (by decide) I.own.at.r1 hkm;obtain⟨rfl,rfl⟩:bb=bb'/\0=off':=by simpa using e'
       rw[Nat.zero_add,yD FR (b.fin) t z.l k hkl hkm]at hc';obtain⟨hc0,hc1,hc2⟩:=bD (o:=k*3) hc';have hfx:=(hz.2.fit _ (gL hkl)).1;have HP:Hid (FR<=z.l[k].a/\z.l[k].fin<=b.fin->∀W,oQ w W bs (some ⟨bb,0,none⟩) a2 n1 n2 c1 c2 z.f z.e b {z with l:=fM FR (b.fin) t z.l k,y:=qO z.y z.f b.a t (2^b.o)}->oQ w (W.setCell ⟨bb,k*3+2,none⟩ (.int .i64 (t:Int))) bs (some ⟨bb,0,none⟩) a2 n1 n2 c1 c2 z.f z.e b {z with l:=fM FR (b.fin) t z.l (k+1),y:=qO z.y z.f b.a t (2^b.o)}):=by
        intro h W hW;have h1:=hW.Yb hkm rfl t;rw[FN FR (b.fin) t z.l k hkl hkm h];exact h1
       have HS:=gO (CS FR (b.fin) t z.l k hkl);obtain⟨g5,v5,e5,_,_,hgc,hgf⟩:=fA I.own.o1 (k*3+2) (by rw[flat_length aJ];show k*3+2<(fM FR (b.fin) t z.l k).length*3;omega);obtain rfl:bb=g5:=by simpa using e5
       clear hc' I e' hkm e5;generalize z.l[k]=x at*;have hwr:w.heap.size+1<wr.heap.size:=by omega
       have hbn:=aF wr (.cells #[.int .i64 (x.a:Int),.int .i64 (x.o:Int),.int .i64 (x.t:Int)] 63);have HK4:=gO (HK3.out.below hbn hbs);have Eu:=(hbn.cell (p:=⟨bb,k*3+2,none⟩) Hy).trans hgc;have Oq:=(hbn.frozen (p:=⟨bb,k*3+2,none⟩) Hy).trans hgf;have K11:=aW wr #[.int .i64 (x.a:Int),.int .i64 (x.o:Int),.int .i64 (x.t:Int)] 63;have hkn:(k:Int)<n1:=by omega
       have h3a:x.a<=1000:=by have:=hfx.2.2.1;omega
       have hbx:=gI Hy hbn.size;clear hgc hgf Hy;by_cases hge:FR<=x.a
       ·have aAK:(FR:Int)<=x.a:=by omega
        go_wp2_with fail
        clear hbn hc0 hc1 hc2 K11;generalize wr.alloc _=w4 at*;refine(jQ x _ hfx.1 h3a).mono ?_;rintro ev w5 ⟨rfl,hb5⟩;have HK5:=gO (HK4.out.below hb5 hbs);have aFu:=(hb5.cell (p:=⟨bb,k*3+2,none⟩) hbx).trans Eu;have aFv:=(hb5.frozen (p:=⟨bb,k*3+2,none⟩) hbx).trans Oq;have k32:=HK5.out.k3 2;simp only[gB,gC,gD]at k32;clear hb5 HK4 HK3 Eu Oq
        dsimp only
        by_cases hle:x.fin<=b.fin
        ·have hle2:(x.fin:Int)<=((b.fin:Nat):Int):=by omega
         have HK6:=gO (HP.out ⟨hge,hle⟩ _ HK5.out)
         push_cast at hle2
         go_wp2
         go_roundw
         case rel=>exact⟨k+1,by omega,by go_num,HK6⟩
         case measure=>simp[intOf];omega
        ·have hle2:¬(x.fin:Int)<=((b.fin:Nat):Int):=by omega
         push_cast at hle2
         have HK6:Hid (oQ w w5 bs (some ⟨bb,0,none⟩) a2 n1 n2 c1 c2 z.f z.e b {z with l:=fM FR (b.fin) t z.l (k+1),y:=qO z.y z.f b.a t (2^b.o)}):=by
          rw[HS.out (fun h=>hle h.2)];exact HK5
         go_wp2
         go_roundw
         case rel=>exact⟨k+1,by omega,by go_num,HK6⟩
         case measure=>simp[intOf];omega
       ·have aAK:¬(FR:Int)<=x.a:=by omega
        have HK6:Hid (oQ w (wr.alloc (.cells #[.int .i64 (x.a:Int),.int .i64 (x.o:Int),.int .i64 (x.t:Int)] 63)) bs (some ⟨bb,0,none⟩) a2 n1 n2 c1 c2 z.f z.e b {z with l:=fM FR (b.fin) t z.l (k+1),y:=qO z.y z.f b.a t (2^b.o)}):=by
         rw[HS.out (fun h=>hge h.1)];exact HK4
        clear Eu Oq;go_wp2
        go_roundw
        case rel=>exact⟨k+1,by omega,by go_num,HK6⟩
        case measure=>simp[intOf];omega
      ·obtain rfl:k=n1:=by omega
       have HF:Hid (oQ w wr bs (some ⟨bb,0,none⟩) a2 k n2 c1 c2 z.f z.e b (z.steal z.l[i] t)):=by
        have hh:=HB.out;subst hh;have hf:=wX.out;subst hf;unfold Zn.steal;rw[if_neg ho2,aAJ];have:=HK3.out;rw[show k=z.l.length by omega]at this;rw[FM]at this;rw[show k=z.l.length by omega];exact this
       go_wp2
       refine bodyPost_end (v:= .tuple #[]) (by simp[results,Tryz.results192,go_sem]) rfl ⟨rfl,?_,?_⟩
       ·have h7:=HF.out.own;rw[HB.out]at h7;exact h7
       ·exact HF.out.bw
    ·have aFs:¬(FR:Int)+8<=(b.fin:Int):=by omega
     have aAJ:max b.fin (FR+8)=FR+8:=by omega
     go_wp2
     go_loopw [10,11,49] (fun _ _ s49 wr=>∃k:Nat,k<=n1/\s49= .int .i64 (k:Int)/\Hid (oQ w wr bs (some ⟨bb,0,none⟩) a2 n1 n2 c1 c2 z.f z.e b {z with l:=fM FR (FR+8) t z.l k,y:=qO z.y z.f b.a t (2^b.o)})) (fun _ _ s49 _=>n1-(intOf s49).toNat)
     case atStart=>exact⟨0,Nat.zero_le _,rfl,HK2⟩
     case round=>
      obtain⟨k,hk,rfl,HK3⟩:=hrel;clear HK2 k32;by_cases hlt:k<n1
      ·have hkl:k<z.l.length:=by omega
       have hkm:k<(fM FR (FR+8) t z.l k).length:=by rw[rY];exact hkl
       have I:=HK3.out;have hHi:=I.hi;obtain⟨bb',off',e',Hy,hc'⟩:=aN aJ (by decide) I.own.at.r1 hkm;obtain⟨rfl,rfl⟩:bb=bb'/\0=off':=by simpa using e'
       rw[Nat.zero_add,yD FR (FR+8) t z.l k hkl hkm]at hc';obtain⟨hc0,hc1,hc2⟩:=bD (o:=k*3) hc';have hfx:=(hz.2.fit _ (gL hkl)).1;have HP:Hid (FR<=z.l[k].a/\z.l[k].fin<=FR+8->∀W,oQ w W bs (some ⟨bb,0,none⟩) a2 n1 n2 c1 c2 z.f z.e b {z with l:=fM FR (FR+8) t z.l k,y:=qO z.y z.f b.a t (2^b.o)}->oQ w (W.setCell ⟨bb,k*3+2,none⟩ (.int .i64 (t:Int))) bs (some ⟨bb,0,none⟩) a2 n1 n2 c1 c2 z.f z.e b {z with l:=fM FR (FR+8) t z.l (k+1),y:=qO z.y z.f b.a t (2^b.o)}):=by
        intro h W hW;have h1:=hW.Yb hkm rfl t;rw[FN FR (FR+8) t z.l k hkl hkm h];exact h1
       have HS:=gO (CS FR (FR+8) t z.l k hkl);obtain⟨g5,v5,e5,_,_,hgc,hgf⟩:=fA I.own.o1 (k*3+2) (by rw[flat_length aJ];show k*3+2<(fM FR (FR+8) t z.l k).length*3;omega);obtain rfl:bb=g5:=by simpa using e5
       clear hc' I e' hkm e5;generalize z.l[k]=x at*;have hwr:w.heap.size+1<wr.heap.size:=by omega
       have hbn:=aF wr (.cells #[.int .i64 (x.a:Int),.int .i64 (x.o:Int),.int .i64 (x.t:Int)] 63);have HK4:=gO (HK3.out.below hbn hbs);have Eu:=(hbn.cell (p:=⟨bb,k*3+2,none⟩) Hy).trans hgc;have Oq:=(hbn.frozen (p:=⟨bb,k*3+2,none⟩) Hy).trans hgf;have K11:=aW wr #[.int .i64 (x.a:Int),.int .i64 (x.o:Int),.int .i64 (x.t:Int)] 63;have hkn:(k:Int)<n1:=by omega
       have h3a:x.a<=1000:=by have:=hfx.2.2.1;omega
       have hbx:=gI Hy hbn.size;clear hgc hgf Hy;by_cases hge:FR<=x.a
       ·have aAK:(FR:Int)<=x.a:=by omega
        go_wp2_with fail
        clear hbn hc0 hc1 hc2 K11;generalize wr.alloc _=w4 at*;refine(jQ x _ hfx.1 h3a).mono ?_;rintro ev w5 ⟨rfl,hb5⟩;have HK5:=gO (HK4.out.below hb5 hbs);have aFu:=(hb5.cell (p:=⟨bb,k*3+2,none⟩) hbx).trans Eu;have aFv:=(hb5.frozen (p:=⟨bb,k*3+2,none⟩) hbx).trans Oq;have k32:=HK5.out.k3 2;simp only[gB,gC,gD]at k32;clear hb5 HK4 HK3 Eu Oq
        dsimp only
        by_cases hle:x.fin<=FR+8
        ·have hle2:(x.fin:Int)<=((FR+8:Nat):Int):=by omega
         have HK6:=gO (HP.out ⟨hge,hle⟩ _ HK5.out)
         push_cast at hle2
         go_wp2
         go_roundw
         case rel=>exact⟨k+1,by omega,by go_num,HK6⟩
         case measure=>simp[intOf];omega
        ·have hle2:¬(x.fin:Int)<=((FR+8:Nat):Int):=by omega
         push_cast at hle2
         have HK6:Hid (oQ w w5 bs (some ⟨bb,0,none⟩) a2 n1 n2 c1 c2 z.f z.e b {z with l:=fM FR (FR+8) t z.l (k+1),y:=qO z.y z.f b.a t (2^b.o)}):=by
          rw[HS.out (fun h=>hle h.2)];exact HK5
         go_wp2
         go_roundw
         case rel=>exact⟨k+1,by omega,by go_num,HK6⟩
         case measure=>simp[intOf];omega
       ·have aAK:¬(FR:Int)<=x.a:=by omega
        have HK6:Hid (oQ w (wr.alloc (.cells #[.int .i64 (x.a:Int),.int .i64 (x.o:Int),.int .i64 (x.t:Int)] 63)) bs (some ⟨bb,0,none⟩) a2 n1 n2 c1 c2 z.f z.e b {z with l:=fM FR (FR+8) t z.l (k+1),y:=qO z.y z.f b.a t (2^b.o)}):=by
         rw[HS.out (fun h=>hge h.1)];exact HK4
        clear Eu Oq;go_wp2
        go_roundw
        case rel=>exact⟨k+1,by omega,by go_num,HK6⟩
        case measure=>simp[intOf];omega
      ·obtain rfl:k=n1:=by omega
       have HF:Hid (oQ w wr bs (some ⟨bb,0,none⟩) a2 k n2 c1 c2 z.f z.e b (z.steal z.l[i] t)):=by
        have hh:=HB.out;subst hh;have hf:=wX.out;subst hf;unfold Zn.steal;rw[if_neg ho2,aAJ];have:=HK3.out;rw[show k=z.l.length by omega]at this;rw[FM]at this;rw[show k=z.l.length by omega];exact this
       go_wp2
       refine bodyPost_end (v:= .tuple #[]) (by simp[results,Tryz.results192,go_sem]) rfl ⟨rfl,?_,?_⟩
       ·have h7:=HF.out.own;rw[HB.out]at h7;exact h7
       ·exact HF.out.bw
end
end Go.Proofs.YtcmpmobhongkiaaGreatDoor
