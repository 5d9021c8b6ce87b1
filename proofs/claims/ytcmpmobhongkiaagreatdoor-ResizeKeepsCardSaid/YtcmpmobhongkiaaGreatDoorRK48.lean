/- joined. -/
import Derived.Test.YtcmpmobhongkiaaGreatDoorRK0
import Derived.Test.YtcmpmobhongkiaaGreatDoorRK44
import Derived.Test.YtcmpmobhongkiaaGreatDoorRK47
set_option linter.unusedVariables false
set_option linter.unusedSimpArgs false
namespace Go.Proofs.YtcmpmobhongkiaaGreatDoor
section
open Go.RowKit
inductive DnD (s:Sy):Ac->Sy×An->Prop where
 |drain (u:Nat) (n:List UInt8):DnD s ⟨12,u,0,0,0,0,n⟩ ({s with h:=s.h.drain},⟨0,0,[]⟩)
set_option maxHeartbeats 8000000 in
set_option maxRecDepth 100000 in
theorem Zm (v:Sc)(s:Sy)(ak au an am ap af:Int)(az:List UInt8)(r:Sy×An)(w:World)(hs:nV w v s)(hg:Jt s)(ho:vT w)(hsz:Bl w)(hd:DnD s ⟨ak,au,an,am,ap,af,az⟩ r):
 Calls Tryz.prog 53 #[.agg #[.slice v.a1 v.n1 v.c1,.slice v.hc.az 2 v.hc.cz,.slice v.hc.am 2 v.hc.cm,.int .i64 (s.h.aC:Int),.slice v.hc.al v.hc.lc.length v.hc.cl,.slice v.hc.av s.h.live.length v.hc.cv,.slice v.a2 v.ys.length v.c2],.agg #[.int .i64 ak,.int .i64 au,.int .i64 an,.int .i64 am,.int .i64 ap,.int .i64 af,.string ⟨az.toArray⟩]] w (aBV v s r w):=by
 obtain⟨L,hL⟩:∃L:List (Array Value×TypeId),L=[(#[.slice v.a1 v.n1 v.c1,.slice v.hc.az 2 v.hc.cz,.slice v.hc.am 2 v.hc.cm,.int .i64 (s.h.aC:Int),.slice v.hc.al v.hc.lc.length v.hc.cl,.slice v.hc.av s.h.live.length v.hc.cv,.slice v.a2 v.ys.length v.c2],47),(#[.int .i64 ak,.int .i64 au,.int .i64 an,.int .i64 am,.int .i64 ap,.int .i64 af,.string ⟨az.toArray⟩],33),(#[.slice none 0 0,.slice none 0 0,.slice none 0 0,.int .i64 0,.slice none 0 0,.slice none 0 0,.slice none 0 0],47),(#[.int .i64 0,.int .i64 0,.slice none 0 0],57),(#[.slice v.a1 v.n1 v.c1,.slice v.hc.az 2 v.hc.cz,.slice v.hc.am 2 v.hc.cm,.int .i64 (s.h.aC:Int),.slice v.hc.al v.hc.lc.length v.hc.cl,.slice v.hc.av s.h.live.length v.hc.cv,.slice v.a2 v.ys.length v.c2],47),(#[.int .i64 0,.int .i64 0,.slice none 0 0],57)]:=⟨_,rfl⟩
 have hw1:((((((w.alloc (.cells #[.slice v.a1 v.n1 v.c1,.slice v.hc.az 2 v.hc.cz,.slice v.hc.am 2 v.hc.cm,.int .i64 (s.h.aC:Int),.slice v.hc.al v.hc.lc.length v.hc.cl,.slice v.hc.av s.h.live.length v.hc.cv,.slice v.a2 v.ys.length v.c2] 47)).alloc (.cells #[.int .i64 ak,.int .i64 au,.int .i64 an,.int .i64 am,.int .i64 ap,.int .i64 af,.string ⟨az.toArray⟩] 33)).alloc (.cells #[.slice none 0 0,.slice none 0 0,.slice none 0 0,.int .i64 0,.slice none 0 0,.slice none 0 0,.slice none 0 0] 47)).alloc (.cells #[.int .i64 0,.int .i64 0,.slice none 0 0] 57)).alloc (.cells #[.slice v.a1 v.n1 v.c1,.slice v.hc.az 2 v.hc.cz,.slice v.hc.am 2 v.hc.cm,.int .i64 (s.h.aC:Int),.slice v.hc.al v.hc.lc.length v.hc.cl,.slice v.hc.av s.h.live.length v.hc.cv,.slice v.a2 v.ys.length v.c2] 47)).alloc (.cells #[.int .i64 0,.int .i64 0,.slice none 0 0] 57))=lay w L:=by rw[hL];rfl
 have hl6:L.length=6:=by rw[hL];rfl
 obtain⟨hb1,hz1⟩:=Gz w L;have B0:=Ak w L 0 (by omega);have B1:=Ak w L 1 (by omega);have B2:=Ak w L 2 (by omega);have B3:=Ak w L 3 (by omega);have B4:=Ak w L 4 (by omega);have B5:=Ak w L 5 (by omega);simp only[hL,List.getElem_cons_zero,List.getElem_cons_succ,Nat.add_zero]at B0 B1 B2 B3 B4 B5;rw[<- hL]at B0 B1 B2 B3 B4 B5;rw[hl6]at hz1;clear hL;have HW1:=gO hw1;clear hw1;generalize lay w L=w1 at*;have HB1:=gO hb1;have HB:=gO (And.intro B0 (And.intro B2 (And.intro B3 (And.intro B4 B5))));obtain⟨K1,F1⟩:=B1;obtain⟨K0,F0⟩:=B0;obtain⟨k0,k1,k2,k3,k4,k5,k6⟩:=gA7 K0;obtain⟨q0,q1,q2,q3,q4,q5,q6⟩:=gA7 K1;have HQ1:=gO K1;clear K0 K1 F0 F1 B2 B3 B4 B5 hb1;go_enter Tryz.func53,Tryz.ntmps53
 go_upto_region 3 with fail
 rw[HW1.out];clear HW1;rw[show w.heap.size+1+1+1+1+1=w.heap.size+5 from rfl,show w.heap.size+1+1+1+1=w.heap.size+4 from rfl,show w.heap.size+1+1+1=w.heap.size+3 from rfl,show w.heap.size+1+1=w.heap.size+2 from rfl];go_upto_block 0 with fail
 go_cut [] (fun wx=>Am v s r w wx)
 case rest=>
  obtain⟨W,rfl⟩:∃W,W=wc:=⟨_,rfl⟩
  have HD:=gO hcut;obtain⟨d,cap,hk5,ho5⟩:=hcut.x;have x0:=hk5 0;simp only[gB,gC]at x0;have hno:=hcut.no;have hok:=hcut.ok;have HO5:=gO ho5;have HK5:=gO hk5;have HW:=gO (show w.heap.size+6<=W.heap.size from hcut.gs);obtain⟨s',x⟩:=r;obtain⟨c,xn,xl⟩:=x;simp only at x0 hno hok HO5 HK5;clear hcut hk5 ho5;by_cases hc:c=0
  ·obtain⟨v',hk4,hcl⟩:=hok hc;have hc':(c:Int)=0:=by omega
   have HK4:=gO hk4;have XF:=gO hcl;clear hok hno hk4 hcl;go_upto_region 31 with fail
   have g0:=HK4.out 0;have g1:=HK4.out 1;have g2:=HK4.out 2;have g3:=HK4.out 3;have g4:=HK4.out 4;have g5:=HK4.out 5;have g6:=HK4.out 6;unfold Sc.vals at g0 g1 g2 g3 g4 g5 g6;have y0:=HK5.out 0;have y1:=HK5.out 1;have y2:=HK5.out 2;have q0:=HD.out.k2 0;have q1:=HD.out.k2 1;have q2:=HD.out.k2 2;have q3:=HD.out.k2 3;have q4:=HD.out.k2 4;have q5:=HD.out.k2 5;have q6:=HD.out.k2 6;have z0:=HD.out.k3 0;have z1:=HD.out.k3 1;have z2:=HD.out.k3 2;have f0:=HD.out.f2 0;have f1:=HD.out.f2 1;have f2:=HD.out.f2 2;have f3:=HD.out.f2 3;have f4:=HD.out.f2 4;have f5:=HD.out.f2 5;have f6:=HD.out.f2 6;have e0:=HD.out.f3 0;have e1:=HD.out.f3 1;have e2:=HD.out.f3 2;simp only[gB,gC,gD]at g0 g1 g2 g3 g4 g5 g6 y0 y1 y2 q0 q1 q2 q3 q4 q5 q6 z0 z1 z2;have aBY:=gO (Nk (X0:= .int .i64 (c:Int)) (X1:= .int .i64 xn) (X2:= .slice d xl.length cap) HD.out.b HD.out.gs XF.out HD.out.k2 HD.out.k3 HO5.out);have HC:=gO hc;clear hc' x0 hc;go_cut [] (fun wx=>Xr v s s' v' w wx (.int .i64 (c:Int)) (.int .i64 xn) (.slice d xl.length cap) 3 xl.length (.slice d xl.length cap) (xl.map vI))
   case first=>
    go_region_law fail
    all_goals (go_wp2_with fail)
    all_goals go_meet
    all_goals exact aBY.out
   case rest=>
    have KX:=hcut.k;have KY:=hcut.y;have HX:=gO hcut;clear hcut;go_wp2_with fail
    exact bodyPost_ret (v:= .tuple #[.agg #[.slice v'.a1 v'.n1 v'.c1,.slice v'.hc.az 2 v'.hc.cz,.slice v'.hc.am 2 v'.hc.cm,.int .i64 (s'.h.aC:Int),.slice v'.hc.al v'.hc.lc.length v'.hc.cl,.slice v'.hc.av s'.h.live.length v'.hc.cv,.slice v'.a2 v'.ys.length v'.c2],.agg #[.int .i64 (c:Int),.int .i64 xn,.slice d xl.length cap]]) (by simp[results,Tryz.results53,go_sem,KX,KY]) rfl ⟨v',d,cap,rfl,HX.out.c,HX.out.b,HX.out.o⟩
  ·obtain rfl:s=s':=(hno hc).symm;clear hok hno;have hc':¬(c:Int)=0:=by omega
   go_upto_region 30 with fail
   have g0:=HD.out.k0 0;have g1:=HD.out.k0 1;have g2:=HD.out.k0 2;have g3:=HD.out.k0 3;have g4:=HD.out.k0 4;have g5:=HD.out.k0 5;have g6:=HD.out.k0 6;unfold Sc.vals at g0 g1 g2 g3 g4 g5 g6;have y0:=HK5.out 0;have y1:=HK5.out 1;have y2:=HK5.out 2;have q0:=HD.out.k2 0;have q1:=HD.out.k2 1;have q2:=HD.out.k2 2;have q3:=HD.out.k2 3;have q4:=HD.out.k2 4;have q5:=HD.out.k2 5;have q6:=HD.out.k2 6;have z0:=HD.out.k3 0;have z1:=HD.out.k3 1;have z2:=HD.out.k3 2;have f0:=HD.out.f2 0;have f1:=HD.out.f2 1;have f2:=HD.out.f2 2;have f3:=HD.out.f2 3;have f4:=HD.out.f2 4;have f5:=HD.out.f2 5;have f6:=HD.out.f2 6;have e0:=HD.out.f3 0;have e1:=HD.out.f3 1;have e2:=HD.out.f3 2;simp only[gB,gC,gD]at g0 g1 g2 g3 g4 g5 g6 y0 y1 y2 q0 q1 q2 q3 q4 q5 q6 z0 z1 z2;have aBY:=gO (Nk (X0:= .int .i64 (c:Int)) (X1:= .int .i64 xn) (X2:= .slice d xl.length cap) HD.out.b HD.out.gs (Cl.same (s:=s) (v:=v) HD.out.b HD.out.gs) HD.out.k2 HD.out.k3 HO5.out);clear hc' x0;go_cut [] (fun wx=>Xr v s s v w wx (.int .i64 (c:Int)) (.int .i64 xn) (.slice d xl.length cap) 3 xl.length (.slice d xl.length cap) (xl.map vI))
   case first=>
    go_region_law fail
    all_goals (go_wp2_with fail)
    all_goals go_meet
    all_goals exact aBY.out
   case rest=>
    have KX:=hcut.k;have KY:=hcut.y;have HX:=gO hcut;clear hcut;go_wp2_with fail
    exact bodyPost_ret (v:= .tuple #[.agg #[.slice v.a1 v.n1 v.c1,.slice v.hc.az 2 v.hc.cz,.slice v.hc.am 2 v.hc.cm,.int .i64 (s.h.aC:Int),.slice v.hc.al v.hc.lc.length v.hc.cl,.slice v.hc.av s.h.live.length v.hc.cv,.slice v.a2 v.ys.length v.c2],.agg #[.int .i64 (c:Int),.int .i64 xn,.slice d xl.length cap]]) (by simp[results,Tryz.results53,go_sem,KX,KY]) rfl ⟨v,d,cap,rfl,HX.out.c,HX.out.b,HX.out.o⟩
 case first=>
  have HS1:=gO (hs.below HB1.out);have HG:=gO hg;have HO1:=gO (ho.below HB1.out);have HZ1:=gO (hsz.below HB1.out);have hll:v.hc.lc.length<=1000:=by
   have h:=HS1.out.hh.ll;have h9:=congrArg List.length h;rw[List.length_map]at h9;rw[h9];have:=hg.ok.hk.oW;omega
  have hvl:s.h.live.length<=1000:=by have:=hg.ok.hk.iZ;omega
  have hP:iH v s w w1 #[.slice v.a1 v.n1 v.c1,.slice v.hc.az 2 v.hc.cz,.slice v.hc.am 2 v.hc.cm,.int .i64 (s.h.aC:Int),.slice v.hc.al v.hc.lc.length v.hc.cl,.slice v.hc.av s.h.live.length v.hc.cv,.slice v.a2 v.ys.length v.c2] #[.int .i64 0,.int .i64 0,.slice none 0 0]:=⟨HB1.out,by omega,HB.out.1.1,HB.out.2.1.1,HB.out.2.1.2,HB.out.2.2.1.1,HB.out.2.2.1.2,HB.out.2.2.2.1.1,HB.out.2.2.2.1.2,HB.out.2.2.2.2.1,HB.out.2.2.2.2.2⟩
  have HP:=gO hP;clear hs hg ho hsz hP HB;cases hd with
  | drain u n=>
   have HX:Hid (Calls Tryz.prog 48 #[.agg #[.slice v.hc.az 2 v.hc.cz,.slice v.hc.am 2 v.hc.cm,.int .i64 (s.h.aC:Int),.slice v.hc.al v.hc.lc.length v.hc.cl,.slice v.hc.av s.h.live.length v.hc.cv]] w1 fun ev w'=>∃c':Hc,ev= .returned (.tuple #[.agg #[.slice c'.az 2 c'.cz,.slice c'.am 2 c'.cm,.int .i64 (s.h.drain.aC:Int),.slice c'.al c'.lc.length c'.cl,.slice c'.av s.h.drain.live.length c'.cv],.int .i64 0])/\kU w' w1.heap.size s.h.drain c'/\Below w1.heap.size w1 w'):=
    Tn v.hc.az v.hc.am v.hc.al v.hc.av v.hc.cz v.hc.cm v.hc.cl v.hc.cv v.hc.lc.length s.h.live.length v.hc.y0 v.hc.y1 v.hc.lc s.h w1 HS1.out.hh HG.out.ok.hk hll hvl
   go_wp2_with (go_at_call 48;refine HX.out.mono ?_;rintro ev w2 ⟨c',rfl,hn,hb⟩;have HP2:=gO (HP.out.below hb);obtain⟨y0,y1,y2,y3,y4,y5,y6,f0,f1,f2,f3,f4,f5,f6,z0,z1,z2,e0,e1,e2⟩:=HP2.out.cells)
   all_goals go_meet
   all_goals
    have hP:=(HP2.out.puth4 (.slice c'.az 2 c'.cz) (.slice c'.am 2 c'.cm) (.int .i64 (s.h.drain.aC:Int)) (.slice c'.al c'.lc.length c'.cl) (.slice c'.av s.h.drain.live.length c'.cv)).code5 (.int .i64 0);have hC:=((Cl.heap (s:=s) (v:=v) HB1.out (by omega) hb hn).puth4 (.slice c'.az 2 c'.cz) (.slice c'.am 2 c'.cm) (.int .i64 (s.h.drain.aC:Int)) (.slice c'.al c'.lc.length c'.cl) (.slice c'.av s.h.drain.live.length c'.cv)).set 5 0 (.int .i64 0) (by decide);exact hP.aEz hC rfl
theorem Zo:aAr DnD:=fun v s c r W h1 h2 h3 h4 h5=>Zm v s c.k c.u c.n c.m c.p c.f c.s r W h1 h2 h3 h4 h5
end
section
def bt256:Bt:=⟨[⟨0,256⟩],[]⟩
theorem Ej:dF bt256.m=true/\dF (iC bt256)=true:=by decide+kernel
def NI:Hp:=newH (iC bt256) 64 0 1
theorem Xw:dZ NI:=(IW Ej.2 (by decide) (by decide) (by decide) (by decide)).1
theorem Xx:∀o∈[0,1,2,3],∀p∈[0,1,2,3,4],((NH NI 0 o 1).bind fun g=>NH g 0 p 1).isSome=true:=by decide+kernel
theorem aBZ {s:Sy}(hk:bK s){i:Nat}{c:Ca}(hc:s.cs[i]? =some c)(hsl:c.sl=[])(hcp:s.h.aC=1)(hal:(NH s.h 0 (dS c.z) 1).isSome=true):∃t a,s.one i 0=some (t,a)/\NH s.h 0 (dS c.z) 1=some t.h/\∀j,j≠i->t.cs[j]? =s.cs[j]? :=by
 have hac:∀k,k≠0->c.ac.getD k (-1)= -1:=fun k hk0=>by
  have h1:=(hk.ck c (gM hc)).ac;rw[List.getD_eq_getElem?_getD,List.getElem?_eq_none (by omega)];rfl
 have hg:Gr s s.h i 0 c.z 0 0:=⟨c,hc,rfl,by rw[hsl];rfl,by unfold Ca.left;rw[hsl];simp,rfl,hac⟩
 obtain⟨t,a,m',h1,⟨c',_,_,_,h4,h5,_⟩,hm⟩:=aBM hk hg fun _=>hal
 rcases hm with rfl | ⟨rfl,_⟩
 ·omega
 ·exact⟨t,a,h1,h5,fun j hj=>TS hj h1⟩
def oo (n:Nat):Nat:=if n<=32 then dS (zz (nY n))else mJ n
theorem Ns {n:Nat}(h:n<=100):oo n∈[0,1,2,3]:=by
 have:∀k,k<=100->oo k∈[0,1,2,3]:=by decide+kernel
 exact this n h
theorem aB0 {n:Nat}(h:n<=150):oo n∈[0,1,2,3,4]:=by
 have:∀k,k<=150->oo k∈[0,1,2,3,4]:=by decide+kernel
 exact this n h
theorem Nu {s:Sy}(hk:bK s)(hks:Ag s)(hcp:s.h.aC=1){n:Nat}(h1:1<=n)(hem:n<=32->∀(i:Nat) (c:Ca),s.named (kN (zz (nY n)))=some i->s.cs[i]? =some c->c.sl=[])(hal:(NH s.h 0 (oo n) 1).isSome=true):
 ∃t a,s.fE 0 n=some (t,a)/\NH s.h 0 (oo n) 1=some t.h/\∀j,(n<=32->s.named (kN (zz (nY n)))≠some j)->t.cs[j]? =s.cs[j]? :=by
 unfold Sy.fE;by_cases h32:n<=32
 ·rw[show oo n=dS (zz (nY n))from if_pos h32]at hal ⊢;rw[if_pos h32];obtain⟨i,c,hc,hnm,_,hz⟩:=hks _ (mY h1 h32).1;rw[<- hz]at hal ⊢;obtain⟨t,a,q1,q2,q3⟩:=aBZ hk hc (hem h32 i c hnm hc) hcp hal;rw[hz,hnm];exact⟨t,a,q1,by rw[<- hz];exact q2,fun j hj=>q3 j fun e=>hj h32 (by rw[e])⟩
 ·rw[show oo n=mJ n from if_neg h32]at hal ⊢;rw[if_neg h32];have e:NH s.h 0 (mJ n) 1=(match s.h.alloc 0 (mJ n) 0 false false with | some (h2,_)=>some h2 | none=>none):=rfl;rw[e]at hal ⊢;cases ha:s.h.alloc 0 (mJ n) 0 false false with
  | none=>rw[ha]at hal;cases hal
  | some r=>
   obtain⟨h2,p⟩:=r;exact⟨_,_,rfl,rfl,fun _ _=>rfl⟩
theorem aB1 {n j:Nat}(hn:n<=100)(hj:j<=150){g:Hp}(h:NH NI 0 (oo n) 1=some g):(NH g 0 (oo j) 1).isSome=true:=by
 have:=Xx _ (Ns hn) _ (aB0 hj);rw[h]at this;exact this
theorem Xy (i:Nat)(c:Ca)(hc:(dB NI 6).cs[i]? =some c):c.sl=[]:=by
 have:((dB NI 6).cs.all fun c=>c.sl.isEmpty)=true:=rfl;exact List.isEmpty_iff.1 (List.all_eq_true.1 this c (gM hc))
structure RzT (w':List Int)(a:Int)(n j:Nat)(t:Sy)(b:Int)(m:Nat):Prop where
 g:Jt t
 cp:t.h.aC=1
 sz:t.dV b=some m
 mj:j<=m
 b0:0<=b/\b+j<=4096
 wd:∀i:Nat,i<n->i<j->t.w.getD (b.toNat+i) 0=w'.getD (a.toNat+i) 0
 nx:t.dV (b+1)=none
 sm:b=a->t.dV a=some m
 df:b≠a->t.dV a=none
theorem Ap {t:Sy}(hk:bK t){b p:Int}(h:∀x g m,t.holds x g m->x=b)(hp:p≠b):t.dV p=none:=hk.PX fun g m hh=>absurd (h _ _ _ hh) hp
theorem aB2 {n j:Nat}(hn:1<=n/\n<=100)(hj:1<=j/\j<=150):∃s a,(dB NI 6).fE 0 n=some (s,a)/\Jt s/\s.h.aC=1/\0<=a/\a+n<=4096/\
 ∀w':List Int,w'.length=s.w.length->(∀q:Nat,(q:Int)<a∨a+n<=q->w'.getD q 0=s.w.getD q 0)->Jt {s with w:=w'}/\∃t b m,({s with w:=w'}:Sy).fF 0 a j= .inr (t,b)/\RzT w' a n j t b m:=by
 have hg0:=yX Xw;have aHK:(NH NI 0 (oo n) 1).isSome=true:=by
  have:=Xx _ (Ns hn.2) 0 (by simp);cases h:NH NI 0 (oo n) 1 with
  | none=>rw[h]at this;cases this
  | some g=>rfl
 obtain⟨s,a,ha,hh,hcs⟩:=Nu hg0.ok hg0.sg rfl hn.1 (fun _ i c _ hc=>Xy i c hc) aHK;obtain⟨g,m,st,hm,hz⟩:=hg0.ok.xO hg0.sg (show 0<1 by decide) hn.1 (by omega) ha;have hg:=hg0.of st.ok st.sg;have hah:=(st.hd a g m).2 (.inr (by simp));have hp:=st.ok.kL hah;have hcp:s.h.aC=1:=st.cp;have LM:∀x g' m',s.holds x g' m'->x=a:=fun x g' m' h=>by
  rcases(st.hd x g' m').1 h with ⟨h1,_⟩ | h1
  ·exfalso;cases g' with
   | none=>
    obtain⟨b,h2,_⟩:=h1;have:b∈NI.live:=h2.1;cases this
   | some i=>
    obtain⟨⟨c,hc,y,hy,_⟩,_⟩:=h1;rw[Xy i c hc]at hy;cases hy
  ·exact congrArg Prod.fst (List.mem_singleton.1 h1)
 refine⟨s,a,ha,hg,hcp,hp.2.1,by omega,fun w' hl hw=> ?_⟩;obtain⟨w1,w2⟩:=st.ok.Gw (o7 hah) hl fun q hq=>hw q (by omega)
 have hg':Jt {s with w:=w'}:=hg.of w1 rfl;have hz':({s with w:=w'}:Sy).dV a=some m:=by
  obtain⟨g9,q1,q2⟩:=kF hz;exact w1.yU ((w2 a g9 m).2 q1) q2
 refine⟨hg',?_⟩;by_cases hjm:j<=m
 ·refine⟨{s with w:=w'},a,m,?_,hg',hcp,hz',hjm,⟨hp.2.1,by omega⟩,fun _ _ _=>rfl,Ap w1 (b:=a) (fun x g' m' h=>LM x g' m' ((w2 x g' m').1 h)) (by omega),fun _=>hz',fun h=>absurd rfl h⟩;unfold Sy.fF;rw[hz'];simp only[if_pos hjm]
 ·have hem:j<=32->∀(i:Nat) (c:Ca),({s with w:=w'}:Sy).named (kN (zz (nY j)))=some i->({s with w:=w'}:Sy).cs[i]? =some c->c.sl=[]:=fun h32 i c hnm hc=>by
   have hsj:=mY hj.1 h32;obtain⟨i2,c2,hc2,aEE,_,hz2⟩:=hg'.sg _ hsj.1;rw[hnm]at aEE;obtain rfl:=gP aEE;rw[hc]at hc2;obtain rfl:=gP hc2;refine Xy i c ?_;rw[<- hcs i fun hn32 e=> ?_]
   ·exact hc
   ·obtain⟨i3,c3,hc3,aHL,_,hz3⟩:=hg.sg _ (mY hn.1 hn32).1;have e2:=oH st.sg (kN (zz (nY n)));rw[aHL,e]at e2;obtain rfl:=gP e2;have hc':s.cs[i3]? =some c:=hc;rw[hc3]at hc';obtain rfl:=gP hc';have h9:∃k d,s.fV i3 k a/\s.cs[i3]? =some d/\m=d.z:=by
     unfold Sy.fE at ha;rw[if_pos hn32,e]at ha;simp only at ha;obtain⟨hc0,aHM⟩:∃c0,(dB NI 6).cs[i3]? =some c0:=by
      obtain⟨h8,_⟩:=List.findIdx?_eq_some_iff_getElem.1 (show(dB NI 6).cs.findIdx? _=some i3 from e);exact⟨_,gJ h8⟩
     have st2:=hg0.ok.BL aHM (show 0<1 by decide) ha;have h7:=(st2.hd a (some i3) hc0.z).2 (.inr (by simp));obtain⟨_,e5⟩:=st.ok.holds_one h7 hah;obtain⟨h6,d,hd,e6⟩:=h7;obtain⟨k,hk6⟩:=dL.1 h6;exact⟨k,d,hk6,hd,by rw[<- e5,e6]⟩
    obtain⟨_,d,_,hd,e7⟩:=h9;rw[hc3]at hd;obtain rfl:=gP hd;omega
  obtain⟨t,b,hb,_,_⟩:=Nu w1 hg'.sg hcp hj.1 hem (aB1 hn.2 hj.2 hh);obtain⟨mv,u,g2,m2,ku,aHN,st2,hwd,hzu⟩:=w1.moved hg'.sg (show 0<s.h.aC by omega) hj.1 (by omega) hz' (by omega) hb;have hub:=(st2.hd b g2 m2).2 (.inr (by simp));have hp2:=st2.ok.kL hub;have hou:∀x g' m',u.holds x g' m'->x=b:=fun x g' m' h=>by
   rcases(st2.hd x g' m').1 h with ⟨h1,h2⟩ | h1
   ·exact absurd (by rw[LM x g' m' ((w2 x g' m').1 h1)]) h2
   ·exact congrArg Prod.fst (List.mem_singleton.1 h1)
  refine⟨u,b,m2,?_,hg'.of st2.ok st2.sg,st2.cp.trans hcp,hzu,aHN,⟨hp2.2.1,by omega⟩,fun i hi1 hi2=>hwd i (by omega),Ap st2.ok hou (by omega),fun e=>absurd e.symm mv.ne,fun e=>Ap st2.ok hou (Ne.symm e)⟩;unfold Sy.fF;rw[hz'];simp only[if_neg hjm,hb,ku]
def wv (w:List Int)(a:Nat)(x:Int):Nat->List Int
 | 0=>w
 | i+1=>(wv w a x i).set (a+i) (x+i)
theorem Jh (w:List Int)(a:Nat)(x:Int):∀i,(wv w a x i).length=w.length
 | 0=>rfl
 | i+1=>by rw[wv,List.length_set,Jh w a x i]
theorem Xz (w:List Int)(a:Nat)(x:Int){q:Nat}:∀i,q<a∨a+i<=q->(wv w a x i).getD q 0=w.getD q 0
 | 0,_=>rfl
 | i+1,h=>by rw[wv,getD_set_ne (by omega),Xz w a x i (by omega)]
theorem aAs (w:List Int)(a:Nat)(x:Int){k:Nat}:∀i,k<i->a+i<=w.length->(wv w a x i).getD (a+k) 0=x+k
 | 0,h,_=>by omega
 | i+1,h,hl=>by
  rw[wv];by_cases hk:k=i
  ·subst hk;rw[List.getD_eq_getElem?_getD,List.getElem?_set_self (by rw[Jh];omega)];rfl
  ·rw[getD_set_ne (by omega),aAs w a x i (by omega) (by omega)]
end
end Go.Proofs.YtcmpmobhongkiaaGreatDoor
