/- joined. -/
import Derived.Test.YtjaogfhcnmjkiaaGreatDoorSG25
set_option linter.all false
set_option maxRecDepth 100000
set_option maxHeartbeats 0
namespace Go.Proofs.YtjaogfhcnmjkiaaGreatDoor
open Go.RowKit
open Go.Value renaming slice->aA,int->aB,agg->aC,string->aF,tuple->aG,pointer->aH,ownBlock->gTh
open Go.IntKind renaming i64->aI
open Option renaming none->aJ,some->aK
open Go.Ending renaming returned->aN
open Go.Obj renaming cells->aO
open Go.Proofs.Tryz
variable {acts:List Ac}
theorem aBJ {W2 W7:World}{G N0:Nat}{s:Sy}{v:Sc}{qs ys:List Aq}{L:List Th}{pa pt pw:Pl}(h:dY W2 G N0 s v (rws acts qs L pa pt pw) ys)(hN:N0<=W2.heap.size){i:Nat}(hi:i<L.length)(ho7:W7.ownsRow 0 52 6 (aA pw.a (L.length-1) pw.c) (L.length-1) (flat jZ (L.eraseIdx i)))(hg7:W2.grownBy W7 (aA pw.a L.length pw.c).ownBlock):
 dY (W7.setCell ⟨G,9,aJ⟩ (aA pw.a (L.length-1) pw.c)) G N0 s v (rws acts qs (L.eraseIdx i) pa pt pw) ys:=by
 have f:(L.eraseIdx i).length=L.length-1:=by rw[List.length_eraseIdx_of_lt hi]
 have d:(oP (L.eraseIdx i) pw).v=aA pw.a (L.length-1) pw.c:=by simp only[oP,f]
 have j:=h.put (i:=2) (show 2<3 by decide) (r':=oP (L.eraseIdx i) pw) hg7 (by
  unfold Rs.on;rw[d];have k:(oP (L.eraseIdx i) pw).n=L.length-1:=by simp only[oP,f]
  rw[k];exact ho7) (λg e=>by
  rw[d]at e;refine .inl ?_;show(aA pw.a L.length pw.c).ownBlock=aK g;have b:(aA pw.a L.length pw.c).ownBlock=(aA pw.a (L.length-1) pw.c).ownBlock:=by
   unfold gTh;cases pw.a <;> rfl
  rw[b];exact e) hN
 rw[d]at j;exact j
theorem aAd (G N0:Nat)(s:Sy)(v:Sc)(acts:List Ac)(qs ys:List Aq)(L:List Th)(pa pt pw:Pl)(cu cn cm cp cf:Int)(cs:List UInt8)(x:An)(d:Option Addr)(cap i:Nat)(iv:Int)(w:World)(hg:dY w G N0 s v (rws acts qs L pa pt pw) ys)(hN:N0<=w.heap.size)(hL:L.length<=5000)(ED:N0<=G)(ck:Int)(hk:ck=9∨ck=2∨ck=6)(hi:i<L.length)(hiv:iv=(i:Int)):
 Calls prog 62 #[aH (aK ⟨G,0,aJ⟩),aC #[aB aI ck,aB aI cu,aB aI cn,aB aI cm,aB aI cp,aB aI cf,aF ⟨cs.toArray⟩],aC #[aB aI (x.c:Int),aB aI x.n,aA d x.l.length cap],aB aI iv] w (AZ G N0 s v acts qs ys (lF L ⟨ck,cu,cn,cm,cp,cf,cs⟩ x i) pa pt w):=by
 subst hiv;obtain⟨A,p,H,C,F,h⟩:=boxes2 w #[aB aI ck,aB aI cu,aB aI cn,aB aI cm,aB aI cp,aB aI cf,aF ⟨cs.toArray⟩] 70 #[aB aI (x.c:Int),aB aI x.n,aA d x.l.length cap] 72;have b:=gO (hg.below h);have t:=gO (h.mono hN);have I:N0<=w.heap.size:=hN;obtain⟨O,U,Z,V,X,W,T⟩:=gA7 A;have z0:=p 0;have z1:=p 1;have D:=p 2;simp only[gB,gC,gD]at z0 z1 D;have Y:=gO (fun(g:Nat) (e:(aA pw.a L.length pw.c).ownBlock=aK g)=>(hg.o.lt (oP L pw) (by simp[rws]) g e).2);have Q:G<w.heap.size:=hg.lt;clear A p H C h hg;rcases hk with rfl | rfl | rfl;all_goals
  go_enter func62,ntmps62
  go_upto_region 1 with fail
  generalize (w.alloc _).alloc _=j at*;have P:G<j.heap.size:=b.out.lt;have B:w.heap.size<j.heap.size:=by omega
  have S:j.cell? ⟨G,9,aJ⟩=aK (aA pw.a L.length pw.c):=b.out.k 9;have z:(aA pw.a L.length pw.c).ownBlock≠aK G:=λe=>(b.out.og (oP L pw) (by simp[rws]) G e).1 rfl
  have q:=gO (b.out.o.each (oP L pw) (by simp[rws]));have m:=WT 0 pw.a L.length pw.c L i j q.out hi (by omega) (gU _);have u:=gO m;have J:IntKind.i64.wrap ((i:Int)+1)=(i:Int)+1:=IntWalk.i64_in _ (by omega);clear m;go_wp2_with (go_at_call 113;refine u.out.mono ?_;rintro R y ⟨rfl,r,f⟩;have K:y.cell? ⟨G,9,aJ⟩=aK (aA pw.a L.length pw.c):=bD b.out.k b.out.lt f (λe=>z e.symm) 9;have E:y.frozen? ⟨G,9,aJ⟩=false:=bG b.out.fz b.out.lt f (λe=>z e.symm) 9)
  all_goals
   have M:=aBJ b.out (by omega:N0<=j.heap.size) hi r f;have N:=pO t.out (by omega:N0<=j.heap.size) b.out f ED (aA pw.a (L.length-1) pw.c);exact bodyPost_ret (v:=aG #[]) (by simp[results,results62,go_sem]) rfl ⟨_,rfl,M,N⟩
theorem WU (G N0:Nat)(s:Sy)(v:Sc)(acts:List Ac)(qs ys:List Aq)(L:List Th)(pa pt pw:Pl)(cu cn cm cp cf:Int)(cs:List UInt8)(x:An)(d:Option Addr)(cap i:Nat)(iv:Int)(w:World)(hg:dY w G N0 s v (rws acts qs L pa pt pw) ys)(hN:N0<=w.heap.size)(hL:L.length<=5000)(ED:N0<=G)(ck:Int)(hk:ck=3∨ck=7∨ck=12∨ck=14):
 Calls prog 62 #[aH (aK ⟨G,0,aJ⟩),aC #[aB aI ck,aB aI cu,aB aI cn,aB aI cm,aB aI cp,aB aI cf,aF ⟨cs.toArray⟩],aC #[aB aI (x.c:Int),aB aI x.n,aA d x.l.length cap],aB aI iv] w (AZ G N0 s v acts qs ys (lF L ⟨ck,cu,cn,cm,cp,cf,cs⟩ x i) pa pt w):=by
 obtain⟨p,h,y,r,u,f⟩:=boxes2 w #[aB aI ck,aB aI cu,aB aI cn,aB aI cm,aB aI cp,aB aI cf,aF ⟨cs.toArray⟩] 70 #[aB aI (x.c:Int),aB aI x.n,aA d x.l.length cap] 72;have b:=gO (hg.below f);have m:=gO (f.mono hN);have z:N0<=w.heap.size:=hN;obtain⟨A,H,N,I,K,J,F⟩:=gA7 p;have z0:=h 0;have z1:=h 1;have t:=h 2;simp only[gB,gC,gD]at z0 z1 t;have M:=gO (fun(g:Nat) (e:(aA pw.a L.length pw.c).ownBlock=aK g)=>(hg.o.lt (oP L pw) (by simp[rws]) g e).2);have C:G<w.heap.size:=hg.lt;clear p h y r f hg;rcases hk with rfl | rfl | rfl | rfl;all_goals
  go_enter func62,ntmps62
  go_upto_region 1 with fail
  generalize (w.alloc _).alloc _=j at*;have B:G<j.heap.size:=b.out.lt;have q:w.heap.size<j.heap.size:=by omega
  have D:j.cell? ⟨G,9,aJ⟩=aK (aA pw.a L.length pw.c):=b.out.k 9;have E:(aA pw.a L.length pw.c).ownBlock≠aK G:=λe=>(b.out.og (oP L pw) (by simp[rws]) G e).1 rfl
  go_wp2_with fail
  all_goals exact bodyPost_ret (v:=aG #[]) (by simp[results,results62,go_sem]) rfl ⟨_,rfl,b.out,m.out⟩
theorem aBN (G N0:Nat)(s:Sy)(v:Sc)(acts:List Ac)(qs ys:List Aq)(L:List Th)(pa pt pw:Pl)(cu cn cm cp cf:Int)(cs:List UInt8)(x:An)(d:Option Addr)(cap i:Nat)(iv:Int)(w:World)(hg:dY w G N0 s v (rws acts qs L pa pt pw) ys)(hN:N0<=w.heap.size)(hL:L.length<=5000)(ED:N0<=G)(hl:x.l.length<=256)(hq:(⟨x,d,cap⟩:Aq)∈ys):
 Calls prog 62 #[aH (aK ⟨G,0,aJ⟩),aC #[aB aI 15,aB aI cu,aB aI cn,aB aI cm,aB aI cp,aB aI cf,aF ⟨cs.toArray⟩],aC #[aB aI (x.c:Int),aB aI x.n,aA d x.l.length cap],aB aI iv] w (AZ G N0 s v acts qs ys (lF L ⟨15,cu,cn,cm,cp,cf,cs⟩ x i) pa pt w):=by
 skip
 obtain⟨K1,S,F1,F2,hsz,z⟩:=boxes2 w #[aB aI 15,aB aI cu,aB aI cn,aB aI cm,aB aI cp,aB aI cf,aF ⟨cs.toArray⟩] 70 #[aB aI (x.c:Int),aB aI x.n,aA d x.l.length cap] 72;have u:=gO (hg.below z);have I:=gO (z.mono hN);have hN1:N0<=w.heap.size:=hN;obtain⟨q0,q1,q2,q3,q4,q5,U⟩:=gA7 K1;have z0:=S 0;have z1:=S 1;have z2:=S 2;simp only[gB,gC,gD]at z0 z1 z2;have Ud:=gO (fun(g:Nat) (e:(aA pw.a L.length pw.c).ownBlock=aK g)=>(hg.o.lt (oP L pw) (by simp[rws]) g e).2);have Xf:G<w.heap.size:=hg.lt;clear K1 S F1 F2 z hg;go_enter func62,ntmps62
 go_upto_region 1 with fail
 generalize (w.alloc _).alloc _=T at*;have Qy:G<T.heap.size:=u.out.lt;have hsz0:w.heap.size<T.heap.size:=by omega
 have k9:T.cell? ⟨G,9,aJ⟩=aK (aA pw.a L.length pw.c):=u.out.k 9;have W:(aA pw.a L.length pw.c).ownBlock≠aK G:=λe=>(u.out.og (oP L pw) (by simp[rws]) G e).1 rfl
 obtain⟨b,r⟩:∃b:Nat->List Th,∀j,b j=L++(x.l.take j).map λp=>⟨p,5,5,cs,0,false⟩:=⟨_,λ_=>rfl⟩
 have Q:∀j,j<=x.l.length->(b j).length=L.length+j:=λj C=>by rw[r,gTb,gTe,gTc,Nat.min_eq_left C]
 have P:∀j (C:j<x.l.length),b (j+1)=b j++[⟨x.l[j],5,5,cs,0,false⟩]:=λj C=>by
  rw[r,r,List.append_assoc,<- List.take_append_getElem C,List.map_append];rfl
 have K:b 0=L:=by rw[r];simp
 have O:b x.l.length=lF L ⟨15,cu,cn,cm,cp,cf,cs⟩ x i:=by rw[r,List.take_length];rfl
 have Y:=gO (And.intro Q (And.intro P O));have HQ:=gO hq;have H:=gO K;clear Q P O hq r K;go_wp2_with fail
 go_loopw [9,78] (λs9 A wr=>∃(j:Nat) (h:Pl),j<=x.l.length/\A=aB aI (j:Int)/\Hid (dY wr G N0 s v (rws acts qs (b j) pa pt h) ys)/\Hid (Below N0 w wr)/\Hid (wr.cell? ⟨w.heap.size,6,aJ⟩=aK (aF ⟨cs.toArray⟩))/\Hid (∀g,(aA h.a (b j).length h.c).ownBlock=aK g->g≠w.heap.size)/\T.heap.size<=wr.heap.size) (λ_ A _=>x.l.length-(intOf A).toNat)
 case atStart=>
  refine⟨0,pw,gU _,rfl,?_,I,U,λg e=> ?_,gT _⟩
  ·rw[H.out];exact u
  ·rw[H.out]at e;have:=Ud.out g e;omega
 case round=>
  obtain⟨j,h,C,rfl,B,Xh,HQJ,E,hwj⟩:=hrel;clear u I q0 q1 q2 q3 q4 q5 U k9 Qy;by_cases M:j<x.l.length
  ·have hji:(j:Int)<x.l.length:=by omega
   obtain⟨bb,off,N,hbb,D⟩:=BF (aV (B.out.li _ HQ.out).1) (k:=j) M;have aEz:d=aK ⟨bb,off,aJ⟩:=N;have hbc':wr.cell? ⟨bb,off+j,aJ⟩=aK (aB aI x.l[j]):=D;have U:=HQJ.out;have hln:(b j).length<=5256:=by rw[Y.out.1 j C];omega
   have Qy:G<wr.heap.size:=B.out.lt;have k9:wr.cell? ⟨G,9,aJ⟩=aK (aA h.a (b j).length h.c):=B.out.k 9;have W:(aA h.a (b j).length h.c).ownBlock≠aK G:=λe=>(B.out.og (oP (b j) h) (by simp[rws]) G e).1 rfl
   have hls:=Y.out.2.1 j M;have hwt:w.heap.size<wr.heap.size:=by omega
   generalize x.l[j]=y at*;subst aEz;clear N D;go_upto_region 12 with fail
   have t:Below wr.heap.size wr (wr.alloc (aO #[aB aI y,aB aI 5,aB aI 5,aF ⟨cs.toArray⟩,aB aI 0,.bool false] 52)).drew:=(aAq wr _).drew;have f:=gO (B.out.below t);have HB2:=gO (Below.trans Xh.out (t.mono (by omega:N0<=wr.heap.size)));have zF:=gO (World.news_of_block (w:=(wr.alloc (aO #[aB aI y,aB aI 5,aB aI 5,aF ⟨cs.toArray⟩,aB aI 0,.bool false] 52)).drew) (heap_alloc_new wr _));have HO2:=gO (f.out.o.each (oP (b j) h) (by simp[rws]));obtain⟨ti,hti,V,Z,htb⟩:=info_parts yI;go_region_law (refine step_append_lies _ rfl _ _ 45 rfl 0 52 ti (aC #[aB aI 0,aB aI 0,aB aI 0,aF ⟨#[]⟩,aB aI 0,.bool false]) 6 56 underlying45 hti V Z htb rfl (by decide) (aA h.a (b j).length h.c) (b j).length (flat jZ (b j)) rfl HO2.out ⟨wr.heap.size,0,aJ⟩ 1 1 [aB aI y,aB aI 5,aB aI 5,aF ⟨cs.toArray⟩,aB aI 0,.bool false] rfl rfl zF.out (by simp[Value.oneCell']) (by decide) (by unfold maxLen;omega) (by omega) (gU _) _ rfl ?_;intro F m R ho7 q J lN;have k97:R.cell? ⟨G,9,aJ⟩=aK (aA h.a (b j).length h.c):=bD f.out.k f.out.lt q (λe=>W e.symm) 9;have f97:R.frozen? ⟨G,9,aJ⟩=false:=bG f.out.fz f.out.lt q (λe=>W e.symm) 9)
   all_goals
    have hP:=xM f.out (gQ (by omega:N0<=wr.heap.size) t.size) (⟨y,5,5,cs,0,false⟩:Th) ho7 q J lN;have hB:=pO HB2.out (gQ (by omega:N0<=wr.heap.size) t.size) f.out q ED (aA (aK ⟨F,0,aJ⟩) ((b j).length+1) m);have hds:=t.size;have h67:=q.size;have hn7:∀g,(aA (aK ⟨F,0,aJ⟩) (b (j+1)).length m).ownBlock=aK g->g≠w.heap.size:=λg e=>by
     obtain rfl:F=g:=by simpa[gTh]using e
     rcases J with h2 | h2
     ·exact E.out _ h2
     ·omega
    have hq7:R.cell? ⟨w.heap.size,6,aJ⟩=aK (aF ⟨cs.toArray⟩):=(q.cell_far ⟨w.heap.size,6,aJ⟩ (show w.heap.size<_ by omega) (λe=>E.out _ e.symm rfl)).trans ((t.cell (p:=⟨w.heap.size,6,aJ⟩) hwt).trans U);have X:(R.setCell ⟨G,9,aJ⟩ (aA (aK ⟨F,0,aJ⟩) ((b j).length+1) m)).cell? ⟨w.heap.size,6,aJ⟩=aK (aF ⟨cs.toArray⟩):=by
     have hx:(⟨G,9,aJ⟩:Addr)≠⟨w.heap.size,6,aJ⟩:=λe=>by have:G=w.heap.size:=congrArg Addr.block e;omega
     exact(World.cell?_setCell_other _ _ _ _ hx).trans hq7
    go_wp2_with fail
    go_roundw
    case rel=>exact⟨j+1,⟨aK ⟨F,0,aJ⟩,m⟩,by omega,by go_num,by rw[hls];exact hP,hB,X,hn7,by simp;omega⟩
    case measure=>simp[intOf];omega
  ·obtain rfl:j=x.l.length:=by omega
   go_wp2_with fail
   exact bodyPost_ret (v:=aG #[]) (by simp[results,results62,go_sem]) rfl ⟨h,rfl,by rw[<- Y.out.2.2];exact B.out,Xh.out⟩
def aHO (c:Ac)(L:List Th)(w:World)(ev:Ending)(w':World):Prop:=∃r:Int,ev=aN (aB aI r)/\(r= -1∨∃(j:Nat) (x:Th),L[j]? =aK x/\fits c x/\r=(j:Int))/\Below w.heap.size w w'
theorem Ed {w:World}{b o:Nat}{t:Th}(hc:∀i v,(jZ t)[i]? =aK v->w.cell? ⟨b,o+i,aJ⟩=aK v):w.cell? ⟨b,o,aJ⟩=aK (aB aI t.a)/\w.cell? ⟨b,o+1,aJ⟩=aK (aB aI t.z)/\w.cell? ⟨b,o+2,aJ⟩=aK (aB aI t.k)/\w.cell? ⟨b,o+3,aJ⟩=aK (aF ⟨t.n.toArray⟩)/\w.cell? ⟨b,o+4,aJ⟩=aK (aB aI t.w)/\w.cell? ⟨b,o+5,aJ⟩=aK (.bool t.b):=⟨hc 0 _ rfl,hc 1 _ rfl,hc 2 _ rfl,hc 3 _ rfl,hc 4 _ rfl,hc 5 _ rfl⟩
theorem aBR (G nw:Nat)(pa:Option Addr)(cw:Nat)(L:List Th)(ck cu cn cm cp cf f:Int)(cs:List UInt8)(w:World)(k9:w.cell? ⟨G,9,aJ⟩=aK (aA pa L.length cw))(hG:G<w.heap.size)(hr:Row w pa (flat jZ L))(hL:L.length<=5000)(hf:1<=f/\f<=9)(hk:ck=2∨ck=6∨ck=9∨ck=11∨ck=13∨ck=14):
 Calls prog 61 #[aH (aK ⟨G,0,aJ⟩),aC #[aB aI ck,aB aI cu,aB aI cn,aB aI cm,aB aI cp,aB aI cf,aF ⟨cs.toArray⟩,aB aI f]] w (aHO ⟨ck,cu,cn,cm,cp,cf,cs⟩ L w):=by
 obtain⟨K1,F1,g,m⟩:=boxes1 w #[aB aI ck,aB aI cu,aB aI cn,aB aI cm,aB aI cp,aB aI cf,aF ⟨cs.toArray⟩,aB aI f] 135;have k91:=(m.cell (p:=⟨G,9,aJ⟩) hG).trans k9;have HR:=gO (hr.below m);have HB:=gO m;have c:=gO K1;clear K1 F1 m k9 hr;obtain⟨Z,N⟩:∃Z:Th->Prop,Z=fits ⟨ck,cu,cn,cm,cp,cf,cs⟩:=⟨_,rfl⟩
 have MR:=gO N;clear N;rcases hk with rfl | rfl | rfl | rfl | rfl | rfl;all_goals
  go_enter func61,ntmps61
  go_upto_region 1 with fail
  generalize w.alloc _=F at*;go_wp2_with fail
  go_loopw [5,6,7,13,18] (λs5 s6 s7 C s18 wr=>∃(j:Nat) (l:List Int) (d:Option Addr) (h:Nat),j<=L.length/\C=aB aI (j:Int)/\l.length<=j/\s5=aA d l.length h/\Hid (∀p∈l,∃(q:Nat) (x:Th),L[q]? =aK x/\Z x/\p=(q:Int))/\Hid (wr.ownsRow F.heap.size 3 1 (aA d l.length h) l.length (l.map vI))/\Hid (Below F.heap.size F wr)) (λ_ _ _ C _ _=>L.length-(intOf C).toNat)
  case atStart=>exact⟨0,[],aJ,0,gU _,rfl,gT _,rfl,λp B=>by(cases B),World.ownsRow_nil _ _ _ _,gX _ _⟩
  case round=>
   obtain⟨j,l,d,h,hj,rfl,hlj,rfl,v,y,o⟩:=hrel;have P:=aAp c.out g o.out 0;have Q:=aAp c.out g o.out 6;have q7:=aAp c.out g o.out 7;simp only[gB,gC,gD]at P Q q7;by_cases H:j<L.length
   ·have hji:(j:Int)<L.length:=by omega
    obtain⟨bb,off,r,W,i⟩:=aAw fU (by decide) (HR.out.below o.out) H;obtain rfl:=r;have HX:=gO (gJ H);generalize L[j]=x at*;obtain⟨t0,t1,t2,t3,t4,t5⟩:=Ed i;clear i;have A:=aAq wr (aO #[aB aI x.a,aB aI x.z,aB aI x.k,aF ⟨x.n.toArray⟩,aB aI x.w,.bool x.b] 52);have U:=aQ wr #[aB aI x.a,aB aI x.z,aB aI x.k,aF ⟨x.n.toArray⟩,aB aI x.w,.bool x.b] 52;have hsx:wr.heap.size<(wr.alloc (aO #[aB aI x.a,aB aI x.z,aB aI x.k,aF ⟨x.n.toArray⟩,aB aI x.w,.bool x.b] 52)).heap.size:=by simp
    have s:=gO (gW o.out A);have J:=gO (own_below y.out A (gT _));have hwr:=o.out.size;go_upto_block 2 with fail
    clear P Q q7 t0 t1 t2 t3 t4 t5 y o A;generalize wr.alloc _=R at*;generalize wr.heap.size=B7 at*;have P:=aAp c.out g s.out 0;have Q:=aAp c.out g s.out 6;have x2:=U 2;have x3:=U 3;simp only[gB,gC,gD]at P Q x2 x3;clear U;have t:=aAq R (aO #[aB aI (j:Int)] 3);have M:=gO (own_below J.out t (gT _));have D:=gO (gW s.out t);have zF:=gO (World.news_of_block (heap_alloc_new R (aO #[aB aI (j:Int)] 3)));have O:F.heap.size<=(R.alloc (aO #[aB aI (j:Int)] 3)).heap.size:=by have:=t.size;omega
    obtain⟨ti,hti,S,X,Y⟩:=info_parts lM;clear t;go_wp2_with (at_builtin;refine wpList_append_lies _ rfl _ _ 34 rfl F.heap.size 3 ti (aB aI 0) 1 8 underlying34 hti S X Y rfl (by decide) (aA d l.length h) l.length (l.map vI) rfl M.out ⟨R.heap.size,0,aJ⟩ 1 1 [aB aI (j:Int)] rfl rfl zF.out (by simp[Value.oneCell']) (by decide) (by unfold maxLen;omega) (by omega) O _ rfl ?_;intro g7 K w7 ho7 V hl7 lN)
    all_goals first
     |exact⟨⟨j+1,l,d,h,by omega,by go_num,by omega,rfl,v,J,s⟩,by simp[intOf];omega⟩
     |(refine⟨⟨j+1,l++[(j:Int)],aK ⟨g7,0,aJ⟩,K,by omega,by go_num,by simp;omega,by simp,λp B=> ?_,?_,?_⟩,by simp[intOf];omega⟩
       ·rcases gZ.1 B with B | B
        ·exact v.out p B
        ·exact⟨j,x,HX.out,by rw[MR.out];simp_all [fits],gTa.1 B⟩
       ·have e1:(l++[(j:Int)]).length=l.length+1:=by simp
        rw[e1,List.map_append];exact ho7
       ·exact Below.grown D.out V D.out.size λk e=>(M.out.lt k e).1)
   ·obtain rfl:j=L.length:=by omega
    by_cases u:l=[]
    ·subst u;go_wp2_with fail
     all_goals go_ret
     all_goals exact⟨-1,rfl,.inl rfl,gW HB.out o.out⟩
    ·have hlp:0<l.length:=List.length_pos_iff.2 u;obtain⟨q,hq⟩:∃q:Nat,f.tmod l.length=(q:Int):=⟨(f.tmod l.length).toNat,by
      have:=Int.tmod_nonneg (a:=f) (l.length:Int) (by omega);omega⟩
     have E:q<l.length:=by
      have:=Int.tmod_lt_of_pos f (show(0:Int)<l.length by omega);omega
     have hqi:(q:Int)<l.length:=by omega
     obtain⟨bb,off,r,W,i⟩:=BF (aV y.out) (k:=q) E;obtain⟨p,x,h1,T,h3⟩:=v.out l[q] (gL E);rw[MR.out]at T;rw[h3]at i;have hlz:¬(l.length:Int)=0:=by omega
     have aEz:d=aK ⟨bb,off,aJ⟩:=r;subst aEz;have I:=gO (And.intro h1 T);clear r h3 h1 T u;go_wp2_with fail
     all_goals go_ret
     all_goals exact⟨(p:Int),rfl,.inr ⟨p,x,I.out.1,I.out.2,rfl⟩,gW HB.out o.out⟩
end Go.Proofs.YtjaogfhcnmjkiaaGreatDoor
