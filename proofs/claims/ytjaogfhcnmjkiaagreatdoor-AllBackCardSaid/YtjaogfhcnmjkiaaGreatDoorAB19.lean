/- joined. -/
import Derived.Test.YtjaogfhcnmjkiaaGreatDoorAB17
import Derived.Test.YtjaogfhcnmjkiaaGreatDoorAB18
set_option linter.all false
set_option maxRecDepth 100000
set_option maxHeartbeats 0
namespace Go.Proofs.YtjaogfhcnmjkiaaGreatDoor
open Go.RowKit
open Go.Value renaming slice->aA,int->aB,agg->aC,string->aF,tuple->aG,pointer->aH,ownBlock->gTh
open Go.IntKind renaming i64->aI
open Option renaming none->aJ,some->aK
open Go.Ending renaming returned->aN
open Go.Obj renaming cells->aO
open Go.Proofs.Tryz
variable {G a c1 c2 cpu g i k least m n n1 n2 split:Nat}{Y:Nat->Prop}{a1 a2:Option Addr}{c:Ca}{h:Hp}{s s':Sy}{w w':World}{x:Sl}{xs:List Value}
def Ca.idle (c:Ca)(x:Sl):Bool:=decide (x.n=c.r)&& !c.ac.contains (x.p:Int)
theorem YU (y:Cc)(x:Sl)(w:World)(hl:y.c.ac.length=y.n3)(hn:y.n3<=1000)(hr:Row w y.a3 (y.c.ac.map vI)):
 Calls prog 78 #[aC #[aA y.a1 y.n1 y.c1,aB aI y.c.z,aB aI y.c.r,aB aI y.c.o,aA y.a2 y.n2 y.c2,aA y.a3 y.n3 y.c3],aC #[aB aI x.p,aB aI x.n,aB aI x.h]] w λev w'=>ev=aN (.bool (y.c.idle x))/\Below w.heap.size w w':=by
 obtain⟨d,f,k,s,t,a⟩:=boxes2 w #[aA y.a1 y.n1 y.c1,aB aI (y.c.z:Int),aB aI (y.c.r:Int),aB aI (y.c.o:Int),aA y.a2 y.n2 y.c2,aA y.a3 y.n3 y.c3] 67 #[aB aI (x.p:Int),aB aI (x.n:Int),aB aI x.h] 99;have k2:=d 2;have q:=d 5;have j:=f 0;have m:=f 1;simp only[gB,gC,gD]at k2 q j m;have h:=kQ y.a3 y.c3 y.c.ac (x.p:Int) _ (by omega) (hr.below a);rw[hl]at h;have l:=gO h;have i:=gO a;clear h a hr d f k s;by_cases b:x.n=y.c.r
 ·have e:((x.n:Int) == (y.c.r:Int))=true:=by rw[beq_iff_eq,b]
  have g:=gO b;clear b;go_enter func78,ntmps78
  go_wp2_with (go_at_call 45;refine l.out.mono ?_;rintro ev u ⟨rfl,rfl⟩)
  go_ret
  refine⟨bP ?_,i.out⟩;unfold Ca.idle;rw[gTg g.out];rfl
 ·have e:((x.n:Int) == (y.c.r:Int))=false:=by rw[beq_eq_false_iff_ne];omega
  have g:=gO b;clear b;go_enter func78,ntmps78
  go_wp2_with fail
  go_ret
  refine⟨bP ?_,i.out⟩;unfold Ca.idle;rw[gV g.out];rfl
def Sy.discard (s:Sy)(i k cpu:Nat):Sy:=match s.cs[i]? with
 | some c=>match c.sl[k]? with
  | some x=>match s.h.live[lb s.h.live x.p]? with
   | some b=>{s with h:=s.h.fZ cpu (lb s.h.live x.p) b,cs:=s.cs.set i {c with sl:=c.sl.eraseIdx k}}
   | none=>s
  | none=>s
 | none=>s
def aCG (v:Sc)(s:Sy)(i k cpu:Nat)(G:Nat)(X:Nat->Prop)(w:World)(ev:Ending)(w':World):Prop:=ev=aN (aG #[])/\∃a,SS w' G X (s.discard i k cpu) a/\Safe X w w'/\a.a2=v.a2
theorem DC (v:Sc)(s:Sy)(G i k cpu:Nat)(X:Nat->Prop)(w:World)(hs:SS w G X s v)(hk:cZ s)(hi:i<v.ys.length)(hkk:k<v.ys[i].c.sl.length)(dA:cpu<s.h.aP):
 Calls prog 79 #[aH (aK ⟨G,0,aJ⟩),aB aI i,aB aI k,aB aI cpu] w (aCG v s i k cpu G X w):=by
 obtain⟨m,I,qW,Ov,VJ,q⟩:=hs.r.Vl hi;have f:=gL hi;have N:v.ys[i].c∈s.cs:=by rw[<- hs.r.cy];exact List.mem_map_of_mem f
 have H:s.cs[i]? =aK v.ys[i].c:=by
  rw[<- hs.r.cy,List.getElem?_map,gJ hi];rfl
 have g:=hk.ck _ N;have hvl:v.ys.length<=20:=by have:=congrArg List.length hs.r.cy;rw[gTe]at this;rw[this];exact hk.cl
 have Kw:s.h.live.length<=1000:=gQ hk.hk.jM (by decide);have YF:v.hc.lc.length<=1000:=by
  have E:=congrArg List.length hs.r.hr.ll;rw[gTe]at E;rw[E];exact gQ hk.hk.pK (by decide)
 have hii:(i:Int)<v.ys.length:=by omega
 obtain⟨_,n,_⟩:=hs.r.y f;obtain⟨y,S⟩:∃y,v.ys[i]=y:=⟨_,rfl⟩
 have HY:=gO S;rw[S]at H g n q;have d:k<y.c.sl.length:=by rw[<- S];exact hkk
 have F:=(g.sk _ (gL d)).live;have hp:=(g.sk _ (gL d)).BF hk.hk;obtain⟨gs,t,_,OB,T,_⟩:=oI n (k*3) (by show k*3<(flat bQ y.c.sl).length;rw[flat_length aY];omega);have hl2:y.c.sl.length=y.n2:=bT aY (by decide) n;have hsl:=g.nS hk.hk;have ps:w.cell? ⟨gs,k*3,aJ⟩=aK (aB aI (y.c.sl[k].p:Int)):=by
  have E:=flat_get aY y.c.sl k d 0 (by decide);have Y:k*3<(flat bQ y.c.sl).length:=by rw[flat_length aY];omega
  rw[T];have h3:(flat bQ y.c.sl)[k*3]? =aK (vI (y.c.sl[k].p:Int)):=by simpa[bQ]using E
  rw[gJ Y]at h3;exact h3
 obtain⟨V,Uw,R⟩:=(g.sk _ (gL d)).at hk.hk;have hF:=fun(W:World) (hW:Below w.heap.size w W)=>FQ v.hc.az v.hc.am v.hc.al v.hc.av v.hc.cz v.hc.cm v.hc.cl v.hc.cv _ _ _ _ _ s.h cpu y.c.sl[k].p W (hs.r.hr.at.below hW) hk.hk YF Kw dA (by omega) R
 have Ze:s.discard i k cpu={s with h:=s.h.fZ cpu (lb s.h.live y.c.sl[k].p) s.h.live[lb s.h.live y.c.sl[k].p],cs:=s.cs.set i {y.c with sl:=y.c.sl.eraseIdx k}}:=by
  unfold Sy.discard;rw[H];simp only[gJ d,gJ V]
 obtain⟨A,J⟩:∃A,s.h.fZ cpu (lb s.h.live y.c.sl[k].p) s.h.live[lb s.h.live y.c.sl[k].p]=A:=⟨_,rfl⟩
 rw[J]at Ze;have HF:Hid (∀W,Below w.heap.size w W->Calls prog 42 #[aC #[aA v.hc.az 2 v.hc.cz,aA v.hc.am 2 v.hc.cm,aB aI s.h.aP,aA v.hc.al v.hc.lc.length v.hc.cl,aA v.hc.av s.h.live.length v.hc.cv],aB aI cpu,aB aI y.c.sl[k].p] W λZ w'=>∃b:Hc,Z=aN (aG #[aC #[aA b.az 2 b.cz,aA b.am 2 b.cm,aB aI (A.aP:Int),aA b.al b.lc.length b.cl,aA b.av A.live.length b.cv],aB aI 0])/\lN w' W.heap.size A b/\Below W.heap.size W w'):=λW hW=>by
  refine(hF W hW).mono ?_;rintro Z w' ⟨hb,c',_,E,Y⟩;rw[J]at E Y;exact⟨c',E,Y,hb⟩
 obtain⟨b4,f4⟩:=q 4 (by decide);simp only[fD,vI,gC,gD]at b4;have g1:=hs.k 1;have g2:=hs.k 2;have g3:=hs.k 3;have g4:=hs.k 4;have g5:=hs.k 5;have Q:=hs.k 6;unfold Sc.vals at g1 g2 g3 g4 g5 Q;simp only[gB,gC,gD]at g1 g2 g3 g4 g5 Q;rw[I]at Q;rw[t]at b4;have aKu:=gO t;have HS:=gO hs;have HDS:=gO Ze;have HC:=gO q;have HA2:=gO I;have Ky:=hs.r.hr.gs;have hGc:G≠m:=λe=>Ov e.symm
 have aOS:gs≠G:=λe=>(hs.r.og _ (lT f (show oO v.ys[i]∈iU v.ys[i]by simp[iU])) gs (by rw[S];unfold oO;rw[t];rfl)).1 e
 have hn2:y.n2<=256:=by omega
 have hkn:(k:Int)<y.n2:=by omega
 have aKv:k<y.n2:=by omega
 clear hs hk q S g N H hF J Ze F V Uw R T n I t hkk hl2 hsl f hvl;generalize y.c.sl[k]=x at*;clear d;go_enter func79,ntmps79
 go_upto_region 1 with fail
 go_cut [15] (λs15 wx=>∃(b:Hc),Hid (SS wx G X {s with h:=A} {v with hc:=b})/\Hid (Safe X w wx))
 case first=>
  go_region_law (first | (go_simp;go_at_call 42;refine(HF.out _ ((gX _ _).drew)).mono ?_;rintro Z w1 ⟨b,rfl,P,u⟩;have D:=aQ HS.out.k Ky (gW ((gX w.heap.size w).drew) u);have L:=aU HS.out.fz Ky (gW ((gX w.heap.size w).drew) u);have z1:=D 1;have z2:=D 2;have z3:=D 3;have z4:=D 4;have z5:=D 5;have q1:=L 1;have q2:=L 2;have q3:=L 3;have q4:=L 4;have q5:=L 5;unfold Sc.vals at z1 z2 z3 z4 z5;simp only[gB,gC,gD]at z1 z2 z3 z4 z5;have HKG:=gO D;clear D L))
  all_goals
   have B:Below w.heap.size w w1:=gW ((gX w.heap.size w).drew) u;have l:=HS.out.aKd B P;have HP1:=gO l.1;have HP2:=gO l.2;clear l B u P HKG z1 z2 z3 z4 z5 q1 q2 q3 q4 q5 g1 g2 g3 g4 g5 Q b4 f4 ps;go_wp2_with fail
   go_meet
   exact⟨b,HP1,HP2⟩
 case rest=>
  obtain⟨b,z,HFx⟩:=hcut;clear g1 g2 g3 g4 g5 Q b4 f4 ps HF;have o:i<({v with hc:=b}:Sc).ys.length:=hi;obtain⟨O,KP,Ja,aGv,aGw,YN⟩:=z.out.r.Vl o;have hgg:m=O:=by
   have U:v.a2=aK ⟨O,0,aJ⟩:=KP;rw[HA2.out]at U;simpa using U
  subst hgg;have sD:∀j,j<6->wc.cell? ⟨m,i*6+j,aJ⟩=(fD y)[j]? /\wc.frozen? ⟨m,i*6+j,aJ⟩=false:=λj hj=>by
   have h:=YN j hj;have e:({v with hc:=b}:Sc).ys[i]=y:=HY.out;rw[e]at h;exact h
  have f:y∈({v with hc:=b}:Sc).ys:=by rw[<- HY.out];exact gL hi
  have HSL:Hid ((oO y).on wc 0):=(z.out.r.y f).2.1;have YP:Hid (aK m≠(aA y.a2 y.n2 y.c2).ownBlock):=λe=>z.out.r.aCs o HY.out KP e.symm
  have x4:=(sD 4 (by decide)).1;have y4:=(sD 4 (by decide)).2;simp only[fD,vI,gC,gD]at x4;have M:=gO KP;have HHI:=gO o;have hr:Hid ({w:=s.w,h:=A,cs:=s.cs}={s with h:=A}):=rfl;clear YN sD KP o f;have X4:=gO x4;have Y4:=gO y4;go_wp2_with (go_at_call 122;refine(Vj 0 y.a2 y.n2 y.c2 y.c.sl k wc HSL.out aKv (by omega) (gU _)).mono ?_;rintro Z w5 ⟨rfl,C,K⟩;have q4:=(World.cell?_of_block (w:=wc) (a:=⟨m,i*6+4,aJ⟩) (K.block m Ja YP.out)).trans X4.out;have p4:=(World.frozen?_of_block (w:=wc) (a:=⟨m,i*6+4,aJ⟩) (K.block m Ja YP.out)).trans Y4.out)
  obtain⟨v',t1,t2,t3⟩:=z.out.Yi HHI.out HY.out C K (λk' U=> .inl (by unfold oO;rw[aKu.out]at U ⊢;exact U)) M.out;have t4:SS (w5.setCell ⟨m,i*6+4,aJ⟩ (aA y.a2 (y.n2-1) y.c2)) G X (s.discard i k cpu) v':=by
   rw[HDS.out];exact t1
  exact bodyPost_ret (v:=aG #[]) (by simp[results,results79,go_sem]) rfl ⟨rfl,v',t4,HFx.out.trans t2,t3⟩
def Sy.push (s:Sy)(i k a:Nat):Sy:=match s.cs[i]? with
 | some c=>match c.sl[k]? with
  | some x=>{s with w:=s.w.set a x.h,cs:=s.cs.set i {c with sl:=c.sl.set k ⟨x.p,x.n+1,(a:Int)⟩}}
  | none=>s
 | none=>s
def Ca.spare (c:Ca)(k:Nat):Bool:=match c.sl[k]? with
 | some x=>c.idle x&&decide (1<(c.sl.filter c.idle).length)
 | none=>false
def Sy.spare (s:Sy)(i k:Nat):Bool:=match s.cs[i]? with
 | some c=>c.spare k
 | none=>false
def Sy.free (s:Sy)(i k a cpu:Nat):Sy:=if(s.push i k a).spare i k then(s.push i k a).discard i k cpu else s.push i k a
theorem TQ (hi:s.cs[i]? =aK c)(hx:c.sl[k]? =aK x):s.push i k a={s with w:=s.w.set a x.h,cs:=s.cs.set i {c with sl:=c.sl.set k ⟨x.p,x.n+1,(a:Int)⟩}}:=by
 unfold Sy.push;rw[hi];simp only[hx]
theorem FU {w:List Int}{u b:Int}(hb:0<=b)(h:b≠(a:Int)):(w.set a u).getD b.toNat 0=w.getD b.toNat 0:=by
 rw[List.getD_eq_getElem?_getD,List.getElem?_set_ne (by omega),<- List.getD_eq_getElem?_getD]
theorem cZ.push (hk:cZ s)(hi:s.cs[i]? =aK c)(hx:c.sl[k]? =aK x)(ho:nN s.w c x a):
 cZ (s.push i k a)/\(∀j b,(s.push i k a).away j b↔s.away j b/\¬(j=i/\b=a))/\(s.push i k a).cs[i]? =aK {c with sl:=c.sl.set k ⟨x.p,x.n+1,(a:Int)⟩}:=by
 have W:=(gK.1 hi).1;have F:=gM hi;have B:=gM hx;obtain⟨G,D⟩:=gK.1 hx;have f:=hk.ck c F;obtain⟨I,hout⟩:=ho;obtain⟨l,h1,h2,h3⟩:=(f.sk x B).chain;have hal:=hout l h1;obtain⟨f1,f2,f3,f4⟩:=iP.1 h1;have hnd:((a:Int)::l).Nodup:=List.nodup_cons.2 ⟨hal,f4⟩;have T:=IC (c:=c) (p:=x.p) f.z.1 hnd λb hb=>by
  rcases gY.1 hb with rfl | hb
  ·exact I
  ·exact h3 b hb
 have S:=kD f.room I;have hlow:(a:Int)<4096:=by
  obtain⟨b,hb,hb1,hb2⟩:=(f.sk x B).live;obtain⟨_,_,h4,h5⟩:=(hk.hk.lv b hb).1;have hor:c.o<=2:=by rw[f.o];exact mM _
  rw[hb1,hb2]at h5;rw[hb1]at h4;generalize c.o=o at*;obtain rfl | rfl | rfl:o=0∨o=1∨o=2:=by omega
  ·simp only[Nat.pow_zero]at S;omega
  ·simp only[Nat.pow_one]at S h5;omega
  ·have e4:(2:Nat)^2=4:=rfl;rw[e4]at S h5;omega
 have Y:∀d∈s.cs,∀y∈d.sl,y.p≠x.p->∀b:Int,iO d y.p b=true->(s.w.set a x.h).getD b.toNat 0=s.w.getD b.toNat 0:=λd q y g H b hb=>by
  have h6:=(kY hb).1;refine FU (by omega) λe=>H ?_
  exact hk.Nj q F g B hb (by rw[e];exact I)
 have L:(s.w.set a x.h).length=s.w.length:=by simp
 have JL:follow (s.w.set a x.h) (a:Int) c.r=aK ((a:Int)::l):=by
  rw[iP];refine⟨⟨rfl,?_⟩,λb hb=> ?_,λ_=>by exact_mod_cast T,hnd⟩
  ·have e:(s.w.set a x.h).getD ((a:Int)).toNat 0=x.h:=by
    rw[List.getD_eq_getElem?_getD,Int.toNat_natCast,List.getElem?_set_self (by rw[hk.wl];omega)];rfl
   rw[e];exact f1.move λb hb=>FU (f2 b hb).1 λe=>hal (e▸hb)
  ·rw[L];rcases gY.1 hb with rfl | hb
   ·rw[hk.wl];omega
   ·exact f2 b hb
 rw[TQ hi hx];have M:∀d∈s.cs,∀y∈d.sl,y.p≠x.p->sZ {s with w:=s.w.set a x.h,cs:=s.cs.set i {c with sl:=c.sl.set k ⟨x.p,x.n+1,(a:Int)⟩}} d y:=λd q y g H=>
  ((hk.ck d q).sk y g).move rfl rfl rfl (λb hb=>hb) L (Y d q y g H)
 have V:∀j (t:j<c.sl.length),j≠k->c.sl[j].p≠x.p:=λj t R e=>by
  rw[<- D]at e;have U:=f.sr;rw[gN]at U;rcases Nat.lt_or_gt_of_ne R with h | h
  ·have:=U j k t G h;omega
  ·have:=U k j G t h;omega
 have X:∀j,j≠i->∀d,s.cs[j]? =aK d->∀y∈d.sl,y.p≠x.p:=λj t d q y g e=>by
  obtain⟨Z,hjd⟩:=gK.1 q;obtain⟨aD4,J⟩:=gK.1 hi;have hp:=hk.pd;rw[gN]at hp;rcases Nat.lt_or_gt_of_ne t with h | h
  ·exact hp j i Z W h y (by rw[hjd];exact g) x (by rw[J];exact B) e
  ·exact hp i j W Z h x (by rw[J];exact B) y (by rw[hjd];exact g) e.symm
 have aD5:sZ {s with w:=s.w.set a x.h,cs:=s.cs.set i {c with sl:=c.sl.set k ⟨x.p,x.n+1,(a:Int)⟩}} {c with sl:=c.sl.set k ⟨x.p,x.n+1,(a:Int)⟩} ⟨x.p,x.n+1,(a:Int)⟩:=
  ⟨(f.sk x B).live,(a:Int)::l,JL,by simp[h2],λb hb=>by
   rcases gY.1 hb with rfl | hb
   ·exact I
   ·exact h3 b hb⟩
 have aKw:qY {s with w:=s.w.set a x.h,cs:=s.cs.set i {c with sl:=c.sl.set k ⟨x.p,x.n+1,(a:Int)⟩}} {c with sl:=c.sl.set k ⟨x.p,x.n+1,(a:Int)⟩}:=by
  refine⟨f.z,f.o,f.r,f.ns,f.nm,f.nr,f.ac,?_,λy g=> ?_,λb hb=> ?_,f.ad⟩
  ·have h8:=f.sr;rw[gN]at h8 ⊢;intro j m t E O;have v:j<c.sl.length:=by simpa using t
   have Q:m<c.sl.length:=by simpa using E
   have C:=h8 j m v Q O;simp only[List.getElem_set];split
   ·rename_i e1;subst e1;rw[if_neg (by omega)];rw[D]at C;exact C
   ·split
    ·rename_i e1;subst e1;rw[D]at C;exact C
    ·exact C
  ·obtain⟨j,t,e⟩:=List.mem_iff_getElem.1 g;have v:j<c.sl.length:=by simpa using t
   rw[List.getElem_set]at e;split at e
   ·rw[<- e];exact aD5
   ·rename_i R;have C:=M c F _ (gL v) (V j v λe=>R e.symm);rw[e]at C;exact⟨C.live,C.chain⟩
  ·rcases f.aw b hb with h | ⟨z,hz,h⟩
   ·exact .inl h
   ·refine .inr ?_;obtain⟨j,t,e⟩:=List.mem_iff_getElem.1 hz;refine⟨(c.sl.set k ⟨x.p,x.n+1,(a:Int)⟩)[j]'(by simpa using t),gL _,?_⟩;rw[List.getElem_set];split
    ·rename_i e1;subst e1;rw[D]at e;rw[e];exact h
    ·rw[e];exact h
 have hpm:∀y∈c.sl.set k ⟨x.p,x.n+1,(a:Int)⟩,∃z∈c.sl,z.p=y.p:=λy g=>by
  rcases List.mem_or_eq_of_mem_set g with h | rfl
  ·exact⟨y,h,rfl⟩
  ·exact⟨x,B,rfl⟩
 have hset:∀j (d:Ca),j<s.cs.length->j≠i->s.cs[j]? =aK d->qY {s with w:=s.w.set a x.h,cs:=s.cs.set i {c with sl:=c.sl.set k ⟨x.p,x.n+1,(a:Int)⟩}} d:=λj d t N q=>
  (hk.ck d (gM q)).move rfl λy g=>M d (gM q) y g (X j N d q y g)
 have aKx:cZ {s with w:=s.w.set a x.h,cs:=s.cs.set i {c with sl:=c.sl.set k ⟨x.p,x.n+1,(a:Int)⟩}}:=by
  have h8:=(hk.upd (s':={s with cs:=s.cs.set i {c with sl:=c.sl.set k ⟨x.p,x.n,x.h⟩}}) (c':={c with sl:=c.sl.set k ⟨x.p,x.n,x.h⟩}) hi hk.wl hk.hk rfl rfl rfl ?_ (λd q=>(hk.ck d q).move rfl (λy g=>⟨((hk.ck d q).sk y g).live,((hk.ck d q).sk y g).chain⟩)) (λy g=> .inl ?_))
  ·have K:∀{P:Ca->Ca->Prop},s.cs.Pairwise P->(∀d,P d c->P d {c with sl:=c.sl.set k ⟨x.p,x.n+1,(a:Int)⟩})->(∀d,P c d->P {c with sl:=c.sl.set k ⟨x.p,x.n+1,(a:Int)⟩} d)->(s.cs.set i {c with sl:=c.sl.set k ⟨x.p,x.n+1,(a:Int)⟩}).Pairwise P:=fun{P} h g1 g2=>by
    obtain⟨aD4,J⟩:=gK.1 hi;rw[gN]at h ⊢;intro j m t E O;have v:j<s.cs.length:=by simpa using t
    have Q:m<s.cs.length:=by simpa using E
    have C:=h j m v Q O;simp only[List.getElem_set];split
    ·rename_i e1;subst e1;rw[if_neg (by omega)];rw[J]at C;exact g2 _ C
    ·split
     ·rename_i e1;subst e1;rw[J]at C;exact g1 _ C
     ·exact C
   refine⟨by show(s.w.set a x.h).length=4096;rw[L];exact hk.wl,hk.hk,by show(s.cs.set i _).length<=20;rw[List.length_set];exact hk.cl,λd q=> ?_,K hk.zd (λ_ h=>h) (λ_ h=>h),K hk.nd (λ_ h=>h) (λ_ h=>h),K hk.pd (λd h y g z hz=> ?_) (λd h y g z hz=> ?_)⟩
   ·obtain⟨j,t,e⟩:=List.mem_iff_getElem.1 q;have v:j<s.cs.length:=by simpa using t
    rw[List.getElem_set]at e;split at e
    ·rw[<- e];exact aKw
    ·rename_i N;exact hset j d v (λe=>N e.symm) (by rw[gJ v,e])
   ·obtain⟨z',hz',e⟩:=hpm z hz;rw[<- e];exact h y g z' hz'
   ·obtain⟨y',hy',e⟩:=hpm y g;rw[<- e];exact h y' hy' z hz
  ·rw[show c.sl.set k ⟨x.p,x.n,x.h⟩=c.sl by
    have:(⟨x.p,x.n,x.h⟩:Sl)=c.sl[k]:=D.symm;rw[this,List.set_getElem_self]]
   exact f.move rfl (λy g=>⟨(f.sk y g).live,(f.sk y g).chain⟩)
  ·rcases List.mem_or_eq_of_mem_set g with h | rfl
   ·exact⟨y,h,rfl⟩
   ·exact⟨x,B,rfl⟩
 refine⟨aKx,λj b=> ?_,by show(s.cs.set i _)[i]? =_;rw[List.getElem?_set_self W]⟩;have hst:=qN (s':={s with w:=s.w.set a x.h,cs:=s.cs.set i {c with sl:=c.sl.set k ⟨x.p,x.n+1,(a:Int)⟩}}) (c':={c with sl:=c.sl.set k ⟨x.p,x.n+1,(a:Int)⟩}) hi rfl b;have u:∀d∈s.cs,∀y∈d.sl,y.p≠x.p->(nN (s.w.set a x.h) d y b↔nN s.w d y b):=λd q y g H=>
  xR (((hk.ck d q).sk y g).Dk (s':={s with w:=s.w.set a x.h}) L (Y d q y g H)) b
 by_cases t:j=i
 ·subst t;rw[hst.1,oZ hi,Qw G,IG G,D,nT h1];have h8:nN (s.w.set a x.h) {c with sl:=c.sl.set k ⟨x.p,x.n+1,(a:Int)⟩} ⟨x.p,x.n+1,(a:Int)⟩ b↔iO c x.p b=true/\b∉(a:Int)::l:=nT (x:=⟨x.p,x.n+1,(a:Int)⟩) (c:={c with sl:=c.sl.set k ⟨x.p,x.n+1,(a:Int)⟩}) JL b;have C:(∃j,∃h:j<c.sl.length,j≠k/\nN (s.w.set a x.h) {c with sl:=c.sl.set k ⟨x.p,x.n+1,(a:Int)⟩} c.sl[j] b)↔(∃j,∃h:j<c.sl.length,j≠k/\nN s.w c c.sl[j] b):=by
   constructor
   ·rintro⟨m,E,A,h⟩;exact⟨m,E,A,(u c F _ (gL E) (V m E A)).1 h⟩
   ·rintro⟨m,E,A,h⟩;exact⟨m,E,A,(u c F _ (gL E) (V m E A)).2 h⟩
  show(∃j,∃h:j<c.sl.length,j≠k/\nN (s.w.set a x.h) {c with sl:=c.sl.set k ⟨x.p,x.n+1,(a:Int)⟩} c.sl[j] b)∨nN (s.w.set a x.h) {c with sl:=c.sl.set k ⟨x.p,x.n+1,(a:Int)⟩} ⟨x.p,x.n+1,(a:Int)⟩ b↔_;rw[h8,C,gY];constructor
  ·rintro(⟨m,E,A,h⟩ | ⟨h,h'⟩)
   ·refine⟨.inl ⟨m,E,A,h⟩,λe=> ?_⟩;obtain⟨_,rfl⟩:=e;exact A (hk.XF hi E G h.1 (by rw[D];exact I))
   ·exact⟨.inr ⟨h,λe=>h' (.inr e)⟩,λe=>h' (.inl e.2)⟩
  ·rintro⟨h | ⟨h,h'⟩,h2'⟩
   ·exact .inl h
   ·exact .inr ⟨h,λe=>e.elim (λe=>h2' ⟨rfl,e⟩) h'⟩
 ·rw[hst.2 j t];unfold Sy.away;constructor
  ·rintro⟨d,q,y,g,h⟩;exact⟨⟨d,q,y,g,(u d (gM q) y g (X j t d q y g)).1 h⟩,λe=>t e.1⟩
  ·rintro⟨⟨d,q,y,g,h⟩,_⟩;exact⟨d,q,y,g,(u d (gM q) y g (X j t d q y g)).2 h⟩
theorem qX (hk:cZ s){cpu:Nat}(hi:s.cs[i]? =aK c)(hx:c.sl[k]? =aK x):∃hl:lb s.h.live x.p<s.h.live.length,s.h.live[lb s.h.live x.p].a=x.p/\
 s.discard i k cpu={s with h:=s.h.fZ cpu (lb s.h.live x.p) s.h.live[lb s.h.live x.p],cs:=s.cs.set i {c with sl:=c.sl.eraseIdx k}}:=by
 obtain⟨d,_,f⟩:=((hk.ck c (gM hi)).sk x (gM hx)).at hk.hk;refine⟨d,?_,?_⟩
 ·unfold hasB at f;obtain⟨b,hb,e⟩:=List.any_eq_true.1 f;have g:=lZ hk.hk.vs hb;rw[of_decide_eq_true e,gJ d]at g;rw[gP g];exact of_decide_eq_true e
 ·unfold Sy.discard;rw[hi];simp only[hx,gJ d]
theorem cZ.discard (hk:cZ s)(hi:s.cs[i]? =aK c)(hx:c.sl[k]? =aK x)(hn:c.r<=x.n)(ha:∀b∈c.ac,b≠(x.p:Int))(dA:cpu<s.h.aP):
 cZ (s.discard i k cpu)/\(∀j b,(s.discard i k cpu).away j b↔s.away j b)/\(s.discard i k cpu).h.aP=s.h.aP/\(s.discard i k cpu).cs=s.cs.set i {c with sl:=c.sl.eraseIdx k}/\(∀b∈(s.discard i k cpu).h.live,b∈s.h.live/\b.a≠x.p)/\(s.discard i k cpu).w=s.w:=by
 have U:=(gK.1 hi).1;have O:=gM hi;have I:=gM hx;obtain⟨D,G⟩:=gK.1 hx;have f:=hk.ck c O;obtain⟨L,X,he⟩:=qX hk (cpu:=cpu) hi hx;obtain⟨g1,g2,g3,g4⟩:=hk.hk.fZ dA L;have hpk:∀j (g:j<c.sl.length),j≠k->c.sl[j].p≠x.p:=λj g hjk e=>by
  rw[<- G]at e;have E:=f.sr;rw[gN]at E;rcases Nat.lt_or_gt_of_ne hjk with h | h
  ·have:=E j k g D h;omega
  ·have:=E k j D g h;omega
 have hpd:∀j,j≠i->∀d,s.cs[j]? =aK d->∀y∈d.sl,y.p≠x.p:=λj g d M y q e=>by
  obtain⟨R,S⟩:=gK.1 M;obtain⟨aD4,t⟩:=gK.1 hi;have hp:=hk.pd;rw[gN]at hp;rcases Nat.lt_or_gt_of_ne g with h | h
  ·exact hp j i R U h y (by rw[S];exact q) x (by rw[t];exact I) e
  ·exact hp i j U R h x (by rw[t];exact I) y (by rw[S];exact q) e.symm
 rw[he];have F:∀b∈s.h.live,b.a≠x.p->b∈(s.h.fZ cpu (lb s.h.live x.p) s.h.live[lb s.h.live x.p]).live:=λb hb C=>by
  rw[g4,List.mem_eraseIdx_iff_getElem];obtain⟨j,g,e⟩:=List.mem_iff_getElem.1 hb;refine⟨j,g,λY=> ?_,e⟩;subst Y;rw[e]at X;exact C X
 have A:∀d∈s.cs,∀y∈d.sl,y.p≠x.p->sZ {s with h:=s.h.fZ cpu (lb s.h.live x.p) s.h.live[lb s.h.live x.p],cs:=s.cs.set i {c with sl:=c.sl.eraseIdx k}} d y:=λd M y q hyp=>by
  obtain⟨b,hb,W,hb2⟩:=((hk.ck d M).sk y q).live;exact⟨⟨b,F b hb (by rw[W];exact hyp),W,hb2⟩,((hk.ck d M).sk y q).chain⟩
 have u:∀{P:Ca->Ca->Prop},s.cs.Pairwise P->(∀d,P d c->P d {c with sl:=c.sl.eraseIdx k})->(∀d,P c d->P {c with sl:=c.sl.eraseIdx k} d)->(s.cs.set i {c with sl:=c.sl.eraseIdx k}).Pairwise P:=fun{P} h g1 g2=>by
  obtain⟨aD4,t⟩:=gK.1 hi;rw[gN]at h ⊢;intro j m g N hjm;have H:j<s.cs.length:=by simpa using g
  have Z:m<s.cs.length:=by simpa using N
  have v:=h j m H Z hjm;simp only[List.getElem_set];split
  ·rename_i e1;subst e1;rw[if_neg (by omega)];rw[t]at v;exact g2 _ v
  ·split
   ·rename_i e1;subst e1;rw[t]at v;exact g1 _ v
   ·exact v
 have B:∀y∈c.sl.eraseIdx k,y∈c.sl:=λy q=>(List.eraseIdx_sublist _ _).subset q
 refine⟨⟨hk.wl,g1,by show(s.cs.set i _).length<=20;rw[List.length_set];exact hk.cl,λd M=> ?_,u hk.zd (λ_ h=>h) (λ_ h=>h),u hk.nd (λ_ h=>h) (λ_ h=>h),u hk.pd (λd h y q z T=>h y q z (B z T)) (λd h y q z T=>h y (B y q) z T)⟩,λj b=> ?_,g3.aP,rfl,λb hb=> ?_,rfl⟩
 ·obtain⟨j,g,e⟩:=List.mem_iff_getElem.1 M;have H:j<s.cs.length:=by simpa using g
  rw[List.getElem_set]at e;split at e
  ·rw[<- e];refine⟨f.z,f.o,f.r,f.ns,f.nm,f.nr,by rw[show _=_ from g3.aP];exact f.ac,f.sr.sublist (List.eraseIdx_sublist _ _),λy q=> ?_,λb hb=> ?_,f.ad⟩
   ·rw[List.mem_eraseIdx_iff_getElem]at q;obtain⟨m,N,hmk,e⟩:=q;have v:=A c O _ (gL N) (hpk m N hmk);rw[e]at v;exact⟨v.live,v.chain⟩
   ·rcases f.aw b hb with h | ⟨z,T,h⟩
    ·exact .inl h
    ·refine .inr ⟨z,?_,h⟩;rw[List.mem_eraseIdx_iff_getElem];obtain⟨m,N,ez⟩:=List.mem_iff_getElem.1 T;refine⟨m,N,λY=> ?_,ez⟩;subst Y;rw[G]at ez;exact ha b hb (by rw[<- h,ez])
  ·rename_i hji;have J:s.cs[j]? =aK d:=by rw[gJ H,e]
   exact(hk.ck d (gM J)).move g3.aP λy q=>A d (gM J) y q (hpd j (λe=>hji e.symm) d J y q)
 ·have Q:=qN (s':={s with h:=s.h.fZ cpu (lb s.h.live x.p) s.h.live[lb s.h.live x.p],cs:=s.cs.set i {c with sl:=c.sl.eraseIdx k}}) (c':={c with sl:=c.sl.eraseIdx k}) hi rfl b;by_cases g:j=i
  ·subst g;rw[Q.1,oZ hi,Nk,IG D,G];obtain⟨l,h1,h2,h3⟩:=(f.sk x I).chain;constructor
   ·exact λh=> .inl h
   ·rintro(h | h)
    ·exact h
    ·exfalso;rw[nT h1]at h;exact h.2 (IE f.z.1 (iP.1 h1).2.2.2 h3 (by omega) h.1)
  ·rw[Q.2 j g];exact Iff.rfl
 ·have V:b∈s.h.live.eraseIdx (lb s.h.live x.p):=by
   rw[<- g4];exact hb
  rw[List.mem_eraseIdx_iff_getElem]at V;obtain⟨j,g,C,e⟩:=V;refine⟨by rw[<- e];exact gL g,λY=>C ?_⟩;have K:=hk.hk.vs;rw[gN]at K;rcases Nat.lt_trichotomy j (lb s.h.live x.p)with h | h | h
  ·have:=K j _ g L h;rw[e]at this;omega
  ·exact h
  ·have:=K _ j L g h;rw[e]at this;omega
theorem wQ :(s.discard i k cpu).sig=s.sig:=by
 unfold Sy.discard;cases hc:s.cs[i]? with
 | none=>rfl
 | some c=>
  simp only;cases hx:c.sl[k]? with
  | none=>rfl
  | some x=>
   simp only;split
   ·exact jJ hc rfl
   ·rfl
theorem OD :(s.push i k a).sig=s.sig:=by
 unfold Sy.push;cases hc:s.cs[i]? with
 | none=>rfl
 | some c=>
  simp only;cases hx:c.sl[k]? with
  | none=>rfl
  | some x=>exact jJ hc rfl
theorem OE :(s.free i k a cpu).sig=s.sig:=by
 unfold Sy.free;split
 ·exact wQ.trans OD
 ·exact OD
theorem OG :(s.discard i k cpu).nss=s.nss:=nC wQ
theorem Zf :(s.free i k a cpu).nss=s.nss:=nC OE
def Ca.dR (c:Ca)(m:Nat):Ca:={c with ac:=List.replicate (min m c.ac.length) (-1)++c.ac.drop m}
def Sy.dR (s:Sy)(i m:Nat):Sy:=match s.cs[i]? with
 | some c=>s.fO i (c.dR m)
 | none=>s
def Sy.iM (s:Sy)(i k:Nat):Sy:=match s.cs[i]? with
 | some c=>match c.sl[k]? with
  | some x=>if x.n=c.r then s.discard i k 0 else s
  | none=>s
 | none=>s
def Sy.shr (s:Sy)(i:Nat):Nat->Sy
 | 0=>s
 | m+1=>(s.iM i m).shr i m
def Sy.shrink (s:Sy)(i:Nat):Sy:=match s.cs[i]? with
 | some c=>(s.dR i c.ac.length).shr i c.sl.length
 | none=>s
theorem VP (c:Ca):(c.dR c.ac.length).ac=List.replicate c.ac.length (-1):=by
 unfold Ca.dR;simp
theorem Rn (c:Ca):c.dR 0=c:=by
 unfold Ca.dR;simp
theorem Ro (hm:m<c.ac.length):(c.dR m).ac.set m (-1)=(c.dR (m+1)).ac:=by
 unfold Ca.dR;simp only;rw[List.set_append_right _ _ (by simp;omega),List.length_replicate,Nat.min_eq_left (by omega),Nat.sub_self,Nat.min_eq_left (by omega),List.drop_eq_getElem_cons hm,gG,List.replicate_succ',List.append_assoc];rfl
theorem VQ :(c.dR m).ac.length=c.ac.length:=by
 unfold Ca.dR;simp;omega
theorem OH (hi:s.cs[i]? =aK c):s.dR i m=s.fO i (c.dR m):=by
 unfold Sy.dR;rw[hi]
theorem cZ.dR (hk:cZ s)(hi:s.cs[i]? =aK c):
 cZ (s.dR i c.ac.length)/\(∀j b,(s.dR i c.ac.length).away j b↔s.away j b)/\(s.dR i c.ac.length).h=s.h/\(s.dR i c.ac.length).cs=s.cs.set i {c with ac:=List.replicate c.ac.length (-1)}/\(s.dR i c.ac.length).w=s.w:=by
 have e:=hk.ck c (gM hi);have q:c.dR c.ac.length={c with ac:=List.replicate c.ac.length (-1)}:=by
  have h:=VP c;unfold Ca.dR at h ⊢;simp only at h;rw[h]
 rw[OH hi,q];refine⟨hk.upd hi (c':={c with ac:=List.replicate c.ac.length (-1)}) hk.wl hk.hk rfl rfl rfl ?_ (λd k=>(hk.ck d k).move rfl (λy f=>⟨((hk.ck d k).sk y f).live,((hk.ck d k).sk y f).chain⟩)) (λy f=> .inl ⟨y,f,rfl⟩),λj b=> ?_,rfl,rfl,rfl⟩
 ·refine⟨e.z,e.o,e.r,e.ns,e.nm,e.nr,by rw[List.length_replicate];exact e.ac,e.sr,λy f=>⟨(e.sk y f).live,(e.sk y f).chain⟩,λa p=> .inl (List.mem_replicate.1 p).2,?_⟩;rw[gN];intro j l m t n _;simp
 ·have g:=qN (s':=s.fO i {c with ac:=List.replicate c.ac.length (-1)}) (c':={c with ac:=List.replicate c.ac.length (-1)}) hi rfl b;by_cases m:j=i
  ·subst m;rw[g.1,oZ hi];exact Iff.rfl
  ·rw[g.2 j m];exact Iff.rfl
def wR (s:Sy)(i m:Nat):Prop:=∃c,s.cs[i]? =aK c/\(∀b∈c.ac,b= -1)/\m<=c.sl.length
theorem cZ.iM (hk:cZ s)(h:wR s i (k+1)):
 cZ (s.iM i k)/\(∀j b,(s.iM i k).away j b↔s.away j b)/\(s.iM i k).h.aP=s.h.aP/\wR (s.iM i k) i k/\(s.iM i k).cs.length=s.cs.length/\(s.iM i k).nss=s.nss:=by
 obtain⟨c,a,e,p⟩:=h;have f:=(gK.1 a).1;have l:c.sl[k]? =aK (c.sl[k]'(by omega)):=gJ _;unfold Sy.iM;rw[a];simp only[l];split
 ·rename_i hn;have d:0<s.h.aP:=hk.hk.cp.1;obtain⟨n,m,o,g,_,_⟩:=hk.discard (cpu:=0) a l (by omega) (λb hb=>by have:=e b hb;omega) d;refine⟨n,m,o,⟨{c with sl:=c.sl.eraseIdx k},by rw[g,List.getElem?_set_self f],e,?_⟩,by rw[g,List.length_set],OG⟩;show k<=(c.sl.eraseIdx k).length;rw[List.length_eraseIdx_of_lt (by omega)];omega
 ·exact⟨hk,λj b=>Iff.rfl,rfl,⟨c,a,e,by omega⟩,rfl,rfl⟩
def Sy.destroy (s:Sy)(i:Nat)(n:List UInt8):Option Sy:=match s.cs[i]? with
 | some c=>if 1<c.ns.length then aK (s.fO i {c with ns:=c.ns.eraseIdx (Df c.ns n)})else if c.sl.any (λx=>decide (x.n<c.r))then aJ else aK {s.shrink i with cs:=(s.shrink i).cs.eraseIdx i}
 | none=>aJ
theorem cZ.shr :∀{m:Nat} {s:Sy},cZ s->wR s i m->cZ (s.shr i m)/\(∀j b,(s.shr i m).away j b↔s.away j b)/\(s.shr i m).h.aP=s.h.aP/\(s.shr i m).cs.length=s.cs.length/\(s.shr i m).nss=s.nss
 | 0,s,hk,_=>⟨hk,λ_ _=>Iff.rfl,rfl,rfl,rfl⟩
 | m+1,s,hk,h=>by
  obtain⟨h1,h2,h3,h4,h5,h6⟩:=hk.iM h;obtain⟨e,c,f,d,a⟩:=cZ.shr h1 h4;exact⟨e,λj b=>(c j b).trans (h2 j b),f.trans h3,d.trans h5,a.trans h6⟩
theorem cZ.shrink (hk:cZ s)(hi:i<s.cs.length):cZ (s.shrink i)/\(∀j b,(s.shrink i).away j b↔s.away j b)/\(s.shrink i).h.aP=s.h.aP/\(s.shrink i).cs.length=s.cs.length/\(s.shrink i).nss=s.nss:=by
 have c:s.cs[i]? =aK s.cs[i]:=gJ hi;obtain⟨l,k,m,a,p⟩:=hk.dR c;unfold Sy.shrink;rw[c];simp only;have n:wR (s.dR i s.cs[i].ac.length) i s.cs[i].sl.length:=⟨{s.cs[i]with ac:=List.replicate s.cs[i].ac.length (-1)},by rw[a,List.getElem?_set_self hi],λb hb=>(List.mem_replicate.1 hb).2,gT _⟩
 obtain⟨g,e,o,d,f⟩:=l.shr n;refine⟨g,λj b=>(e j b).trans (k j b),by rw[o,m],by rw[d,a,List.length_set],f.trans ?_⟩;unfold Sy.nss;rw[a];exact jJ c rfl
def Sy.whole (s:Sy)(b:Bk):Prop:=b∈s.h.live/\∀c∈s.cs,∀x∈c.sl,x.p≠b.a
theorem tZ {α:Type}{l:List α}{c c' d:α}(hi:l[i]? =aK c):d∈l.set i c'↔d=c'∨∃j,j≠i/\l[j]? =aK d:=by
 obtain⟨f,g⟩:=gK.1 hi;constructor
 ·intro h;obtain⟨j,a,e⟩:=List.mem_iff_getElem.1 h;rw[List.length_set]at a;rw[List.getElem_set]at e;split at e
  ·exact .inl e.symm
  ·rename_i hne;exact .inr ⟨j,λk=>hne k.symm,by rw[gJ a,e]⟩
 ·rintro(rfl | ⟨j,a,h⟩)
  ·exact List.mem_iff_getElem.2 ⟨i,by simpa using f,by simp⟩
  ·obtain⟨b,e⟩:=gK.1 h;exact List.mem_iff_getElem.2 ⟨j,by simpa using b,by rw[List.getElem_set,if_neg λe=>a e.symm,e]⟩
def Sy.OI (s:Sy)(p:Nat):Prop:=∃c∈s.cs,∃x∈c.sl,x.p=p
theorem dK {b:Bk}:s.whole b↔b∈s.h.live/\¬s.OI b.a:=by
 unfold Sy.whole Sy.OI;constructor
 ·rintro⟨f,d⟩;exact⟨f,fun⟨c,g,x,i,e⟩=>d c g x i e⟩
 ·rintro⟨f,d⟩;exact⟨f,λc g x i e=>d ⟨c,g,x,i,e⟩⟩
theorem En {c':Ca}(hi:s.cs[i]? =aK c)(hcs:s'.cs=s.cs.set i c')(p:Nat):s'.OI p↔(∃x∈c'.sl,x.p=p)∨∃j,j≠i/\∃d,s.cs[j]? =aK d/\∃x∈d.sl,x.p=p:=by
 unfold Sy.OI;rw[hcs];constructor
 ·rintro⟨d,a,h⟩;rcases(tZ hi).1 a with rfl | ⟨j,b,a⟩
  ·exact .inl h
  ·exact .inr ⟨j,b,d,a,h⟩
 ·rintro(h | ⟨j,b,d,a,h⟩)
  ·exact⟨c',(tZ hi).2 (.inl rfl),h⟩
  ·exact⟨d,(tZ hi).2 (.inr ⟨j,b,a⟩),h⟩
theorem Rq (hi:s.cs[i]? =aK c)(p:Nat):s.OI p↔(∃x∈c.sl,x.p=p)∨∃j,j≠i/\∃d,s.cs[j]? =aK d/\∃x∈d.sl,x.p=p:=by
 refine En (s':=s) hi ?_ p;obtain⟨b,a⟩:=gK.1 hi;rw[<- a,List.set_getElem_self]
theorem wS {c':Ca}(hi:s.cs[i]? =aK c)(hcs:s'.cs=s.cs.set i c')(h:∀p,(∃x∈c'.sl,x.p=p)↔∃x∈c.sl,x.p=p)(p:Nat):s'.OI p↔s.OI p:=by
 rw[En hi hcs,Rq hi,h]
theorem OJ {l:List Sl}{x':Sl}(hx:l[k]? =aK x)(hp:x'.p=x.p)(p:Nat):(∃y∈l.set k x',y.p=p)↔∃y∈l,y.p=p:=by
 obtain⟨a,b⟩:=gK.1 hx;rw[Qw a,IG a,b,hp]
theorem Zg (p:Nat):(s.mine i cpu k).OI p↔s.OI p:=by
 unfold Sy.mine;cases hc:s.cs[i]? with
 | none=>rfl
 | some c=>
  simp only;cases hx:c.sl[k]? with
  | none=>rfl
  | some x=>exact wS (s':=s.fO i {c with ac:=c.ac.set cpu (x.p:Int)}) (c':={c with ac:=c.ac.set cpu (x.p:Int)}) hc rfl (λ_=>Iff.rfl) p
theorem CG :(s.mine i cpu k).h=s.h/\(s.mine i cpu k).w=s.w:=by
 unfold Sy.mine;cases hc:s.cs[i]? with
 | none=>exact⟨rfl,rfl⟩
 | some c=>
  simp only;cases hx:c.sl[k]? with
  | none=>exact⟨rfl,rfl⟩
  | some x=>exact⟨rfl,rfl⟩
theorem FV (b:Bk):(s.mine i cpu k).whole b↔s.whole b:=by
 rw[dK,dK,Zg,CG.1]
theorem Zh {t:Sy}{a:Int}(h:s.pop i k=aK (t,a)):∃c x,s.cs[i]? =aK c/\c.sl[k]? =aK x/\t=s.fO i {c with sl:=c.sl.set k ⟨x.p,x.n-1,s.w.getD x.h.toNat 0⟩}/\a=x.h:=by
 unfold Sy.pop at h;cases hc:s.cs[i]? with
 | none=>rw[hc]at h;cases h
 | some c=>
  rw[hc]at h;simp only at h;cases hx:c.sl[k]? with
  | none=>rw[hx]at h;cases h
  | some x=>
   rw[hx]at h;have b:=gP h;rw[Prod.mk.injEq]at b;exact⟨c,x,rfl,hx,b.1.symm,b.2.symm⟩
theorem VR {t:Sy}{a:Int}(h:s.pop i k=aK (t,a))(b:Bk):t.whole b↔s.whole b:=by
 obtain⟨c,x,e,f,rfl,_⟩:=Zh h;rw[dK,dK];have d:=wS (s':=s.fO i {c with sl:=c.sl.set k ⟨x.p,x.n-1,s.w.getD x.h.toNat 0⟩}) e rfl (OJ (x':=⟨x.p,x.n-1,s.w.getD x.h.toNat 0⟩) f rfl) b.a;rw[d];exact Iff.rfl
theorem sG {l:List Bk}{b x:Bk}:x∈dG l b↔x=b∨x∈l:=by
 refine⟨Iy,λc=> ?_⟩;unfold dG;rw[<- List.take_append_drop (lb l b.a) l]at c;simp only[gZ,gY]at c ⊢;rcases c with h | h | h
 ·exact .inr (.inl h)
 ·exact .inl h
 ·exact .inr (.inr h)
def Sy.lw (s:Sy)(q:Nat):Prop:=∃b∈s.h.live,16*b.a<=q/\q<16*(b.a+2^b.o)
theorem cZ.OL (hk:cZ s)(hi:s.cs[i]? =aK c)(dA:cpu<s.h.aP)(hg:s.grow i cpu c=aK (s',k)):
 ∃a,s'.cs=s.cs.set i {c with sl:=qL c.sl ⟨a,c.r,((16*a:Nat):Int)⟩}/\s'.h.live=dG s.h.live ⟨a,c.o,0⟩/\(∀b∈s.h.live,apartB a c.o b)/\∀q,s.lw q->s'.w.getD q 0=s.w.getD q 0:=by
 have e:=hk.ck c (gM hi);have j:c.o<=4:=by rw[e.o];exact gQ (mM _) (by decide)
 obtain⟨y,a,p,rfl,rfl⟩:=Jb hg;obtain⟨B,t,n,d,x⟩:=hk.hk.alloc dA j (by decide) p;have g:y.live=dG s.h.live ⟨a,c.o,0⟩:=d;have f:∀b∈s.h.live,apartB a c.o b:=λb hb=>dU λq v u=>by
  have l:=B.one q;rw[dO,g,tJ]at l;have A:0<cnt s.h.live q:=eG.2 ⟨b,hb,u⟩;have D:hit (⟨a,c.o,0⟩:Bk) q=1:=kR.2 v;omega
 refine⟨a,rfl,g,f,λq ⟨b,hb,v,u⟩=> ?_⟩;refine rF _ _ _ _ _ (gT _) _ ?_ e.z.1;have l:=f b hb;unfold apartB Bk.fin at l;have A:=e.room;rw[Nat.mul_comm c.z c.r];generalize c.r*c.z=m at*;generalize 2^c.o=C at*;generalize 2^b.o=E at*;omega
theorem cZ.Rt (hk:cZ s)(hi:s.cs[i]? =aK c)(dA:cpu<s.h.aP)(hg:s.grow i cpu c=aK (s',k))(b:Bk):s'.whole b↔s.whole b:=by
 obtain⟨a,p,f,n,_⟩:=hk.OL hi dA hg;have m:∀b∈s.h.live,b.a≠a:=λb hb e=>by
  have h:=n b hb;unfold apartB Bk.fin at h;have d:=Nat.two_pow_pos c.o;have g:=Nat.two_pow_pos b.o;omega
 rw[dK,dK,f,sG,En hi p,Rq hi];constructor
 ·rintro⟨d,g⟩;have l:b.a≠a:=λe=>g (.inl ⟨_,o8.2 (.inl rfl),e.symm⟩)
  rcases d with rfl | d
  ·exact absurd rfl l
  ·refine⟨d,λh=>g ?_⟩;rcases h with ⟨x,j,e⟩ | h
   ·exact .inl ⟨x,o8.2 (.inr j),e⟩
   ·exact .inr h
 ·rintro⟨d,g⟩;refine⟨.inr d,λh=>g ?_⟩;rcases h with ⟨x,j,e⟩ | h
  ·rcases o8.1 j with rfl | j
   ·exact absurd e.symm (m b d)
   ·exact .inl ⟨x,j,e⟩
  ·exact .inr h
theorem cZ.KW (hk:cZ s)(hi:s.cs[i]? =aK c)(dA:cpu<s.h.aP)(hg:s.choose i cpu=aK (s',k)):(∀b,s'.whole b↔s.whole b)/\∀q,s.lw q->s'.w.getD q 0=s.w.getD q 0:=by
 unfold Sy.choose at hg;rw[hi]at hg;simp only at hg;split at hg
 ·have a:=gP hg;rw[Prod.mk.injEq]at a;rw[<- a.1];exact⟨λ_=>Iff.rfl,λ_ _=>rfl⟩
 ·split at hg
  ·have a:=gP hg;rw[Prod.mk.injEq]at a;rw[<- a.1];exact⟨λb=>FV b,λq _=>by rw[CG.2]⟩
  ·split at hg
   ·rename_i heq;have a:=gP hg;rw[Prod.mk.injEq]at a;rw[<- a.1];obtain⟨_,_,_,_,e⟩:=hk.OL hi dA heq;exact⟨λb=>(FV b).trans (hk.Rt hi dA heq b),λq d=>by rw[CG.2];exact e q d⟩
   ·cases hg
theorem cZ.VT (hk:cZ s){a:Int}(hi:s.cs[i]? =aK c)(dA:cpu<s.h.aP)(hg:s.one i cpu=aK (s',a)):(∀b,s'.whole b↔s.whole b)/\∀q,s.lw q->s'.w.getD q 0=s.w.getD q 0:=by
 unfold Sy.one at hg;cases hch:s.choose i cpu with
 | none=>rw[hch]at hg;cases hg
 | some r=>
  obtain⟨e,k⟩:=r;rw[hch]at hg;simp only at hg;obtain⟨j,f⟩:=hk.KW hi dA hch;obtain⟨_,_,_,_,l,_⟩:=Zh hg;have g:s'.w=e.w:=by rw[l];rfl
  exact⟨λb=>(VR hg b).trans (j b),λq d=>by rw[g];exact f q d⟩
theorem FW (b:Bk):(s.push i k a).whole b↔s.whole b:=by
 unfold Sy.push;cases hc:s.cs[i]? with
 | none=>rfl
 | some c=>
  simp only;cases hx:c.sl[k]? with
  | none=>rfl
  | some x=>
   simp only;rw[dK,dK];have d:=wS (s':={s with w:=s.w.set a x.h,cs:=s.cs.set i {c with sl:=c.sl.set k ⟨x.p,x.n+1,(a:Int)⟩}}) hc rfl (OJ (x':=⟨x.p,x.n+1,(a:Int)⟩) hx rfl) b.a;rw[d]
theorem aD6 :(s.push i k a).h=s.h/\∀q,q≠a->(s.push i k a).w.getD q 0=s.w.getD q 0:=by
 unfold Sy.push;cases hc:s.cs[i]? with
 | none=>exact⟨rfl,λ_ _=>rfl⟩
 | some c=>
  simp only;cases hx:c.sl[k]? with
  | none=>exact⟨rfl,λ_ _=>rfl⟩
  | some x=>
   refine⟨rfl,λq b=> ?_⟩;show(s.w.set a x.h).getD q 0=_;rw[List.getD_eq_getElem?_getD,List.getElem?_set_ne (λe=>b e.symm),<- List.getD_eq_getElem?_getD]
theorem cZ.La (hk:cZ s)(hi:s.cs[i]? =aK c)(hx:c.sl[k]? =aK x)(dA:cpu<s.h.aP)(b:Bk):b∈(s.discard i k cpu).h.live↔b∈s.h.live/\b.a≠x.p:=by
 obtain⟨g,m,q⟩:=qX hk (cpu:=cpu) hi hx;obtain⟨_,_,_,o⟩:=hk.hk.fZ dA g;rw[q];show b∈(s.h.fZ cpu (lb s.h.live x.p) s.h.live[lb s.h.live x.p]).live↔_;rw[o,List.mem_eraseIdx_iff_getElem];constructor
 ·rintro⟨j,l,d,e⟩;refine⟨by rw[<- e];exact gL l,λn=>d ?_⟩;have f:=hk.hk.vs;rw[gN]at f;rcases Nat.lt_trichotomy j (lb s.h.live x.p)with h | h | h
  ·have:=f j _ l g h;rw[e]at this;omega
  ·exact h
  ·have:=f _ j g l h;rw[e]at this;omega
 ·rintro⟨hb,d⟩;obtain⟨j,l,e⟩:=List.mem_iff_getElem.1 hb;refine⟨j,l,λn=> ?_,e⟩;subst n;rw[e]at m;exact d m
theorem cZ.yP (hk:cZ s)(hi:s.cs[i]? =aK c)(hx:c.sl[k]? =aK x)(dA:cpu<s.h.aP)(b:Bk):(s.discard i k cpu).whole b↔s.whole b:=by
 have g:(s.discard i k cpu).cs=s.cs.set i {c with sl:=c.sl.eraseIdx k}:=by
  obtain⟨_,_,l⟩:=qX hk (cpu:=cpu) hi hx;rw[l]
 obtain⟨d,j⟩:=gK.1 hx;rw[dK,dK,hk.La hi hx dA,En hi g,Rq hi,Nk,IG d,j];constructor
 ·rintro⟨⟨f,a⟩,m⟩;refine⟨f,λh=>m ?_⟩;rcases h with (h | h) | h
  ·exact .inl h
  ·exact absurd h.symm a
  ·exact .inr h
 ·rintro⟨f,a⟩;refine⟨⟨f,λe=>a (.inl (.inr e.symm))⟩,λh=>a ?_⟩;rcases h with h | h
  ·exact .inl (.inl h)
  ·exact .inr h
theorem cZ.free (hk:cZ s)(hi:s.cs[i]? =aK c)(hx:c.sl[k]? =aK x)(ho:nN s.w c x a)(dA:cpu<s.h.aP):
 cZ (s.free i k a cpu)/\(∀j b,(s.free i k a cpu).away j b↔s.away j b/\¬(j=i/\b=a))/\(s.free i k a cpu).h.aP=s.h.aP/\(∀b,(s.free i k a cpu).whole b↔s.whole b)/\∀q,q≠a->(s.free i k a cpu).w.getD q 0=s.w.getD q 0:=by
 obtain⟨r,u,t⟩:=hk.push hi hx ho;have l:=aD6 (s:=s) (i:=i) (k:=k) (a:=a);obtain⟨o,B⟩:=gK.1 hx;have f:(c.sl.set k ⟨x.p,x.n+1,(a:Int)⟩)[k]? =aK ⟨x.p,x.n+1,(a:Int)⟩:=List.getElem?_set_self o;unfold Sy.free;split
 ·rename_i hsp;unfold Sy.spare at hsp;rw[t]at hsp;unfold Ca.spare at hsp;simp only[f,Bool.and_eq_true]at hsp;have d:=hsp.1;unfold Ca.idle at d;simp only[Bool.and_eq_true,decide_eq_true_eq,Bool.not_eq_true']at d;have m:∀b∈c.ac,b≠(x.p:Int):=λb hb e=>by
   have v:=d.2;rw[<- e,List.contains_iff_mem.2 hb]at v;cases v
  have g:cpu<(s.push i k a).h.aP:=by rw[l.1];exact dA
  obtain⟨C,z,D,E,F,y⟩:=r.discard (cpu:=cpu) t f (Nat.le_of_eq d.1.symm) m g;exact⟨C,λj b=>(z j b).trans (u j b),by rw[D,l.1],λb=>(r.yP t f g b).trans (FW b),λq A=>by rw[y];exact l.2 q A⟩
 ·exact⟨r,u,by rw[l.1],FW,l.2⟩
theorem cZ.OM (hk:cZ s)(h:wR s i (k+1)):(∀b,(s.iM i k).whole b↔s.whole b)/\(s.iM i k).w=s.w:=by
 obtain⟨c,d,g,j⟩:=h;have e:c.sl[k]? =aK (c.sl[k]'(by omega)):=gJ _;unfold Sy.iM;rw[d];simp only[e];split
 ·rename_i hn;have a:0<s.h.aP:=hk.hk.cp.1;obtain⟨_,_,_,_,_,f⟩:=hk.discard (cpu:=0) d e (by omega) (λb hb=>by have:=g b hb;omega) a;exact⟨λb=>hk.yP d e a b,f⟩
 ·exact⟨λb=>Iff.rfl,rfl⟩
theorem cZ.Je :∀{m:Nat} {s:Sy},cZ s->wR s i m->(∀b,(s.shr i m).whole b↔s.whole b)/\(s.shr i m).w=s.w
 | 0,s,hk,_=>⟨λ_=>Iff.rfl,rfl⟩
 | m+1,s,hk,h=>by
  obtain⟨h1,_,_,h4,_,_⟩:=hk.iM h;obtain⟨e,a⟩:=hk.OM h;obtain⟨d,c⟩:=cZ.Je h1 h4;exact⟨λb=>(d b).trans (e b),c.trans a⟩
theorem cZ.wU (hk:cZ s)(hi:s.cs[i]? =aK c):wR (s.dR i c.ac.length) i c.sl.length:=by
 obtain⟨_,_,_,d,_⟩:=hk.dR hi;have a:=(gK.1 hi).1;exact⟨{c with ac:=List.replicate c.ac.length (-1)},by rw[d,List.getElem?_set_self a],λb hb=>(List.mem_replicate.1 hb).2,gT _⟩
theorem cZ.Ld (hk:cZ s)(hi:i<s.cs.length):(∀b,(s.shrink i).whole b↔s.whole b)/\(s.shrink i).w=s.w:=by
 have c:s.cs[i]? =aK s.cs[i]:=gJ hi;obtain⟨h,_,k,g,j⟩:=hk.dR c;obtain⟨f,e⟩:=cZ.Je h (hk.wU c);unfold Sy.shrink;rw[c];simp only;refine⟨λb=>(f b).trans ?_,e.trans j⟩;rw[dK,dK,k];have d:=wS (s':=s.dR i s.cs[i].ac.length) c g (λ_=>Iff.rfl) b.a;rw[d]
theorem Jf :∀{m:Nat} {s:Sy},cZ s->wR s i m->∀j,j≠i->(s.shr i m).cs[j]? =s.cs[j]?
 | 0,s,_,_,_,_=>rfl
 | m+1,s,hk,h,j,hj=>by
  obtain⟨h1,_,_,h4,_,_⟩:=hk.iM h;have f:(s.iM i m).cs[j]? =s.cs[j]? :=by
   obtain⟨c,a,g,k⟩:=h;have b:c.sl[m]? =aK (c.sl[m]'(by omega)):=gJ _;unfold Sy.iM;rw[a];simp only[b];split
   ·obtain⟨_,_,d⟩:=qX hk (cpu:=0) a b;rw[d];exact List.getElem?_set_ne λe=>hj e.symm
   ·rfl
  exact(Jf h1 h4 j hj).trans f
theorem cZ.Le (hk:cZ s)(hi:i<s.cs.length)(j:Nat)(hj:j≠i):(s.shrink i).cs[j]? =s.cs[j]? :=by
 have a:s.cs[i]? =aK s.cs[i]:=gJ hi;obtain⟨c,_,_,b,_⟩:=hk.dR a;have d:=Jf c (hk.wU a) j hj;unfold Sy.shrink;rw[a];simp only;rw[d,b];exact List.getElem?_set_ne λe=>hj e.symm
theorem Ru :∀{m:Nat} {s:Sy},cZ s->wR s i m->∀c,s.cs[i]? =aK c->∃c',(s.shr i m).cs[i]? =aK c'/\c'.ns=c.ns/\c'.z=c.z/\c'.r=c.r/\c'.ac=c.ac/\∀y∈c'.sl,y∈c.sl/\(y.n=c.r->∃k,m<=k/\c.sl[k]? =aK y)
 | 0,s,_,_,c,hc=>⟨c,hc,rfl,rfl,rfl,rfl,λy hy=>⟨hy,λ_=>by
  obtain⟨k,hk,e⟩:=List.mem_iff_getElem.1 hy;exact⟨k,gU _,by rw[gJ hk,e]⟩⟩⟩
 | m+1,s,hk,h,c,hc=>by
  obtain⟨h1,_,_,h4,_,_⟩:=hk.iM h;obtain⟨d,B,D,C⟩:=h;obtain rfl:c=d:=by rw[hc]at B;exact gP B
  have u:=(gK.1 hc).1;have g:c.sl[m]? =aK (c.sl[m]'(by omega)):=gJ _;by_cases v:(c.sl[m]'(by omega)).n=c.r
  ·have f:(s.iM i m).cs[i]? =aK {c with sl:=c.sl.eraseIdx m}:=by
    unfold Sy.iM;rw[hc];simp only[g];rw[if_pos v];obtain⟨_,_,f⟩:=qX hk (cpu:=0) hc g;rw[f];show(s.cs.set i _)[i]? =_;rw[List.getElem?_set_self u]
   obtain⟨c',t,l,A,q,w,j⟩:=Ru h1 h4 _ f;refine⟨c',t,l,A,q,w,λy hy=> ?_⟩;obtain⟨p,x⟩:=j y hy;refine⟨(List.eraseIdx_sublist _ _).subset p,λe=> ?_⟩;obtain⟨k,o,b⟩:=x e;refine⟨k+1,by omega,?_⟩;have a:(c.sl.eraseIdx m)[k]? =aK y:=b;rw[List.getElem?_eraseIdx]at a;rw[if_neg (by omega)]at a;exact a
  ·have f:s.iM i m=s:=by
    unfold Sy.iM;rw[hc];simp only[g];rw[if_neg v]
   obtain⟨c',t,l,A,q,w,j⟩:=Ru h1 h4 c (by rw[f];exact hc);refine⟨c',t,l,A,q,w,λy hy=> ?_⟩;obtain⟨p,x⟩:=j y hy;refine⟨p,λe=> ?_⟩;obtain⟨k,o,b⟩:=x e;refine⟨k,?_,b⟩;rcases Nat.lt_or_ge m k with h | h
   ·omega
   ·exfalso;obtain rfl:k=m:=by omega
    rw[g]at b;exact v (by rw[gP b];exact e)
theorem cZ.VU (hk:cZ s)(hc:s.cs[i]? =aK c):∃c',(s.shrink i).cs[i]? =aK c'/\c'.ns=c.ns/\c'.z=c.z/\∀y∈c'.sl,y∈c.sl/\y.n≠c.r:=by
 obtain⟨j,_,_,g,_⟩:=hk.dR hc;have a:=(gK.1 hc).1;obtain⟨c',m,f,q,t,u,b⟩:=Ru j (hk.wU hc) {c with ac:=List.replicate c.ac.length (-1)} (by rw[g,List.getElem?_set_self a]);refine⟨c',?_,f,q,λy o=> ?_⟩
 ·unfold Sy.shrink;rw[hc];exact m
 ·obtain⟨h,p⟩:=b y o;refine⟨h,λe=> ?_⟩;obtain⟨k,d,l⟩:=p e;have:=(gK.1 l).1;have v:k<c.sl.length:=this;omega
theorem cZ.Zi (hk:cZ s)(hc:s.cs[i]? =aK c):c.sl.any (λx=>decide (x.n<c.r))=true↔∃a,s.away i a:=by
 have b:=hk.ck c (gM hc);rw[List.any_eq_true];constructor
 ·rintro⟨x,d,h⟩;obtain⟨l,e,k,g⟩:=(b.sk x d).chain;obtain⟨a,m,o⟩:=UG (c:=c) (p:=x.p) (l:=l) b.z.1 (by have:=of_decide_eq_true h;omega);exact⟨a,(oZ hc a).2 ⟨x,d,(nT e a).2 ⟨m,o⟩⟩⟩
 ·rintro⟨a,j⟩;obtain⟨x,d,f⟩:=(oZ hc a).1 j;obtain⟨l,e,k,g⟩:=(b.sk x d).chain;refine⟨x,d,gTg ?_⟩;apply Decidable.byContradiction;intro h;rw[nT e]at f;exact f.2 (IE b.z.1 (iP.1 e).2.2.2 g (by omega) f.1)
theorem lU (s:Sy)(n:List UInt8):s.named n=s.nss.findIdx? (λl=>l.contains n):=by
 unfold Sy.named Sy.nss;rw[List.findIdx?_map];rfl
def zz (j:Nat):Nat:=[1,2,4,8,16,32].getD j 0
def vV (n:Nat):Nat:=if n<=1 then 0 else if n<=2 then 1 else if n<=4 then 2 else if n<=8 then 3 else if n<=16 then 4 else 5
theorem yB (h1:1<=n)(h2:n<=32):vV n<6/\n<=zz (vV n)/\zz (vV n)<2*n/\∀j,j<vV n->zz j<n:=by
 have key:∀(k:Nat),k<6->n<=zz k->zz k<2*n->(∀j,j<k->zz j<n)->vV n=k->vV n<6/\n<=zz (vV n)/\zz (vV n)<2*n/\∀j,j<vV n->zz j<n:=λk a b c d e=>by rw[e];exact⟨a,b,c,d⟩
 have z0:zz 0=1:=rfl;have z1:zz 1=2:=rfl;have l:zz 2=4:=rfl;have p:zz 3=8:=rfl;have m:zz 4=16:=rfl;have o:zz 5=32:=rfl;have f:∀k,k<=5->((∀j,j<k->zz j<n)↔(k=0∨zz (k-1)<n)):=λk i=>by
  obtain rfl | rfl | rfl | rfl | rfl | rfl:k=0∨k=1∨k=2∨k=3∨k=4∨k=5:=by omega
  ·exact⟨λ_=> .inl rfl,λ_ j g=>by omega⟩
  all_goals
   refine⟨λh=> .inr (h _ (by omega)),λh j g=> ?_⟩;rcases h with h | h
   ·omega
   ·simp only[Nat.reduceSub]at h;obtain rfl | rfl | rfl | rfl | rfl:j=0∨j=1∨j=2∨j=3∨j=4:=by omega
    all_goals omega
 unfold vV;split
 ·exact⟨by omega,by omega,by omega,λj g=>by omega⟩
 ·split
  ·exact⟨by omega,by omega,by omega,(f 1 (by omega)).2 (.inr (by show zz 0<n;omega))⟩
  ·split
   ·exact⟨by omega,by omega,by omega,(f 2 (by omega)).2 (.inr (by show zz 1<n;omega))⟩
   ·split
    ·exact⟨by omega,by omega,by omega,(f 3 (by omega)).2 (.inr (by show zz 2<n;omega))⟩
    ·split
     ·exact⟨by omega,by omega,by omega,(f 4 (by omega)).2 (.inr (by show zz 3<n;omega))⟩
     ·exact⟨by omega,by omega,by omega,(f 5 (by omega)).2 (.inr (by show zz 4<n;omega))⟩
theorem aG5 {j:Nat}(h:j<6):1<=zz j/\zz j<=32:=by
 obtain rfl | rfl | rfl | rfl | rfl | rfl:j=0∨j=1∨j=2∨j=3∨j=4∨j=5:=by omega
 all_goals decide
def rM (n:Nat):Nat:=if n<=16 then 0 else if n<=32 then 1 else if n<=64 then 2 else if n<=128 then 3 else 4
theorem zB (h1:33<=n)(h2:n<=256):2<=rM n/\rM n<=4/\n<=16*2^rM n/\16*2^rM n<2*n+16/\∀o,o<rM n->16*2^o<n:=by
 unfold rM;rw[if_neg (by omega),if_neg (by omega)];split
 ·refine⟨by omega,by omega,by omega,by omega,λo a=> ?_⟩;obtain rfl | rfl:o=0∨o=1:=by omega
  all_goals omega
 ·split
  ·refine⟨by omega,by omega,by omega,by omega,λo a=> ?_⟩;obtain rfl | rfl | rfl:o=0∨o=1∨o=2:=by omega
   all_goals omega
  ·refine⟨by omega,by omega,by omega,by omega,λo a=> ?_⟩;obtain rfl | rfl | rfl | rfl:o=0∨o=1∨o=2∨o=3:=by omega
   all_goals omega
structure Bt where
 m:List Rg
 r:List Rg
def Bt.ok (b:Bt):Bool:=dZ b.m&&dZ b.r
structure vW (w:World)(a1 a2:Option Addr)(n1 n2:Nat)(b:Bt):Prop where
 l1:b.m.length=n1
 l2:b.r.length=n2
 r1:Row w a1 (flat jE b.m)
 r2:Row w a2 (flat jE b.r)
theorem vW.below {b:Bt}(h:vW w a1 a2 n1 n2 b)(hb:Below w.heap.size w w'):vW w' a1 a2 n1 n2 b:=⟨h.l1,h.l2,h.r1.below hb,h.r2.below hb⟩
structure uD (w:World)(base:Nat)(a1 a2:Option Addr)(n1 n2 c1 c2:Nat)(b:Bt):Prop where
 l1:b.m.length=n1
 l2:b.r.length=n2
 o1:w.ownsRow base 133 2 (aA a1 n1 c1) n1 (flat jE b.m)
 o2:w.ownsRow base 133 2 (aA a2 n2 c2) n2 (flat jE b.r)
theorem uD.at {base:Nat}{b:Bt}(h:uD w base a1 a2 n1 n2 c1 c2 b):vW w a1 a2 n1 n2 b:=⟨h.l1,h.l2,bJ h.o1,bJ h.o2⟩
theorem uD.below {base:Nat}{b:Bt}(h:uD w base a1 a2 n1 n2 c1 c2 b)(hb:Below w.heap.size w w'):uD w' base a1 a2 n1 n2 c1 c2 b:=⟨h.l1,h.l2,own_below h.o1 hb (gT _),own_below h.o2 hb (gT _)⟩
theorem uD.base {base base':Nat}{b:Bt}(h:uD w base a1 a2 n1 n2 c1 c2 b)(hb:base'<=base):uD w base' a1 a2 n1 n2 c1 c2 b:=⟨h.l1,h.l2,own_base h.o1 hb,own_base h.o2 hb⟩
theorem uD.set {base:Nat}{b:Bt}(h:uD w base a1 a2 n1 n2 c1 c2 b)(hg:(aA a1 n1 c1).ownBlock≠aK g/\(aA a2 n2 c2).ownBlock≠aK g)(i:Nat)(u:Value):uD (w.setCell ⟨g,i,aJ⟩ u) base a1 a2 n1 n2 c1 c2 b:=⟨h.l1,h.l2,bU h.o1 hg.1 u,bU h.o2 hg.2 u⟩
theorem uD.ne {base:Nat}{b:Bt}(h:uD w base a1 a2 n1 n2 c1 c2 b)(hg:g<base∨w.heap.size<=g):(aA a1 n1 c1).ownBlock≠aK g/\(aA a2 n2 c2).ownBlock≠aK g:=⟨own_ne h.o1 hg,own_ne h.o2 hg⟩
def Zx (b:Bt)(p:Nat):Bool:=dP b.m p&& !dP b.r p
def jF (b:Bt):List Rg:=eF (Zx b)
theorem VZ (a1 a2:Option Addr)(n1 n2 c1 c2:Nat)(b:Bt)(w:World)(hat:vW w a1 a2 n1 n2 b)(h1:dZ b.m=true)(h2:dZ b.r=true):
 Calls prog 47 #[aC #[aA a1 n1 c1,aA a2 n2 c2]] w λe w'=>∃a' c',e=aN (aG #[aA a' (jF b).length c',aB aI 0])/\w'.ownsRow w.heap.size 133 2 (aA a' (jF b).length c') (jF b).length (flat jE (jF b))/\Below w.heap.size w w':=by
 have hb1:=zD h1;have hb2:=zD h2;obtain⟨K0,F0,G,z⟩:=boxes1 w #[aA a1 n1 c1,aA a2 n2 c2] 27;obtain⟨l1,l2,q1,Z⟩:=hat.below z;have A:=uY h1;have R:=uY h2;have n:=oP h1;have q:=oP h2;generalize hF:jF b=F;have HF:=gO hF;clear hat hF;go_enter func47,ntmps47
 go_wp2_with fail
 generalize w.alloc _=w0 at*;refine(Au _ _ _ _ _ _ b.m b.r _ l1 l2 (by omega) (by omega) q1 Z A R h1 h2).mono ?_;rintro e f ⟨rfl,c⟩;have H:=aQ K0 G c;have E:=q1.below c;have y:=Z.below c;have yV:=gW z c;have O:w.heap.size<f.heap.size:=gI G c.size;clear K0 F0 q1 Z A R c h1 h2;have LK0:∀W,Below f.heap.size f W->∀o,W.cell? ⟨w.heap.size,o,aJ⟩=(#[aA a1 n1 c1,aA a2 n2 c2]:Array Value)[o]? :=λW h o=>aQ H O h o
 go_upto_region 4 with fail
 go_cut [5,6] (λs5 s6 wx=>∃(j l:Nat) (Q S:Nat),s5=aA (aK ⟨j,0,aJ⟩) 256 Q/\s6=aA (aK ⟨l,0,aJ⟩) 256 S/\wx.ownsRow f.heap.size 4 1 (aA (aK ⟨j,0,aJ⟩) 256 Q) 256 ((bl (dP b.m)).map vB)/\wx.ownsRow f.heap.size 4 1 (aA (aK ⟨l,0,aJ⟩) 256 S) 256 ((bl (dP b.r)).map vB)/\j≠l/\Below f.heap.size f wx)
 case first=>
  go_region_held3 (λW=>Below f.heap.size f W) ((repeat (first | assumption | exact gX _ _ | apply Below.drew | refine gW ?_ (by assumption)))) (first | (go_at_call_of 95 (aA a1 n1 c1);refine(Ji _ _ _ b.m _ l1 (E.below (by assumption)) n (by omega)).mono ?_;rintro e wm ⟨am,cm,rfl,Eb,hbm⟩) | (go_at_call_of 95 (aA a2 n2 c2);refine(Ji _ _ _ b.r _ l2 (y.below (by assumption)) q (by omega)).mono ?_;rintro e wr ⟨ar,cr,rfl,P,hbr⟩))
  all_goals (go_wp2_with fail;go_meet)
  ·obtain⟨j,_,rfl,hg5,hs5,_,_⟩:=iJ Eb 0 (by rw[gTe,lV];omega);obtain⟨l,_,rfl,hg6,hs6,_,_⟩:=iJ P 0 (by rw[gTe,lV];omega);exact⟨j,l,cm,cr,rfl,rfl,own_base (own_below Eb hbr (gT _)) (gT _),own_base P (by have:=hbm.size;simpa using this),by omega,by assumption⟩
 case rest=>
  obtain⟨j,l,Q,S,rfl,rfl,C,x,T,hbx⟩:=hcut;have N:=gW yV hbx;have K:=gO C;have I:=gO x;clear LK0 H E y n q C x;go_wp2
  go_loopw [7,21] (λ_ t V=>∃i:Nat,i<=256/\t=aB aI i/\Hid (V.ownsRow f.heap.size 4 1 (aA (aK ⟨j,0,aJ⟩) 256 Q) 256 ((bl (λp=>dP b.m p&& !(decide (p<i)&&dP b.r p))).map vB))/\Hid (V.ownsRow f.heap.size 4 1 (aA (aK ⟨l,0,aJ⟩) 256 S) 256 ((bl (dP b.r)).map vB))/\Below w.heap.size w V) (λ_ t _=>256-(intOf t).toNat)
  case atStart=>
   refine⟨0,by omega,rfl,?_,I,N⟩;rw[show bl (λp=>dP b.m p&& !(decide (p<0)&&dP b.r p))=bl (dP b.m)from wV λp _=>by simp];exact K
  case round=>
   obtain⟨i,hi,rfl,a,d,k⟩:=hrel;clear K I;by_cases L:i<256
   ·obtain⟨b5,D,e5,hb5,s⟩:=Lu (bJ a.out) L;obtain⟨rfl,rfl⟩:j=b5/\0=D:=by simpa using e5
    obtain⟨b6,M,e6,B,u⟩:=Lu (bJ d.out) L;obtain⟨rfl,rfl⟩:l=b6/\0=M:=by simpa using e6
    obtain⟨g,v,eg,hg,hgs,X,hfg⟩:=iJ a.out i (by rw[gTe,lV];omega);obtain rfl:j=g:=by simpa using eg
    rw[gV (show ¬i<i by omega),Bool.false_and,Bool.not_false,Bool.and_true,Nat.zero_add]at s;rw[Nat.zero_add]at u;have Y:Hid (∀v,v=(dP b.m i&& !dP b.r i)->((wr.setCell ⟨j,i,aJ⟩ (.bool v)).ownsRow f.heap.size 4 1 (aA (aK ⟨j,0,aJ⟩) 256 Q) 256 ((bl (λp=>dP b.m p&& !(decide (p<i+1)&&dP b.r p))).map vB))):=λv hv=>by
     have h:=(World.ownsRow.stored a.out i (vB v)).1;rw[<- List.map_set,Zv]at h;rw[show bl (λp=>dP b.m p&& !(decide (p<i+1)&&dP b.r p))=bl (λp=>if p=i then v else dP b.m p&& !(decide (p<i)&&dP b.r p))from wV λp _=>by
      by_cases e:p=i
      ·subst e;rw[if_pos rfl,hv,gTg (Nat.lt_succ_self p),Bool.true_and]
      ·rw[if_neg e,decide_eq_decide.2 (show p<i+1↔p<i by omega)]]
     exact h
    have U:Hid (∀v,((wr.setCell ⟨j,i,aJ⟩ (.bool v)).ownsRow f.heap.size 4 1 (aA (aK ⟨l,0,aJ⟩) 256 S) 256 ((bl (dP b.r)).map vB))):=λv=>bU d.out (by simp[gTh];exact λh=>T h.symm) _
    have hz:=yV.size;clear a d X e5 e6 eg;cases hm:dP b.m i with
    | false=>
     rw[hm]at s;go_wp2
     go_roundw
     case rel=>exact⟨i+1,by omega,by go_num,Y.out _ (by rw[hm];rfl),U.out _,k.setCell (by simp only;omega) _⟩
     case measure=>simp[intOf];omega
    | true=>
     rw[hm]at s;cases hr:dP b.r i with
     | false=>
      rw[hr]at u;go_wp2
      go_roundw
      case rel=>exact⟨i+1,by omega,by go_num,Y.out _ (by rw[hm,hr];rfl),U.out _,k.setCell (by simp only;omega) _⟩
      case measure=>simp[intOf];omega
     | true=>
      rw[hr]at u;go_wp2
      go_roundw
      case rel=>exact⟨i+1,by omega,by go_num,Y.out _ (by rw[hm,hr];rfl),U.out _,k.setCell (by simp only;omega) _⟩
      case measure=>simp[intOf];omega
   ·obtain rfl:i=256:=by omega
    have J:=bJ a.out;clear a d;go_wp2_with fail
    refine(OZ _ _ _ _ J).mono ?_;rw[show eF (λp=>dP b.m p&& !(decide (p<256)&&dP b.r p))=F from by
     rw[<- HF.out];exact vM λp hp=>by rw[gTg hp,Bool.true_and];rfl]
    rintro e w5 ⟨a',c',rfl,a,B⟩;have H5:=gO (own_base a k.size);clear a;go_wp2
    go_ret2
    exact⟨a',c',rfl,H5.out,gW k B⟩
def Rg.lo (r:Rg)(split:Nat):Nat:=min (r.f.toNat+r.s.toNat) split-r.f.toNat
def newStep (split:Nat)(z:Zn×Zn)(r:Rg):Zn×Zn:=(fH z.1 r.f.toNat (r.lo split),fH z.2 (r.f.toNat+r.lo split) (r.s.toNat-r.lo split))
def iL (split:Nat)(l:List Rg):Zn×Zn:=l.foldl (newStep split) (⟨0,split,[],List.replicate (split/8) 1⟩,⟨split,256,[],List.replicate ((256-split)/8) 1⟩)
def newH (l:List Rg)(split least aP:Nat):Hp:=⟨(iL split l).1,(iL split l).2,least,least,aP,[],[]⟩
theorem Gl:∀(l:List Rg) (q:Option Rg),dS q l=true->l.Pairwise λa b=>a.f+a.s<b.f
 | [],_,_=>List.Pairwise.nil
 | r::l,q,h=>by
  simp only[dS,Bool.and_eq_true]at h;exact List.Pairwise.cons (vC l r h.2) (Gl l _ h.2)
structure LD (split:Nat)(l:List Rg)(z:Zn×Zn):Prop where
 o0:z.1.ok
 o1:z.2.ok
 f0:z.1.f=0
 e0:z.1.e=split
 f1:z.2.f=split
 e1:z.2.e=256
 c0:∀q,fJ z.1.l q↔(q<split/\dP l q=true)
 c1:∀q,fJ z.2.l q↔(split<=q/\dP l q=true)
theorem Pg {f e:Nat}(h1:f<=e)(h2:e<=256)(h3:f%16=0)(h4:e%16=0):(⟨f,e,[],List.replicate ((e-f)/8) 1⟩:Zn).ok:=
 ⟨(aAH _ _ _).2 ⟨h1,h2,h3,h4,by simp,λt a=>by rw[(List.mem_replicate.1 a).2];omega⟩,(aAG _ _ _).2 ⟨by simp,List.Pairwise.nil,by simp⟩⟩
theorem RS (h1:split<=256)(h2:split%16=0):LD split [] (⟨0,split,[],List.replicate (split/8) 1⟩,⟨split,256,[],List.replicate ((256-split)/8) 1⟩):=
 ⟨Pg (gU _) h1 rfl h2,Pg h1 (gT _) h2 rfl,rfl,rfl,rfl,rfl,λq=>by simp[fJ,dP],λq=>by simp[fJ,dP]⟩
structure TW (split:Nat)(l:List Rg)(r:Rg)(z:Zn×Zn):Prop where
 f:r.f=(r.f.toNat:Int)
 s:r.s=(r.s.toNat:Int)
 fs:r.f.toNat+r.s.toNat<=256
 s1:1<=r.s.toNat
 lo:r.lo split<=r.s.toNat
 le:0<r.lo split->r.f.toNat+r.lo split<=split
 hi:r.lo split<r.s.toNat->split<=r.f.toNat+r.lo split
 d0:∀q,r.f.toNat<=q->q<r.f.toNat+r.lo split->¬fJ z.1.l q
 d1:∀q,r.f.toNat+r.lo split<=q->q<r.f.toNat+r.lo split+(r.s.toNat-r.lo split)->¬fJ z.2.l q
 next:LD split (l++[r]) (newStep split z r)
theorem DK {l:List Rg}{r:Rg}{z:Zn×Zn}(h:LD split l z)(hck:zC r=true)(hlt:∀x∈l,x.f+x.s<r.f)(hsp:split<=256):TW split l r z:=by
 have o:=mV hck;have t:r.f=(r.f.toNat:Int):=by omega
 have u:r.s=(r.s.toNat:Int):=by omega
 obtain⟨F,i⟩:∃F,r.f.toNat=F:=⟨_,rfl⟩
 obtain⟨S,n⟩:∃S,r.s.toNat=S:=⟨_,rfl⟩
 have d:∀q,F<=q->dP l q=false:=λq A=>by
  rw[Bool.eq_false_iff];intro v;obtain⟨x,w,a,b⟩:=(lQ l q).1 v;have:=hlt x w;omega
 have c:∀q,dP (l++[r]) q=true↔(dP l q=true∨(F<=q/\q<F+S)):=λq=>by
  rw[wW,Aw,Bool.or_eq_true];unfold rP;rw[decide_eq_true_eq];refine or_congr Iff.rfl ⟨λh=> ?_,λh=> ?_⟩ <;> omega
 have y:r.lo split=min (F+S) split-F:=by unfold Rg.lo;rw[i,n]
 have k:∀q,F<=q->q<F+r.lo split->¬fJ z.1.l q:=λq a b o=>by
  have:=((h.c0 q).1 o).2;rw[d q a]at this;cases this
 have g:∀q,F+r.lo split<=q->q<F+r.lo split+(S-r.lo split)->¬fJ z.2.l q:=λq a b o=>by
  have:=((h.c1 q).1 o).2;rw[d q (by omega)]at this;cases this
 rw[<- i]at k g;rw[<- n]at g;have j:(fH z.1 F (r.lo split)).ok/\(fH z.1 F (r.lo split)).f=z.1.f/\(fH z.1 F (r.lo split)).e=z.1.e/\∀q,fJ (fH z.1 F (r.lo split)).l q↔(fJ z.1.l q∨(F<=q/\q<F+r.lo split)):=by
  by_cases p:r.lo split=0
  ·rw[p];refine⟨h.o0,rfl,rfl,λq=>⟨.inl,?_⟩⟩;rintro(a | a)
   ·exact a
   ·omega
  ·rw[i]at k;exact pF h.o0 k (by rw[h.f0];exact gU _) (by rw[h.e0];omega) _ (gT _)
 have m:(fH z.2 (F+r.lo split) (S-r.lo split)).ok/\(fH z.2 (F+r.lo split) (S-r.lo split)).f=z.2.f/\(fH z.2 (F+r.lo split) (S-r.lo split)).e=z.2.e/\∀q,fJ (fH z.2 (F+r.lo split) (S-r.lo split)).l q↔(fJ z.2.l q∨(F+r.lo split<=q/\q<F+r.lo split+(S-r.lo split))):=by
  by_cases p:S-r.lo split=0
  ·rw[p];refine⟨h.o1,rfl,rfl,λq=>⟨.inl,?_⟩⟩;rintro(a | a)
   ·exact a
   ·omega
  ·rw[i,n]at g;exact pF h.o1 g (by rw[h.f1];omega) (by rw[h.e1];omega) _ (gT _)
 refine⟨t,u,by omega,by omega,by omega,by omega,by omega,k,g,?_⟩;unfold newStep;rw[i,n];refine⟨j.1,m.1,by rw[j.2.1];exact h.f0,by rw[j.2.2.1];exact h.e0,by rw[m.2.1];exact h.f1,by rw[m.2.2.1];exact h.e1,λq=> ?_,λq=> ?_⟩
 ·simp only;rw[j.2.2.2,h.c0,c];constructor
  ·rintro(⟨a,b⟩ | a)
   ·exact⟨a,.inl b⟩
   ·exact⟨by omega,.inr (by omega)⟩
  ·rintro⟨a,b | b⟩
   ·exact .inl ⟨a,b⟩
   ·exact .inr (by omega)
 ·simp only;rw[m.2.2.2,h.c1,c];constructor
  ·rintro(⟨a,b⟩ | a)
   ·exact⟨a,.inl b⟩
   ·exact⟨by omega,.inr (by omega)⟩
  ·rintro⟨a,b | b⟩
   ·exact .inl ⟨a,b⟩
   ·exact .inr (by omega)
theorem Gm (split:Nat)(l:List Rg)(k:Nat)(hk:k<l.length):iL split (l.take (k+1))=newStep split (iL split (l.take k)) l[k]:=by
 unfold iL;rw[List.take_succ_eq_append_getElem hk,List.foldl_append];rfl
theorem rU {l:List Rg}(hl:dZ l=true)(h1:split<=256)(h2:split%16=0):∀k,k<=l.length->LD split (l.take k) (iL split (l.take k))
 | 0,_=>RS h1 h2
 | k+1,hk=>by
  rw[Gm split l k hk,List.take_succ_eq_append_getElem hk];refine(DK (rU hl h1 h2 k (by omega)) (oP hl _ (gL hk)) (λx hx=> ?_) h1).next;simp only[dZ,Bool.and_eq_true]at hl;obtain⟨j,hj,rfl⟩:=List.mem_take_iff_getElem.1 hx;exact gN.1 (Gl l aJ hl.2) _ _ _ hk (by omega)
theorem Wi {l:List Rg}(hl:dZ l=true)(h1:split<=256)(h2:split%16=0)(hk:k<l.length):TW split (l.take k) l[k] (iL split (l.take k)):=by
 refine DK (rU hl h1 h2 k (by omega)) (oP hl _ (gL hk)) (λx a=> ?_) h1;simp only[dZ,Bool.and_eq_true]at hl;obtain⟨j,b,rfl⟩:=List.mem_take_iff_getElem.1 a;exact gN.1 (Gl l aJ hl.2) _ _ _ hk (by omega)
theorem LH {l:List Rg}(hl:dZ l=true){aP:Nat}(h1:split<=256)(h2:split%16=0)(h3:least<=256)(h4:1<=aP/\aP<=4):
 fG (newH l split least aP)/\∀p,cnt (newH l split least aP).all p=if dP l p then 1 else 0:=by
 have a:=rU hl h1 h2 l.length (gT _);rw[List.take_length]at a;have d:∀p,cnt (newH l split least aP).all p=if dP l p then 1 else 0:=λp=>by
  rw[dO];show cnt (iL split l).1.l p+cnt (iL split l).2.l p+0+0=_;have e:=oJ (oK a.o0.2.sep) p;have f:=oJ (oK a.o1.2.sep) p;have c:=(eG (l:=(iL split l).1.l) (p:=p)).trans (a.c0 p);have b:=(eG (l:=(iL split l).2.l) (p:=p)).trans (a.c1 p);cases hp:dP l p with
  | true=>
   simp only[hp,and_true]at c b;simp only[if_true];omega
  | false=>
   simp only[hp,Bool.false_eq_true,and_false,iff_false]at c b;simp;omega
 refine⟨⟨a.o0,a.o1,a.f0,a.e0.trans a.f1.symm,a.e1,h3,h3,h4,List.Pairwise.nil,by simp[newH],by simp[newH],List.Pairwise.nil,λp=> ?_⟩,d⟩;rw[d];split <;> omega
def TY (z:Zn)(a1 a2:Option Addr)(n1 n2 c1 c2:Nat):Array Value:=#[aB aI z.f,aB aI z.e,aA a1 n1 c1,aA a2 n2 c2]
structure qC (W:World)(Z B:Nat)(X:Nat->Prop)(a1 a2:Option Addr)(n1 n2 c1 c2:Nat)(z:Zn):Prop where
 k:∀o,W.cell? ⟨B,o,aJ⟩=(TY z a1 a2 n1 n2 c1 c2)[o]?
 fz:∀o,W.frozen? ⟨B,o,aJ⟩=false
 own:jC W Z a1 a2 n1 n2 c1 c2 z
 lt:B<W.heap.size
 xs:∀k,X k->k<W.heap.size
 ne:∀g,X g->(aA a1 n1 c1).ownBlock≠aK g/\(aA a2 n2 c2).ownBlock≠aK g
section
variable {W W':World}{Z B:Nat}{X:Nat->Prop}{a1 a2:Option Addr}{n1 n2 c1 c2:Nat}{z:Zn}
theorem qC.below (h:qC W Z B X a1 a2 n1 n2 c1 c2 z)(hb:Below W.heap.size W W'):qC W' Z B X a1 a2 n1 n2 c1 c2 z:=
 ⟨aQ h.k h.lt hb,aU h.fz h.lt hb,h.own.below hb,gI h.lt hb.size,λk a=>gI (h.xs k a) hb.size,h.ne⟩
theorem qC.cells (h:qC W Z B X a1 a2 n1 n2 c1 c2 z):W.cell? ⟨B,0,aJ⟩=aK (aB aI z.f)/\W.cell? ⟨B,1,aJ⟩=aK (aB aI z.e)/\W.cell? ⟨B,2,aJ⟩=aK (aA a1 n1 c1)/\W.cell? ⟨B,3,aJ⟩=aK (aA a2 n2 c2):=⟨h.k 0,h.k 1,h.k 2,h.k 3⟩
theorem qC.far (h:qC W Z B X a1 a2 n1 n2 c1 c2 z)(hg:X g)(hne:B≠g)(i:Nat)(u:Value):qC (W.setCell ⟨g,i,aJ⟩ u) Z B X a1 a2 n1 n2 c1 c2 z:=
 ⟨aS h.k hne i u,aV h.fz _ _,h.own.set (h.ne g hg) i u,by simpa using h.lt,λk a=>by simpa using h.xs k a,h.ne⟩
theorem qC.far4 (h:qC W Z B X a1 a2 n1 n2 c1 c2 z)(hg:X g)(hne:B≠g)(u0 u1 u2 u3:Value):qC ((((W.setCell ⟨g,0,aJ⟩ u0).setCell ⟨g,1,aJ⟩ u1).setCell ⟨g,2,aJ⟩ u2).setCell ⟨g,3,aJ⟩ u3) Z B X a1 a2 n1 n2 c1 c2 z:=
 (((h.far hg hne 0 u0).far hg hne 1 u1).far hg hne 2 u2).far hg hne 3 u3
theorem qC.put (h:qC W Z B X a1 a2 n1 n2 c1 c2 z)(hB:X B)(hZ:Z<=W.heap.size)(hb:Below W.heap.size W W'){b1 b2:Option Addr}{m1 m2 d1 d2:Nat}{y:Zn}(ho:jC W' W.heap.size b1 b2 m1 m2 d1 d2 y):
 qC ((((W'.setCell ⟨B,0,aJ⟩ (aB aI y.f)).setCell ⟨B,1,aJ⟩ (aB aI y.e)).setCell ⟨B,2,aJ⟩ (aA b1 m1 d1)).setCell ⟨B,3,aJ⟩ (aA b2 m2 d2)) Z B X b1 b2 m1 m2 d1 d2 y:=by
 have a:=h.below hb;have c:∀g,X g->(aA b1 m1 d1).ownBlock≠aK g/\(aA b2 m2 d2).ownBlock≠aK g:=λg i=>ho.ne (.inl (h.xs g i))
 have b:=c B hB;exact⟨aW (aW (aW (aW a.k 0 (aB aI y.f)) 1 (aB aI y.e)) 2 (aA b1 m1 d1)) 3 (aA b2 m2 d2),aV (aV (aV (aV a.fz _ _) _ _) _ _) _ _,((((ho.base hZ).set b _ _).set b _ _).set b _ _).set b _ _,by simpa using a.lt,λk d=>by simpa using a.xs k d,c⟩
theorem qC.new (h:qC W Z B X a1 a2 n1 n2 c1 c2 z)(hb:Below W.heap.size W W')(hY:∀k,Y k->X k∨(W.heap.size<=k/\k<W'.heap.size)):qC W' Z B Y a1 a2 n1 n2 c1 c2 z:=by
 have b:=h.below hb;refine⟨b.k,b.fz,b.own,b.lt,λk c=> ?_,λg d=> ?_⟩
 ·rcases hY k c with a | a
  ·exact b.xs k a
  ·exact a.2
 ·rcases hY g d with a | a
  ·exact b.ne g a
  ·exact h.own.ne (.inr a.1)
theorem Pj {base:Nat}(ho:jC W base a1 a2 n1 n2 c1 c2 z)(hZ:Z<=base)(hX:∀k,X k->(k<base∨W.heap.size<=k)/\k<=W.heap.size):qC (W.alloc (.cells (TY z a1 a2 n1 n2 c1 c2) 79)) Z W.heap.size X a1 a2 n1 n2 c1 c2 z:=
 ⟨bI W _ _,fP W _ _,(ho.below (aT _ _)).base hZ,by simp,λk b=>by have:=(hX k b).2;simp;omega,λg a=>ho.ne (hX g a).1⟩
end
theorem Ua (W:World){base:Nat}{e:TypeId}{size:Nat}(hb:base<=W.heap.size)(hl:xs.length=n*size)(hn:n<=maxLen):(W.alloc (.cells xs.toArray e)).ownsRow base e size (aA (aK ⟨W.heap.size,0,aJ⟩) n n) n xs:=
 ⟨hl,.inr ⟨W.heap.size,n,xs.toArray,rfl,hb,heap_alloc_new W _,gT _,hn,by simp[hl],by simp[gTf,hl]⟩⟩
theorem aBy {wx W5:World}{G N:Nat}{z0 z1:Zn}{x1 x2 y1 y2:Option Addr}{m1 m2 d1 d2 k1 k2 e1 e2 least:Nat}
 (r1:wx.ownsRow 0 79 4 (aA (aK ⟨N,0,aJ⟩) 2 2) 2 (flat oG [⟨z0,x1,x2,m1,m2,d1,d2⟩,⟨z1,y1,y2,k1,k2,e1,e2⟩]))
 (r2:wx.ownsRow 0 3 1 (aA (aK ⟨N+1,0,aJ⟩) 2 2) 2 (flat jA [least,least]))
 (t0:jC wx G x1 x2 m1 m2 d1 d2 z0) (t1:jC wx G y1 y2 k1 k2 e1 e2 z1) (u0:jC W5 G x1 x2 m1 m2 d1 d2 z0) (u1:jC W5 G y1 y2 k1 k2 e1 e2 z1) (hs:W5.heap.size=N)
 (n0:(aA x1 m1 d1).ownBlock≠aK G/\(aA x2 m2 d2).ownBlock≠aK G) (n1:(aA y1 k1 e1).ownBlock≠aK G/\(aA y2 k2 e2).ownBlock≠aK G) (hG:G<N) (hx:N<=wx.heap.size) (h:Hp)
 (q0:h.z0=z0) (q1:h.z1=z1) (q2:h.m0=least) (q3:h.m1=least) (q4:h.ls=[]) (q5:h.live=[]):
 lN wx G h ⟨aK ⟨N,0,aJ⟩,2,aK ⟨N+1,0,aJ⟩,2,aJ,0,aJ,0,⟨z0,x1,x2,m1,m2,d1,d2⟩,⟨z1,y1,y2,k1,k2,e1,e2⟩,[]⟩:=by
 have j:=u0.o1.lt;have i:=u0.o2.lt;have l:=u1.o1.lt;have m:=u1.o2.lt;refine⟨⟨λr b=> ?_,?_⟩,λr b=> ?_,λr b s a g c d=> ?_,λr b g f=> ?_,λr b e=> ?_,λr b g f e=> ?_,gI hG hx,Nat.lt_irrefl _,λk n=>by have:k<G:=n;omega,q0.symm,q1.symm,q4.symm⟩
 ·simp only[Hc.rows,List.map_nil,gY,List.not_mem_nil,or_false]at b;rcases b with rfl | rfl | rfl
  ·exact r1
  ·exact⟨rfl,.inl ⟨rfl,rfl⟩⟩
  ·unfold Af Rs.on;rw[q5];exact⟨rfl,.inl ⟨rfl,rfl⟩⟩
 ·simp only[Hc.rows,List.map_nil];refine List.Pairwise.cons (λs a g c d=> ?_) (List.Pairwise.cons (λs a g c d=> ?_) (List.Pairwise.cons (λs a=>by simp at a) List.Pairwise.nil))
  ·simp only[gY,List.not_mem_nil,or_false]at a;rcases a with rfl | rfl <;> cases d
  ·cases c
 ·simp only[Hc.reads,gY,List.not_mem_nil,or_false]at b;rcases b with rfl | rfl | rfl | rfl | rfl
  ·unfold mnR Rs.on;rw[q2,q3];exact r2
  ·exact own_base t0.o1 (gU _)
  ·exact own_base t0.o2 (gU _)
  ·exact own_base t1.o1 (gU _)
  ·exact own_base t1.o2 (gU _)
 ·simp only[Hc.rows,List.map_nil,gY,List.not_mem_nil,or_false]at a;rcases a with rfl | rfl | rfl
  ·obtain rfl:N=g:=by simpa[Bd,gTh]using d
   simp only[Hc.reads,gY,List.not_mem_nil,or_false]at b;rcases b with rfl | rfl | rfl | rfl | rfl
   ·simp[mnR,gTh]at c
   ·have:=(j _ c).2;omega
   ·have:=(i _ c).2;omega
   ·have:=(l _ c).2;omega
   ·have:=(m _ c).2;omega
  ·cases d
  ·cases d
 ·simp only[Hc.rows,List.map_nil,gY,List.not_mem_nil,or_false]at b;rcases b with rfl | rfl | rfl
  ·obtain rfl:N=g:=by simpa[Bd,gTh]using f
   exact⟨by omega,by omega⟩
  ·cases f
  ·cases f
 ·simp only[Hc.reads,gY,List.not_mem_nil,or_false]at b;rcases b with rfl | rfl | rfl | rfl | rfl
  ·have:N+1=G:=by simpa[mnR,gTh]using e
   omega
  ·exact n0.1 e
  ·exact n0.2 e
  ·exact n1.1 e
  ·exact n1.2 e
 ·have e:g<G:=e;simp only[Hc.reads,gY,List.not_mem_nil,or_false]at b;rcases b with rfl | rfl | rfl | rfl | rfl
  ·have:N+1=g:=by simpa[mnR,gTh]using f
   omega
  ·have:=(j _ f).1;omega
  ·have:=(i _ f).1;omega
  ·have:=(l _ f).1;omega
  ·have:=(m _ f).1;omega
section
variable {w w1 w2:World}{s:Sy}{v:Sc}{T:Nat}{E:Array Value}{X:Nat->Prop}
theorem laid7 {a0 a1 a2 a3 a4 a5 a6:Value}(hb1:Below w.heap.size w w1)(hT:w.heap.size<T)(hT2:T<w1.heap.size)
 (K1:∀o,w1.cell? ⟨w.heap.size,o,aJ⟩=(#[a0,a1,a2,a3,a4,a5,a6]:Array Value)[o]?) (F1:∀o,w1.frozen? ⟨w.heap.size,o,aJ⟩=false)
 (KT:∀o,w1.cell? ⟨T,o,aJ⟩=E[o]?) (FT:∀o,w1.frozen? ⟨T,o,aJ⟩=false) (hb2:Below w1.heap.size w1 w2) (hn:iI w2 w1.heap.size s v):
 SS (((((((w2.setCell ⟨w.heap.size,0,aJ⟩ (aA v.a1 v.n1 v.c1)).setCell ⟨w.heap.size,1,aJ⟩ (aA v.hc.az 2 v.hc.cz)).setCell ⟨w.heap.size,2,aJ⟩ (aA v.hc.am 2 v.hc.cm)).setCell ⟨w.heap.size,3,aJ⟩ (aB aI (s.h.aP:Int))).setCell ⟨w.heap.size,4,aJ⟩ (aA v.hc.al v.hc.lc.length v.hc.cl)).setCell ⟨w.heap.size,5,aJ⟩ (aA v.hc.av s.h.live.length v.hc.cv)).setCell ⟨w.heap.size,6,aJ⟩ (aA v.a2 v.ys.length v.c2)) w.heap.size (λk=>k<w.heap.size∨k=T) s v/\
 (∀o,(((((((w2.setCell ⟨w.heap.size,0,aJ⟩ (aA v.a1 v.n1 v.c1)).setCell ⟨w.heap.size,1,aJ⟩ (aA v.hc.az 2 v.hc.cz)).setCell ⟨w.heap.size,2,aJ⟩ (aA v.hc.am 2 v.hc.cm)).setCell ⟨w.heap.size,3,aJ⟩ (aB aI (s.h.aP:Int))).setCell ⟨w.heap.size,4,aJ⟩ (aA v.hc.al v.hc.lc.length v.hc.cl)).setCell ⟨w.heap.size,5,aJ⟩ (aA v.hc.av s.h.live.length v.hc.cv)).setCell ⟨w.heap.size,6,aJ⟩ (aA v.a2 v.ys.length v.c2)).cell? ⟨T,o,aJ⟩=E[o]?)/\
 (∀o,(((((((w2.setCell ⟨w.heap.size,0,aJ⟩ (aA v.a1 v.n1 v.c1)).setCell ⟨w.heap.size,1,aJ⟩ (aA v.hc.az 2 v.hc.cz)).setCell ⟨w.heap.size,2,aJ⟩ (aA v.hc.am 2 v.hc.cm)).setCell ⟨w.heap.size,3,aJ⟩ (aB aI (s.h.aP:Int))).setCell ⟨w.heap.size,4,aJ⟩ (aA v.hc.al v.hc.lc.length v.hc.cl)).setCell ⟨w.heap.size,5,aJ⟩ (aA v.hc.av s.h.live.length v.hc.cv)).setCell ⟨w.heap.size,6,aJ⟩ (aA v.a2 v.ys.length v.c2)).frozen? ⟨T,o,aJ⟩=false)/\
 Below w.heap.size w (((((((w2.setCell ⟨w.heap.size,0,aJ⟩ (aA v.a1 v.n1 v.c1)).setCell ⟨w.heap.size,1,aJ⟩ (aA v.hc.az 2 v.hc.cz)).setCell ⟨w.heap.size,2,aJ⟩ (aA v.hc.am 2 v.hc.cm)).setCell ⟨w.heap.size,3,aJ⟩ (aB aI (s.h.aP:Int))).setCell ⟨w.heap.size,4,aJ⟩ (aA v.hc.al v.hc.lc.length v.hc.cl)).setCell ⟨w.heap.size,5,aJ⟩ (aA v.hc.av s.h.live.length v.hc.cv)).setCell ⟨w.heap.size,6,aJ⟩ (aA v.a2 v.ys.length v.c2)):=by
 have c:w.heap.size<w1.heap.size:=by omega
 have e:=aQ K1 c hb2;have d:=aU F1 c hb2;have i:SR w2 w.heap.size (λk=>k<w.heap.size∨k=T) s v:=SR.lift hn c (λk j=>by omega) (by omega);have a:T≠w.heap.size:=by omega
 have f:=aQ KT hT2 hb2;have g:=aU FT hT2 hb2;have b:=gT w.heap.size;refine⟨SS.put7 i e d,?_,?_,?_⟩
 ·exact aS (aS (aS (aS (aS (aS (aS f a 0 _) a 1 _) a 2 _) a 3 _) a 4 _) a 5 _) a 6 _
 ·exact aV (aV (aV (aV (aV (aV (aV g _ _) _ _) _ _) _ _) _ _) _ _) _ _
 ·exact gS (gS (gS (gS (gS (gS (gS (hb1.trans (hb2.mono hb1.size)) w.heap.size 0 b _) w.heap.size 1 b _) w.heap.size 2 b _) w.heap.size 3 b _) w.heap.size 4 b _) w.heap.size 5 b _) w.heap.size 6 b _
theorem out7 {a0 a1 a2 a3 a4 a5 a6:Value}(hs:SS w2 w.heap.size X s v)(hX:X T)(hB:∀k,k<w.heap.size->X k)(hT:w.heap.size<T)(KT:∀o,w2.cell? ⟨T,o,aJ⟩=(#[a0,a1,a2,a3,a4,a5,a6]:Array Value)[o]?)(hb:Below w.heap.size w w2):
 (∀o,(((((((w2.setCell ⟨T,0,aJ⟩ (aA v.a1 v.n1 v.c1)).setCell ⟨T,1,aJ⟩ (aA v.hc.az 2 v.hc.cz)).setCell ⟨T,2,aJ⟩ (aA v.hc.am 2 v.hc.cm)).setCell ⟨T,3,aJ⟩ (aB aI (s.h.aP:Int))).setCell ⟨T,4,aJ⟩ (aA v.hc.al v.hc.lc.length v.hc.cl)).setCell ⟨T,5,aJ⟩ (aA v.hc.av s.h.live.length v.hc.cv)).setCell ⟨T,6,aJ⟩ (aA v.a2 v.ys.length v.c2)).cell? ⟨T,o,aJ⟩=(#[aA v.a1 v.n1 v.c1,aA v.hc.az 2 v.hc.cz,aA v.hc.am 2 v.hc.cm,aB aI (s.h.aP:Int),aA v.hc.al v.hc.lc.length v.hc.cl,aA v.hc.av s.h.live.length v.hc.cv,aA v.a2 v.ys.length v.c2]:Array Value)[o]?)/\
 iI (((((((w2.setCell ⟨T,0,aJ⟩ (aA v.a1 v.n1 v.c1)).setCell ⟨T,1,aJ⟩ (aA v.hc.az 2 v.hc.cz)).setCell ⟨T,2,aJ⟩ (aA v.hc.am 2 v.hc.cm)).setCell ⟨T,3,aJ⟩ (aB aI (s.h.aP:Int))).setCell ⟨T,4,aJ⟩ (aA v.hc.al v.hc.lc.length v.hc.cl)).setCell ⟨T,5,aJ⟩ (aA v.hc.av s.h.live.length v.hc.cv)).setCell ⟨T,6,aJ⟩ (aA v.a2 v.ys.length v.c2)) w.heap.size s v/\
 Below w.heap.size w (((((((w2.setCell ⟨T,0,aJ⟩ (aA v.a1 v.n1 v.c1)).setCell ⟨T,1,aJ⟩ (aA v.hc.az 2 v.hc.cz)).setCell ⟨T,2,aJ⟩ (aA v.hc.am 2 v.hc.cm)).setCell ⟨T,3,aJ⟩ (aB aI (s.h.aP:Int))).setCell ⟨T,4,aJ⟩ (aA v.hc.al v.hc.lc.length v.hc.cl)).setCell ⟨T,5,aJ⟩ (aA v.hc.av s.h.live.length v.hc.cv)).setCell ⟨T,6,aJ⟩ (aA v.a2 v.ys.length v.c2)):=by
 have b:=(aW (aW (aW (aW (aW (aW (aW KT 0 (aA v.a1 v.n1 v.c1)) 1 (aA v.hc.az 2 v.hc.cz)) 2 (aA v.hc.am 2 v.hc.cm)) 3 (aB aI (s.h.aP:Int))) 4 (aA v.hc.al v.hc.lc.length v.hc.cl)) 5 (aA v.hc.av s.h.live.length v.hc.cv)) 6 (aA v.a2 v.ys.length v.c2))
 simp only[gE,gG,gH]at b;have a:=gR hT;refine⟨b,(SS.sub (((((((hs.dQ hX 0 _).dQ hX 1 _).dQ hX 2 _).dQ hX 3 _).dQ hX 4 _).dQ hX 5 _).dQ hX 6 _) hB).r,?_⟩;exact gS (gS (gS (gS (gS (gS (gS hb T 0 a _) T 1 a _) T 2 a _) T 3 a _) T 4 a _) T 5 a _) T 6 a _
theorem SR.aHw {W:World}(hs:SR W G X s v)(hi:i<v.ys.length){y:Cc}(hy:v.ys[i]=y){gw:Nat}(hgw:v.a1=aK ⟨gw,0,aJ⟩):(oO y).v.ownBlock≠aK gw:=λe=>by
 subst hy;have h:=(hs.QO hi).off (i:=0) (j:=3) (by simp) (by simp) (by decide) gw (by show(vS v s).v.ownBlock=_;unfold vS;rw[hgw];rfl);exact h e
end
section
variable {w W W':World}{G B T U:Nat}{X:Nat->Prop}{s s2:Sy}{v v2:Sc}{E:Array Value}
theorem SR.put7 (hs:SR W G X s v)(hT:X T)(v2:Sc)(s2:Sy):SR (((((((W.setCell ⟨T,0,aJ⟩ (aA v2.a1 v2.n1 v2.c1)).setCell ⟨T,1,aJ⟩ (aA v2.hc.az 2 v2.hc.cz)).setCell ⟨T,2,aJ⟩ (aA v2.hc.am 2 v2.hc.cm)).setCell ⟨T,3,aJ⟩ (aB aI (s2.h.aP:Int))).setCell ⟨T,4,aJ⟩ (aA v2.hc.al v2.hc.lc.length v2.hc.cl)).setCell ⟨T,5,aJ⟩ (aA v2.hc.av s2.h.live.length v2.hc.cv)).setCell ⟨T,6,aJ⟩ (aA v2.a2 v2.ys.length v2.c2)) G X s v:=
 SR.dQ (SR.dQ (SR.dQ (SR.dQ (SR.dQ (SR.dQ (SR.dQ hs hT 0 _) hT 1 _) hT 2 _) hT 3 _) hT 4 _) hT 5 _) hT 6 _
theorem iI.put7 (hn:iI W B s v)(hT:T<B)(hB:G<B):iI (((((((W.setCell ⟨T,0,aJ⟩ (aA v.a1 v.n1 v.c1)).setCell ⟨T,1,aJ⟩ (aA v.hc.az 2 v.hc.cz)).setCell ⟨T,2,aJ⟩ (aA v.hc.am 2 v.hc.cm)).setCell ⟨T,3,aJ⟩ (aB aI (s.h.aP:Int))).setCell ⟨T,4,aJ⟩ (aA v.hc.al v.hc.lc.length v.hc.cl)).setCell ⟨T,5,aJ⟩ (aA v.hc.av s.h.live.length v.hc.cv)).setCell ⟨T,6,aJ⟩ (aA v.a2 v.ys.length v.c2)) G s v:=
 (SR.put7 (X:=λk=>k<B) hn hT v s).toX hB (λk a=>Nat.lt_trans a hB) (Nat.lt_irrefl _)
theorem SR.heap2 (hs:SR W G X s v){c:Hc}(hr:HR W G X h c)(hd:∀r∈v.rows s,∀q∈c.rows h++c.reads h,r.off q):SR W G X {s with h:=h} {v with hc:=c}:=⟨hs.own,hs.og,hr,hd,hs.cy⟩
theorem SS.putH2 (hs:SS W G X s v){h':Hp}{hc':Hc}(hr:HR W G X h' hc')(hd:∀r∈v.rows s,∀q∈hc'.rows h'++hc'.reads h',r.off q):
 SS (((((W.setCell ⟨G,1,aJ⟩ (aA hc'.az 2 hc'.cz)).setCell ⟨G,2,aJ⟩ (aA hc'.am 2 hc'.cm)).setCell ⟨G,3,aJ⟩ (aB aI (h'.aP:Int))).setCell ⟨G,4,aJ⟩ (aA hc'.al hc'.lc.length hc'.cl)).setCell ⟨G,5,aJ⟩ (aA hc'.av h'.live.length hc'.cv)) G X {s with h:=h'} {v with hc:=hc'}/\Safe X W (((((W.setCell ⟨G,1,aJ⟩ (aA hc'.az 2 hc'.cz)).setCell ⟨G,2,aJ⟩ (aA hc'.am 2 hc'.cm)).setCell ⟨G,3,aJ⟩ (aB aI (h'.aP:Int))).setCell ⟨G,4,aJ⟩ (aA hc'.al hc'.lc.length hc'.cl)).setCell ⟨G,5,aJ⟩ (aA hc'.av h'.live.length hc'.cv)):=by
 have e:=hs.r.heap2 hr hd;have b:=aW hs.k 1 (aA hc'.az 2 hc'.cz);have c:=aV hs.fz ⟨G,1,aJ⟩ (aA hc'.az 2 hc'.cz);have l:=aW b 2 (aA hc'.am 2 hc'.cm);have g:=aV c ⟨G,2,aJ⟩ (aA hc'.am 2 hc'.cm);have f:=aW l 3 (aB aI (h'.aP:Int));have d:=aV g ⟨G,3,aJ⟩ (aB aI (h'.aP:Int));have i:=aW f 4 (aA hc'.al hc'.lc.length hc'.cl);have m:=aV d ⟨G,4,aJ⟩ (aA hc'.al hc'.lc.length hc'.cl);have a:=aW i 5 (aA hc'.av h'.live.length hc'.cv);have j:=aV m ⟨G,5,aJ⟩ (aA hc'.av h'.live.length hc'.cv);unfold Sc.vals at a;simp only[gE,gG,gH]at a;exact⟨⟨(((((e.iQ 1 _).iQ 2 _).iQ 3 _).iQ 4 _).iQ 5 _),a,j⟩,((((((Safe.refl X W).set hs.r.hr.xg 1 _).set hs.r.hr.xg 2 _).set hs.r.hr.xg 3 _).set hs.r.hr.xg 4 _).set hs.r.hr.xg 5 _)⟩
theorem iI.Uc {B1:Nat}(hn:iI W B1 s v){Wh:World}{c:Hc}(hr:HR Wh G X h c)(hB:Wh.heap.size<=B1):∀r∈v.rows s,∀q∈c.rows h++c.reads h,r.off q:=λr a q b g f d=>by
 have i:=(hn.og r a g f).2;have e:=hr.lt q b g d;exact i (gI e hB)
end
theorem zI (hk:fG h):∀j,j<=6->cZ (dW h j)
 | 0,_=>Nv hk
 | j+1,hj=>by
  obtain⟨h1,h2,h3⟩:=yU h (j:=j) (by omega);have a:1<=[1,2,4,8,16,32].getD j 0/\[1,2,4,8,16,32].getD j 0<=64:=by
   obtain rfl | rfl | rfl | rfl | rfl | rfl:j=0∨j=1∨j=2∨j=3∨j=4∨j=5:=by omega
   all_goals decide
  exact((zI hk j (by omega)).create h3 a h1 h2).1
end Go.Proofs.YtjaogfhcnmjkiaaGreatDoor
