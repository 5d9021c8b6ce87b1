/- joined. -/
import Derived.Test.YtjaogfhcnmjkiaaGreatDoorSG16
import Derived.Test.YtjaogfhcnmjkiaaGreatDoorSG17
set_option linter.all false
set_option maxRecDepth 100000
set_option maxHeartbeats 0
namespace Go.Proofs.YtjaogfhcnmjkiaaGreatDoor
open Go.RowKit
open Go.Value renaming slice->aA,int->aB,agg->aC,string->aF,tuple->aG,pointer->aH,ownBlock->gTh
open Go.IntKind renaming i64->aI
open Option renaming none->aJ,some->aK
open Go.Ending renaming returned->aN
open Go.Obj renaming cells->aO
open Go.Proofs.Tryz
variable {W:World}{a:Int}{a0 a1 a2 a3 a4 a5 a6:Value}{c:Ca}{cpu i k m:Nat}{h:Hp}{l w:List Int}{s s':Sy}{x:Sl}{xs:List Value}
def Sy.discard (s:Sy)(i k cpu:Nat):Sy:=match s.cs[i]? with
 | some c=>match c.sl[k]? with
  | some x=>match s.h.live[lb s.h.live x.p]? with
   | some b=>{s with h:=s.h.iD cpu (lb s.h.live x.p) b,cs:=s.cs.set i {c with sl:=c.sl.eraseIdx k}}
   | none=>s
  | none=>s
 | none=>s
def aCB (v:Sc)(s:Sy)(i k cpu:Nat)(G:Nat)(X:Nat->Prop)(w:World)(ev:Ending)(w':World):Prop:=ev=aN (aG #[])/\∃a,SS w' G X (s.discard i k cpu) a/\Safe X w w'/\a.a2=v.a2
theorem DJ (v:Sc)(s:Sy)(G i k cpu:Nat)(X:Nat->Prop)(w:World)(hs:SS w G X s v)(hk:bQ s)(hi:i<v.ys.length)(hkk:k<v.ys[i].c.sl.length)(bJ:cpu<s.h.aAh):
 Calls prog 79 #[aH (aK ⟨G,0,aJ⟩),aB aI i,aB aI k,aB aI cpu] w (aCB v s i k cpu G X w):=by
 obtain⟨m,I,o9,Lu,Rz,q⟩:=hs.r.TN hi;have f:=gL hi;have N:v.ys[i].c∈s.cs:=by rw[<- hs.r.cy];exact List.mem_map_of_mem f
 have H:s.cs[i]? =aK v.ys[i].c:=by
  rw[<- hs.r.cy,List.getElem?_map,gJ hi];rfl
 have g:=hk.ck _ N;have hvl:v.ys.length<=20:=by have:=congrArg List.length hs.r.cy;rw[gTe]at this;rw[this];exact hk.cl
 have La:s.h.live.length<=1000:=gQ hk.hk.iU (by decide);have YJ:v.hc.lc.length<=1000:=by
  have E:=congrArg List.length hs.r.hr.ll;rw[gTe]at E;rw[E];exact gQ hk.hk.oQ (by decide)
 have hii:(i:Int)<v.ys.length:=by omega
 obtain⟨_,n,_⟩:=hs.r.y f;obtain⟨y,S⟩:∃y,v.ys[i]=y:=⟨_,rfl⟩
 have HY:=gO S;rw[S]at H g n q;have d:k<y.c.sl.length:=by rw[<- S];exact hkk
 have F:=(g.sk _ (gL d)).live;have hp:=(g.sk _ (gL d)).BM hk.hk;obtain⟨gs,t,_,OG,T,_⟩:=mQ n (k*3) (by show k*3<(flat aY y.c.sl).length;rw[flat_length aAv];omega);have hl2:y.c.sl.length=y.n2:=aZ aAv (by decide) n;have hsl:=g.mW hk.hk;have ps:w.cell? ⟨gs,k*3,aJ⟩=aK (aB aI (y.c.sl[k].p:Int)):=by
  have E:=flat_get aAv y.c.sl k d 0 (by decide);have Y:k*3<(flat aY y.c.sl).length:=by rw[flat_length aAv];omega
  rw[T];have h3:(flat aY y.c.sl)[k*3]? =aK (vI (y.c.sl[k].p:Int)):=by simpa[aY]using E
  rw[gJ Y]at h3;exact h3
 obtain⟨V,Qx,R⟩:=(g.sk _ (gL d)).at hk.hk;have hF:=fun(W:World) (hW:Below w.heap.size w W)=>AP v.hc.az v.hc.am v.hc.al v.hc.av v.hc.cz v.hc.cm v.hc.cl v.hc.cv _ _ _ _ _ s.h cpu y.c.sl[k].p W (hs.r.hr.at.below hW) hk.hk YJ La bJ (by omega) R
 have Zi:s.discard i k cpu={s with h:=s.h.iD cpu (lb s.h.live y.c.sl[k].p) s.h.live[lb s.h.live y.c.sl[k].p],cs:=s.cs.set i {y.c with sl:=y.c.sl.eraseIdx k}}:=by
  unfold Sy.discard;rw[H];simp only[gJ d,gJ V]
 obtain⟨A,J⟩:∃A,s.h.iD cpu (lb s.h.live y.c.sl[k].p) s.h.live[lb s.h.live y.c.sl[k].p]=A:=⟨_,rfl⟩
 rw[J]at Zi;have HF:Hid (∀W,Below w.heap.size w W->Calls prog 42 #[aC #[aA v.hc.az 2 v.hc.cz,aA v.hc.am 2 v.hc.cm,aB aI s.h.aAh,aA v.hc.al v.hc.lc.length v.hc.cl,aA v.hc.av s.h.live.length v.hc.cv],aB aI cpu,aB aI y.c.sl[k].p] W λev w'=>∃b:Hc,ev=aN (aG #[aC #[aA b.az 2 b.cz,aA b.am 2 b.cm,aB aI (A.aAh:Int),aA b.al b.lc.length b.cl,aA b.av A.live.length b.cv],aB aI 0])/\kR w' W.heap.size A b/\Below W.heap.size W w'):=λW hW=>by
  refine(hF W hW).mono ?_;rintro ev w' ⟨hb,c',_,E,Y⟩;rw[J]at E Y;exact⟨c',E,Y,hb⟩
 obtain⟨b4,f4⟩:=q 4 (by decide);simp only[dX,vI,gC,gD]at b4;have g1:=hs.k 1;have g2:=hs.k 2;have g3:=hs.k 3;have g4:=hs.k 4;have g5:=hs.k 5;have Q:=hs.k 6;unfold Sc.vals at g1 g2 g3 g4 g5 Q;simp only[gB,gC,gD]at g1 g2 g3 g4 g5 Q;rw[I]at Q;rw[t]at b4;have aKc:=gO t;have HS:=gO hs;have HDS:=gO Zi;have HC:=gO q;have HA2:=gO I;have Ld:=hs.r.hr.gs;have hGc:G≠m:=λe=>Lu e.symm
 have aOu:gs≠G:=λe=>(hs.r.og _ (kW f (show nT v.ys[i]∈aAU v.ys[i]by simp[aAU])) gs (by rw[S];unfold nT;rw[t];rfl)).1 e
 have hn2:y.n2<=256:=by omega
 have hkn:(k:Int)<y.n2:=by omega
 have aKd:k<y.n2:=by omega
 clear hs hk q S g N H hF J Zi F V Qx R T n I t hkk hl2 hsl f hvl;generalize y.c.sl[k]=x at*;clear d;go_enter func79,ntmps79
 go_upto_region 1 with fail
 go_cut [15] (λs15 wx=>∃(b:Hc),Hid (SS wx G X {s with h:=A} {v with hc:=b})/\Hid (Safe X w wx))
 case first=>
  go_region_law (first | (go_simp;go_at_call 42;refine(HF.out _ ((gX _ _).drew)).mono ?_;rintro ev w1 ⟨b,rfl,P,u⟩;have D:=aAp HS.out.k Ld (gW ((gX w.heap.size w).drew) u);have L:=aAt HS.out.fz Ld (gW ((gX w.heap.size w).drew) u);have z1:=D 1;have z2:=D 2;have z3:=D 3;have z4:=D 4;have z5:=D 5;have q1:=L 1;have q2:=L 2;have q3:=L 3;have q4:=L 4;have q5:=L 5;unfold Sc.vals at z1 z2 z3 z4 z5;simp only[gB,gC,gD]at z1 z2 z3 z4 z5;have HKG:=gO D;clear D L))
  all_goals
   have B:Below w.heap.size w w1:=gW ((gX w.heap.size w).drew) u;have l:=HS.out.aJV B P;have HP1:=gO l.1;have HP2:=gO l.2;clear l B u P HKG z1 z2 z3 z4 z5 q1 q2 q3 q4 q5 g1 g2 g3 g4 g5 Q b4 f4 ps;go_wp2_with fail
   go_meet
   exact⟨b,HP1,HP2⟩
 case rest=>
  obtain⟨b,z,HFx⟩:=hcut;clear g1 g2 g3 g4 g5 Q b4 f4 ps HF;have o:i<({v with hc:=b}:Sc).ys.length:=hi;obtain⟨O,Z,Jj,aGm,aGn,YR⟩:=z.out.r.TN o;have hgg:m=O:=by
   have U:v.a2=aK ⟨O,0,aJ⟩:=Z;rw[HA2.out]at U;simpa using U
  subst hgg;have rO:∀j,j<6->wc.cell? ⟨m,i*6+j,aJ⟩=(dX y)[j]? /\wc.frozen? ⟨m,i*6+j,aJ⟩=false:=λj hj=>by
   have h:=YR j hj;have e:({v with hc:=b}:Sc).ys[i]=y:=HY.out;rw[e]at h;exact h
  have f:y∈({v with hc:=b}:Sc).ys:=by rw[<- HY.out];exact gL hi
  have HSL:Hid ((nT y).on wc 0):=(z.out.r.y f).2.1;have YT:Hid (aK m≠(aA y.a2 y.n2 y.c2).ownBlock):=λe=>z.out.r.aCn o HY.out Z e.symm
  have x4:=(rO 4 (by decide)).1;have y4:=(rO 4 (by decide)).2;simp only[dX,vI,gC,gD]at x4;have M:=gO Z;have HHI:=gO o;have hr:Hid ({w:=s.w,h:=A,cs:=s.cs}={s with h:=A}):=rfl;clear YR rO Z o f;have X4:=gO x4;have Y4:=gO y4;go_wp2_with (go_at_call 122;refine(Vx 0 y.a2 y.n2 y.c2 y.c.sl k wc HSL.out aKd (by omega) (gU _)).mono ?_;rintro ev w5 ⟨rfl,C,K⟩;have q4:=(World.cell?_of_block (w:=wc) (a:=⟨m,i*6+4,aJ⟩) (K.block m Jj YT.out)).trans X4.out;have p4:=(World.frozen?_of_block (w:=wc) (a:=⟨m,i*6+4,aJ⟩) (K.block m Jj YT.out)).trans Y4.out)
  obtain⟨v',t1,t2,t3⟩:=z.out.Ym HHI.out HY.out C K (λk' U=> .inl (by unfold nT;rw[aKc.out]at U ⊢;exact U)) M.out;have t4:SS (w5.setCell ⟨m,i*6+4,aJ⟩ (aA y.a2 (y.n2-1) y.c2)) G X (s.discard i k cpu) v':=by
   rw[HDS.out];exact t1
  exact bodyPost_ret (v:=aG #[]) (by simp[results,results79,go_sem]) rfl ⟨rfl,v',t4,HFx.out.trans t2,t3⟩
def Sy.push (s:Sy)(i k a:Nat):Sy:=match s.cs[i]? with
 | some c=>match c.sl[k]? with
  | some x=>{s with w:=s.w.set a x.h,cs:=s.cs.set i {c with sl:=c.sl.set k ⟨x.p,x.n+1,(a:Int)⟩}}
  | none=>s
 | none=>s
def Ca.spare (c:Ca)(k:Nat):Bool:=match c.sl[k]? with
 | some x=>c.idle x&&decide (1<(c.sl.filter c.idle).length)
 | none=>false
def Sy.spare (s:Sy)(i k:Nat):Bool:=match s.cs[i]? with
 | some c=>c.spare k
 | none=>false
def Sy.free (s:Sy)(i k a cpu:Nat):Sy:=if(s.push i k a).spare i k then(s.push i k a).discard i k cpu else s.push i k a
theorem Uh {a:Nat}(hi:s.cs[i]? =aK c)(hx:c.sl[k]? =aK x):s.push i k a={s with w:=s.w.set a x.h,cs:=s.cs.set i {c with sl:=c.sl.set k ⟨x.p,x.n+1,(a:Int)⟩}}:=by
 unfold Sy.push;rw[hi];simp only[hx]
theorem FZ {a:Nat}{u b:Int}(hb:0<=b)(h:b≠(a:Int)):(w.set a u).getD b.toNat 0=w.getD b.toNat 0:=by
 rw[List.getD_eq_getElem?_getD,List.getElem?_set_ne (by omega),<- List.getD_eq_getElem?_getD]
theorem bQ.push (hk:bQ s){a:Nat}(hi:s.cs[i]? =aK c)(hx:c.sl[k]? =aK x)(ho:mX s.w c x a):
 bQ (s.push i k a)/\(∀j b,(s.push i k a).away j b↔s.away j b/\¬(j=i/\b=a))/\(s.push i k a).cs[i]? =aK {c with sl:=c.sl.set k ⟨x.p,x.n+1,(a:Int)⟩}:=by
 have W:=(gK.1 hi).1;have F:=gM hi;have B:=gM hx;obtain⟨G,D⟩:=gK.1 hx;have f:=hk.ck c F;obtain⟨I,hout⟩:=ho;obtain⟨l,h1,h2,h3⟩:=(f.sk x B).chain;have hal:=hout l h1;obtain⟨f1,f2,f3,f4⟩:=aAB.1 h1;have hnd:((a:Int)::l).Nodup:=List.nodup_cons.2 ⟨hal,f4⟩;have T:=IV (c:=c) (p:=x.p) f.z.1 hnd λb hb=>by
  rcases gY.1 hb with rfl | hb
  ·exact I
  ·exact h3 b hb
 have S:=jK f.room I;have hlow:(a:Int)<4096:=by
  obtain⟨b,hb,hb1,hb2⟩:=(f.sk x B).live;obtain⟨_,_,h4,h5⟩:=(hk.hk.lv b hb).1;have hor:c.o<=2:=by rw[f.o];exact lK _
  rw[hb1,hb2]at h5;rw[hb1]at h4;generalize c.o=o at*;obtain rfl | rfl | rfl:o=0∨o=1∨o=2:=by omega
  ·simp only[Nat.pow_zero]at S;omega
  ·simp only[Nat.pow_one]at S h5;omega
  ·have e4:(2:Nat)^2=4:=rfl;rw[e4]at S h5;omega
 have Y:∀d∈s.cs,∀y∈d.sl,y.p≠x.p->∀b:Int,iC d y.p b=true->(s.w.set a x.h).getD b.toNat 0=s.w.getD b.toNat 0:=λd q y g H b hb=>by
  have h6:=(jV hb).1;refine FZ (by omega) λe=>H ?_
  exact hk.Nv q F g B hb (by rw[e];exact I)
 have L:(s.w.set a x.h).length=s.w.length:=by simp
 have JV:follow (s.w.set a x.h) (a:Int) c.r=aK ((a:Int)::l):=by
  rw[aAB];refine⟨⟨rfl,?_⟩,λb hb=> ?_,λ_=>by exact_mod_cast T,hnd⟩
  ·have e:(s.w.set a x.h).getD ((a:Int)).toNat 0=x.h:=by
    rw[List.getD_eq_getElem?_getD,Int.toNat_natCast,List.getElem?_set_self (by rw[hk.wl];omega)];rfl
   rw[e];exact f1.move λb hb=>FZ (f2 b hb).1 λe=>hal (e▸hb)
  ·rw[L];rcases gY.1 hb with rfl | hb
   ·rw[hk.wl];omega
   ·exact f2 b hb
 rw[Uh hi hx];have M:∀d∈s.cs,∀y∈d.sl,y.p≠x.p->vV {s with w:=s.w.set a x.h,cs:=s.cs.set i {c with sl:=c.sl.set k ⟨x.p,x.n+1,(a:Int)⟩}} d y:=λd q y g H=>
  ((hk.ck d q).sk y g).move rfl rfl rfl (λb hb=>hb) L (Y d q y g H)
 have V:∀j (t:j<c.sl.length),j≠k->c.sl[j].p≠x.p:=λj t R e=>by
  rw[<- D]at e;have U:=f.sr;rw[gN]at U;rcases Nat.lt_or_gt_of_ne R with h | h
  ·have:=U j k t G h;omega
  ·have:=U k j G t h;omega
 have X:∀j,j≠i->∀d,s.cs[j]? =aK d->∀y∈d.sl,y.p≠x.p:=λj t d q y g e=>by
  obtain⟨Z,hjd⟩:=gK.1 q;obtain⟨aD2,J⟩:=gK.1 hi;have hp:=hk.pd;rw[gN]at hp;rcases Nat.lt_or_gt_of_ne t with h | h
  ·exact hp j i Z W h y (by rw[hjd];exact g) x (by rw[J];exact B) e
  ·exact hp i j W Z h x (by rw[J];exact B) y (by rw[hjd];exact g) e.symm
 have aD3:vV {s with w:=s.w.set a x.h,cs:=s.cs.set i {c with sl:=c.sl.set k ⟨x.p,x.n+1,(a:Int)⟩}} {c with sl:=c.sl.set k ⟨x.p,x.n+1,(a:Int)⟩} ⟨x.p,x.n+1,(a:Int)⟩:=
  ⟨(f.sk x B).live,(a:Int)::l,JV,by simp[h2],λb hb=>by
   rcases gY.1 hb with rfl | hb
   ·exact I
   ·exact h3 b hb⟩
 have aKe:qJ {s with w:=s.w.set a x.h,cs:=s.cs.set i {c with sl:=c.sl.set k ⟨x.p,x.n+1,(a:Int)⟩}} {c with sl:=c.sl.set k ⟨x.p,x.n+1,(a:Int)⟩}:=by
  refine⟨f.z,f.o,f.r,f.ns,f.nm,f.nr,f.ac,?_,λy g=> ?_,λb hb=> ?_,f.ad⟩
  ·have h8:=f.sr;rw[gN]at h8 ⊢;intro j m t E O;have v:j<c.sl.length:=by simpa using t
   have Q:m<c.sl.length:=by simpa using E
   have C:=h8 j m v Q O;simp only[List.getElem_set];split
   ·rename_i e1;subst e1;rw[if_neg (by omega)];rw[D]at C;exact C
   ·split
    ·rename_i e1;subst e1;rw[D]at C;exact C
    ·exact C
  ·obtain⟨j,t,e⟩:=List.mem_iff_getElem.1 g;have v:j<c.sl.length:=by simpa using t
   rw[List.getElem_set]at e;split at e
   ·rw[<- e];exact aD3
   ·rename_i R;have C:=M c F _ (gL v) (V j v λe=>R e.symm);rw[e]at C;exact⟨C.live,C.chain⟩
  ·rcases f.aw b hb with h | ⟨z,hz,h⟩
   ·exact .inl h
   ·refine .inr ?_;obtain⟨j,t,e⟩:=List.mem_iff_getElem.1 hz;refine⟨(c.sl.set k ⟨x.p,x.n+1,(a:Int)⟩)[j]'(by simpa using t),gL _,?_⟩;rw[List.getElem_set];split
    ·rename_i e1;subst e1;rw[D]at e;rw[e];exact h
    ·rw[e];exact h
 have hpm:∀y∈c.sl.set k ⟨x.p,x.n+1,(a:Int)⟩,∃z∈c.sl,z.p=y.p:=λy g=>by
  rcases List.mem_or_eq_of_mem_set g with h | rfl
  ·exact⟨y,h,rfl⟩
  ·exact⟨x,B,rfl⟩
 have hset:∀j (d:Ca),j<s.cs.length->j≠i->s.cs[j]? =aK d->qJ {s with w:=s.w.set a x.h,cs:=s.cs.set i {c with sl:=c.sl.set k ⟨x.p,x.n+1,(a:Int)⟩}} d:=λj d t N q=>
  (hk.ck d (gM q)).move rfl λy g=>M d (gM q) y g (X j N d q y g)
 have aKf:bQ {s with w:=s.w.set a x.h,cs:=s.cs.set i {c with sl:=c.sl.set k ⟨x.p,x.n+1,(a:Int)⟩}}:=by
  have h8:=(hk.upd (s':={s with cs:=s.cs.set i {c with sl:=c.sl.set k ⟨x.p,x.n,x.h⟩}}) (c':={c with sl:=c.sl.set k ⟨x.p,x.n,x.h⟩}) hi hk.wl hk.hk rfl rfl rfl ?_ (λd q=>(hk.ck d q).move rfl (λy g=>⟨((hk.ck d q).sk y g).live,((hk.ck d q).sk y g).chain⟩)) (λy g=> .inl ?_))
  ·have K:∀{P:Ca->Ca->Prop},s.cs.Pairwise P->(∀d,P d c->P d {c with sl:=c.sl.set k ⟨x.p,x.n+1,(a:Int)⟩})->(∀d,P c d->P {c with sl:=c.sl.set k ⟨x.p,x.n+1,(a:Int)⟩} d)->(s.cs.set i {c with sl:=c.sl.set k ⟨x.p,x.n+1,(a:Int)⟩}).Pairwise P:=fun{P} h g1 g2=>by
    obtain⟨aD2,J⟩:=gK.1 hi;rw[gN]at h ⊢;intro j m t E O;have v:j<s.cs.length:=by simpa using t
    have Q:m<s.cs.length:=by simpa using E
    have C:=h j m v Q O;simp only[List.getElem_set];split
    ·rename_i e1;subst e1;rw[if_neg (by omega)];rw[J]at C;exact g2 _ C
    ·split
     ·rename_i e1;subst e1;rw[J]at C;exact g1 _ C
     ·exact C
   refine⟨by show(s.w.set a x.h).length=4096;rw[L];exact hk.wl,hk.hk,by show(s.cs.set i _).length<=20;rw[List.length_set];exact hk.cl,λd q=> ?_,K hk.zd (λ_ h=>h) (λ_ h=>h),K hk.nd (λ_ h=>h) (λ_ h=>h),K hk.pd (λd h y g z hz=> ?_) (λd h y g z hz=> ?_)⟩
   ·obtain⟨j,t,e⟩:=List.mem_iff_getElem.1 q;have v:j<s.cs.length:=by simpa using t
    rw[List.getElem_set]at e;split at e
    ·rw[<- e];exact aKe
    ·rename_i N;exact hset j d v (λe=>N e.symm) (by rw[gJ v,e])
   ·obtain⟨z',hz',e⟩:=hpm z hz;rw[<- e];exact h y g z' hz'
   ·obtain⟨y',hy',e⟩:=hpm y g;rw[<- e];exact h y' hy' z hz
  ·rw[show c.sl.set k ⟨x.p,x.n,x.h⟩=c.sl by
    have:(⟨x.p,x.n,x.h⟩:Sl)=c.sl[k]:=D.symm;rw[this,List.set_getElem_self]]
   exact f.move rfl (λy g=>⟨(f.sk y g).live,(f.sk y g).chain⟩)
  ·rcases List.mem_or_eq_of_mem_set g with h | rfl
   ·exact⟨y,h,rfl⟩
   ·exact⟨x,B,rfl⟩
 refine⟨aKf,λj b=> ?_,by show(s.cs.set i _)[i]? =_;rw[List.getElem?_set_self W]⟩;have hst:=pY (s':={s with w:=s.w.set a x.h,cs:=s.cs.set i {c with sl:=c.sl.set k ⟨x.p,x.n+1,(a:Int)⟩}}) (c':={c with sl:=c.sl.set k ⟨x.p,x.n+1,(a:Int)⟩}) hi rfl b;have u:∀d∈s.cs,∀y∈d.sl,y.p≠x.p->(mX (s.w.set a x.h) d y b↔mX s.w d y b):=λd q y g H=>
  xX (((hk.ck d q).sk y g).Dt (s':={s with w:=s.w.set a x.h}) L (Y d q y g H)) b
 by_cases t:j=i
 ·subst t;rw[hst.1,oC hi,QH G,IX G,D,mY h1];have h8:mX (s.w.set a x.h) {c with sl:=c.sl.set k ⟨x.p,x.n+1,(a:Int)⟩} ⟨x.p,x.n+1,(a:Int)⟩ b↔iC c x.p b=true/\b∉(a:Int)::l:=mY (x:=⟨x.p,x.n+1,(a:Int)⟩) (c:={c with sl:=c.sl.set k ⟨x.p,x.n+1,(a:Int)⟩}) JV b;have C:(∃j,∃h:j<c.sl.length,j≠k/\mX (s.w.set a x.h) {c with sl:=c.sl.set k ⟨x.p,x.n+1,(a:Int)⟩} c.sl[j] b)↔(∃j,∃h:j<c.sl.length,j≠k/\mX s.w c c.sl[j] b):=by
   constructor
   ·rintro⟨m,E,A,h⟩;exact⟨m,E,A,(u c F _ (gL E) (V m E A)).1 h⟩
   ·rintro⟨m,E,A,h⟩;exact⟨m,E,A,(u c F _ (gL E) (V m E A)).2 h⟩
  show(∃j,∃h:j<c.sl.length,j≠k/\mX (s.w.set a x.h) {c with sl:=c.sl.set k ⟨x.p,x.n+1,(a:Int)⟩} c.sl[j] b)∨mX (s.w.set a x.h) {c with sl:=c.sl.set k ⟨x.p,x.n+1,(a:Int)⟩} ⟨x.p,x.n+1,(a:Int)⟩ b↔_;rw[h8,C,gY];constructor
  ·rintro(⟨m,E,A,h⟩ | ⟨h,h'⟩)
   ·refine⟨.inl ⟨m,E,A,h⟩,λe=> ?_⟩;obtain⟨_,rfl⟩:=e;exact A (hk.XK hi E G h.1 (by rw[D];exact I))
   ·exact⟨.inr ⟨h,λe=>h' (.inr e)⟩,λe=>h' (.inl e.2)⟩
  ·rintro⟨h | ⟨h,h'⟩,h2'⟩
   ·exact .inl h
   ·exact .inr ⟨h,λe=>e.elim (λe=>h2' ⟨rfl,e⟩) h'⟩
 ·rw[hst.2 j t];unfold Sy.away;constructor
  ·rintro⟨d,q,y,g,h⟩;exact⟨⟨d,q,y,g,(u d (gM q) y g (X j t d q y g)).1 h⟩,λe=>t e.1⟩
  ·rintro⟨⟨d,q,y,g,h⟩,_⟩;exact⟨d,q,y,g,(u d (gM q) y g (X j t d q y g)).2 h⟩
theorem zH (hk:bQ s){cpu:Nat}(hi:s.cs[i]? =aK c)(hx:c.sl[k]? =aK x):∃hl:lb s.h.live x.p<s.h.live.length,s.h.live[lb s.h.live x.p].a=x.p/\
 s.discard i k cpu={s with h:=s.h.iD cpu (lb s.h.live x.p) s.h.live[lb s.h.live x.p],cs:=s.cs.set i {c with sl:=c.sl.eraseIdx k}}:=by
 obtain⟨d,_,f⟩:=((hk.ck c (gM hi)).sk x (gM hx)).at hk.hk;refine⟨d,?_,?_⟩
 ·unfold hasB at f;obtain⟨b,hb,e⟩:=List.any_eq_true.1 f;have g:=lX hk.hk.vs hb;rw[of_decide_eq_true e,gJ d]at g;rw[gP g];exact of_decide_eq_true e
 ·unfold Sy.discard;rw[hi];simp only[hx,gJ d]
theorem bQ.discard (hk:bQ s)(hi:s.cs[i]? =aK c)(hx:c.sl[k]? =aK x)(hn:c.r<=x.n)(ha:∀b∈c.ac,b≠(x.p:Int))(bJ:cpu<s.h.aAh):
 bQ (s.discard i k cpu)/\(∀j b,(s.discard i k cpu).away j b↔s.away j b)/\(s.discard i k cpu).h.aAh=s.h.aAh/\(s.discard i k cpu).cs=s.cs.set i {c with sl:=c.sl.eraseIdx k}/\(∀b∈(s.discard i k cpu).h.live,b∈s.h.live/\b.a≠x.p)/\(s.discard i k cpu).w=s.w:=by
 have U:=(gK.1 hi).1;have O:=gM hi;have I:=gM hx;obtain⟨D,G⟩:=gK.1 hx;have f:=hk.ck c O;obtain⟨L,X,he⟩:=zH hk (cpu:=cpu) hi hx;obtain⟨g1,g2,g3,g4⟩:=hk.hk.iD bJ L;have hpk:∀j (g:j<c.sl.length),j≠k->c.sl[j].p≠x.p:=λj g hjk e=>by
  rw[<- G]at e;have E:=f.sr;rw[gN]at E;rcases Nat.lt_or_gt_of_ne hjk with h | h
  ·have:=E j k g D h;omega
  ·have:=E k j D g h;omega
 have hpd:∀j,j≠i->∀d,s.cs[j]? =aK d->∀y∈d.sl,y.p≠x.p:=λj g d M y q e=>by
  obtain⟨R,S⟩:=gK.1 M;obtain⟨aD2,t⟩:=gK.1 hi;have hp:=hk.pd;rw[gN]at hp;rcases Nat.lt_or_gt_of_ne g with h | h
  ·exact hp j i R U h y (by rw[S];exact q) x (by rw[t];exact I) e
  ·exact hp i j U R h x (by rw[t];exact I) y (by rw[S];exact q) e.symm
 rw[he];have F:∀b∈s.h.live,b.a≠x.p->b∈(s.h.iD cpu (lb s.h.live x.p) s.h.live[lb s.h.live x.p]).live:=λb hb C=>by
  rw[g4,List.mem_eraseIdx_iff_getElem];obtain⟨j,g,e⟩:=List.mem_iff_getElem.1 hb;refine⟨j,g,λY=> ?_,e⟩;subst Y;rw[e]at X;exact C X
 have A:∀d∈s.cs,∀y∈d.sl,y.p≠x.p->vV {s with h:=s.h.iD cpu (lb s.h.live x.p) s.h.live[lb s.h.live x.p],cs:=s.cs.set i {c with sl:=c.sl.eraseIdx k}} d y:=λd M y q hyp=>by
  obtain⟨b,hb,W,hb2⟩:=((hk.ck d M).sk y q).live;exact⟨⟨b,F b hb (by rw[W];exact hyp),W,hb2⟩,((hk.ck d M).sk y q).chain⟩
 have u:∀{P:Ca->Ca->Prop},s.cs.Pairwise P->(∀d,P d c->P d {c with sl:=c.sl.eraseIdx k})->(∀d,P c d->P {c with sl:=c.sl.eraseIdx k} d)->(s.cs.set i {c with sl:=c.sl.eraseIdx k}).Pairwise P:=fun{P} h g1 g2=>by
  obtain⟨aD2,t⟩:=gK.1 hi;rw[gN]at h ⊢;intro j m g N hjm;have H:j<s.cs.length:=by simpa using g
  have Z:m<s.cs.length:=by simpa using N
  have v:=h j m H Z hjm;simp only[List.getElem_set];split
  ·rename_i e1;subst e1;rw[if_neg (by omega)];rw[t]at v;exact g2 _ v
  ·split
   ·rename_i e1;subst e1;rw[t]at v;exact g1 _ v
   ·exact v
 have B:∀y∈c.sl.eraseIdx k,y∈c.sl:=λy q=>(List.eraseIdx_sublist _ _).subset q
 refine⟨⟨hk.wl,g1,by show(s.cs.set i _).length<=20;rw[List.length_set];exact hk.cl,λd M=> ?_,u hk.zd (λ_ h=>h) (λ_ h=>h),u hk.nd (λ_ h=>h) (λ_ h=>h),u hk.pd (λd h y q z T=>h y q z (B z T)) (λd h y q z T=>h y (B y q) z T)⟩,λj b=> ?_,g3.aAh,rfl,λb hb=> ?_,rfl⟩
 ·obtain⟨j,g,e⟩:=List.mem_iff_getElem.1 M;have H:j<s.cs.length:=by simpa using g
  rw[List.getElem_set]at e;split at e
  ·rw[<- e];refine⟨f.z,f.o,f.r,f.ns,f.nm,f.nr,by rw[show _=_ from g3.aAh];exact f.ac,f.sr.sublist (List.eraseIdx_sublist _ _),λy q=> ?_,λb hb=> ?_,f.ad⟩
   ·rw[List.mem_eraseIdx_iff_getElem]at q;obtain⟨m,N,hmk,e⟩:=q;have v:=A c O _ (gL N) (hpk m N hmk);rw[e]at v;exact⟨v.live,v.chain⟩
   ·rcases f.aw b hb with h | ⟨z,T,h⟩
    ·exact .inl h
    ·refine .inr ⟨z,?_,h⟩;rw[List.mem_eraseIdx_iff_getElem];obtain⟨m,N,ez⟩:=List.mem_iff_getElem.1 T;refine⟨m,N,λY=> ?_,ez⟩;subst Y;rw[G]at ez;exact ha b hb (by rw[<- h,ez])
  ·rename_i hji;have J:s.cs[j]? =aK d:=by rw[gJ H,e]
   exact(hk.ck d (gM J)).move g3.aAh λy q=>A d (gM J) y q (hpd j (λe=>hji e.symm) d J y q)
 ·have Q:=pY (s':={s with h:=s.h.iD cpu (lb s.h.live x.p) s.h.live[lb s.h.live x.p],cs:=s.cs.set i {c with sl:=c.sl.eraseIdx k}}) (c':={c with sl:=c.sl.eraseIdx k}) hi rfl b;by_cases g:j=i
  ·subst g;rw[Q.1,oC hi,Nw,IX D,G];obtain⟨l,h1,h2,h3⟩:=(f.sk x I).chain;constructor
   ·exact λh=> .inl h
   ·rintro(h | h)
    ·exact h
    ·exfalso;rw[mY h1]at h;exact h.2 (IW f.z.1 (aAB.1 h1).2.2.2 h3 (by omega) h.1)
  ·rw[Q.2 j g];exact Iff.rfl
 ·have V:b∈s.h.live.eraseIdx (lb s.h.live x.p):=by
   rw[<- g4];exact hb
  rw[List.mem_eraseIdx_iff_getElem]at V;obtain⟨j,g,C,e⟩:=V;refine⟨by rw[<- e];exact gL g,λY=>C ?_⟩;have K:=hk.hk.vs;rw[gN]at K;rcases Nat.lt_trichotomy j (lb s.h.live x.p)with h | h | h
  ·have:=K j _ g L h;rw[e]at this;omega
  ·exact h
  ·have:=K _ j L g h;rw[e]at this;omega
theorem wW :(s.discard i k cpu).sig=s.sig:=by
 unfold Sy.discard;cases hc:s.cs[i]? with
 | none=>rfl
 | some c=>
  simp only;cases hx:c.sl[k]? with
  | none=>rfl
  | some x=>
   simp only;split
   ·exact iQ hc rfl
   ·rfl
theorem OI {a:Nat}:(s.push i k a).sig=s.sig:=by
 unfold Sy.push;cases hc:s.cs[i]? with
 | none=>rfl
 | some c=>
  simp only;cases hx:c.sl[k]? with
  | none=>rfl
  | some x=>exact iQ hc rfl
theorem OJ {a:Nat}:(s.free i k a cpu).sig=s.sig:=by
 unfold Sy.free;split
 ·exact wW.trans OI
 ·exact OI
theorem OL :(s.discard i k cpu).nss=s.nss:=lY wW
theorem Zj {a:Nat}:(s.free i k a cpu).nss=s.nss:=lY OJ
def Ca.dQ (c:Ca)(m:Nat):Ca:={c with ac:=List.replicate (min m c.ac.length) (-1)++c.ac.drop m}
def Sy.dQ (s:Sy)(i m:Nat):Sy:=match s.cs[i]? with
 | some c=>s.fB i (c.dQ m)
 | none=>s
def Sy.lQ (s:Sy)(i k:Nat):Sy:=match s.cs[i]? with
 | some c=>match c.sl[k]? with
  | some x=>if x.n=c.r then s.discard i k 0 else s
  | none=>s
 | none=>s
def Sy.shr (s:Sy)(i:Nat):Nat->Sy
 | 0=>s
 | m+1=>(s.lQ i m).shr i m
def Sy.shrink (s:Sy)(i:Nat):Sy:=match s.cs[i]? with
 | some c=>(s.dQ i c.ac.length).shr i c.sl.length
 | none=>s
theorem Wn (c:Ca):(c.dQ c.ac.length).ac=List.replicate c.ac.length (-1):=by
 unfold Ca.dQ;simp
theorem RJ (c:Ca):c.dQ 0=c:=by
 unfold Ca.dQ;simp
theorem RN (hm:m<c.ac.length):(c.dQ m).ac.set m (-1)=(c.dQ (m+1)).ac:=by
 unfold Ca.dQ;simp only;rw[List.set_append_right _ _ (by simp;omega),List.length_replicate,Nat.min_eq_left (by omega),Nat.sub_self,Nat.min_eq_left (by omega),List.drop_eq_getElem_cons hm,gG,List.replicate_succ',List.append_assoc];rfl
theorem Wp :(c.dQ m).ac.length=c.ac.length:=by
 unfold Ca.dQ;simp;omega
theorem OM (hi:s.cs[i]? =aK c):s.dQ i m=s.fB i (c.dQ m):=by
 unfold Sy.dQ;rw[hi]
theorem bQ.dQ (hk:bQ s)(hi:s.cs[i]? =aK c):
 bQ (s.dQ i c.ac.length)/\(∀j b,(s.dQ i c.ac.length).away j b↔s.away j b)/\(s.dQ i c.ac.length).h=s.h/\(s.dQ i c.ac.length).cs=s.cs.set i {c with ac:=List.replicate c.ac.length (-1)}/\(s.dQ i c.ac.length).w=s.w:=by
 have e:=hk.ck c (gM hi);have q:c.dQ c.ac.length={c with ac:=List.replicate c.ac.length (-1)}:=by
  have h:=Wn c;unfold Ca.dQ at h ⊢;simp only at h;rw[h]
 rw[OM hi,q];refine⟨hk.upd hi (c':={c with ac:=List.replicate c.ac.length (-1)}) hk.wl hk.hk rfl rfl rfl ?_ (λd k=>(hk.ck d k).move rfl (λy f=>⟨((hk.ck d k).sk y f).live,((hk.ck d k).sk y f).chain⟩)) (λy f=> .inl ⟨y,f,rfl⟩),λj b=> ?_,rfl,rfl,rfl⟩
 ·refine⟨e.z,e.o,e.r,e.ns,e.nm,e.nr,by rw[List.length_replicate];exact e.ac,e.sr,λy f=>⟨(e.sk y f).live,(e.sk y f).chain⟩,λa p=> .inl (List.mem_replicate.1 p).2,?_⟩;rw[gN];intro j l m t n _;simp
 ·have g:=pY (s':=s.fB i {c with ac:=List.replicate c.ac.length (-1)}) (c':={c with ac:=List.replicate c.ac.length (-1)}) hi rfl b;by_cases m:j=i
  ·subst m;rw[g.1,oC hi];exact Iff.rfl
  ·rw[g.2 j m];exact Iff.rfl
def AQ (s:Sy)(i m:Nat):Prop:=∃c,s.cs[i]? =aK c/\(∀b∈c.ac,b= -1)/\m<=c.sl.length
theorem bQ.lQ (hk:bQ s)(h:AQ s i (k+1)):
 bQ (s.lQ i k)/\(∀j b,(s.lQ i k).away j b↔s.away j b)/\(s.lQ i k).h.aAh=s.h.aAh/\AQ (s.lQ i k) i k/\(s.lQ i k).cs.length=s.cs.length/\(s.lQ i k).nss=s.nss:=by
 obtain⟨c,a,e,p⟩:=h;have f:=(gK.1 a).1;have l:c.sl[k]? =aK (c.sl[k]'(by omega)):=gJ _;unfold Sy.lQ;rw[a];simp only[l];split
 ·rename_i hn;have d:0<s.h.aAh:=hk.hk.cp.1;obtain⟨n,m,o,g,_,_⟩:=hk.discard (cpu:=0) a l (by omega) (λb hb=>by have:=e b hb;omega) d;refine⟨n,m,o,⟨{c with sl:=c.sl.eraseIdx k},by rw[g,List.getElem?_set_self f],e,?_⟩,by rw[g,List.length_set],OL⟩;show k<=(c.sl.eraseIdx k).length;rw[List.length_eraseIdx_of_lt (by omega)];omega
 ·exact⟨hk,λj b=>Iff.rfl,rfl,⟨c,a,e,by omega⟩,rfl,rfl⟩
def Sy.destroy (s:Sy)(i:Nat)(n:List UInt8):Option Sy:=match s.cs[i]? with
 | some c=>if 1<c.ns.length then aK (s.fB i {c with ns:=c.ns.eraseIdx (Dk c.ns n)})else if c.sl.any (λx=>decide (x.n<c.r))then aJ else aK {s.shrink i with cs:=(s.shrink i).cs.eraseIdx i}
 | none=>aJ
theorem bQ.shr :∀{m:Nat} {s:Sy},bQ s->AQ s i m->bQ (s.shr i m)/\(∀j b,(s.shr i m).away j b↔s.away j b)/\(s.shr i m).h.aAh=s.h.aAh/\(s.shr i m).cs.length=s.cs.length/\(s.shr i m).nss=s.nss
 | 0,s,hk,_=>⟨hk,λ_ _=>Iff.rfl,rfl,rfl,rfl⟩
 | m+1,s,hk,h=>by
  obtain⟨h1,h2,h3,h4,h5,h6⟩:=hk.lQ h;obtain⟨e,c,f,d,a⟩:=bQ.shr h1 h4;exact⟨e,λj b=>(c j b).trans (h2 j b),f.trans h3,d.trans h5,a.trans h6⟩
theorem bQ.shrink (hk:bQ s)(hi:i<s.cs.length):bQ (s.shrink i)/\(∀j b,(s.shrink i).away j b↔s.away j b)/\(s.shrink i).h.aAh=s.h.aAh/\(s.shrink i).cs.length=s.cs.length/\(s.shrink i).nss=s.nss:=by
 have c:s.cs[i]? =aK s.cs[i]:=gJ hi;obtain⟨l,k,m,a,p⟩:=hk.dQ c;unfold Sy.shrink;rw[c];simp only;have n:AQ (s.dQ i s.cs[i].ac.length) i s.cs[i].sl.length:=⟨{s.cs[i]with ac:=List.replicate s.cs[i].ac.length (-1)},by rw[a,List.getElem?_set_self hi],λb hb=>(List.mem_replicate.1 hb).2,gT _⟩
 obtain⟨g,e,o,d,f⟩:=l.shr n;refine⟨g,λj b=>(e j b).trans (k j b),by rw[o,m],by rw[d,a,List.length_set],f.trans ?_⟩;unfold Sy.nss;rw[a];exact iQ c rfl
def Sy.whole (s:Sy)(b:Bk):Prop:=b∈s.h.live/\∀c∈s.cs,∀x∈c.sl,x.p≠b.a
theorem tJ {α:Type}{l:List α}{c c' d:α}(hi:l[i]? =aK c):d∈l.set i c'↔d=c'∨∃j,j≠i/\l[j]? =aK d:=by
 obtain⟨f,g⟩:=gK.1 hi;constructor
 ·intro h;obtain⟨j,a,e⟩:=List.mem_iff_getElem.1 h;rw[List.length_set]at a;rw[List.getElem_set]at e;split at e
  ·exact .inl e.symm
  ·rename_i hne;exact .inr ⟨j,λk=>hne k.symm,by rw[gJ a,e]⟩
 ·rintro(rfl | ⟨j,a,h⟩)
  ·exact List.mem_iff_getElem.2 ⟨i,by simpa using f,by simp⟩
  ·obtain⟨b,e⟩:=gK.1 h;exact List.mem_iff_getElem.2 ⟨j,by simpa using b,by rw[List.getElem_set,if_neg λe=>a e.symm,e]⟩
def Sy.OO (s:Sy)(p:Nat):Prop:=∃c∈s.cs,∃x∈c.sl,x.p=p
theorem cO {b:Bk}:s.whole b↔b∈s.h.live/\¬s.OO b.a:=by
 unfold Sy.whole Sy.OO;constructor
 ·rintro⟨f,d⟩;exact⟨f,fun⟨c,g,x,i,e⟩=>d c g x i e⟩
 ·rintro⟨f,d⟩;exact⟨f,λc g x i e=>d ⟨c,g,x,i,e⟩⟩
theorem Ew {c':Ca}(hi:s.cs[i]? =aK c)(hcs:s'.cs=s.cs.set i c')(p:Nat):s'.OO p↔(∃x∈c'.sl,x.p=p)∨∃j,j≠i/\∃d,s.cs[j]? =aK d/\∃x∈d.sl,x.p=p:=by
 unfold Sy.OO;rw[hcs];constructor
 ·rintro⟨d,a,h⟩;rcases(tJ hi).1 a with rfl | ⟨j,b,a⟩
  ·exact .inl h
  ·exact .inr ⟨j,b,d,a,h⟩
 ·rintro(h | ⟨j,b,d,a,h⟩)
  ·exact⟨c',(tJ hi).2 (.inl rfl),h⟩
  ·exact⟨d,(tJ hi).2 (.inr ⟨j,b,a⟩),h⟩
theorem RP (hi:s.cs[i]? =aK c)(p:Nat):s.OO p↔(∃x∈c.sl,x.p=p)∨∃j,j≠i/\∃d,s.cs[j]? =aK d/\∃x∈d.sl,x.p=p:=by
 refine Ew (s':=s) hi ?_ p;obtain⟨b,a⟩:=gK.1 hi;rw[<- a,List.set_getElem_self]
theorem wX {c':Ca}(hi:s.cs[i]? =aK c)(hcs:s'.cs=s.cs.set i c')(h:∀p,(∃x∈c'.sl,x.p=p)↔∃x∈c.sl,x.p=p)(p:Nat):s'.OO p↔s.OO p:=by
 rw[Ew hi hcs,RP hi,h]
theorem OQ {l:List Sl}{x':Sl}(hx:l[k]? =aK x)(hp:x'.p=x.p)(p:Nat):(∃y∈l.set k x',y.p=p)↔∃y∈l,y.p=p:=by
 obtain⟨a,b⟩:=gK.1 hx;rw[QH a,IX a,b,hp]
theorem Zk (p:Nat):(s.mine i cpu k).OO p↔s.OO p:=by
 unfold Sy.mine;cases hc:s.cs[i]? with
 | none=>rfl
 | some c=>
  simp only;cases hx:c.sl[k]? with
  | none=>rfl
  | some x=>exact wX (s':=s.fB i {c with ac:=c.ac.set cpu (x.p:Int)}) (c':={c with ac:=c.ac.set cpu (x.p:Int)}) hc rfl (λ_=>Iff.rfl) p
theorem CS :(s.mine i cpu k).h=s.h/\(s.mine i cpu k).w=s.w:=by
 unfold Sy.mine;cases hc:s.cs[i]? with
 | none=>exact⟨rfl,rfl⟩
 | some c=>
  simp only;cases hx:c.sl[k]? with
  | none=>exact⟨rfl,rfl⟩
  | some x=>exact⟨rfl,rfl⟩
theorem Gf (b:Bk):(s.mine i cpu k).whole b↔s.whole b:=by
 rw[cO,cO,Zk,CS.1]
theorem Zl {t:Sy}(h:s.pop i k=aK (t,a)):∃c x,s.cs[i]? =aK c/\c.sl[k]? =aK x/\t=s.fB i {c with sl:=c.sl.set k ⟨x.p,x.n-1,s.w.getD x.h.toNat 0⟩}/\a=x.h:=by
 unfold Sy.pop at h;cases hc:s.cs[i]? with
 | none=>rw[hc]at h;cases h
 | some c=>
  rw[hc]at h;simp only at h;cases hx:c.sl[k]? with
  | none=>rw[hx]at h;cases h
  | some x=>
   rw[hx]at h;have b:=gP h;rw[Prod.mk.injEq]at b;exact⟨c,x,rfl,hx,b.1.symm,b.2.symm⟩
theorem Wq {t:Sy}(h:s.pop i k=aK (t,a))(b:Bk):t.whole b↔s.whole b:=by
 obtain⟨c,x,e,f,rfl,_⟩:=Zl h;rw[cO,cO];have d:=wX (s':=s.fB i {c with sl:=c.sl.set k ⟨x.p,x.n-1,s.w.getD x.h.toNat 0⟩}) e rfl (OQ (x':=⟨x.p,x.n-1,s.w.getD x.h.toNat 0⟩) f rfl) b.a;rw[d];exact Iff.rfl
theorem rP {l:List Bk}{b x:Bk}:x∈bI l b↔x=b∨x∈l:=by
 refine⟨IL,λc=> ?_⟩;unfold bI;rw[<- List.take_append_drop (lb l b.a) l]at c;simp only[gZ,gY]at c ⊢;rcases c with h | h | h
 ·exact .inr (.inl h)
 ·exact .inl h
 ·exact .inr (.inr h)
def Sy.lw (s:Sy)(q:Nat):Prop:=∃b∈s.h.live,16*b.a<=q/\q<16*(b.a+2^b.o)
theorem bQ.OT (hk:bQ s)(hi:s.cs[i]? =aK c)(bJ:cpu<s.h.aAh)(hg:s.grow i cpu c=aK (s',k)):
 ∃a,s'.cs=s.cs.set i {c with sl:=pW c.sl ⟨a,c.r,((16*a:Nat):Int)⟩}/\s'.h.live=bI s.h.live ⟨a,c.o,0⟩/\(∀b∈s.h.live,apartB a c.o b)/\∀q,s.lw q->s'.w.getD q 0=s.w.getD q 0:=by
 have e:=hk.ck c (gM hi);have j:c.o<=4:=by rw[e.o];exact gQ (lK _) (by decide)
 obtain⟨y,a,p,rfl,rfl⟩:=Jk hg;obtain⟨B,t,n,d,x⟩:=hk.hk.alloc bJ j (by decide) p;have g:y.live=bI s.h.live ⟨a,c.o,0⟩:=d;have f:∀b∈s.h.live,apartB a c.o b:=λb hb=>dH λq v u=>by
  have l:=B.one q;rw[dJ,g,sJ]at l;have A:0<cnt s.h.live q:=jC.2 ⟨b,hb,u⟩;have D:hit (⟨a,c.o,0⟩:Bk) q=1:=jT.2 v;omega
 refine⟨a,rfl,g,f,λq ⟨b,hb,v,u⟩=> ?_⟩;refine qP _ _ _ _ _ (gT _) _ ?_ e.z.1;have l:=f b hb;unfold apartB Bk.fin at l;have A:=e.room;rw[Nat.mul_comm c.z c.r];generalize c.r*c.z=m at*;generalize 2^c.o=C at*;generalize 2^b.o=E at*;omega
theorem bQ.RQ (hk:bQ s)(hi:s.cs[i]? =aK c)(bJ:cpu<s.h.aAh)(hg:s.grow i cpu c=aK (s',k))(b:Bk):s'.whole b↔s.whole b:=by
 obtain⟨a,p,f,n,_⟩:=hk.OT hi bJ hg;have m:∀b∈s.h.live,b.a≠a:=λb hb e=>by
  have h:=n b hb;unfold apartB Bk.fin at h;have d:=Nat.two_pow_pos c.o;have g:=Nat.two_pow_pos b.o;omega
 rw[cO,cO,f,rP,Ew hi p,RP hi];constructor
 ·rintro⟨d,g⟩;have l:b.a≠a:=λe=>g (.inl ⟨_,oG.2 (.inl rfl),e.symm⟩)
  rcases d with rfl | d
  ·exact absurd rfl l
  ·refine⟨d,λh=>g ?_⟩;rcases h with ⟨x,j,e⟩ | h
   ·exact .inl ⟨x,oG.2 (.inr j),e⟩
   ·exact .inr h
 ·rintro⟨d,g⟩;refine⟨.inr d,λh=>g ?_⟩;rcases h with ⟨x,j,e⟩ | h
  ·rcases oG.1 j with rfl | j
   ·exact absurd e.symm (m b d)
   ·exact .inl ⟨x,j,e⟩
  ·exact .inr h
theorem bQ.LJ (hk:bQ s)(hi:s.cs[i]? =aK c)(bJ:cpu<s.h.aAh)(hg:s.choose i cpu=aK (s',k)):(∀b,s'.whole b↔s.whole b)/\∀q,s.lw q->s'.w.getD q 0=s.w.getD q 0:=by
 unfold Sy.choose at hg;rw[hi]at hg;simp only at hg;split at hg
 ·have a:=gP hg;rw[Prod.mk.injEq]at a;rw[<- a.1];exact⟨λ_=>Iff.rfl,λ_ _=>rfl⟩
 ·split at hg
  ·have a:=gP hg;rw[Prod.mk.injEq]at a;rw[<- a.1];exact⟨λb=>Gf b,λq _=>by rw[CS.2]⟩
  ·split at hg
   ·rename_i heq;have a:=gP hg;rw[Prod.mk.injEq]at a;rw[<- a.1];obtain⟨_,_,_,_,e⟩:=hk.OT hi bJ heq;exact⟨λb=>(Gf b).trans (hk.RQ hi bJ heq b),λq d=>by rw[CS.2];exact e q d⟩
   ·cases hg
theorem bQ.Ws (hk:bQ s)(hi:s.cs[i]? =aK c)(bJ:cpu<s.h.aAh)(hg:s.one i cpu=aK (s',a)):(∀b,s'.whole b↔s.whole b)/\∀q,s.lw q->s'.w.getD q 0=s.w.getD q 0:=by
 unfold Sy.one at hg;cases hch:s.choose i cpu with
 | none=>rw[hch]at hg;cases hg
 | some r=>
  obtain⟨e,k⟩:=r;rw[hch]at hg;simp only at hg;obtain⟨j,f⟩:=hk.LJ hi bJ hch;obtain⟨_,_,_,_,l,_⟩:=Zl hg;have g:s'.w=e.w:=by rw[l];rfl
  exact⟨λb=>(Wq hg b).trans (j b),λq d=>by rw[g];exact f q d⟩
theorem Gg {a:Nat}(b:Bk):(s.push i k a).whole b↔s.whole b:=by
 unfold Sy.push;cases hc:s.cs[i]? with
 | none=>rfl
 | some c=>
  simp only;cases hx:c.sl[k]? with
  | none=>rfl
  | some x=>
   simp only;rw[cO,cO];have d:=wX (s':={s with w:=s.w.set a x.h,cs:=s.cs.set i {c with sl:=c.sl.set k ⟨x.p,x.n+1,(a:Int)⟩}}) hc rfl (OQ (x':=⟨x.p,x.n+1,(a:Int)⟩) hx rfl) b.a;rw[d]
theorem aD4 {a:Nat}:(s.push i k a).h=s.h/\∀q,q≠a->(s.push i k a).w.getD q 0=s.w.getD q 0:=by
 unfold Sy.push;cases hc:s.cs[i]? with
 | none=>exact⟨rfl,λ_ _=>rfl⟩
 | some c=>
  simp only;cases hx:c.sl[k]? with
  | none=>exact⟨rfl,λ_ _=>rfl⟩
  | some x=>
   refine⟨rfl,λq b=> ?_⟩;show(s.w.set a x.h).getD q 0=_;rw[List.getD_eq_getElem?_getD,List.getElem?_set_ne (λe=>b e.symm),<- List.getD_eq_getElem?_getD]
theorem bQ.LK (hk:bQ s)(hi:s.cs[i]? =aK c)(hx:c.sl[k]? =aK x)(bJ:cpu<s.h.aAh)(b:Bk):b∈(s.discard i k cpu).h.live↔b∈s.h.live/\b.a≠x.p:=by
 obtain⟨g,m,q⟩:=zH hk (cpu:=cpu) hi hx;obtain⟨_,_,_,o⟩:=hk.hk.iD bJ g;rw[q];show b∈(s.h.iD cpu (lb s.h.live x.p) s.h.live[lb s.h.live x.p]).live↔_;rw[o,List.mem_eraseIdx_iff_getElem];constructor
 ·rintro⟨j,l,d,e⟩;refine⟨by rw[<- e];exact gL l,λn=>d ?_⟩;have f:=hk.hk.vs;rw[gN]at f;rcases Nat.lt_trichotomy j (lb s.h.live x.p)with h | h | h
  ·have:=f j _ l g h;rw[e]at this;omega
  ·exact h
  ·have:=f _ j g l h;rw[e]at this;omega
 ·rintro⟨hb,d⟩;obtain⟨j,l,e⟩:=List.mem_iff_getElem.1 hb;refine⟨j,l,λn=> ?_,e⟩;subst n;rw[e]at m;exact d m
theorem bQ.yT (hk:bQ s)(hi:s.cs[i]? =aK c)(hx:c.sl[k]? =aK x)(bJ:cpu<s.h.aAh)(b:Bk):(s.discard i k cpu).whole b↔s.whole b:=by
 have g:(s.discard i k cpu).cs=s.cs.set i {c with sl:=c.sl.eraseIdx k}:=by
  obtain⟨_,_,l⟩:=zH hk (cpu:=cpu) hi hx;rw[l]
 obtain⟨d,j⟩:=gK.1 hx;rw[cO,cO,hk.LK hi hx bJ,Ew hi g,RP hi,Nw,IX d,j];constructor
 ·rintro⟨⟨f,a⟩,m⟩;refine⟨f,λh=>m ?_⟩;rcases h with (h | h) | h
  ·exact .inl h
  ·exact absurd h.symm a
  ·exact .inr h
 ·rintro⟨f,a⟩;refine⟨⟨f,λe=>a (.inl (.inr e.symm))⟩,λh=>a ?_⟩;rcases h with h | h
  ·exact .inl (.inl h)
  ·exact .inr h
theorem bQ.free (hk:bQ s){a:Nat}(hi:s.cs[i]? =aK c)(hx:c.sl[k]? =aK x)(ho:mX s.w c x a)(bJ:cpu<s.h.aAh):
 bQ (s.free i k a cpu)/\(∀j b,(s.free i k a cpu).away j b↔s.away j b/\¬(j=i/\b=a))/\(s.free i k a cpu).h.aAh=s.h.aAh/\(∀b,(s.free i k a cpu).whole b↔s.whole b)/\∀q,q≠a->(s.free i k a cpu).w.getD q 0=s.w.getD q 0:=by
 obtain⟨r,u,t⟩:=hk.push hi hx ho;have l:=aD4 (s:=s) (i:=i) (k:=k) (a:=a);obtain⟨o,B⟩:=gK.1 hx;have f:(c.sl.set k ⟨x.p,x.n+1,(a:Int)⟩)[k]? =aK ⟨x.p,x.n+1,(a:Int)⟩:=List.getElem?_set_self o;unfold Sy.free;split
 ·rename_i hsp;unfold Sy.spare at hsp;rw[t]at hsp;unfold Ca.spare at hsp;simp only[f,Bool.and_eq_true]at hsp;have d:=hsp.1;unfold Ca.idle at d;simp only[Bool.and_eq_true,decide_eq_true_eq,Bool.not_eq_true']at d;have m:∀b∈c.ac,b≠(x.p:Int):=λb hb e=>by
   have v:=d.2;rw[<- e,List.contains_iff_mem.2 hb]at v;cases v
  have g:cpu<(s.push i k a).h.aAh:=by rw[l.1];exact bJ
  obtain⟨C,z,D,E,F,y⟩:=r.discard (cpu:=cpu) t f (Nat.le_of_eq d.1.symm) m g;exact⟨C,λj b=>(z j b).trans (u j b),by rw[D,l.1],λb=>(r.yT t f g b).trans (Gg b),λq A=>by rw[y];exact l.2 q A⟩
 ·exact⟨r,u,by rw[l.1],Gg,l.2⟩
theorem bQ.OU (hk:bQ s)(h:AQ s i (k+1)):(∀b,(s.lQ i k).whole b↔s.whole b)/\(s.lQ i k).w=s.w:=by
 obtain⟨c,d,g,j⟩:=h;have e:c.sl[k]? =aK (c.sl[k]'(by omega)):=gJ _;unfold Sy.lQ;rw[d];simp only[e];split
 ·rename_i hn;have a:0<s.h.aAh:=hk.hk.cp.1;obtain⟨_,_,_,_,_,f⟩:=hk.discard (cpu:=0) d e (by omega) (λb hb=>by have:=g b hb;omega) a;exact⟨λb=>hk.yT d e a b,f⟩
 ·exact⟨λb=>Iff.rfl,rfl⟩
theorem bQ.Jo :∀{m:Nat} {s:Sy},bQ s->AQ s i m->(∀b,(s.shr i m).whole b↔s.whole b)/\(s.shr i m).w=s.w
 | 0,s,hk,_=>⟨λ_=>Iff.rfl,rfl⟩
 | m+1,s,hk,h=>by
  obtain⟨h1,_,_,h4,_,_⟩:=hk.lQ h;obtain⟨e,a⟩:=hk.OU h;obtain⟨d,c⟩:=bQ.Jo h1 h4;exact⟨λb=>(d b).trans (e b),c.trans a⟩
theorem bQ.OV (hk:bQ s)(hi:s.cs[i]? =aK c):AQ (s.dQ i c.ac.length) i c.sl.length:=by
 obtain⟨_,_,_,d,_⟩:=hk.dQ hi;have a:=(gK.1 hi).1;exact⟨{c with ac:=List.replicate c.ac.length (-1)},by rw[d,List.getElem?_set_self a],λb hb=>(List.mem_replicate.1 hb).2,gT _⟩
theorem bQ.LM (hk:bQ s)(hi:i<s.cs.length):(∀b,(s.shrink i).whole b↔s.whole b)/\(s.shrink i).w=s.w:=by
 have c:s.cs[i]? =aK s.cs[i]:=gJ hi;obtain⟨h,_,k,g,j⟩:=hk.dQ c;obtain⟨f,e⟩:=bQ.Jo h (hk.OV c);unfold Sy.shrink;rw[c];simp only;refine⟨λb=>(f b).trans ?_,e.trans j⟩;rw[cO,cO,k];have d:=wX (s':=s.dQ i s.cs[i].ac.length) c g (λ_=>Iff.rfl) b.a;rw[d]
theorem bQ.Zm (hk:bQ s)(hc:s.cs[i]? =aK c):c.sl.any (λx=>decide (x.n<c.r))=true↔∃a,s.away i a:=by
 have b:=hk.ck c (gM hc);rw[List.any_eq_true];constructor
 ·rintro⟨x,d,h⟩;obtain⟨l,e,k,g⟩:=(b.sk x d).chain;obtain⟨a,m,o⟩:=UY (c:=c) (p:=x.p) (l:=l) b.z.1 (by have:=of_decide_eq_true h;omega);exact⟨a,(oC hc a).2 ⟨x,d,(mY e a).2 ⟨m,o⟩⟩⟩
 ·rintro⟨a,j⟩;obtain⟨x,d,f⟩:=(oC hc a).1 j;obtain⟨l,e,k,g⟩:=(b.sk x d).chain;refine⟨x,d,gTg ?_⟩;apply Decidable.byContradiction;intro h;rw[mY e]at f;exact f.2 (IW b.z.1 (aAB.1 e).2.2.2 g (by omega) f.1)
theorem kX (s:Sy)(n:List UInt8):s.named n=s.nss.findIdx? (λl=>l.contains n):=by
 unfold Sy.named Sy.nss;rw[List.findIdx?_map];rfl
theorem RS (v:Sc)(s:Sy)(i k:Nat)(a:Int)(l:List Int)(w:World)(hs:lZ w v s)(hk:bQ s)(hf:∀c∈s.cs,c.ns.length<=1000)(hi:i<s.cs.length)(hkk:k<s.cs[i].sl.length)(hob:iC s.cs[i] s.cs[i].sl[k].p a=true)(hfl:follow s.w s.cs[i].sl[k].h s.cs[i].r=aK l)(hal:a∉l):
 Calls prog 18 #[aC #[aA v.a1 v.n1 v.c1,aA v.hc.az 2 v.hc.cz,aA v.hc.am 2 v.hc.cm,aB aI (s.h.aAh:Int),aA v.hc.al v.hc.lc.length v.hc.cl,aA v.hc.av s.h.live.length v.hc.cv,aA v.a2 v.ys.length v.c2],aB aI a] w λev w'=>ev=aN (aG #[aB aI i,aB aI k,aB aI 0])/\Below w.heap.size w w':=by
 obtain⟨K0,F0,Z,O⟩:=boxes1 w #[aA v.a1 v.n1 v.c1,aA v.hc.az 2 v.hc.cz,aA v.hc.am 2 v.hc.cm,aB aI (s.h.aAh:Int),aA v.hc.al v.hc.lc.length v.hc.cl,aA v.hc.av s.h.live.length v.hc.cv,aA v.a2 v.ys.length v.c2] 42;have HS:=gO (hs.below O);have HB:=gO O;have HK:=gO hk;have HK0:=gO K0;have qI:=gO (kE v s _ (hs.below O) hk hf);have hyl:v.ys.length<=20:=by have:=congrArg List.length hs.cy;rw[gTe]at this;rw[this];exact hk.cl
 have Zo:v.ys.length=s.cs.length:=by have:=congrArg List.length hs.cy;simpa using this
 have hab:0<=a/\a<4096:=by
  have h1:=jK (hk.ck _ (gL hi)).room hob;obtain⟨b,hb,hb1,G⟩:=((hk.ck _ (gL hi)).sk _ (gL hkk)).live;obtain⟨⟨_,_,h3,h4⟩,_⟩:=hk.hk.lv b hb;have h5:s.cs[i].o<=2:=by rw[(hk.ck _ (gL hi)).o];exact lK _
  rw[hb1]at h3 h4;rw[G]at h4;generalize s.cs[i].o=o at*;obtain rfl | rfl | rfl:o=0∨o=1∨o=2:=by omega
  ·omega
  ·omega
  ·omega
 have aBk:=gO Zo;have HOB:=gO hob;have HFL:=gO hfl;have Ef:=gO hal;obtain⟨k0,k1,k2,k3,k4,k5,k6⟩:=gA7 K0;clear hs hk hf O K0 F0 hob hfl hal Zo;go_enter func18,ntmps18
 go_upto_region 1 with fail
 generalize w.alloc _=w1 at*;go_upto_region 4 with (go_at_call 11;refine qI.out.mono ?_;rintro ev w2 ⟨rfl,G⟩)
 have HB2:=gO G;have k6':=(G.cell (p:=⟨w.heap.size,6,aJ⟩) Z).trans k6;clear k0 k1 k2 k3 k4 k5 k6 qI G;go_wp2_with fail
 clear k6';go_loopw [22] (λs22 wr=>∃(f:Nat),f<=i/\s22=aB aI (f:Int)/\Hid (Below w1.heap.size w1 wr)) (λs22 _=>v.ys.length-(intOf s22).toNat)
 case atStart=>exact⟨0,gU _,rfl,HB2⟩
 case round=>
  obtain⟨f,hi',rfl,nM⟩:=hrel;have L:f<v.ys.length:=by rw[aBk.out];omega
  have hic:f<s.cs.length:=by omega
  have KO:(f:Int)<v.ys.length:=by omega
  have P:v.ys[f].c=s.cs[f]:=by
   have h1:=congrArg (·[f]?) HS.out.cy;simp[L,hic]at h1;exact h1
  have kG:=HS.out.below nM.out;obtain⟨bb,off,hba,hbb,hbc⟩:=aAw eH (by decide) kG.rc L;obtain⟨e0,e1,e2,e3,e4,e5⟩:=kP hbc;have M:=kG.ca _ (gL L);have F:=HK.out.ck _ (gL hic);rw[<- P]at F;have aCD:∀(c:Ca),c=s.cs[f]->∀g x,c.sl[g]? =aK x->¬(f=i/\g=k)->iC c x.p a=false:=λc hc g x hx X=>by
   subst hc;obtain⟨hk',e⟩:=gK.1 hx;cases h:iC s.cs[f] x.p a with
   | false=>rfl
   | true=>
    rw[<- e]at h;exact absurd (HK.out.only hic hi hk' hkk h HOB.out) X
  have aCE:∀(c:Ca),c=s.cs[f]->f=i->∃x,c.sl[k]? =aK x/\iC c x.p a=true/\follow s.w x.h c.r=aK l:=λc hc he=>by
   subst hc;subst he;exact⟨_,gJ hkk,HOB.out,HFL.out⟩
  have RU:=aCD _ P;have RV:=aCE _ P;obtain⟨y,hy⟩:∃y,v.ys[f]=y:=⟨_,rfl⟩
  rw[hy]at RU RV;rw[hy]at e0 e1 e2 e3 e4 e5 M F;have HON:=gO RU;have HTH:=gO RV;have HY:=gO hy;have hsl:=F.mW HK.out.hk;have hl2:=M.l2;have hn2:y.n2<=256:=by omega
  have HL2:=gO hl2;have Lm:=gO M;have K:=gO F;have HA:=gO hba;rw[hba];clear hbc hba P kG hbb aCD aCE RU RV hy hl2 hsl M F;go_upto_region 7 with fail
  have hb6:=aAq wr (aO #[aA y.a1 y.n1 y.c1,aB aI (y.c.z:Int),aB aI (y.c.r:Int),aB aI (y.c.o:Int),aA y.a2 y.n2 y.c2,aA y.a3 y.n3 y.c3] 67);have K6:=aQ wr #[aA y.a1 y.n1 y.c1,aB aI (y.c.z:Int),aB aI (y.c.r:Int),aB aI (y.c.o:Int),aA y.a2 y.n2 y.c2,aA y.a3 y.n3 y.c3] 67;have hs6:wr.heap.size<(wr.alloc (aO #[aA y.a1 y.n1 y.c1,aB aI (y.c.z:Int),aB aI (y.c.r:Int),aB aI (y.c.o:Int),aA y.a2 y.n2 y.c2,aA y.a3 y.n3 y.c3] 67)).heap.size:=by simp
  have HB6:=gO (gW nM.out hb6);have HC6:=gO (Lm.out.below hb6);have HK6:=gO K6;have k4:=K6 4;simp only[gB,gC,gD]at k4;clear hb6 K6 e0 e1 e2 e3 e4 e5 Lm nM;obtain⟨we,rfl⟩:∃we,we=wr:=⟨_,rfl⟩
  generalize we.alloc _=w6 at*;obtain⟨BC,hBC⟩:∃B,we.heap.size=B:=⟨_,rfl⟩
  rw[hBC]at HK6 hs6 k4 ⊢;clear hBC;go_wp2_with fail
  clear k4;go_loopw [30] (λs30 wr=>∃(g:Nat),g<=y.n2/\(f=i->g<=k)/\s30=aB aI (g:Int)/\Hid (Below w1.heap.size w1 wr)/\BC<wr.heap.size/\Hid (∀o,wr.cell? ⟨BC,o,aJ⟩=(#[aA y.a1 y.n1 y.c1,aB aI (y.c.z:Int),aB aI (y.c.r:Int),aB aI (y.c.o:Int),aA y.a2 y.n2 y.c2,aA y.a3 y.n3 y.c3]:Array Value)[o]?)) (λs30 _=>y.n2-(intOf s30).toNat)
  case atStart=>exact⟨0,gU _,λ_=>gU _,rfl,HB6,hs6,HK6⟩
  case round=>
   obtain⟨g,hkn,u,rfl,HBk,hsk,HKk⟩:=hrel;clear HB6 hs6 HK6 HC6;have hsr:=HS.out.below HBk.out;have Gh:=hsr.ca _ (gL L);rw[HY.out]at Gh;by_cases hkl:g<y.n2
   ·have hki:(g:Int)<y.n2:=by omega
    have Q:g<y.c.sl.length:=by rw[HL2.out];exact hkl
    obtain⟨sb,so,I,LH,vX⟩:=aAw aAv (by decide) Gh.r2 Q;obtain⟨n0,n1,n2⟩:=fV vX;have hxp:=(K.out.sk _ (gL Q)).BM HK.out.hk;have Y:y.c.sl[g]? =aK y.c.sl[g]:=gJ Q;have HXN:=gO (HON.out g _ Y);have aKi:=gO Gh;have HXG:=gO Y;generalize y.c.sl[g]=x at*;rw[I];have b9:=aAq wr (aO #[aB aI (x.p:Int),aB aI (x.n:Int),aB aI x.h] 99);have KX:=aQ wr #[aB aI (x.p:Int),aB aI (x.n:Int),aB aI x.h] 99;have hs9:wr.heap.size<(wr.alloc (aO #[aB aI (x.p:Int),aB aI (x.n:Int),aB aI x.h] 99)).heap.size:=by simp
    have j:=gO (gW HBk.out b9);have m:=aAp HKk.out hsk b9;have RX:=gI hsk b9.size;have m0:=KX 0;have m1:=KX 1;have m2:=KX 2;have c0:=m 0;have c1:=m 1;have c2:=m 2;have c3:=m 3;have U:=m 4;have c5:=m 5;simp only[gB,gC,gD]at m0 m1 m2 c0 c1 c2 c3 U c5;rw[I]at U;have C:=gO m;have Ui:=gO KX;have Ij:=gO (λW=>yY y.c y.a1 y.a2 y.a3 y.n1 y.c1 y.n2 y.c2 y.n3 y.c3 x.p a W K.out.z.1 (gQ K.out.rz (by decide)) (by omega) (by omega) (by omega));rw[I]at Ij;have HSB:=gO I;clear vX hsr Gh Q Y m KX I;go_upto_region 10 with fail
    clear n0 n1 n2;generalize (wr.alloc _)=w9 at*;generalize wr.heap.size=BX at*;by_cases he:f=i/\g=k
    ·obtain⟨he1,he2⟩:=he;obtain⟨V,N,Zp,aD8⟩:=HTH.out he1;have hxx:V=x:=by
      have E:=HXG.out;rw[he2,N]at E;exact gP E
     subst hxx;rw[Zp]at Ij;obtain⟨l2,aD9,Zq,RY⟩:=(K.out.sk V (gM N)).chain;rw[aD8]at aD9;obtain rfl:=gP aD9;have hlb:∀b∈l,0<=b/\b<=1000000:=λb hb=>by
      have E:=jK K.out.room (RY b hb);have h8:y.c.o<=2:=by rw[K.out.o];exact lK _
      have h7:2^y.c.o<=4:=by
       generalize y.c.o=o at*;obtain rfl | rfl | rfl:o=0∨o=1∨o=2:=by omega
       all_goals decide
      generalize 2^y.c.o=q at*;omega
     have aEa:=(K.out.sk V (gM N)).QE;have VY:=K.out.r64;have hxn:V.n<=1000000:=by omega
     have hn1:v.n1<=4096:=by rw[<- HS.out.lw,HK.out.wl];exact gT _
     have R:l.length<=1000000:=by omega
     have OB:Hid (∀W,Below w9.heap.size w9 W->Calls prog 44 #[aC #[aA v.a1 v.n1 v.c1,aA v.hc.az 2 v.hc.cz,aA v.hc.am 2 v.hc.cm,aB aI s.h.aAh,aA v.hc.al v.hc.lc.length v.hc.cl,aA v.hc.av s.h.live.length v.hc.cv,aA (aK ⟨bb,off,aJ⟩) v.ys.length v.c2],aC #[aA y.a1 y.n1 y.c1,aB aI y.c.z,aB aI y.c.r,aB aI y.c.o,aA (aK ⟨sb,so,aJ⟩) y.n2 y.c2,aA y.a3 y.n3 y.c3],aC #[aB aI V.p,aB aI V.n,aB aI V.h]] W λev w'=>∃(a':Option Addr) (c':Nat),ev=aN (aG #[aA a' l.length c',.bool true])/\Row w' a' (l.map vI)/\Below W.heap.size W w'):=λW hW=>by
      have E:=Au v.a1 v.hc.az v.hc.am v.hc.al v.hc.av (aK ⟨bb,off,aJ⟩) v.n1 v.c1 v.hc.cz v.hc.cm v.hc.lc.length v.hc.cl s.h.live.length v.hc.cv v.ys.length v.c2 s.h.aAh s.w y V l W HS.out.lw hn1 ((HS.out.below (j.out.trans (hW.mono j.out.size))).rw) K.out.z.1 (gQ K.out.rz (by decide)) (by omega) aD8 Zq RY hlb hxn;rw[HSB.out]at E;exact E
     have hnc:vU l a=false:=by
      unfold vU;rw[<- Bool.not_eq_true,List.contains_iff_mem];exact Ef.out
     have HNC:=gO hnc;have k0':=(j.out.cell (p:=⟨w.heap.size,0,aJ⟩) Z)
     have A:Hid (∀W,Below w9.heap.size w9 W->∀o,W.cell? ⟨w.heap.size,o,aJ⟩=(#[aA v.a1 v.n1 v.c1,aA v.hc.az 2 v.hc.cz,aA v.hc.am 2 v.hc.cm,aB aI (s.h.aAh:Int),aA v.hc.al v.hc.lc.length v.hc.cl,aA v.hc.av s.h.live.length v.hc.cv,aA v.a2 v.ys.length v.c2]:Array Value)[o]?):=λW hW=>aAp HK0.out Z (j.out.trans (hW.mono j.out.size))
     have Ik:=gO R;clear k0' hnc hlb Zq RY aEa VY aD8 N Zp HXN HXG HTH HON R;go_upto_region 11 with (go_at_call 43;refine(Ij.out _).mono ?_;rintro ev w10 ⟨rfl,H⟩)
     have t:=A.out w10 H;have d:=aAp C.out RX H;have D:=aAp Ui.out hs9 H;clear m0 m1 m2 c0 c1 c2 c3 U c5 aD9;have p0:=t 0;have p1:=t 1;have p2:=t 2;have p3:=t 3;have p4:=t 4;have p5:=t 5;have p6:=t 6;have c0:=d 0;have c1:=d 1;have c2:=d 2;have c3:=d 3;have U:=d 4;have c5:=d 5;have m0:=D 0;have m1:=D 1;have m2:=D 2;simp only[gB,gC,gD]at p0 p1 p2 p3 p4 p5 p6 c0 c1 c2 c3 U c5 m0 m1 m2;rw[HA.out]at p6;rw[HSB.out]at U;have HC11:=gO (OB.out w10 H);have J:=gO (gW j.out H);have hi0:(f:Int)=i:=by omega
     have hk0:(g:Int)=k:=by omega
     have HI0:=gO hi0;have aOw:=gO hk0;clear t d D H C Ui j Ij OB A hi0 hk0 he1 he2;go_upto_region 12 with (go_at_call 44;refine HC11.out.mono ?_;rintro ev w11 ⟨a',c',rfl,T,aBl⟩)
     have FK:=gO (jS a' c' l a w11 (by have:=Ik.out;omega) T);rw[HNC.out]at FK;clear p0 p1 p2 p3 p4 p5 p6 c0 c1 c2 c3 U c5 m0 m1 m2 T;go_wp2_with (go_at_call 45;refine FK.out.mono ?_;rintro ev w12 ⟨rfl,rfl⟩)
     exact bodyPost_ret (v:=aG #[aB aI (i:Int),aB aI (k:Int),aB aI 0]) (by simp[results,results18,go_sem]) rfl ⟨rfl,gW HB.out (gW J.out aBl)⟩
    ·have Zp:=HXN.out he;rw[Zp]at Ij;clear Zp;go_upto_region 15 with (go_at_call 43;refine(Ij.out _).mono ?_;rintro ev w10 ⟨rfl,H⟩)
     have J:=gO (gW j.out H);have S:=gO (aAp C.out RX H);have Zr:=gI RX H.size;have hke:f=i->g+1<=k:=λE=>by
      have:=u E;have:g≠k:=λh8=>he ⟨E,h8⟩
      omega
     have HKE:=gO hke;clear m0 m1 m2 c0 c1 c2 c3 U c5 H C Ui j Ij hke u he;go_wp2
     go_roundw
     case rel=>exact⟨g+1,by omega,HKE.out,by go_num,J,Zr,(by rw[HSB.out]at S;exact S)⟩
     case measure=>simp[intOf];omega
   ·obtain rfl:g=y.n2:=by omega
    have X:f≠i:=λE=>by
     obtain⟨x,hx,_⟩:=HTH.out E;have h8:=(gK.1 hx).1;have h7:=u E;have h6:=HL2.out;omega
    have hii:f+1<=i:=by omega
    clear hsr Gh u X;go_wp2
    go_roundw
    case rel=>exact⟨f+1,hii,by go_num,HBk⟩
    case measure=>simp[intOf];omega
def Sy.eF (s:Sy)(i k:Nat)(a:Int):Prop:=∃c x,s.cs[i]? =aK c/\c.sl[k]? =aK x/\mX s.w c x a
theorem dI :s.away i a↔∃k,s.eF i k a:=by
 constructor
 ·rintro⟨c,d,x,f,b⟩;obtain⟨k,g,e⟩:=List.mem_iff_getElem.1 f;exact⟨k,c,x,d,by rw[gJ g,e],b⟩
 ·rintro⟨k,c,x,d,f,b⟩;exact⟨c,d,x,gM f,b⟩
theorem bQ.vF (hk:bQ s){j l:Nat}(h1:s.eF i k a)(h2:s.eF j l a):i=j/\k=l:=by
 obtain⟨c,x,o,q,g⟩:=h1;obtain⟨d,y,f,n,e⟩:=h2;obtain⟨p,rfl⟩:=gK.1 o;obtain⟨h,rfl⟩:=gK.1 f;obtain⟨b,rfl⟩:=gK.1 q;obtain⟨m,rfl⟩:=gK.1 n;exact hk.only p h b m g.1 e.1
def DK (s:Sy)(a:Int)(ev:Ending):Prop:=(∃i k,s.eF i k a/\ev=aN (aG #[aB aI (i:Int),aB aI (k:Int),aB aI 0]))∨((∀i k,¬s.eF i k a)/\ev=aN (aG #[aB aI 0,aB aI 0,aB aI 4]))
def OW (s:Sy)(a:Int)(n:Nat):Prop:=∀i c,i<n->s.cs[i]? =aK c->∀x∈c.sl,iC c x.p a=false
theorem OW.none (h:OW s a s.cs.length):∀i k,¬s.eF i k a:=λi k ⟨c,x,d,f,e⟩=>by
 have b:=h i c (gK.1 d).1 d x (gM f);rw[e.1]at b;cases b
theorem bQ.Zt (hk:bQ s)(hc:s.cs[i]? =aK c)(hx:c.sl[k]? =aK x)(ho:iC c x.p a=true)(hl:follow s.w x.h c.r=aK l)(ha:a∈l):∀j m,¬s.eF j m a:=λj m h=>by
 obtain⟨d,y,g,o,b⟩:=h;obtain⟨q,rfl⟩:=gK.1 hc;obtain⟨n,rfl⟩:=gK.1 g;obtain⟨e,rfl⟩:=gK.1 hx;obtain⟨f,rfl⟩:=gK.1 o;obtain⟨rfl,rfl⟩:=hk.only q n e f ho b.1;exact b.2 l hl ha
theorem yC (v:Sc)(s:Sy)(a:Int)(w:World)(hs:lZ w v s)(hk:bQ s)(hf:∀c∈s.cs,c.ns.length<=1000)(hab: -1000000<=a/\a<=1000000):
 Calls prog 18 #[aC #[aA v.a1 v.n1 v.c1,aA v.hc.az 2 v.hc.cz,aA v.hc.am 2 v.hc.cm,aB aI (s.h.aAh:Int),aA v.hc.al v.hc.lc.length v.hc.cl,aA v.hc.av s.h.live.length v.hc.cv,aA v.a2 v.ys.length v.c2],aB aI a] w λev w'=>DK s a ev/\Below w.heap.size w w':=by
 obtain⟨K0,F0,Q,J⟩:=boxes1 w #[aA v.a1 v.n1 v.c1,aA v.hc.az 2 v.hc.cz,aA v.hc.am 2 v.hc.cm,aB aI (s.h.aAh:Int),aA v.hc.al v.hc.lc.length v.hc.cl,aA v.hc.av s.h.live.length v.hc.cv,aA v.a2 v.ys.length v.c2] 42;have HS:=gO (hs.below J);have HB:=gO J;have HK:=gO hk;have HK0:=gO K0;have qI:=gO (kE v s _ (hs.below J) hk hf);have hyl:v.ys.length<=20:=by have:=congrArg List.length hs.cy;rw[gTe]at this;rw[this];exact hk.cl
 have Zo:v.ys.length=s.cs.length:=by have:=congrArg List.length hs.cy;simpa using this
 have aBk:=gO Zo;obtain⟨k0,k1,k2,k3,k4,k5,k6⟩:=gA7 K0;clear hs hk hf J K0 F0 Zo;go_enter func18,ntmps18
 go_upto_region 1 with fail
 generalize w.alloc _=w1 at*;go_upto_region 4 with (go_at_call 11;refine qI.out.mono ?_;rintro ev w2 ⟨rfl,Y⟩)
 have HB2:=gO Y;have k6':=(Y.cell (p:=⟨w.heap.size,6,aJ⟩) Q).trans k6;clear k0 k1 k2 k3 k4 k5 k6 qI Y;go_wp2_with fail
 clear k6';go_loopw [22] (λs22 wr=>∃(f:Nat),f<=v.ys.length/\Hid (OW s a f)/\s22=aB aI (f:Int)/\Hid (Below w1.heap.size w1 wr)) (λs22 _=>v.ys.length-(intOf s22).toNat)
 case atStart=>exact⟨0,gU _,λ_ _ h=>by omega,rfl,HB2⟩
 case round=>
  obtain⟨f,hi',VI,rfl,nM⟩:=hrel;by_cases C:f<v.ys.length
  ·have U:f<s.cs.length:=by rw[<- aBk.out];exact C
   have KO:(f:Int)<v.ys.length:=by omega
   have hel:v.ys[f].c=s.cs[f]:=by
    have h1:=congrArg (·[f]?) HS.out.cy;simp[C,U]at h1;exact h1
   have kG:=HS.out.below nM.out;obtain⟨bb,off,hba,hbb,hbc⟩:=aAw eH (by decide) kG.rc C;obtain⟨e0,e1,e2,e3,e4,e5⟩:=kP hbc;have H:=kG.ca _ (gL C);have A:=HK.out.ck _ (gL U);have I:s.cs[f]? =aK s.cs[f]:=gJ U;rw[<- hel]at A I;obtain⟨y,hy⟩:∃y,v.ys[f]=y:=⟨_,rfl⟩
   rw[hy]at e0 e1 e2 e3 e4 e5 H A I;have HY:=gO hy;have DI:=gO I;have hsl:=A.mW HK.out.hk;have hl2:=H.l2;have hn2:y.n2<=256:=by omega
   have HL2:=gO hl2;have Lm:=gO H;have G:=gO A;have HA:=gO hba;rw[hba];clear hbc hba hel kG hbb hy hl2 hsl H A I;go_upto_region 7 with fail
   have hb6:=aAq wr (aO #[aA y.a1 y.n1 y.c1,aB aI (y.c.z:Int),aB aI (y.c.r:Int),aB aI (y.c.o:Int),aA y.a2 y.n2 y.c2,aA y.a3 y.n3 y.c3] 67);have K6:=aQ wr #[aA y.a1 y.n1 y.c1,aB aI (y.c.z:Int),aB aI (y.c.r:Int),aB aI (y.c.o:Int),aA y.a2 y.n2 y.c2,aA y.a3 y.n3 y.c3] 67;have R:wr.heap.size<(wr.alloc (aO #[aA y.a1 y.n1 y.c1,aB aI (y.c.z:Int),aB aI (y.c.r:Int),aB aI (y.c.o:Int),aA y.a2 y.n2 y.c2,aA y.a3 y.n3 y.c3] 67)).heap.size:=by simp
   have HB6:=gO (gW nM.out hb6);have HC6:=gO (Lm.out.below hb6);have HK6:=gO K6;have k4:=K6 4;simp only[gB,gC,gD]at k4;clear hb6 K6 e0 e1 e2 e3 e4 e5 Lm nM;obtain⟨we,rfl⟩:∃we,we=wr:=⟨_,rfl⟩
   generalize we.alloc _=w6 at*;obtain⟨BC,hBC⟩:∃B,we.heap.size=B:=⟨_,rfl⟩
   rw[hBC]at HK6 R k4 ⊢;clear hBC;go_wp2_with fail
   clear k4;go_loopw [30] (λS wr=>∃(j:Nat),j<=y.n2/\Hid (∀d x,d<j->y.c.sl[d]? =aK x->iC y.c x.p a=false)/\S=aB aI (j:Int)/\Hid (Below w1.heap.size w1 wr)/\BC<wr.heap.size/\Hid (∀o,wr.cell? ⟨BC,o,aJ⟩=(#[aA y.a1 y.n1 y.c1,aB aI (y.c.z:Int),aB aI (y.c.r:Int),aB aI (y.c.o:Int),aA y.a2 y.n2 y.c2,aA y.a3 y.n3 y.c3]:Array Value)[o]?)) (λS _=>y.n2-(intOf S).toNat)
   case atStart=>exact⟨0,gU _,λ_ _ h=>by omega,rfl,HB6,R,HK6⟩
   case round=>
    obtain⟨j,hkn,K,rfl,HBk,hsk,HKk⟩:=hrel;clear HB6 R HK6 HC6;have T:=HS.out.below HBk.out;have Gh:=T.ca _ (gL C);rw[HY.out]at Gh;by_cases hkl:j<y.n2
    ·have hki:(j:Int)<y.n2:=by omega
     have L:j<y.c.sl.length:=by rw[HL2.out];exact hkl
     obtain⟨sb,so,E,LH,vX⟩:=aAw aAv (by decide) Gh.r2 L;obtain⟨n0,n1,n2⟩:=fV vX;have hxp:=(G.out.sk _ (gL L)).BM HK.out.hk;have hxg:y.c.sl[j]? =aK y.c.sl[j]:=gJ L;have aKi:=gO Gh;have F:=gO hxg;generalize y.c.sl[j]=x at*;rw[E];have b9:=aAq wr (aO #[aB aI (x.p:Int),aB aI (x.n:Int),aB aI x.h] 99);have KX:=aQ wr #[aB aI (x.p:Int),aB aI (x.n:Int),aB aI x.h] 99;have hs9:wr.heap.size<(wr.alloc (aO #[aB aI (x.p:Int),aB aI (x.n:Int),aB aI x.h] 99)).heap.size:=by simp
     have i:=gO (gW HBk.out b9);have X:=aAp HKk.out hsk b9;have RX:=gI hsk b9.size;have m0:=KX 0;have m1:=KX 1;have m2:=KX 2;simp only[gB,gC,gD]at m0 m1 m2;obtain⟨c0,c1,c2,c3,c4,c5⟩:=gA6 X;rw[E]at c4;have m:=gO X;have Ui:=gO KX;have Ij:=gO (λW=>yY y.c y.a1 y.a2 y.a3 y.n1 y.c1 y.n2 y.c2 y.n3 y.c3 x.p a W G.out.z.1 (gQ G.out.rz (by decide)) (by omega) (by omega) (by omega));rw[E]at Ij;have HSB:=gO E;clear vX T Gh L hxg X KX E;go_upto_region 10 with fail
     clear n0 n1 n2;generalize (wr.alloc _)=w9 at*;generalize wr.heap.size=BX at*;cases hob:iC y.c x.p a with
     | true=>
      rw[hob]at Ij;have HOB:=gO hob;obtain⟨l,V,Zq,RY⟩:=(G.out.sk x (gM F.out)).chain;have hlb:∀b∈l,0<=b/\b<=1000000:=λb hb=>by
       have h9:=jK G.out.room (RY b hb);have h8:y.c.o<=2:=by rw[G.out.o];exact lK _
       have h7:2^y.c.o<=4:=by
        generalize y.c.o=o at*;obtain rfl | rfl | rfl:o=0∨o=1∨o=2:=by omega
        all_goals decide
       generalize 2^y.c.o=q at*;omega
      have aEa:=(G.out.sk x (gM F.out)).QE;have VY:=G.out.r64;have hxn:x.n<=1000000:=by omega
      have hn1:v.n1<=4096:=by rw[<- HS.out.lw,HK.out.wl];exact gT _
      have M:l.length<=1000000:=by omega
      have OB:Hid (∀W,Below w9.heap.size w9 W->Calls prog 44 #[aC #[aA v.a1 v.n1 v.c1,aA v.hc.az 2 v.hc.cz,aA v.hc.am 2 v.hc.cm,aB aI s.h.aAh,aA v.hc.al v.hc.lc.length v.hc.cl,aA v.hc.av s.h.live.length v.hc.cv,aA (aK ⟨bb,off,aJ⟩) v.ys.length v.c2],aC #[aA y.a1 y.n1 y.c1,aB aI y.c.z,aB aI y.c.r,aB aI y.c.o,aA (aK ⟨sb,so,aJ⟩) y.n2 y.c2,aA y.a3 y.n3 y.c3],aC #[aB aI x.p,aB aI x.n,aB aI x.h]] W λev w'=>∃(a':Option Addr) (c':Nat),ev=aN (aG #[aA a' l.length c',.bool true])/\Row w' a' (l.map vI)/\Below W.heap.size W w'):=λW hW=>by
       have h9:=Au v.a1 v.hc.az v.hc.am v.hc.al v.hc.av (aK ⟨bb,off,aJ⟩) v.n1 v.c1 v.hc.cz v.hc.cm v.hc.lc.length v.hc.cl s.h.live.length v.hc.cv v.ys.length v.c2 s.h.aAh s.w y x l W HS.out.lw hn1 ((HS.out.below (i.out.trans (hW.mono i.out.size))).rw) G.out.z.1 (gQ G.out.rz (by decide)) (by omega) V Zq RY hlb hxn;rw[HSB.out]at h9;exact h9
      have HFL:=gO V;have k0':=(i.out.cell (p:=⟨w.heap.size,0,aJ⟩) Q)
      have k:Hid (∀W,Below w9.heap.size w9 W->∀o,W.cell? ⟨w.heap.size,o,aJ⟩=(#[aA v.a1 v.n1 v.c1,aA v.hc.az 2 v.hc.cz,aA v.hc.am 2 v.hc.cm,aB aI (s.h.aAh:Int),aA v.hc.al v.hc.lc.length v.hc.cl,aA v.hc.av s.h.live.length v.hc.cv,aA v.a2 v.ys.length v.c2]:Array Value)[o]?):=λW hW=>aAp HK0.out Q (i.out.trans (hW.mono i.out.size))
      have Ik:=gO M;clear k0' hlb Zq RY aEa VY V M hob;go_upto_region 11 with (go_at_call 43;refine(Ij.out _).mono ?_;rintro ev w10 ⟨rfl,D⟩)
      have K10:=k.out w10 D;have N:=aAp m.out RX D;have t:=aAp Ui.out hs9 D;clear m0 m1 m2 c0 c1 c2 c3 c4 c5;obtain⟨p0,p1,p2,p3,p4,p5,p6⟩:=gA7 K10;obtain⟨c0,c1,c2,c3,c4,c5⟩:=gA6 N;have m0:=t 0;have m1:=t 1;have m2:=t 2;simp only[gB,gC,gD]at m0 m1 m2;rw[HA.out]at p6;rw[HSB.out]at c4;have HC11:=gO (OB.out w10 D);have u:=gO (gW i.out D);clear K10 N t D m Ui i Ij OB k;go_upto_region 12 with (go_at_call 44;refine HC11.out.mono ?_;rintro ev w11 ⟨a',c',rfl,P,aBl⟩)
      have g:=jS a' c' l a w11 (by have:=Ik.out;omega) P;clear p0 p1 p2 p3 p4 p5 p6 c0 c1 c2 c3 c4 c5 m0 m1 m2 P;cases hal:vU l a with
      | false=>
       rw[hal]at g;have FK:=gO g;have HE:Hid (DK s a (aN (aG #[aB aI (f:Int),aB aI (j:Int),aB aI 0]))):= .inl ⟨f,j,⟨y.c,x,DI.out,F.out,(mY HFL.out a).2 ⟨HOB.out,λhm=>by
        unfold vU at hal;rw[List.contains_iff_mem.2 hm]at hal;cases hal⟩⟩,rfl⟩
       clear g hal;go_wp2_with (go_at_call 45;refine FK.out.mono ?_;rintro ev w12 ⟨rfl,rfl⟩)
       exact bodyPost_ret (v:=aG #[aB aI (f:Int),aB aI (j:Int),aB aI 0]) (by simp[results,results18,go_sem]) rfl ⟨HE.out,gW HB.out (gW u.out aBl)⟩
      | true=>
       rw[hal]at g;have FK:=gO g;have HE:Hid (DK s a (aN (aG #[aB aI 0,aB aI 0,aB aI 4]))):= .inr ⟨HK.out.Zt DI.out F.out HOB.out HFL.out (by
        unfold vU at hal;exact List.contains_iff_mem.1 hal),rfl⟩
       clear g hal;go_wp2_with (go_at_call 45;refine FK.out.mono ?_;rintro ev w12 ⟨rfl,rfl⟩)
       exact bodyPost_ret (v:=aG #[aB aI 0,aB aI 0,aB aI 4]) (by simp[results,results18,go_sem]) rfl ⟨HE.out,gW HB.out (gW u.out aBl)⟩
     | false=>
      rw[hob]at Ij;have aKj:Hid (∀d x,d<j+1->y.c.sl[d]? =aK x->iC y.c x.p a=false):=λd x' h1 Z=>by
       by_cases e:d<j
       ·exact K.out d x' e Z
       ·obtain rfl:d=j:=by omega
        rw[F.out]at Z;obtain rfl:=gP Z;exact hob
      clear hob K;go_upto_region 15 with (go_at_call 43;refine(Ij.out _).mono ?_;rintro ev w10 ⟨rfl,D⟩)
      have u:=gO (gW i.out D);have O:=gO (aAp m.out RX D);have Zr:=gI RX D.size;clear m0 m1 m2 c0 c1 c2 c3 c4 c5 D m Ui i Ij;go_wp2
      go_roundw
      case rel=>exact⟨j+1,by omega,aKj,by go_num,u,Zr,(by rw[HSB.out]at O;exact O)⟩
      case measure=>simp[intOf];omega
    ·obtain rfl:j=y.n2:=by omega
     have aKk:Hid (OW s a (f+1)):=λi'' c h1 Z x hx=>by
      by_cases e:i''<f
      ·exact VI.out i'' c e Z x hx
      ·obtain rfl:i''=f:=by omega
       rw[DI.out]at Z;obtain rfl:=gP Z;obtain⟨d,hk'',e'⟩:=List.mem_iff_getElem.1 hx;exact K.out d x (by have:=HL2.out;omega) (by rw[gJ hk'',e'])
     clear T Gh K VI;go_wp2
     go_roundw
     case rel=>exact⟨f+1,by omega,aKk,by go_num,HBk⟩
     case measure=>simp[intOf];omega
  ·obtain rfl:f=v.ys.length:=by omega
   have HE:Hid (DK s a (aN (aG #[aB aI 0,aB aI 0,aB aI 4]))):= .inr ⟨OW.none (by rw[<- aBk.out];exact VI.out),rfl⟩;go_wp2_with fail
   exact bodyPost_ret (v:=aG #[aB aI 0,aB aI 0,aB aI 4]) (by simp[results,results18,go_sem]) rfl ⟨HE.out,gW HB.out nM.out⟩
section
variable {w w1 w2:World}{s:Sy}{v:Sc}{T:Nat}{E:Array Value}{X:Nat->Prop}
theorem laid7 {a0 a1 a2 a3 a4 a5 a6:Value}(hb1:Below w.heap.size w w1)(hT:w.heap.size<T)(hT2:T<w1.heap.size)
 (K1:∀o,w1.cell? ⟨w.heap.size,o,aJ⟩=(#[a0,a1,a2,a3,a4,a5,a6]:Array Value)[o]?) (F1:∀o,w1.frozen? ⟨w.heap.size,o,aJ⟩=false)
 (KT:∀o,w1.cell? ⟨T,o,aJ⟩=E[o]?) (FT:∀o,w1.frozen? ⟨T,o,aJ⟩=false) (hb2:Below w1.heap.size w1 w2) (hn:fO w2 w1.heap.size s v):
 SS (((((((w2.setCell ⟨w.heap.size,0,aJ⟩ (aA v.a1 v.n1 v.c1)).setCell ⟨w.heap.size,1,aJ⟩ (aA v.hc.az 2 v.hc.cz)).setCell ⟨w.heap.size,2,aJ⟩ (aA v.hc.am 2 v.hc.cm)).setCell ⟨w.heap.size,3,aJ⟩ (aB aI (s.h.aAh:Int))).setCell ⟨w.heap.size,4,aJ⟩ (aA v.hc.al v.hc.lc.length v.hc.cl)).setCell ⟨w.heap.size,5,aJ⟩ (aA v.hc.av s.h.live.length v.hc.cv)).setCell ⟨w.heap.size,6,aJ⟩ (aA v.a2 v.ys.length v.c2)) w.heap.size (λk=>k<w.heap.size∨k=T) s v/\
 (∀o,(((((((w2.setCell ⟨w.heap.size,0,aJ⟩ (aA v.a1 v.n1 v.c1)).setCell ⟨w.heap.size,1,aJ⟩ (aA v.hc.az 2 v.hc.cz)).setCell ⟨w.heap.size,2,aJ⟩ (aA v.hc.am 2 v.hc.cm)).setCell ⟨w.heap.size,3,aJ⟩ (aB aI (s.h.aAh:Int))).setCell ⟨w.heap.size,4,aJ⟩ (aA v.hc.al v.hc.lc.length v.hc.cl)).setCell ⟨w.heap.size,5,aJ⟩ (aA v.hc.av s.h.live.length v.hc.cv)).setCell ⟨w.heap.size,6,aJ⟩ (aA v.a2 v.ys.length v.c2)).cell? ⟨T,o,aJ⟩=E[o]?)/\
 (∀o,(((((((w2.setCell ⟨w.heap.size,0,aJ⟩ (aA v.a1 v.n1 v.c1)).setCell ⟨w.heap.size,1,aJ⟩ (aA v.hc.az 2 v.hc.cz)).setCell ⟨w.heap.size,2,aJ⟩ (aA v.hc.am 2 v.hc.cm)).setCell ⟨w.heap.size,3,aJ⟩ (aB aI (s.h.aAh:Int))).setCell ⟨w.heap.size,4,aJ⟩ (aA v.hc.al v.hc.lc.length v.hc.cl)).setCell ⟨w.heap.size,5,aJ⟩ (aA v.hc.av s.h.live.length v.hc.cv)).setCell ⟨w.heap.size,6,aJ⟩ (aA v.a2 v.ys.length v.c2)).frozen? ⟨T,o,aJ⟩=false)/\
 Below w.heap.size w (((((((w2.setCell ⟨w.heap.size,0,aJ⟩ (aA v.a1 v.n1 v.c1)).setCell ⟨w.heap.size,1,aJ⟩ (aA v.hc.az 2 v.hc.cz)).setCell ⟨w.heap.size,2,aJ⟩ (aA v.hc.am 2 v.hc.cm)).setCell ⟨w.heap.size,3,aJ⟩ (aB aI (s.h.aAh:Int))).setCell ⟨w.heap.size,4,aJ⟩ (aA v.hc.al v.hc.lc.length v.hc.cl)).setCell ⟨w.heap.size,5,aJ⟩ (aA v.hc.av s.h.live.length v.hc.cv)).setCell ⟨w.heap.size,6,aJ⟩ (aA v.a2 v.ys.length v.c2)):=by
 have c:w.heap.size<w1.heap.size:=by omega
 have e:=aAp K1 c hb2;have d:=aAt F1 c hb2;have i:SR w2 w.heap.size (λk=>k<w.heap.size∨k=T) s v:=SR.lift hn c (λk j=>by omega) (by omega);have a:T≠w.heap.size:=by omega
 have f:=aAp KT hT2 hb2;have g:=aAt FT hT2 hb2;have b:=gT w.heap.size;refine⟨SS.put7 i e d,?_,?_,?_⟩
 ·exact aAc (aAc (aAc (aAc (aAc (aAc (aAc f a 0 _) a 1 _) a 2 _) a 3 _) a 4 _) a 5 _) a 6 _
 ·exact aAs (aAs (aAs (aAs (aAs (aAs (aAs g _ _) _ _) _ _) _ _) _ _) _ _) _ _
 ·exact gS (gS (gS (gS (gS (gS (gS (hb1.trans (hb2.mono hb1.size)) w.heap.size 0 b _) w.heap.size 1 b _) w.heap.size 2 b _) w.heap.size 3 b _) w.heap.size 4 b _) w.heap.size 5 b _) w.heap.size 6 b _
theorem out7 (hs:SS w2 w.heap.size X s v)(hX:X T)(hB:∀k,k<w.heap.size->X k)(hT:w.heap.size<T)(KT:∀o,w2.cell? ⟨T,o,aJ⟩=(#[a0,a1,a2,a3,a4,a5,a6]:Array Value)[o]?)(hb:Below w.heap.size w w2):
 (∀o,(((((((w2.setCell ⟨T,0,aJ⟩ (aA v.a1 v.n1 v.c1)).setCell ⟨T,1,aJ⟩ (aA v.hc.az 2 v.hc.cz)).setCell ⟨T,2,aJ⟩ (aA v.hc.am 2 v.hc.cm)).setCell ⟨T,3,aJ⟩ (aB aI (s.h.aAh:Int))).setCell ⟨T,4,aJ⟩ (aA v.hc.al v.hc.lc.length v.hc.cl)).setCell ⟨T,5,aJ⟩ (aA v.hc.av s.h.live.length v.hc.cv)).setCell ⟨T,6,aJ⟩ (aA v.a2 v.ys.length v.c2)).cell? ⟨T,o,aJ⟩=(#[aA v.a1 v.n1 v.c1,aA v.hc.az 2 v.hc.cz,aA v.hc.am 2 v.hc.cm,aB aI (s.h.aAh:Int),aA v.hc.al v.hc.lc.length v.hc.cl,aA v.hc.av s.h.live.length v.hc.cv,aA v.a2 v.ys.length v.c2]:Array Value)[o]?)/\
 fO (((((((w2.setCell ⟨T,0,aJ⟩ (aA v.a1 v.n1 v.c1)).setCell ⟨T,1,aJ⟩ (aA v.hc.az 2 v.hc.cz)).setCell ⟨T,2,aJ⟩ (aA v.hc.am 2 v.hc.cm)).setCell ⟨T,3,aJ⟩ (aB aI (s.h.aAh:Int))).setCell ⟨T,4,aJ⟩ (aA v.hc.al v.hc.lc.length v.hc.cl)).setCell ⟨T,5,aJ⟩ (aA v.hc.av s.h.live.length v.hc.cv)).setCell ⟨T,6,aJ⟩ (aA v.a2 v.ys.length v.c2)) w.heap.size s v/\
 Below w.heap.size w (((((((w2.setCell ⟨T,0,aJ⟩ (aA v.a1 v.n1 v.c1)).setCell ⟨T,1,aJ⟩ (aA v.hc.az 2 v.hc.cz)).setCell ⟨T,2,aJ⟩ (aA v.hc.am 2 v.hc.cm)).setCell ⟨T,3,aJ⟩ (aB aI (s.h.aAh:Int))).setCell ⟨T,4,aJ⟩ (aA v.hc.al v.hc.lc.length v.hc.cl)).setCell ⟨T,5,aJ⟩ (aA v.hc.av s.h.live.length v.hc.cv)).setCell ⟨T,6,aJ⟩ (aA v.a2 v.ys.length v.c2)):=by
 have b:=(aAr (aAr (aAr (aAr (aAr (aAr (aAr KT 0 (aA v.a1 v.n1 v.c1)) 1 (aA v.hc.az 2 v.hc.cz)) 2 (aA v.hc.am 2 v.hc.cm)) 3 (aB aI (s.h.aAh:Int))) 4 (aA v.hc.al v.hc.lc.length v.hc.cl)) 5 (aA v.hc.av s.h.live.length v.hc.cv)) 6 (aA v.a2 v.ys.length v.c2))
 simp only[gE,gG,gH]at b;have a:=gR hT;refine⟨b,(SS.sub (((((((hs.dD hX 0 _).dD hX 1 _).dD hX 2 _).dD hX 3 _).dD hX 4 _).dD hX 5 _).dD hX 6 _) hB).r,?_⟩;exact gS (gS (gS (gS (gS (gS (gS hb T 0 a _) T 1 a _) T 2 a _) T 3 a _) T 4 a _) T 5 a _) T 6 a _
theorem SR.aHn {G:Nat}(hs:SR W G X s v)(hi:i<v.ys.length){y:Cc}(hy:v.ys[i]=y){gw:Nat}(hgw:v.a1=aK ⟨gw,0,aJ⟩):(nT y).v.ownBlock≠aK gw:=λe=>by
 subst hy;have h:=(hs.Rj hi).off (i:=0) (j:=3) (by simp) (by simp) (by decide) gw (by show(vW v s).v.ownBlock=_;unfold vW;rw[hgw];rfl);exact h e
end
theorem nil7 {w:World}{T:Nat}(K:∀o,W.cell? ⟨T,o,aJ⟩=(#[aA aJ 0 0,aA aJ 0 0,aA aJ 0 0,aB aI 0,aA aJ 0 0,aA aJ 0 0,aA aJ 0 0]:Array Value)[o]?)(hb:Below w.heap.size w W)(hT:w.heap.size<=T):
 (∀o,(((((((W.setCell ⟨T,0,aJ⟩ (aA aJ 0 0)).setCell ⟨T,1,aJ⟩ (aA aJ 0 0)).setCell ⟨T,2,aJ⟩ (aA aJ 0 0)).setCell ⟨T,3,aJ⟩ (aB aI 0)).setCell ⟨T,4,aJ⟩ (aA aJ 0 0)).setCell ⟨T,5,aJ⟩ (aA aJ 0 0)).setCell ⟨T,6,aJ⟩ (aA aJ 0 0)).cell? ⟨T,o,aJ⟩=(#[aA aJ 0 0,aA aJ 0 0,aA aJ 0 0,aB aI 0,aA aJ 0 0,aA aJ 0 0,aA aJ 0 0]:Array Value)[o]?)/\Below w.heap.size w (((((((W.setCell ⟨T,0,aJ⟩ (aA aJ 0 0)).setCell ⟨T,1,aJ⟩ (aA aJ 0 0)).setCell ⟨T,2,aJ⟩ (aA aJ 0 0)).setCell ⟨T,3,aJ⟩ (aB aI 0)).setCell ⟨T,4,aJ⟩ (aA aJ 0 0)).setCell ⟨T,5,aJ⟩ (aA aJ 0 0)).setCell ⟨T,6,aJ⟩ (aA aJ 0 0)):=by
 have a:=(aAr (aAr (aAr (aAr (aAr (aAr (aAr K 0 (aA aJ 0 0)) 1 (aA aJ 0 0)) 2 (aA aJ 0 0)) 3 (aB aI 0)) 4 (aA aJ 0 0)) 5 (aA aJ 0 0)) 6 (aA aJ 0 0))
 simp only[gE,gG,gH]at a;exact⟨a,gS (gS (gS (gS (gS (gS (gS hb T 0 hT (aA aJ 0 0)) T 1 hT (aA aJ 0 0)) T 2 hT (aA aJ 0 0)) T 3 hT (aB aI 0)) T 4 hT (aA aJ 0 0)) T 5 hT (aA aJ 0 0)) T 6 hT (aA aJ 0 0)⟩
def okP (s':Sy)(w:World)(ev:Ending)(w':World):Prop:=∃a,ev=aN (aG #[.agg (a.vals s'),aB aI 0])/\fO w' w.heap.size s' a/\Below w.heap.size w w'
def zM (r:Option (Sy×Int))(w:World)(ev:Ending)(w':World):Prop:=(r=aJ/\ev=aN (aG #[aC #[aA aJ 0 0,aA aJ 0 0,aA aJ 0 0,aB aI 0,aA aJ 0 0,aA aJ 0 0,aA aJ 0 0],aB aI 0,aB aI 6])/\Below w.heap.size w w')∨(∃b a c,r=aK (b,a)/\ev=aN (aG #[.agg (c.vals b),aB aI a,aB aI 0])/\fO w' w.heap.size b c/\Below w.heap.size w w')
theorem Jy (v:Sc)(s:Sy)(n:List UInt8)(cpu i:Nat)(w:World)(hs:lZ w v s)(hk:bQ s)(hf:∀c∈s.cs,c.ns.length<=1000)(hi:s.named n=aK i)(bJ:cpu<s.h.aAh)(ho:sS w):
 Calls prog 53 #[aC #[aA v.a1 v.n1 v.c1,aA v.hc.az 2 v.hc.cz,aA v.hc.am 2 v.hc.cm,aB aI (s.h.aAh:Int),aA v.hc.al v.hc.lc.length v.hc.cl,aA v.hc.av s.h.live.length v.hc.cv,aA v.a2 v.ys.length v.c2],aF ⟨n.toArray⟩,aB aI cpu] w (zM (s.one i cpu) w):=by
 obtain⟨rA,Xm⟩:∃rA,s.one i cpu=rA:=⟨_,rfl⟩
 rw[Xm];have F:=gO Xm;have U:∃c,s.cs[i]? =aK c:=by
  have m:=hi;unfold Sy.named at m;rw[List.findIdx?_eq_some_iff_getElem]at m;obtain⟨Y,_⟩:=m;exact⟨_,gJ Y⟩
 have HIL:=gO U;clear Xm U;obtain⟨K1,K2,F1,F2,D,B⟩:=boxes2 w #[aA v.a1 v.n1 v.c1,aA v.hc.az 2 v.hc.cz,aA v.hc.am 2 v.hc.cm,aB aI (s.h.aAh:Int),aA v.hc.al v.hc.lc.length v.hc.cl,aA v.hc.av s.h.live.length v.hc.cv,aA v.a2 v.ys.length v.c2] 42 #[aA aJ 0 0,aA aJ 0 0,aA aJ 0 0,aB aI 0,aA aJ 0 0,aA aJ 0 0,aA aJ 0 0] 42;have HA:=gO (Eu v s n cpu i _ (hs.below B) hk hf hi bJ);obtain⟨k0,k1,k2,k3,k4,k5,k6⟩:=gA7 K1;have HK:=gO hk;have HFN:=gO hf;have HNI:=gO hi;have N:=gO B;have C:=gO K1;have E:=gO F1;have K:=gO K2;have S:=gO F2;clear hs hk hf hi K1 K2 F1 F2 B;go_enter func53,ntmps53
 go_upto_region 1 with fail
 generalize (w.alloc _).alloc _=w1 at*;have j:w.heap.size<w1.heap.size:=by omega
 go_upto_region 4 with (go_at_call 57;refine HA.out.mono ?_;rintro z w2 ⟨d,he,A,l⟩;unfold YM Sc.vals at he;subst he;have I:=aAp C.out j l;have Q:=aAt E.out j l;obtain⟨y0,y1,y2,y3,y4,y5,y6⟩:=gA7 I;obtain⟨f0,f1,f2,f3,f4,f5,f6⟩:=gF7 Q;skip)
 have R:=laid7 (T:=w.heap.size+1) N.out (Nat.lt_succ_self _) D C.out E.out K.out S.out l A;have q:=gO R.1;have x:=gO R.2.1;have y:=gO R.2.2.1;have f:=gO R.2.2.2;have M:w.heap.size+1<w2.heap.size:=gI D l.size;have o:w.heap.size+1<(((((((w2.setCell ⟨w.heap.size,0,aJ⟩ (aA d.a1 d.n1 d.c1)).setCell ⟨w.heap.size,1,aJ⟩ (aA d.hc.az 2 d.hc.cz)).setCell ⟨w.heap.size,2,aJ⟩ (aA d.hc.am 2 d.hc.cm)).setCell ⟨w.heap.size,3,aJ⟩ (aB aI (s.h.aAh:Int))).setCell ⟨w.heap.size,4,aJ⟩ (aA d.hc.al d.hc.lc.length d.hc.cl)).setCell ⟨w.heap.size,5,aJ⟩ (aA d.hc.av s.h.live.length d.hc.cv)).setCell ⟨w.heap.size,6,aJ⟩ (aA d.a2 d.ys.length d.c2)).heap.size:=by simpa using M
 clear I Q y0 y1 y2 y3 y4 y5 y6 f0 f1 f2 f3 f4 f5 f6 R A HA k0 k1 k2 k3 k4 k5 k6 C E K S l M N;generalize ((((((w2.setCell _ _).setCell _ _).setCell _ _).setCell _ _).setCell _ _).setCell _ _).setCell _ _=H at*;clear D j;have hi1:i<d.ys.length:=by
  have h:=congrArg List.length q.out.r.cy;have m:=HNI.out;unfold Sy.named at m;rw[List.findIdx?_eq_some_iff_getElem]at m;obtain⟨Y,_⟩:=m;simp only[gTe]at h;omega
 have e:=Ug d s w.heap.size i cpu (λk=>k<w.heap.size∨k=w.heap.size+1) H q.out HK.out hi1 bJ (ho.below f.out) (.inl ho.sz) (by obtain⟨c,hc⟩:=HIL.out;exact HK.out.chosen hc bJ);cases rA with
 | none=>
  have Z:Hid (Calls prog 107 #[aH (aK ⟨w.heap.size,0,aJ⟩),aB aI i,aB aI cpu] H λz G=>z=aN (aG #[aB aI 0,aB aI 6])/\Below H.heap.size H G):=by
   refine e.mono ?_;rintro z G (⟨_,h,hb⟩ | ⟨s',b',O,h,_⟩)
   ·exact⟨h,hb⟩
   ·rw[F.out]at h;cases h
  clear e ho;go_upto_region 5 with (go_at_call 107;refine Z.out.mono ?_;rintro z W ⟨rfl,u⟩)
  have g:=gO (aAp x.out o u);have V:=gO (aAt y.out o u);have P:=gO (gW f.out u);clear x y f q u;obtain⟨q0,q1,q2,q3,q4,q5,q6⟩:=gA7 g.out;obtain⟨f0,f1,f2,f3,f4,f5,f6⟩:=gF7 V.out;have jP:=nil7 g.out P.out (show w.heap.size<=w.heap.size+1 by omega);have KX:=jP.1;have jA:=gO jP.2;clear jP g V P;go_wp2_with fail
  generalize ((((((W.setCell _ _).setCell _ _).setCell _ _).setCell _ _).setCell _ _).setCell _ _).setCell _ _=wx at*;exact bodyPost_ret (v:=aG #[aC #[aA aJ 0 0,aA aJ 0 0,aA aJ 0 0,aB aI 0,aA aJ 0 0,aA aJ 0 0,aA aJ 0 0],aB aI 0,aB aI 6]) (by simp[results,results53,go_sem,KX]) rfl (.inl ⟨rfl,rfl,jA.out⟩)
 | some r=>
  obtain⟨L,b⟩:=r;have Z:Hid (Calls prog 107 #[aH (aK ⟨w.heap.size,0,aJ⟩),aB aI i,aB aI cpu] H λz G=>∃a,z=aN (aG #[aB aI b,aB aI 0])/\SS G w.heap.size (λk=>k<w.heap.size∨k=w.heap.size+1) L a/\Safe (λk=>k<w.heap.size∨k=w.heap.size+1) H G):=by
   refine e.mono ?_;rintro z G (⟨h,_⟩ | ⟨s',b',O,h,h1,m,Y,_⟩)
   ·rw[F.out]at h;cases h
   ·rw[F.out]at h;obtain⟨rfl,rfl⟩:L=s'/\b=b':=by simpa using h
    exact⟨O,h1,m,Y⟩
  clear e ho;go_upto_region 7 with (go_at_call 107;refine Z.out.mono ?_;rintro z W ⟨a,rfl,J,p⟩)
  have t:=gO J;have g:=gO (p.box x.out o (.inr rfl));have V:=gO (p.Xe y.out o (.inr rfl));have P:Hid (Below w.heap.size w W):=Safe.after f.out p (λk hk=> .inl hk) f.out.size;clear x y f q J p Z;have z0:=t.out.k 0;have z1:=t.out.k 1;have z2:=t.out.k 2;have z3:=t.out.k 3;have z4:=t.out.k 4;have z5:=t.out.k 5;have z6:=t.out.k 6;unfold Sc.vals at z0 z1 z2 z3 z4 z5 z6;have q0:=g.out 0;have q1:=g.out 1;have q2:=g.out 2;have q3:=g.out 3;have q4:=g.out 4;have q5:=g.out 5;have q6:=g.out 6;obtain⟨f0,f1,f2,f3,f4,f5,f6⟩:=gF7 V.out;simp only[gB,gC,gD]at z0 z1 z2 z3 z4 z5 z6 q0 q1 q2 q3 q4 q5 q6;have X:=out7 t.out (T:=w.heap.size+1) (.inr rfl) (λk hk=> .inl hk) (Nat.lt_succ_self _) g.out P.out;have KX:=X.1;have oI:=gO X.2.1;have jA:=gO X.2.2;clear X t g V P;go_wp2_with fail
  generalize ((((((W.setCell _ _).setCell _ _).setCell _ _).setCell _ _).setCell _ _).setCell _ _).setCell _ _=wx at*;exact bodyPost_ret (v:=aG #[aC #[aA a.a1 a.n1 a.c1,aA a.hc.az 2 a.hc.cz,aA a.hc.am 2 a.hc.cm,aB aI (L.h.aAh:Int),aA a.hc.al a.hc.lc.length a.hc.cl,aA a.hc.av L.h.live.length a.hc.cv,aA a.a2 a.ys.length a.c2],aB aI b,aB aI 0]) (by simp[results,results53,go_sem,KX]) rfl (.inr ⟨L,b,a,rfl,rfl,oI.out,jA.out⟩)
section
variable {w W W':World}{G B T U:Nat}{X:Nat->Prop}{s s2:Sy}{v v2:Sc}{E:Array Value}
theorem SR.put7 (hs:SR W G X s v)(hT:X T)(v2:Sc)(s2:Sy):SR (((((((W.setCell ⟨T,0,aJ⟩ (aA v2.a1 v2.n1 v2.c1)).setCell ⟨T,1,aJ⟩ (aA v2.hc.az 2 v2.hc.cz)).setCell ⟨T,2,aJ⟩ (aA v2.hc.am 2 v2.hc.cm)).setCell ⟨T,3,aJ⟩ (aB aI (s2.h.aAh:Int))).setCell ⟨T,4,aJ⟩ (aA v2.hc.al v2.hc.lc.length v2.hc.cl)).setCell ⟨T,5,aJ⟩ (aA v2.hc.av s2.h.live.length v2.hc.cv)).setCell ⟨T,6,aJ⟩ (aA v2.a2 v2.ys.length v2.c2)) G X s v:=
 SR.dD (SR.dD (SR.dD (SR.dD (SR.dD (SR.dD (SR.dD hs hT 0 _) hT 1 _) hT 2 _) hT 3 _) hT 4 _) hT 5 _) hT 6 _
theorem fO.put7 (hn:fO W B s v)(hT:T<B)(hB:G<B):fO (((((((W.setCell ⟨T,0,aJ⟩ (aA v.a1 v.n1 v.c1)).setCell ⟨T,1,aJ⟩ (aA v.hc.az 2 v.hc.cz)).setCell ⟨T,2,aJ⟩ (aA v.hc.am 2 v.hc.cm)).setCell ⟨T,3,aJ⟩ (aB aI (s.h.aAh:Int))).setCell ⟨T,4,aJ⟩ (aA v.hc.al v.hc.lc.length v.hc.cl)).setCell ⟨T,5,aJ⟩ (aA v.hc.av s.h.live.length v.hc.cv)).setCell ⟨T,6,aJ⟩ (aA v.a2 v.ys.length v.c2)) G s v:=
 (SR.put7 (X:=λk=>k<B) hn hT v s).toX hB (λk a=>Nat.lt_trans a hB) (Nat.lt_irrefl _)
theorem SR.heap2 (hs:SR W G X s v){c:Hc}(hr:HR W G X h c)(hd:∀r∈v.rows s,∀q∈c.rows h++c.reads h,r.off q):SR W G X {s with h:=h} {v with hc:=c}:=⟨hs.own,hs.og,hr,hd,hs.cy⟩
theorem SS.putH2 (hs:SS W G X s v){h':Hp}{hc':Hc}(hr:HR W G X h' hc')(hd:∀r∈v.rows s,∀q∈hc'.rows h'++hc'.reads h',r.off q):
 SS (((((W.setCell ⟨G,1,aJ⟩ (aA hc'.az 2 hc'.cz)).setCell ⟨G,2,aJ⟩ (aA hc'.am 2 hc'.cm)).setCell ⟨G,3,aJ⟩ (aB aI (h'.aAh:Int))).setCell ⟨G,4,aJ⟩ (aA hc'.al hc'.lc.length hc'.cl)).setCell ⟨G,5,aJ⟩ (aA hc'.av h'.live.length hc'.cv)) G X {s with h:=h'} {v with hc:=hc'}/\Safe X W (((((W.setCell ⟨G,1,aJ⟩ (aA hc'.az 2 hc'.cz)).setCell ⟨G,2,aJ⟩ (aA hc'.am 2 hc'.cm)).setCell ⟨G,3,aJ⟩ (aB aI (h'.aAh:Int))).setCell ⟨G,4,aJ⟩ (aA hc'.al hc'.lc.length hc'.cl)).setCell ⟨G,5,aJ⟩ (aA hc'.av h'.live.length hc'.cv)):=by
 have e:=hs.r.heap2 hr hd;have b:=aAr hs.k 1 (aA hc'.az 2 hc'.cz);have c:=aAs hs.fz ⟨G,1,aJ⟩ (aA hc'.az 2 hc'.cz);have l:=aAr b 2 (aA hc'.am 2 hc'.cm);have g:=aAs c ⟨G,2,aJ⟩ (aA hc'.am 2 hc'.cm);have f:=aAr l 3 (aB aI (h'.aAh:Int));have d:=aAs g ⟨G,3,aJ⟩ (aB aI (h'.aAh:Int));have i:=aAr f 4 (aA hc'.al hc'.lc.length hc'.cl);have m:=aAs d ⟨G,4,aJ⟩ (aA hc'.al hc'.lc.length hc'.cl);have a:=aAr i 5 (aA hc'.av h'.live.length hc'.cv);have j:=aAs m ⟨G,5,aJ⟩ (aA hc'.av h'.live.length hc'.cv);unfold Sc.vals at a;simp only[gE,gG,gH]at a;exact⟨⟨(((((e.fE 1 _).fE 2 _).fE 3 _).fE 4 _).fE 5 _),a,j⟩,((((((Safe.refl X W).set hs.r.hr.xg 1 _).set hs.r.hr.xg 2 _).set hs.r.hr.xg 3 _).set hs.r.hr.xg 4 _).set hs.r.hr.xg 5 _)⟩
theorem fO.MF {B1:Nat}(hn:fO W B1 s v){Wh:World}{c:Hc}(hr:HR Wh G X h c)(hB:Wh.heap.size<=B1):∀r∈v.rows s,∀q∈c.rows h++c.reads h,r.off q:=λr a q b g f d=>by
 have i:=(hn.og r a g f).2;have e:=hr.lt q b g d;exact i (gI e hB)
end
section
variable {w W W':World}{G B T U Bn:Nat}{X Y:Nat->Prop}{s s2:Sy}{v v2:Sc}{E:Array Value}
theorem SR.box (hn:SR W G X s v)(hY:∀k,Y k->X k/\k<W.heap.size):SS (W.alloc (aO #[aA v.a1 v.n1 v.c1,aA v.hc.az 2 v.hc.cz,aA v.hc.am 2 v.hc.cm,aB aI (s.h.aAh:Int),aA v.hc.al v.hc.lc.length v.hc.cl,aA v.hc.av s.h.live.length v.hc.cv,aA v.a2 v.ys.length v.c2] 42)) W.heap.size Y s v:=by
 have hb:=aAq W (aO #[aA v.a1 v.n1 v.c1,aA v.hc.az 2 v.hc.cz,aA v.hc.am 2 v.hc.cm,aB aI (s.h.aAh:Int),aA v.hc.al v.hc.lc.length v.hc.cl,aA v.hc.av s.h.live.length v.hc.cv,aA v.a2 v.ys.length v.c2] 42);have d:=hn.below hb;have c:W.heap.size<(W.alloc (aO #[aA v.a1 v.n1 v.c1,aA v.hc.az 2 v.hc.cz,aA v.hc.am 2 v.hc.cm,aB aI (s.h.aAh:Int),aA v.hc.al v.hc.lc.length v.hc.cl,aA v.hc.av s.h.live.length v.hc.cv,aA v.a2 v.ys.length v.c2] 42)).heap.size:=by simp
 refine⟨⟨d.own,λr hr g i=>⟨λe=>by have:=hn.lt r hr g i;omega,λe=>(hn.og r hr g i).2 (hY g e).1⟩,d.hr.any c (λq a k b=>⟨λe=>by have:=hn.hr.lt q a k b;omega,λe=> ?_⟩) (λk b=>Nat.lt_trans (hY k b).2 c) (λe=>by have:=(hY _ e).2;omega),d.hd,d.cy⟩,aQ W _ _,eG W _ _⟩;have f:=(hY k e).1;rcases gZ.1 a with a | a
 ·exact(hn.hr.og q a k b).2 f
 ·exact hn.hr.rx q a k b f
theorem fO.box (hn:fO W Bn s v):SS (W.alloc (aO #[aA v.a1 v.n1 v.c1,aA v.hc.az 2 v.hc.cz,aA v.hc.am 2 v.hc.cm,aB aI (s.h.aAh:Int),aA v.hc.al v.hc.lc.length v.hc.cl,aA v.hc.av s.h.live.length v.hc.cv,aA v.a2 v.ys.length v.c2] 42)) W.heap.size (λk=>k<Bn) s v:=SR.box hn λk a=>⟨a,Nat.lt_trans a hn.hr.gs⟩
theorem fO.store (hn:fO W Bn s v)(hB:B<Bn)(K:∀o,W.cell? ⟨B,o,aJ⟩=(#[a0,a1,a2,a3,a4,a5,a6]:Array Value)[o]?)(F:∀o,W.frozen? ⟨B,o,aJ⟩=false):SS (((((((W.setCell ⟨B,0,aJ⟩ (aA v.a1 v.n1 v.c1)).setCell ⟨B,1,aJ⟩ (aA v.hc.az 2 v.hc.cz)).setCell ⟨B,2,aJ⟩ (aA v.hc.am 2 v.hc.cm)).setCell ⟨B,3,aJ⟩ (aB aI (s.h.aAh:Int))).setCell ⟨B,4,aJ⟩ (aA v.hc.al v.hc.lc.length v.hc.cl)).setCell ⟨B,5,aJ⟩ (aA v.hc.av s.h.live.length v.hc.cv)).setCell ⟨B,6,aJ⟩ (aA v.a2 v.ys.length v.c2)) B (λk=>k<Bn/\k≠B) s v:=
 SS.put7 (SR.lift hn hB (λk a=>a.1) (λh=>h.2 rfl)) K F
theorem uG {b:Nat}{e:TypeId}{size n:Nat}{a:Value}(h:W.ownsRow b e size a n xs)(hT:a.ownBlock≠aK T)(v:Sc)(s:Sy):(((((((W.setCell ⟨T,0,aJ⟩ (aA v.a1 v.n1 v.c1)).setCell ⟨T,1,aJ⟩ (aA v.hc.az 2 v.hc.cz)).setCell ⟨T,2,aJ⟩ (aA v.hc.am 2 v.hc.cm)).setCell ⟨T,3,aJ⟩ (aB aI (s.h.aAh:Int))).setCell ⟨T,4,aJ⟩ (aA v.hc.al v.hc.lc.length v.hc.cl)).setCell ⟨T,5,aJ⟩ (aA v.hc.av s.h.live.length v.hc.cv)).setCell ⟨T,6,aJ⟩ (aA v.a2 v.ys.length v.c2)).ownsRow b e size a n xs:=
 bC (bC (bC (bC (bC (bC (bC h hT _) hT _) hT _) hT _) hT _) hT _) hT _
end
end Go.Proofs.YtjaogfhcnmjkiaaGreatDoor
