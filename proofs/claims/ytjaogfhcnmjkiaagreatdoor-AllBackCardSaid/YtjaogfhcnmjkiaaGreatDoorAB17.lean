/- joined. -/
import Derived.Test.YtjaogfhcnmjkiaaGreatDoorAB16
set_option linter.all false
set_option maxRecDepth 100000
set_option maxHeartbeats 0
namespace Go.Proofs.YtjaogfhcnmjkiaaGreatDoor
open Go.RowKit
open Go.Value renaming slice->aA,int->aB,agg->aC,string->aF,tuple->aG,pointer->aH,ownBlock->gTh
open Go.IntKind renaming i64->aI
open Option renaming none->aJ,some->aK
open Go.Ending renaming returned->aN
open Go.Obj renaming cells->aO
open Go.Proofs.Tryz
variable {Z:Nat->Prop}{c:Ca}{cpu i k:Nat}{l:List Int}{p:Int}{row:Option Nat}{s:Sy}
theorem Rh (x:Sl)(y:Cc)(C gc o:Nat)(W:World)(hC:C<W.heap.size)(hg:gc<W.heap.size)(hl:y.c.ac.length=y.n3)(hn:y.n3<=1000)(hr:Row W y.a3 (y.c.ac.map vI))(hc:W.cell? ⟨C,0,aJ⟩=aK (aH (aK ⟨gc,o,aJ⟩)))(h5:W.cell? ⟨gc,o+5,aJ⟩=aK (aA y.a3 y.n3 y.c3)):
 Calls prog 158 (#[.agg (bQ x).toArray]++#[aH (aK ⟨C,0,aJ⟩)]) W λev w'=>ev=aN (.bool (decide (0<x.n)&& !y.c.ac.contains (x.p:Int)))/\Below W.heap.size W w':=by
 show Calls prog 158 #[aC #[aB aI x.p,aB aI x.n,aB aI x.h],aH (aK ⟨C,0,aJ⟩)] W _;obtain⟨f,r,d,b⟩:=boxes1 W #[aB aI (x.p:Int),aB aI (x.n:Int),aB aI x.h] 99;have k:=f 0;have k1:=f 1;simp only[gB,gC,gD]at k k1;have t:=(b.cell (p:=⟨C,0,aJ⟩) hC).trans hc;have s:=(b.cell (p:=⟨gc,o+5,aJ⟩) hg).trans h5;have HR:=gO (hr.below b);have j:=gO b;have m:Hid (∀a,Below (W.alloc (aO #[aB aI (x.p:Int),aB aI (x.n:Int),aB aI x.h] 99)).heap.size (W.alloc (aO #[aB aI (x.p:Int),aB aI (x.n:Int),aB aI x.h] 99)) a->Calls prog 45 #[aA y.a3 y.n3 y.c3,aB aI x.p] a λe w'=>e=aN (.bool (vO y.c.ac (x.p:Int)))/\a=w'):=λa q=>by
  have h:=kQ y.a3 y.c3 y.c.ac (x.p:Int) a (by omega) (HR.out.below q);rw[hl]at h;exact h
 have v:∀a,Below (W.alloc (aO #[aB aI (x.p:Int),aB aI (x.n:Int),aB aI x.h] 99)).heap.size (W.alloc (aO #[aB aI (x.p:Int),aB aI (x.n:Int),aB aI x.h] 99)) a->a.cell? ⟨W.heap.size,0,aJ⟩=aK (aB aI (x.p:Int)):=λa h=>(h.cell (p:=⟨W.heap.size,0,aJ⟩) d).trans k
 have z:∀a,Below (W.alloc (aO #[aB aI (x.p:Int),aB aI (x.n:Int),aB aI x.h] 99)).heap.size (W.alloc (aO #[aB aI (x.p:Int),aB aI (x.n:Int),aB aI x.h] 99)) a->a.cell? ⟨W.heap.size,1,aJ⟩=aK (aB aI (x.n:Int)):=λa h=>(h.cell (p:=⟨W.heap.size,1,aJ⟩) d).trans k1
 have w:∀a,Below (W.alloc (aO #[aB aI (x.p:Int),aB aI (x.n:Int),aB aI x.h] 99)).heap.size (W.alloc (aO #[aB aI (x.p:Int),aB aI (x.n:Int),aB aI x.h] 99)) a->a.cell? ⟨C,0,aJ⟩=aK (aH (aK ⟨gc,o,aJ⟩)):=λa h=>(h.cell (p:=⟨C,0,aJ⟩) (gI hC b.size)).trans t
 have u:∀a,Below (W.alloc (aO #[aB aI (x.p:Int),aB aI (x.n:Int),aB aI x.h] 99)).heap.size (W.alloc (aO #[aB aI (x.p:Int),aB aI (x.n:Int),aB aI x.h] 99)) a->a.cell? ⟨gc,o+5,aJ⟩=aK (aA y.a3 y.n3 y.c3):=λa h=>(h.cell (p:=⟨gc,o+5,aJ⟩) (gI hg b.size)).trans s
 clear b hr hc h5 f r;by_cases l:0<x.n
 ·have g:(0:Int)<x.n:=by omega
  go_enter func158,ntmps158
  go_upto_region 1 with fail
  generalize W.alloc _=i at*;go_region_held3 (λW=>Below i.heap.size i W) ((repeat (first | with_reducible assumption | with_reducible exact gX _ _ | with_reducible refine Below.setCell ?_ ?_ _ | with_reducible apply Below.drew | with_reducible refine gW ?_ (aT _ _) | with_reducible refine gW ?_ (by with_reducible assumption) | (simp only;omega))))(first | (go_at_call 45;refine(m.out _ (by with_reducible assumption)).mono ?_;rintro ev A ⟨rfl,rfl⟩))
  all_goals
   go_wp2_with fail
   go_ret
   refine⟨bP ?_,gW j.out (by assumption)⟩
   first | rfl | (rw[gTg l];rfl) | trace_state
 ·have g:¬(0:Int)<x.n:=by omega
  go_enter func158,ntmps158
  go_upto_region 1 with fail
  go_quiet (fail)
  go_wp2_with fail
  go_ret
  refine⟨bP ?_,gW j.out (below_drewN (gX _ _) _)⟩
  first | rfl | (rw[gV l];rfl)
theorem YQ (hp:c.ac.getD cpu (-1)=p)(h:c.own cpu=aK k):dV (λx:Sl=>decide ((x.p:Int)=p)) c.sl=k/\∃h:k<c.sl.length,0<c.sl[k].n:=by
 unfold Ca.own Ca.find at h;rw[hp]at h;unfold dV;cases hf:c.sl.findIdx? (λx=>decide ((x.p:Int)=p))with
 | none=>rw[hf]at h;cases h
 | some j=>
  rw[hf]at h;simp only at h;have a:j<c.sl.length:=by
   rw[List.findIdx?_eq_some_iff_getElem]at hf;exact hf.1
  rw[gJ a]at h;simp only at h;split at h
  ·obtain rfl:j=k:=by simpa using h
   exact⟨rfl,a,by assumption⟩
  ·cases h
theorem YR (hp:c.ac.getD cpu (-1)=p)(h:c.own cpu=aJ):dV (λx:Sl=>decide ((x.p:Int)=p)) c.sl= -1∨∃k:Nat,dV (λx:Sl=>decide ((x.p:Int)=p)) c.sl=k/\∃h:k<c.sl.length,c.sl[k].n=0:=by
 unfold Ca.own Ca.find at h;rw[hp]at h;unfold dV;cases hf:c.sl.findIdx? (λx=>decide ((x.p:Int)=p))with
 | none=>exact .inl rfl
 | some j=>
  rw[hf]at h;simp only at h;have a:j<c.sl.length:=by
   rw[List.findIdx?_eq_some_iff_getElem]at hf;exact hf.1
  rw[gJ a]at h;simp only at h;split at h
  ·cases h
  ·exact .inr ⟨j,rfl,a,by omega⟩
theorem Oy (h:c.nobody=aK k):dV (λx:Sl=>decide (0<x.n)&& !c.ac.contains (x.p:Int)) c.sl=k/\k<c.sl.length:=by
 unfold Ca.nobody at h;unfold dV;rw[h];rw[List.findIdx?_eq_some_iff_getElem]at h;exact⟨rfl,h.1⟩
theorem Oz (h:c.nobody=aJ):dV (λx:Sl=>decide (0<x.n)&& !c.ac.contains (x.p:Int)) c.sl= -1:=by
 unfold Ca.nobody at h;unfold dV;rw[h]
theorem YS (l:List Sl)(x:Sl):(qL l x).length=l.length+1/\Qo l x.p<=l.length:=by
 have h:Qo l x.p<=l.length:=(List.takeWhile_sublist _).length_le;unfold qL;constructor
 ·simp;omega
 ·exact h
theorem Jb {s2:Sy}(h:s.grow i cpu c=aK (s2,k)):∃h' a,s.h.alloc cpu c.o 0 false false=aK (h',a)/\s2={w:=chainTo s.w (16*a) c.z c.r c.r,h:=h',cs:=s.cs.set i {c with sl:=qL c.sl ⟨a,c.r,((16*a:Nat):Int)⟩}}/\k=Qo c.sl a:=by
 unfold Sy.grow at h;cases hal:s.h.alloc cpu c.o 0 false false with
 | none=>rw[hal]at h;cases h
 | some r=>
  obtain⟨h',a⟩:=r;rw[hal]at h;have b:=gP h;rw[Prod.mk.injEq]at b;exact⟨h',a,rfl,b.1.symm,b.2.symm⟩
theorem Ri {s2:Sy}(hi:i<s.cs.length)(h:s.grow i cpu c=aK (s2,k)):s2.cs.length=s.cs.length/\∃c2,s2.cs[i]? =aK c2/\c2.ac=c.ac/\k<c2.sl.length:=by
 obtain⟨d,a,_,rfl,rfl⟩:=Jb h;have b:=YS c.sl ⟨a,c.r,((16*a:Nat):Int)⟩;refine⟨by simp,{c with sl:=qL c.sl ⟨a,c.r,((16*a:Nat):Int)⟩},by rw[List.getElem?_set_self hi],rfl,?_⟩;show Qo c.sl a<(qL c.sl ⟨a,c.r,((16*a:Nat):Int)⟩).length;rw[b.1];exact Nat.lt_succ_of_le b.2
def aBk (v:Sc)(s:Sy)(i cpu:Nat)(G:Nat)(X:Nat->Prop)(w:World)(ev:Ending)(w':World):Prop:=(s.choose i cpu=aJ/\ev=aN (aG #[aB aI 0,aB aI 6])/\Below w.heap.size w w')∨(∃(b:Sy) (k:Nat) (a:Sc),s.choose i cpu=aK (b,k)/\ev=aN (aG #[aB aI k,aB aI 0])/\SS w' G X b a/\Safe X w w'/\a.a2=v.a2)
theorem Rj (v:Sc)(s:Sy)(G i cpu:Nat)(X:Nat->Prop)(w:World)(hs:SS w G X s v)(hk:cZ s)(hi:i<v.ys.length)(dA:cpu<s.h.aP)(ho:vP w)(hX0:X 1):
 Calls prog 139 #[aH (aK ⟨G,0,aJ⟩),aB aI i,aB aI cpu] w (aBk v s i cpu G X w):=by
 obtain⟨f,ha2,qW,Ov,VJ,j⟩:=hs.r.Vl hi;have hcm:v.ys[i].c∈s.cs:=by rw[<- hs.r.cy];exact List.mem_map_of_mem (gL hi)
 have hic:i<s.cs.length:=by rw[<- hs.r.cy,gTe];exact hi
 have hci:s.cs[i]? =aK v.ys[i].c:=by
  rw[<- hs.r.cy,List.getElem?_map,gJ hi];rfl
 have l:=hk.ck _ hcm;have hym:=gL hi;have A:=hs.r.at.ca _ hym;have hii:(i:Int)<v.ys.length:=by omega
 have hvl:v.ys.length<=20:=by have:=congrArg List.length hs.r.cy;rw[gTe]at this;rw[this];exact hk.cl
 obtain⟨y,hy⟩:∃y,v.ys[i]=y:=⟨_,rfl⟩
 have HY:=gO hy;rw[hy]at j l A hci hym;have hl1:=A.l1;have U:=A.l2;have E:=A.l3;have hsl:=l.nS hk.hk;have Y:=l.ac;have hcp:=hk.hk.cp.2;have hcl:cpu<y.c.ac.length:=by omega
 have hcn:(cpu:Int)<y.n3:=by omega
 obtain⟨ga,hga,_,aGx,hca,hfa⟩:=oI (hs.r.y hym).2.2 cpu (by simpa[sO]using hcl);obtain⟨p,hp⟩:∃p,y.c.ac[cpu]=p:=⟨_,rfl⟩
 have pa:w.cell? ⟨ga,cpu,aJ⟩=aK (aB aI p):=by
  rw[hca];simp[sO,vI,hp]
 have hpb: -1<=p/\p<=256:=by
  rcases l.aw p (by rw[<- hp];exact gL hcl)with h | ⟨x,hx,h⟩
  ·omega
  ·have:=(l.sk x hx).BF hk.hk;omega
 obtain⟨b0,_⟩:=j 0 (by decide);obtain⟨b1,_⟩:=j 1 (by decide);obtain⟨b2,_⟩:=j 2 (by decide);obtain⟨b3,_⟩:=j 3 (by decide);obtain⟨M,_⟩:=j 4 (by decide);obtain⟨b5,_⟩:=j 5 (by decide);simp only[fD,vI,gC,gD,Nat.add_zero]at b0 b1 b2 b3 M b5;have g6:=hs.k 6;unfold Sc.vals at g6;simp only[gB,gC,gD]at g6;rw[ha2]at g6;have hn1:y.c.ac.getD cpu (-1)=p:=by
  rw[<- hp];simp[List.getD,gJ hcl]
 obtain⟨T0,TF,hT1,hTb⟩:=boxes1 w #[aH (aK ⟨f,i*6,aJ⟩)] 161;have t0:=T0 0;simp only[gB,gC,gD]at t0;have HS:=gO hs;have HK:=gO hk;have uK:=gO l;have Dz:=gO hci;have KJ:=gO A;have a:=gO hTb;have HS1:=gO (hs.new hTb);have Ky:=hs.r.hr.gs;clear hs hk j hy l hcm hci A hca hTb T0 TF hp;go_enter func139,ntmps139
 go_upto_region 2 with fail
 generalize w.alloc _=b at*;have L0:∀W,Below b.heap.size b W->W.cell? ⟨f,i*6,aJ⟩=aK (aA y.a1 y.n1 y.c1):=λW h=>((Below.trans a.out (h.mono a.out.size)).cell (p:=⟨f,i*6,aJ⟩) qW).trans b0
 have L1:∀W,Below b.heap.size b W->W.cell? ⟨f,i*6+1,aJ⟩=aK (aB aI (y.c.z:Int)):=λW h=>((Below.trans a.out (h.mono a.out.size)).cell (p:=⟨f,i*6+1,aJ⟩) qW).trans b1
 have L2:∀W,Below b.heap.size b W->W.cell? ⟨f,i*6+2,aJ⟩=aK (aB aI (y.c.r:Int)):=λW h=>((Below.trans a.out (h.mono a.out.size)).cell (p:=⟨f,i*6+2,aJ⟩) qW).trans b2
 have L3:∀W,Below b.heap.size b W->W.cell? ⟨f,i*6+3,aJ⟩=aK (aB aI (y.c.o:Int)):=λW h=>((Below.trans a.out (h.mono a.out.size)).cell (p:=⟨f,i*6+3,aJ⟩) qW).trans b3
 have L4:∀W,Below b.heap.size b W->W.cell? ⟨f,i*6+4,aJ⟩=aK (aA y.a2 y.n2 y.c2):=λW h=>((Below.trans a.out (h.mono a.out.size)).cell (p:=⟨f,i*6+4,aJ⟩) qW).trans M
 have L5:∀W,Below b.heap.size b W->W.cell? ⟨f,i*6+5,aJ⟩=aK (aA y.a3 y.n3 y.c3):=λW h=>((Below.trans a.out (h.mono a.out.size)).cell (p:=⟨f,i*6+5,aJ⟩) qW).trans b5
 have L6:∀W,Below b.heap.size b W->W.cell? ⟨w.heap.size,0,aJ⟩=aK (aH (aK ⟨f,i*6,aJ⟩)):=λW h=>(h.cell (p:=⟨w.heap.size,0,aJ⟩) hT1).trans t0
 have L7:∀W,Below b.heap.size b W->W.cell? ⟨ga,cpu,aJ⟩=aK (aB aI p):=λW h=>((Below.trans a.out (h.mono a.out.size)).cell (p:=⟨ga,cpu,aJ⟩) aGx).trans pa
 have Xb:Hid (∀W,Below b.heap.size b W->Calls prog 71 #[aC #[aA y.a1 y.n1 y.c1,aB aI y.c.z,aB aI y.c.r,aB aI y.c.o,aA y.a2 y.n2 y.c2,aA y.a3 y.n3 y.c3],aB aI p] W λI w'=>I=aN (aB aI (dV (λx=>decide ((x.p:Int)=p)) y.c.sl))/\Below W.heap.size W w'):=λW hW=>Tm y p W ((KJ.out.below a.out).below hW) (by omega) (λx hx=>by have:=(uK.out.sk x hx).BF HK.out.hk;omega) (by omega)
 have HL5:=gO L5;simp only[hga]at L5 Xb;have HGA:=gO hga;clear hga;clear b0 b1 b2 b3 M b5 t0 pa hl1 U E hsl Y hcp;go_cut [9] (λs9 wx=>s9=aB aI (dV (λx=>decide ((x.p:Int)=p)) y.c.sl)/\Hid (Below b.heap.size b wx))
 case first=>
  go_region_held3 (λW=>Below b.heap.size b W) ((repeat (first | with_reducible assumption | with_reducible exact gX _ _ | with_reducible refine Below.setCell ?_ ?_ _ | with_reducible apply Below.drew | with_reducible refine gW ?_ (aT _ _) | with_reducible refine gW ?_ (by with_reducible assumption) | (simp only;omega))))(first | (go_at_call 71;refine(Xb.out _ (by with_reducible assumption)).mono ?_;rintro I w2 ⟨rfl,hb2⟩))
  all_goals
   go_wp2_with fail
   go_meet
   exact⟨by first | rfl | trivial,by assumption⟩
 case rest=>
  obtain⟨rfl,g⟩:=hcut;obtain⟨w2,rfl⟩:∃w2,w2=wc:=⟨_,rfl⟩
  have M:=L4 w2 g.out;have t0:=L6 w2 g.out;clear L0 L1 L2 L3 L4 L5 L6 L7 Xb;have P:=gI hT1 g.out.size;have aBl:=(KJ.out.below a.out).below g.out;have HS2:=gO (HS1.out.below g.out);have R:=gO aBl.r2;have U:=aBl.l2;have Q:=gO aBl;have m:=gO (Below.trans a.out (g.out.mono a.out.size));have hsl:=uK.out.nS HK.out.hk;have hn2:y.n2<=256:=by omega
  clear aBl hsl;cases hown:y.c.own cpu with
  | some k=>
   obtain⟨hfi,L,C⟩:=YQ hn1 hown;rw[hfi];have Z:Hid (s.choose i cpu=aK (s,k)):=by
    unfold Hid Sy.choose;rw[Dz.out];simp only[hown]
   have hki:(k:Int)<y.n2:=by omega
   obtain⟨sb,so,K,KQ,vU⟩:=aZ aY (by decide) R.out L;obtain⟨e0,e1,e2⟩:=iK vU;have aJ3:(0:Int)<y.c.sl[k].n:=by omega
   generalize y.c.sl[k]=x at*;rw[K]at M;have hk0:(0:Int)<=k:=by omega
   clear vU hown hfi C L K;go_wp2_with fail
   exact bodyPost_ret (v:=aG #[aB aI (k:Int),aB aI 0]) (by simp[results,results139,go_sem]) rfl (.inr ⟨s,k,v,Z.out,rfl,HS2.out.sub (λ_ h=> .inl h),Safe.jT m.out,rfl⟩)
  | none=>
   have hcase:=YR hn1 hown;generalize dV (λx:Sl=>decide ((x.p:Int)=p)) y.c.sl=kf at*;have J:=gO hown;clear hown;go_upto_region 3 with fail
   go_cut [41] (λs41 wx=>s41= .bool false/\wx=w2)
   case first=>
    rcases hcase with hm | ⟨k,hm,L,hz⟩
    ·obtain rfl:=hm;go_wp2_with fail
     go_meet
     exact⟨by first | rfl | trivial,by first | rfl | trivial⟩
    ·obtain rfl:=hm;have hki:(k:Int)<y.n2:=by omega
     obtain⟨sb,so,K,KQ,vU⟩:=aZ aY (by decide) R.out L;obtain⟨e0,e1,e2⟩:=iK vU;have hk0:(0:Int)<=k:=by omega
     have aJ3:¬(0:Int)<y.c.sl[k].n:=by omega
     generalize y.c.sl[k]=x at*;rw[K]at M;clear vU L K hz;go_wp2_with fail
     go_meet
     exact⟨by first | rfl | trivial | (rw[gV (by omega)]),by first | rfl | trivial⟩
   case rest=>
    obtain⟨rfl,hwz⟩:=hcut;obtain rfl:w2=wc:=hwz.symm;have eg:∀args w,(callFunc 158 args).run prog w= .ok (.enter 158 args) w:=enters_of func158 (by kernel_rfl) rfl;have Y:=uK.out.ac;have hcp:=HK.out.hk.cp.2;have E:=Q.out.l3;have HIX:=gO (wL y.a2 y.n2 y.c2 y.c.sl 158 #[aH (aK ⟨w.heap.size,0,aJ⟩)] (λx=>decide (0<x.n)&& !y.c.ac.contains (x.p:Int)) w2 Q.out.l2 (by omega) R.out eg (λW hW x hx=>Rh x y w.heap.size f (i*6) W (gI P hW.size) (gI qW (gQ m.out.size hW.size)) E (by omega) (Q.out.r3.below hW) ((hW.cell (p:=⟨w.heap.size,0,aJ⟩) P).trans t0) (HL5.out W (Below.trans g.out (hW.mono g.out.size)))));obtain⟨kn,C⟩:∃kn,dV (λx:Sl=>decide (0<x.n)&& !y.c.ac.contains (x.p:Int)) y.c.sl=kn:=⟨_,rfl⟩
    rw[C]at HIX;have VI:=gO C;clear C eg
    go_upto_if 50 with (go_at_call 119;refine HIX.out.mono ?_;rintro I w3 ⟨rfl,F⟩)
    have HS3:=gO (HS2.out.below F);have T:=gO (gW m.out F);have t3:=(F.cell (p:=⟨w.heap.size,0,aJ⟩) P).trans t0;have hT3:=gI P F.size;clear M t0 F HIX R Q HS2 m;go_cut [10] (λs10 wx=>∃(B:Sy) (k:Nat) (q:Sc) (e:i<q.ys.length),s10=aB aI (k:Int)/\Hid (SS wx G (λk=>X k∨w.heap.size<=k/\k<b.heap.size) B q)/\Hid (q.a2=v.a2)/\wx.cell? ⟨w.heap.size,0,aJ⟩=aK (aH (aK ⟨f,i*6,aJ⟩))/\Hid (Safe X w wx)/\Hid (s.choose i cpu=aK (B.mine i cpu k,k))/\k<q.ys[i].c.sl.length/\q.ys[i].c.ac.length=s.h.aP)
    case first=>
     cases yG:y.c.nobody with
     | some k=>
      obtain⟨t,h2⟩:=Oy yG;have N:=VI.out;rw[t]at N;obtain rfl:=N;have hk0:¬(k:Int)<0:=by omega
      have Z:Hid (s.choose i cpu=aK (s.mine i cpu k,k)):=by
       unfold Hid Sy.choose;rw[Dz.out];simp only[J.out,yG]
      clear t yG;go_wp2_with fail
      go_meet
      exact⟨s,k,v,hi,by first | rfl | trivial,HS3,rfl,t3,Safe.jT T.out,Z,by rw[HY.out];exact h2,by rw[HY.out];exact Y⟩
     | none=>
      have N:=VI.out;rw[Oz yG]at N;obtain rfl:=N;have hG:=YM v s G i cpu (λk=>X k∨w.heap.size<=k/\k<b.heap.size) w3 HS3.out HK.out hi dA (ho.below T.out) (.inl hX0);rw[HY.out]at hG;cases hgr:s.grow i cpu y.c with
      | none=>
       have Z:Hid (s.choose i cpu=aJ):=by
        unfold Hid Sy.choose;rw[Dz.out];simp only[J.out,yG,hgr]
       have HG:Hid (Calls prog 159 #[aH (aK ⟨G,0,aJ⟩),aB aI i,aB aI cpu] w3 λI w'=>I=aN (aG #[aB aI 0,aB aI 6])/\Below w3.heap.size w3 w'):=by
        refine hG.mono ?_;rintro I w' (⟨_,h,hb⟩ | ⟨s',k,V,h,_⟩)
        ·exact⟨h,hb⟩
        ·rw[hgr]at h;cases h
       clear hG hgr yG;go_wp2_with (go_at_call 159;refine HG.out.mono ?_;rintro I w4 ⟨rfl,hb4⟩)
       exact bodyPost_ret (v:=aG #[aB aI 0,aB aI 6]) (by simp[results,results139,go_sem]) rfl (.inl ⟨Z.out,rfl,gW T.out hb4⟩)
      | some r=>
       obtain⟨B,k⟩:=r;have Z:Hid (s.choose i cpu=aK (B.mine i cpu k,k)):=by
        unfold Hid Sy.choose;rw[Dz.out];simp only[J.out,yG,hgr]
       have HG:Hid (Calls prog 159 #[aH (aK ⟨G,0,aJ⟩),aB aI i,aB aI cpu] w3 λI w'=>∃V,I=aN (aG #[aB aI k,aB aI 0])/\SS w' G (λk=>X k∨w.heap.size<=k/\k<b.heap.size) B V/\Safe (λk=>X k∨w.heap.size<=k/\k<b.heap.size) w3 w'/\V.a2=v.a2):=by
        refine hG.mono ?_;rintro I w' (⟨h,_⟩ | ⟨s',k',V,h,t,h2,N,h4⟩)
        ·rw[hgr]at h;cases h
        ·rw[hgr]at h;obtain⟨rfl,rfl⟩:B=s'/\k=k':=by simpa using h
         exact⟨V,t,h2,N,h4⟩
       have HGR:=gO hgr;clear hG hgr yG;go_wp2_with (go_at_call 159;refine HG.out.mono ?_;rintro I w4 ⟨q,rfl,hs4,hf4,hv4⟩)
       go_meet
       obtain⟨hg1,c2,hg2,hg3,hg4⟩:=Ri hic HGR.out;have hv2:q.ys.length=B.cs.length:=by
        have t:=congrArg List.length hs4.r.cy;simpa using t
       have e:i<q.ys.length:=by omega
       have hc2:q.ys[i].c.ac=y.c.ac/\k<q.ys[i].c.sl.length:=by
        have t:=congrArg (·[i]?) hs4.r.cy;simp only[List.getElem?_map,gJ e,Option.map_some]at t;rw[hg2]at t;have h5:q.ys[i].c=c2:=gP t;rw[h5];exact⟨hg3,hg4⟩
       exact⟨B,k,q,e,by first | rfl | trivial,hs4,hv4,(hf4.cell (p:=⟨w.heap.size,0,aJ⟩) hT3 (.inr ⟨gT _,hT1⟩)).trans t3,(Safe.jT T.out).trans (hf4.sub λ_ _ h=> .inl h),Z,hc2.2,by rw[hc2.1];exact Y⟩
    case rest=>
     obtain⟨B,k,q,e,rfl,H,HV2,t4,HF4,Z,hk2,YT⟩:=hcut;obtain⟨gc2,Rk,FP,aMm,aMn,sD⟩:=H.out.r.Vl e;obtain rfl:f=gc2:=by rw[HV2.out,ha2]at Rk;simpa using Rk
     have aJ4:=gL e;obtain⟨hr1,O,S⟩:=H.out.r.y aJ4;obtain⟨d,hy2⟩:∃d,q.ys[i]=d:=⟨_,rfl⟩
     have HY2:=gO hy2;rw[hy2]at sD hk2 YT hr1 O S;have aJ5:cpu<d.c.ac.length:=by omega
     obtain⟨D,aDY,_,aCB,aGy,aGz⟩:=oI S cpu (by simpa[sO]using aJ5);obtain⟨gs2,Hw,_,aMo,hcs2,aJ6⟩:=oI O (k*3) (by show k*3<(flat bQ d.c.sl).length;rw[flat_length aY];omega);have M:=(sD 4 (by decide)).1;have b5:=(sD 5 (by decide)).1;simp only[fD,vI,gC,gD]at M b5;have HA:=gO aDY;rw[aDY]at b5;rw[Hw]at M;have pa:∃u,wc.cell? ⟨D,cpu,aJ⟩=aK u:=⟨_,aGy⟩
     have ps:wc.cell? ⟨gs2,k*3,aJ⟩=aK (aB aI (d.c.sl[k].p:Int)):=by
      have t:=flat_get aY d.c.sl k hk2 0 (by decide);have h2:k*3<(flat bQ d.c.sl).length:=by rw[flat_length aY];omega
      rw[hcs2];have N:(flat bQ d.c.sl)[k*3]? =aK (vI (d.c.sl[k].p:Int)):=by simpa[bQ]using t
      rw[gJ h2]at N;exact N
     obtain⟨ua,pa⟩:=pa;have U:d.c.sl.length=d.n2:=bT aY (by decide) O;have E:d.c.ac.length=d.n3:=by
      have:=S.1;unfold sO at this;simpa using this
     have hki:(k:Int)<d.n2:=by omega
     have aOG:(cpu:Int)<d.n3:=by omega
     have hd:=(gX wc.heap.size wc).drew;have pad:=(hd.cell (p:=⟨D,cpu,aJ⟩) aCB).trans pa;have fad:=(hd.frozen (p:=⟨D,cpu,aJ⟩) aCB).trans aGz;have HF5:=gO (HF4.out.then hd);have hset:=(H.out.below hd).Yj e HY2.out HA.out cpu (d.c.sl[k].p:Int);have aCC:B.mine i cpu k=B.fO i {d.c with ac:=d.c.ac.set cpu (d.c.sl[k].p:Int)}:=by
      unfold Sy.mine;have t:B.cs[i]? =aK d.c:=by
       rw[<- H.out.r.cy,List.getElem?_map,gJ e,HY2.out];rfl
      rw[t];simp only[gJ hk2]
     have aBn:=gO hset;have OA:=gO aCC;generalize d.c.sl[k]=x at*;clear hd sD hr1 O S aDY Hw aGy hcs2 aJ6 hy2 hset aCC U E Rk;go_upto_region 11 with fail
     go_still_tail 14,(by kernel_rfl)
     change wpList _ _ _ _ _ wc.drew;clear M b5 pa ps t4 aGz;generalize wc.drew=wd at*;obtain⟨V,t1,t2,t3⟩:=aBn.out;have HT1:Hid (SS (wd.setCell ⟨D,cpu,aJ⟩ (aB aI (x.p:Int))) G X (B.mine i cpu k) V):=by
      unfold Hid;rw[OA.out];exact t1.sub (λ_ h=> .inl h)
     have HT2:Hid (Safe X w (wd.setCell ⟨D,cpu,aJ⟩ (aB aI (x.p:Int)))):=HF5.out.trans (t2.sub λ_ _ h=> .inl h);have HT3:Hid (V.a2=v.a2):=t3.trans HV2.out;clear t1 t2 t3 aBn OA HF5 HF4 H HV2;go_wp2_with fail
     exact bodyPost_ret (v:=aG #[aB aI (k:Int),aB aI 0]) (by simp[results,results139,go_sem]) rfl (.inr ⟨_,k,V,Z.out,rfl,HT1.out,HT2.out,HT3.out⟩)
def aJ7 (v:Sc)(s:Sy)(i cpu:Nat)(G:Nat)(X:Nat->Prop)(w:World)(ev:Ending)(w':World):Prop:=(s.one i cpu=aJ/\ev=aN (aG #[aB aI 0,aB aI 6])/\Below w.heap.size w w')∨(∃(c:Sy) (a:Int) (b:Sc),s.one i cpu=aK (c,a)/\ev=aN (aG #[aB aI a,aB aI 0])/\SS w' G X c b/\Safe X w w'/\b.a2=v.a2)
def YV (s':Sy)(i k:Nat):Prop:=∃c x,s'.cs[i]? =aK c/\c.sl[k]? =aK x/\0<x.n/\x.n<=64/\0<=x.h/\x.h<4096/\s'.w.length=4096/\s'.cs.length<=20/\c.sl.length<=256
theorem TP (v:Sc)(s:Sy)(G i cpu:Nat)(X:Nat->Prop)(w:World)(hs:SS w G X s v)(hk:cZ s)(hi:i<v.ys.length)(dA:cpu<s.h.aP)(ho:vP w)(hX0:X 1)(hch:∀s' k,s.choose i cpu=aK (s',k)->YV s' i k):
 Calls prog 107 #[aH (aK ⟨G,0,aJ⟩),aB aI i,aB aI cpu] w (aJ7 v s i cpu G X w):=by
 have U:=Rj v s G i cpu X w hs hk hi dA ho hX0;cases hco:s.choose i cpu with
 | none=>
  have O:Hid (s.one i cpu=aJ):=by
   unfold Hid Sy.one;rw[hco]
  have V:Hid (Calls prog 139 #[aH (aK ⟨G,0,aJ⟩),aB aI i,aB aI cpu] w λt K=>t=aN (aG #[aB aI 0,aB aI 6])/\Below w.heap.size w K):=by
   refine U.mono ?_;rintro t K (⟨_,h,hb⟩ | ⟨s',k,C,h,_⟩)
   ·exact⟨h,hb⟩
   ·rw[hco]at h;cases h
  clear U hco hch hs hk;go_enter func107,ntmps107
  go_wp2_with (go_at_call 139;refine V.out.mono ?_;rintro t w4 ⟨rfl,hb4⟩)
  exact bodyPost_ret (v:=aG #[aB aI 0,aB aI 6]) (by simp[results,results107,go_sem]) rfl (.inl ⟨O.out,rfl,hb4⟩)
 | some r=>
  obtain⟨e,k⟩:=r;obtain⟨c,x,I,H,hxn,hxm,hx0,hx4,hwl,hcl,hsl⟩:=hch e k hco;have V:Hid (Calls prog 139 #[aH (aK ⟨G,0,aJ⟩),aB aI i,aB aI cpu] w λt K=>∃C,t=aN (aG #[aB aI k,aB aI 0])/\SS K G X e C/\Safe X w K/\C.a2=v.a2):=by
   refine U.mono ?_;rintro t K (⟨h,_⟩ | ⟨s',k',C,h,f,T,h3,h4⟩)
   ·rw[hco]at h;cases h
   ·rw[hco]at h;obtain⟨rfl,rfl⟩:e=s'/\k=k':=by simpa using h
    exact⟨C,f,T,h3,h4⟩
  have O:Hid (s.one i cpu=aK (e.fO i {c with sl:=c.sl.set k ⟨x.p,x.n-1,e.w.getD x.h.toNat 0⟩},x.h)):=by
   unfold Hid Sy.one;rw[hco];simp only[Sy.pop,I,H]
  have D:=gO I;have P:=gO H;clear U hco hch hs hk I H;go_enter func107,ntmps107
  go_upto_region 4 with (go_at_call 139;refine V.out.mono ?_;rintro t w2 ⟨J,rfl,a,R,L⟩)
  have o:i<J.ys.length:=by
   have f:=congrArg List.length a.r.cy;simp only[gTe]at f;have T:=(gK.1 D.out).1;omega
  have aOH:J.ys.length<=20:=by
   have f:=congrArg List.length a.r.cy;simp only[gTe]at f;omega
  have YW:J.ys[i].c=c:=by
   have f:=congrArg (·[i]?) a.r.cy;simp only[List.getElem?_map,gJ o,Option.map_some]at f;rw[D.out]at f;exact gP f
  obtain⟨gc,Q,qW,Ov,VJ,E⟩:=a.r.Vl o;obtain⟨hr1,m,hr3⟩:=a.r.y (gL o);obtain⟨y,hy⟩:∃y,J.ys[i]=y:=⟨_,rfl⟩
  rw[hy]at E m YW;subst YW;obtain⟨F,z⟩:=gK.1 P.out;have b:∀j,j<3->∃g,y.a2=aK ⟨g,0,aJ⟩/\g<w2.heap.size/\w2.cell? ⟨g,k*3+j,aJ⟩=(bQ x)[j]? /\w2.frozen? ⟨g,k*3+j,aJ⟩=false:=λj hj=>by
   have q:k*3+j<(flat bQ y.c.sl).length:=by rw[flat_length aY];omega
   obtain⟨g,f,_,T,h3,h4⟩:=oI m (k*3+j) q;refine⟨g,f,T,?_,h4⟩;rw[h3,<- z,<- flat_get aY y.c.sl k F j hj];exact(gJ q).symm
  obtain⟨gs,l,OB,s1,hq4⟩:=b 1 (by decide);obtain⟨gs2,Hw,hq2,Y,f2⟩:=b 2 (by decide);obtain⟨gs1,W,hq1,hq3,f1⟩:=b 1 (by decide);obtain rfl:gs=gs2:=by rw[l]at Hw;simpa using Hw
  obtain rfl:gs=gs1:=by rw[l]at W;simpa using W
  simp only[bQ,vI,gC,gD]at s1 Y;have b4:=(E 4 (by decide)).1;simp only[fD,vI,gC,gD]at b4;rw[l]at b4;have g6:=a.k 6;have g0:=a.k 0;unfold Sc.vals at g0 g6;simp only[gB,gC,gD]at g0 g6;rw[Q]at g6;have A:=a.r.at
  have hlw:=A.lw;have B:x.h.toNat<e.w.length:=by omega
  obtain⟨wb,wo,N,aOI,M⟩:=A.rw x.h.toNat (vI e.w[x.h.toNat]) (by rw[List.getElem?_map,gJ B];rfl)
  have S:e.w.getD x.h.toNat 0=e.w[x.h.toNat]:=by simp[List.getD,gJ B]
  rw[N]at g0;have Z:y.c.sl.length=y.n2:=bT aY (by decide) m;have hkn:(k:Int)<y.n2:=by omega
  have hii:(i:Int)<J.ys.length:=by omega
  have aOJ:x.h<J.n1:=by omega
  have hxn:(x.n:Int)-1=((x.n-1:Nat):Int):=by omega
  have d:=a.aJh o hy l F (e.w[x.h.toNat]) (n':=x.n-1);rw[z]at d;rw[S]at O;obtain⟨u,hu⟩:∃u,e.w[x.h.toNat]=u:=⟨_,rfl⟩
  rw[hu]at d O M;unfold vI at M d;have HP:=gO d;have HF2:=gO R;have HV2:=gO L;clear hq1 hq2 hq3 hq4 d R L b l W Hw E hy N A hlw S hu z Z Q hr1 m hr3 hwl hcl hsl F D P V B;go_wp2_with fail
  obtain⟨C,t1,t2,t3⟩:=HP.out;exact bodyPost_ret (v:=aG #[aB aI x.h,aB aI 0]) (by simp[results,results107,go_sem]) rfl (.inr ⟨_,x.h,C,O.out,rfl,t1,HF2.out.trans t2,t3.trans HV2.out⟩)
section
variable {W W':World}{G:Nat}{X:Nat->Prop}{s:Sy}{v:Sc}
theorem SS.out (hs:SS W G X s v)(hg:W.grownBy W' row)(hrow:∀k,row=aK k->X k)(hZ:∀k,Z k->X k∨(W.heap.size<=k/\k<W'.heap.size)):SS W' G Z s v:=by
 have f:aK G≠row:=λe=>hs.r.hr.xg (hrow G e.symm)
 have c:SS W' G X s v:=⟨⟨⟨λr hr=>tX (hs.r.own.each r hr) λk b d=>hg.block k d λe=>(hs.r.og r hr k b).2 (hrow k e.symm),hs.r.own.GZ⟩,hs.r.og,
  hs.r.hr.kept (Y:=λk=>¬X k) (Safe.o7 hg λk b e=>b (hrow k e.symm)) (λq a k b e=>by
   rcases gZ.1 a with a | a
   ·exact(hs.r.hr.og q a k b).2 e
   ·exact hs.r.hr.rx q a k b e),hs.r.hd,hs.r.cy⟩,bV hs.k hs.r.hr.gs hg f,bY hs.fz hs.r.hr.gs hg f⟩
 refine c.more λk b=> ?_
 rcases hZ k b with h | ⟨i,g⟩
 ·refine⟨c.r.hr.xs k h,c.r.QN h,λq a e=> ?_⟩;rcases gZ.1 a with a | a
  ·exact(c.r.hr.og q a k e).2 h
  ·exact c.r.hr.rx q a k e h
 ·refine⟨g,?_,λq a e=> ?_⟩
  ·rintro(rfl | ⟨r,hr,e⟩)
   ·have:=hs.r.hr.gs;omega
   ·have:=hs.r.lt r hr k e;omega
  ·have:=hs.r.hr.lt q a k e;omega
end
theorem Jc {s':Sy}{j:Nat}(h:s.bulk i cpu j=aK (s',l))(h1:s'.one i cpu=aJ):∀m,j<m->s.bulk i cpu m=aJ
 | 0,hm=>by omega
 | m+1,hm=>by
  by_cases e:j=m
  ·subst e;unfold Sy.bulk;rw[h];simp only[h1]
  ·unfold Sy.bulk;rw[Jc h h1 m (by omega)]
theorem VN {s' t:Sy}{j:Nat}{a:Int}(h:s.bulk i cpu j=aK (s',l))(h1:s'.one i cpu=aK (t,a)):s.bulk i cpu (j+1)=aK (t,l++[a]):=by
 unfold Sy.bulk;rw[h];simp only[h1]
theorem cZ.chosen (hk:cZ s)(hi:s.cs[i]? =aK c)(dA:cpu<s.h.aP):∀s' k,s.choose i cpu=aK (s',k)->YV s' i k:=λs' k o=>by
 obtain⟨b,q,e,x,j,f,g⟩:=hk.choose hi dA o;have a:=gM j;have d:=gM f;obtain⟨m,_,p,_,n,l,_⟩:=b.first a d g;exact⟨e,x,j,f,g,gQ ((b.ck e a).sk x d).Nb (b.ck e a).r64,n,l,b.wl,b.cl,(b.ck e a).nS b.hk⟩
def aGB (s:Sy)(i cpu many:Nat)(w:World)(ev:Ending)(w':World):Prop:=(s.bulk i cpu many=aJ/\ev=aN (aG #[aC #[aA aJ 0 0,aA aJ 0 0,aA aJ 0 0,aB aI 0,aA aJ 0 0,aA aJ 0 0,aA aJ 0 0],aA aJ 0 0,aB aI 6])/\Below w.heap.size w w')∨(∃(a:Sy) (l:List Int) (b:Sc) (c:Option Addr) (d:Nat),s.bulk i cpu many=aK (a,l)/\ev=aN (aG #[.agg (b.vals a),aA c many d,aB aI 0])/\iI w' w.heap.size a b/\l.length=many/\w'.ownsRow w.heap.size 3 1 (aA c many d) many (l.map vI)/\Below w.heap.size w w')
theorem YX (v:Sc)(s:Sy)(n:List UInt8)(cpu i many:Nat)(w:World)(hs:nO w v s)(hk:cZ s)(hf:∀c∈s.cs,c.ns.length<=1000)(hi:s.named n=aK i)(dA:cpu<s.h.aP)(hm1:1<=many)(hm2:many<=256)(ho:vP w):
 Calls prog 54 #[aC #[aA v.a1 v.n1 v.c1,aA v.hc.az 2 v.hc.cz,aA v.hc.am 2 v.hc.cm,aB aI (s.h.aP:Int),aA v.hc.al v.hc.lc.length v.hc.cl,aA v.hc.av s.h.live.length v.hc.cv,aA v.a2 v.ys.length v.c2],aF ⟨n.toArray⟩,aB aI cpu,aB aI many] w (aGB s i cpu many w):=by
 obtain⟨K1,K2,F1,F2,G,hbw⟩:=boxes2 w #[aA v.a1 v.n1 v.c1,aA v.hc.az 2 v.hc.cz,aA v.hc.am 2 v.hc.cm,aB aI (s.h.aP:Int),aA v.hc.al v.hc.lc.length v.hc.cl,aA v.hc.av s.h.live.length v.hc.cv,aA v.a2 v.ys.length v.c2] 42 #[aA aJ 0 0,aA aJ 0 0,aA aJ 0 0,aB aI 0,aA aJ 0 0,aA aJ 0 0,aA aJ 0 0] 42;have hil:i<s.cs.length:=by
  unfold Sy.named at hi;rw[List.findIdx?_eq_some_iff_getElem]at hi;exact hi.1
 have hs1:=hs.below hbw;have HA:=gO (Em v s n cpu i _ hs1 hk hf hi dA);obtain⟨k0,k1,k2,k3,k4,k5,k6⟩:=gA7 K1;have HK:=gO hk;have HB1:=gO hbw;have HK1:=gO K1;have HF1:=gO F1;have HK2:=gO K2;have HF2:=gO F2;have H:w.heap.size<((w.alloc (aO #[aA v.a1 v.n1 v.c1,aA v.hc.az 2 v.hc.cz,aA v.hc.am 2 v.hc.cm,aB aI (s.h.aP:Int),aA v.hc.al v.hc.lc.length v.hc.cl,aA v.hc.av s.h.live.length v.hc.cv,aA v.a2 v.ys.length v.c2] 42)).alloc (aO #[aA aJ 0 0,aA aJ 0 0,aA aJ 0 0,aB aI 0,aA aJ 0 0,aA aJ 0 0,aA aJ 0 0] 42)).heap.size:=by simp;omega
 have aJ8:¬(many:Int)<1:=by omega
 have aJ9:¬(256:Int)<many:=by omega
 clear hs hk hf hi hs1 K1 K2 F1 F2 hbw;go_enter func54,ntmps54
 go_upto_region 1 with fail
 generalize (w.alloc _).alloc _=w1 at*;go_upto_region 6 with (go_at_call 57;refine HA.out.mono ?_;rintro S w2 ⟨d,he,U,u⟩;unfold YI Sc.vals at he;subst he;have K12:=aQ HK1.out H u;have F12:=aU HF1.out H u;obtain⟨y0,y1,y2,y3,y4,y5,y6⟩:=gA7 K12;obtain⟨f0,f1,f2,f3,f4,f5,f6⟩:=gF7 F12;skip)
 have hw1:w.heap.size<=w1.heap.size:=HB1.out.size;have pV:SR w2 w.heap.size (λk=>k<w.heap.size∨k=w.heap.size+1) s d:=SR.lift U (Nat.lt_of_succ_lt G) (λk hk=>by omega) (by omega);have T:=SS.put7 pV K12 F12;have HS3:=gO T;have aGC:=aQ HK2.out G u;have aGD:=aU HF2.out G u;have m:w.heap.size+1≠w.heap.size:=by omega
 have aGE:=aS aGC m 0 (aA d.a1 d.n1 d.c1);have aGF:=aV aGD ⟨w.heap.size,0,aJ⟩ (aA d.a1 d.n1 d.c1);have aGG:=aS aGE m 1 (aA d.hc.az 2 d.hc.cz);have aGH:=aV aGF ⟨w.heap.size,1,aJ⟩ (aA d.hc.az 2 d.hc.cz);have aGI:=aS aGG m 2 (aA d.hc.am 2 d.hc.cm);have aGJ:=aV aGH ⟨w.heap.size,2,aJ⟩ (aA d.hc.am 2 d.hc.cm);have aGK:=aS aGI m 3 (aB aI (s.h.aP:Int));have aGL:=aV aGJ ⟨w.heap.size,3,aJ⟩ (aB aI (s.h.aP:Int));have aGM:=aS aGK m 4 (aA d.hc.al d.hc.lc.length d.hc.cl);have aGN:=aV aGL ⟨w.heap.size,4,aJ⟩ (aA d.hc.al d.hc.lc.length d.hc.cl);have aGO:=aS aGM m 5 (aA d.hc.av s.h.live.length d.hc.cv);have aGP:=aV aGN ⟨w.heap.size,5,aJ⟩ (aA d.hc.av s.h.live.length d.hc.cv);have aGQ:=aS aGO m 6 (aA d.a2 d.ys.length d.c2);have aGR:=aV aGP ⟨w.heap.size,6,aJ⟩ (aA d.a2 d.ys.length d.c2);have HT3:=gO aGQ;have HU3:=gO aGR;have HB3:=gO (dX (Below.trans HB1.out (u.mono hw1)) (gT _) d s);have K:w.heap.size+1<w2.heap.size:=gI G u.size;have R:(((((((w2.setCell ⟨w.heap.size,0,aJ⟩ (aA d.a1 d.n1 d.c1)).setCell ⟨w.heap.size,1,aJ⟩ (aA d.hc.az 2 d.hc.cz)).setCell ⟨w.heap.size,2,aJ⟩ (aA d.hc.am 2 d.hc.cm)).setCell ⟨w.heap.size,3,aJ⟩ (aB aI (s.h.aP:Int))).setCell ⟨w.heap.size,4,aJ⟩ (aA d.hc.al d.hc.lc.length d.hc.cl)).setCell ⟨w.heap.size,5,aJ⟩ (aA d.hc.av s.h.live.length d.hc.cv)).setCell ⟨w.heap.size,6,aJ⟩ (aA d.a2 d.ys.length d.c2)).heap.size=w2.heap.size:=by simp
 rw[<- R]at K;clear K12 F12 y0 y1 y2 y3 y4 y5 y6 f0 f1 f2 f3 f4 f5 f6 pV T U aGC aGE aGG aGI aGK aGM aGO aGQ aGD aGF aGH aGJ aGL aGN aGP aGR m HA k0 k1 k2 k3 k4 k5 k6 HK1 HF1 HK2 HF2 R;generalize ((((((w2.setCell _ _).setCell _ _).setCell _ _).setCell _ _).setCell _ _).setCell _ _).setCell _ _=Q at*;have hvl:i<d.ys.length:=by
  have h:=congrArg List.length HS3.out.r.cy;simp only[gTe]at h;omega
 have HO3:=gO (ho.below HB3.out);have hog:1<w.heap.size:=ho.sz;clear u HB1 G H hw1;go_wp2_with fail
 go_loopw [13,36] (λs13 s36 wr=>∃(j:Nat) (g:Sy) (l:List Int) (a:Sc) (x:Option Addr) (y:Nat),j<=many/\s36=aB aI (j:Int)/\s13=aA x j y/\Hid (s.bulk i cpu j=aK (g,l))/\l.length=j/\Hid (cZ g)/\g.h.aP=s.h.aP/\(∃c,g.cs[i]? =aK c)/\Hid (SS wr w.heap.size (λk=>(k<w.heap.size∨k=w.heap.size+1)∨(aA x j y).ownBlock=aK k) g a)/\Hid (wr.ownsRow Q.heap.size 3 1 (aA x j y) j (l.map vI))/\Hid (∀o,wr.cell? ⟨w.heap.size+1,o,aJ⟩=(#[aA aJ 0 0,aA aJ 0 0,aA aJ 0 0,aB aI 0,aA aJ 0 0,aA aJ 0 0,aA aJ 0 0]:Array Value)[o]?)/\Hid (∀o,wr.frozen? ⟨w.heap.size+1,o,aJ⟩=false)/\Q.heap.size<=wr.heap.size/\Hid (Below w.heap.size w wr)) (λ_ s36 _=>many-(intOf s36).toNat)
 case atStart=>
  exact⟨0,s,[],d,aJ,0,gU _,rfl,rfl,rfl,rfl,HK,rfl,⟨_,gJ hil⟩,HS3.out.sub (λk hk=>hk.resolve_right (by simp[gTh])),World.ownsRow_nil _ _ _ _,HT3,HU3,gT _,HB3⟩
 case round=>
  obtain⟨j,g,l,a,x,y,hj,rfl,rfl,J,hlj,Bf,aGS,hcj,E,z,M,Rl,W,rY⟩:=hrel;by_cases P:j<many
  ·have hji:(j:Int)<many:=by omega
   obtain⟨c,hc⟩:=hcj;have hiv:i<a.ys.length:=by
    have h:=congrArg List.length E.out.r.cy;simp only[gTe]at h;have h2:=(gK.1 hc).1;omega
   have YZ:cpu<g.h.aP:=by omega
   have O:=TP a g w.heap.size i cpu (λk=>(k<w.heap.size∨k=w.heap.size+1)∨(aA x j y).ownBlock=aK k) wr E.out Bf.out hiv YZ (ho.below rY.out) (.inl (.inl hog)) (Bf.out.chosen hc YZ);have f:w.heap.size<=w.heap.size+1:=Nat.le_succ _;have I:w.heap.size+1<wr.heap.size:=gI K W;cases hone:g.one i cpu with
   | none=>
    have Np:Hid (s.bulk i cpu many=aJ):=Jc J.out hone many P;have HC:Hid (Calls prog 107 #[aH (aK ⟨w.heap.size,0,aJ⟩),aB aI i,aB aI cpu] wr λS w'=>S=aN (aG #[aB aI 0,aB aI 6])/\Below wr.heap.size wr w'):=by
     refine O.mono ?_;rintro S w' (⟨_,h,hb⟩ | ⟨s'',b,D,h,_⟩)
     ·exact⟨h,hb⟩
     ·rw[hone]at h;cases h
    clear O hone E z Bf J;go_wp2_with (go_at_call 107;refine HC.out.mono ?_;rintro S F ⟨rfl,hb5⟩;have A:=aQ M.out I hb5;have FT:=aU Rl.out I hb5;obtain⟨y0,y1,y2,y3,y4,y5,y6⟩:=gA7 A;obtain⟨f0,f1,f2,f3,f4,f5,f6⟩:=gF7 FT;skip)
    have KX:=(aW (aW (aW (aW (aW (aW (aW A 0 (aA aJ 0 0)) 1 (aA aJ 0 0)) 2 (aA aJ 0 0)) 3 (aB aI 0)) 4 (aA aJ 0 0)) 5 (aA aJ 0 0)) 6 (aA aJ 0 0))
    simp only[gE,gG,gH]at KX;have kP:=gO (gS (gS (gS (gS (gS (gS (gS (gW rY.out hb5) (w.heap.size+1) 0 f (aA aJ 0 0)) (w.heap.size+1) 1 f (aA aJ 0 0)) (w.heap.size+1) 2 f (aA aJ 0 0)) (w.heap.size+1) 3 f (aB aI 0)) (w.heap.size+1) 4 f (aA aJ 0 0)) (w.heap.size+1) 5 f (aA aJ 0 0)) (w.heap.size+1) 6 f (aA aJ 0 0));clear y0 y1 y2 y3 y4 y5 y6 f0 f1 f2 f3 f4 f5 f6 A FT;generalize ((((((F.setCell _ _).setCell _ _).setCell _ _).setCell _ _).setCell _ _).setCell _ _).setCell _ _=wx at*;refine bodyPost_ret (v:=aG #[aC #[aA aJ 0 0,aA aJ 0 0,aA aJ 0 0,aB aI 0,aA aJ 0 0,aA aJ 0 0,aA aJ 0 0],aA aJ 0 0,aB aI 6]) (by simp[results,results54,go_sem,KX]) rfl (.inl ⟨Np.out,rfl,kP.out⟩)
   | some r=>
    obtain⟨t,b⟩:=r;have HC:Hid (Calls prog 107 #[aH (aK ⟨w.heap.size,0,aJ⟩),aB aI i,aB aI cpu] wr λS w'=>∃D,S=aN (aG #[aB aI b,aB aI 0])/\SS w' w.heap.size (λk=>(k<w.heap.size∨k=w.heap.size+1)∨(aA x j y).ownBlock=aK k) t D/\Safe (λk=>(k<w.heap.size∨k=w.heap.size+1)∨(aA x j y).ownBlock=aK k) wr w'):=by
     refine O.mono ?_;rintro S w' (⟨h,_⟩ | ⟨s'',b',D,h,h1,h2,h3,_⟩)
     ·rw[hone]at h;cases h
     ·rw[hone]at h;obtain⟨rfl,rfl⟩:t=s''/\b=b':=by simpa using h
      exact⟨D,h1,h2,h3⟩
    obtain⟨hkt,hct,hlt',aKa⟩:=Bf.out.one hc YZ hone;have HKT:=gO hkt;have HBK1:=gO (VN J.out hone);have aKb:t.h.aP=s.h.aP:=hct.trans aGS;clear O hone E Bf J hkt hct;go_upto_region 12 with (go_at_call 107;refine HC.out.mono ?_;rintro S F ⟨D,rfl,hs5,B⟩)
    have HR5:Hid (F.ownsRow Q.heap.size 3 1 (aA x j y) j (l.map vI)):=tX z.out λk hk P=>B.block k P (.inr hk)
    have HT5:=gO (B.box M.out I (.inl (.inr rfl)));have HU5:=gO (B.WV Rl.out I (.inl (.inr rfl)));have HB5:Hid (Below w.heap.size w F):=Safe.after rY.out B (λk hk=> .inl (.inl hk)) rY.out.size;have HS5:=gO hs5;have hw5:Q.heap.size<=F.heap.size:=gQ W B.size;clear hs5 B z M Rl rY HC;have ba:=aT F (aO #[aB aI b] 3);have HS6:=gO (HS5.out.below ba);have N:Hid ((F.alloc (aO #[aB aI b] 3)).ownsRow Q.heap.size 3 1 (aA x j y) j (l.map vI)):=own_below HR5.out ba (gT _);have ht5:w.heap.size+1<F.heap.size:=gI K hw5;have HT6:=gO (aQ HT5.out ht5 ba);have HU6:=gO (aU HU5.out ht5 ba);have HB6:=gO (gW HB5.out ba);have V:Q.heap.size<=(F.alloc (aO #[aB aI b] 3)).heap.size:=gQ hw5 ba.size;have hnw:=(World.news_of_block (heap_alloc_new F (aO #[aB aI b] 3)))
    have zA:=gO hnw;obtain⟨ti,hti,htz,hts,htb⟩:=info_parts mO;have hjm:j<=256:=by omega
    have ht6:w.heap.size+1<(F.alloc (aO #[aB aI b] 3)).heap.size:=gI K V;clear ba hnw HS5 HR5 HT5 HU5 HB5;go_wp2_with (at_builtin;refine wpList_append_lies _ rfl _ _ 34 rfl Q.heap.size 3 ti (aB aI 0) 1 8 underlying34 hti htz hts htb rfl (by decide) (aA x j y) j (l.map vI) rfl N.out ⟨F.heap.size,0,aJ⟩ 1 1 [aB aI b] rfl rfl zA.out (by simp[Value.oneCell']) (by decide) (by unfold maxLen;omega) (by omega) V _ rfl ?_;intro g7 L w7 ho7 C hl7 mQ)
    have X:aK (w.heap.size+1)≠(aA x j y).ownBlock:=λe=>by
     have:=(N.out.lt _ e.symm).1;omega
    have HS7:=gO (HS6.out.out (Z:=λk=>(k<w.heap.size∨k=w.heap.size+1)∨(aA (aK ⟨g7,0,aJ⟩) (j+1) L).ownBlock=aK k) C (λk e=> .inr e) (λk hk=>by
     rcases hk with h | h
     ·exact .inl (.inl h)
     ·obtain rfl:g7=k:=by simpa[gTh]using h
      rcases hl7 with h1 | h1
      ·exact .inl (.inr h1)
      ·exact .inr ⟨Nat.le_of_eq h1.symm,mQ⟩))
    have HR7:Hid (w7.ownsRow Q.heap.size 3 1 (aA (aK ⟨g7,0,aJ⟩) (j+1) L) (j+1) ((l++[b]).map vI)):=by
     unfold Hid;rw[List.map_append];exact ho7
    have HT7:=gO (bV HT6.out ht6 C X);have HU7:=gO (bY HU6.out ht6 C X);have HB7:Hid (Below w.heap.size w w7):=Below.grown HB6.out C HB6.out.size λk e=>by
     have:=(N.out.lt k e).1;omega
    have hw7:Q.heap.size<=w7.heap.size:=gQ V C.size;have aKc:(l++[b]).length=j+1:=by simp[hlj]
    clear ho7 C hl7 mQ HS6 N HT6 HU6 HB6 zA X;go_wp2
    go_roundw
    case rel=>exact⟨j+1,t,l++[b],D,aK ⟨g7,0,aJ⟩,L,by omega,by go_num,by first | rfl | trivial,HBK1,aKc,HKT,aKb,aKa,HS7,HR7,HT7,HU7,hw7,HB7⟩
    case measure=>simp[intOf];omega
  ·obtain rfl:j=many:=by omega
   have f:w.heap.size<=w.heap.size+1:=Nat.le_succ _;have I:w.heap.size+1<wr.heap.size:=gI K W;have A:=M.out;have q:(aA x j y).ownBlock≠aK (w.heap.size+1):=λe=>by
    have:=(z.out.lt _ e).1;omega
   have x0:=E.out.k 0;have x1:=E.out.k 1;have x2:=E.out.k 2;have x3:=E.out.k 3;have x4:=E.out.k 4;have x5:=E.out.k 5;have x6:=E.out.k 6;unfold Sc.vals at x0 x1 x2 x3 x4 x5 x6;have y0:=A 0;have y1:=A 1;have y2:=A 2;have y3:=A 3;have y4:=A 4;have y5:=A 5;have y6:=A 6;obtain⟨f0,f1,f2,f3,f4,f5,f6⟩:=gF7 Rl.out;simp only[gB,gC,gD]at x0 x1 x2 x3 x4 x5 x6 y0 y1 y2 y3 y4 y5 y6;have KX:=(qU A a g)
   have p:(λk=>(k<w.heap.size∨k=w.heap.size+1)∨(aA x j y).ownBlock=aK k) (w.heap.size+1):= .inl (.inr rfl);have A0:=E.out;have B0:=z.out;have A1:=A0.dQ p 0 (aA a.a1 a.n1 a.c1);have B1:=bU (i:=0) B0 q (aA a.a1 a.n1 a.c1);have A2:=A1.dQ p 1 (aA a.hc.az 2 a.hc.cz);have B2:=bU (i:=1) B1 q (aA a.hc.az 2 a.hc.cz);have A3:=A2.dQ p 2 (aA a.hc.am 2 a.hc.cm);have B3:=bU (i:=2) B2 q (aA a.hc.am 2 a.hc.cm);have A4:=A3.dQ p 3 (aB aI (g.h.aP:Int));have B4:=bU (i:=3) B3 q (aB aI (g.h.aP:Int));have A5:=A4.dQ p 4 (aA a.hc.al a.hc.lc.length a.hc.cl);have B5:=bU (i:=4) B4 q (aA a.hc.al a.hc.lc.length a.hc.cl);have A6:=A5.dQ p 5 (aA a.hc.av g.h.live.length a.hc.cv);have B6:=bU (i:=5) B5 q (aA a.hc.av g.h.live.length a.hc.cv);have A7:=A6.dQ p 6 (aA a.a2 a.ys.length a.c2);have B7:=bU (i:=6) B6 q (aA a.a2 a.ys.length a.c2);have pO:=gO (A7.sub (Y:=λk=>k<w.heap.size) (λk hk=> .inl (.inl hk))).r;have HRX:=gO (own_base B7 HB3.out.size);clear A0 A1 A2 A3 A4 A5 A6 A7 B0 B1 B2 B3 B4 B5 B6 B7 p;have kP:=gO (dX rY.out f a g);clear A M Rl z hcj;have HLJ:=gO hlj;clear hlj aGS P hj aJ8 aJ9;go_wp2_with fail
   generalize ((((((wr.setCell _ _).setCell _ _).setCell _ _).setCell _ _).setCell _ _).setCell _ _).setCell _ _=wx at*;refine bodyPost_ret (v:=aG #[aC #[aA a.a1 a.n1 a.c1,aA a.hc.az 2 a.hc.cz,aA a.hc.am 2 a.hc.cm,aB aI (g.h.aP:Int),aA a.hc.al a.hc.lc.length a.hc.cl,aA a.hc.av g.h.live.length a.hc.cv,aA a.a2 a.ys.length a.c2],aA x j y,aB aI 0]) (by simp[results,results54,go_sem,KX]) rfl (.inr ⟨g,l,a,x,y,J.out,rfl,pO.out,HLJ.out,HRX.out,kP.out⟩)
end Go.Proofs.YtjaogfhcnmjkiaaGreatDoor
