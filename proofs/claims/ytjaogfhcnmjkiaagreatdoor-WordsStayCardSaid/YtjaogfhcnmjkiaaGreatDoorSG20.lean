/- joined. -/
import Derived.Test.YtjaogfhcnmjkiaaGreatDoorSG18
import Derived.Test.YtjaogfhcnmjkiaaGreatDoorSG19
set_option linter.all false
set_option maxRecDepth 100000
set_option maxHeartbeats 0
namespace Go.Proofs.YtjaogfhcnmjkiaaGreatDoor
open Go.RowKit
open Go.Value renaming slice->aA,int->aB,agg->aC,string->aF,tuple->aG,pointer->aH,ownBlock->gTh
open Go.IntKind renaming i64->aI
open Option renaming none->aJ,some->aK
open Go.Ending renaming returned->aN
open Go.Obj renaming cells->aO
open Go.Proofs.Tryz
variable {a:Int}{b:Bk}{cpu i k:Nat}{h':Hp}{s:Sy}
theorem WC (n:Nat)(w:World)(hsz:yD w)(h1:1<=n)(h2:n<=32):
 Calls prog 108 #[aB aI n] w λev w'=>ev=aN (aG #[aF ⟨(kN (zz (vY n))).toArray⟩,.bool true])/\w=w':=by
 obtain⟨i,d,_,e⟩:=yB h1 h2;have r:=hsz.c 0 _ rfl;have s:=hsz.c 1 _ rfl;have p:=hsz.c 2 _ rfl;have t:=hsz.c 3 _ rfl;have m:=hsz.c 4 _ rfl;have x:=hsz.c 5 _ rfl;have k:=hsz.sz;obtain⟨J,l⟩:∃J,vY n=J:=⟨_,rfl⟩
 rw[l]at i d e ⊢;clear l;have o:Hid (∀W,Calls prog 51 #[aB aI (zz J:Int)] W λev w'=>ev=aN (aF ⟨(kN (zz J)).toArray⟩)/\W=w'):=λW=>SI i W
 have b:=gO e;have f:=gO d;clear hsz e d;go_enter func108,ntmps108
 go_upto_region 2 with fail
 clear r s p t m x;go_loopw [7] (λa wr=>∃(j:Nat),j<=J/\a=aB aI (j:Int)/\wr=w) (λa _=>6-(intOf a).toNat)
 case atStart=>exact⟨0,gU _,rfl,rfl⟩
 case round=>
  obtain⟨j,y,rfl,rfl⟩:=hrel;have q:(j:Int)<6:=by omega
  have h:(Instr.index 118 (aC #[aB aI 1,aB aI 2,aB aI 4,aB aI 8,aB aI 16,aB aI 32]) (aB aI (j:Int))).run prog wr= .ok (aB aI (zz j:Int)) wr:=ZE (by omega) wr;by_cases u:j=J
  ·subst u;have g:(n:Int)<=(zz j:Int):=by have:=f.out;omega
   go_wp2_with (go_at_call 51;refine(o.out _).mono ?_;rintro ev w' ⟨rfl,rfl⟩)
   exact bodyPost_ret (v:=aG #[aF ⟨(kN (zz j)).toArray⟩,.bool true]) (by simp[results,results108,go_sem]) rfl ⟨rfl,rfl⟩
  ·have g:¬(n:Int)<=(zz j:Int):=by have:=b.out j (by omega);omega
   generalize zz j=z at*;go_wp2
   go_roundw
   case rel=>exact⟨j+1,by omega,by go_num,by first | rfl | trivial⟩
   case measure=>simp[intOf];omega
theorem PD (n:Nat)(w:World)(hsz:yD w)(h1:33<=n):
 Calls prog 108 #[aB aI n] w λev w'=>ev=aN (aG #[aF ⟨#[]⟩,.bool false])/\w=w':=by
 have l:=hsz.c 0 _ rfl;have m:=hsz.c 1 _ rfl;have h:=hsz.c 2 _ rfl;have f:=hsz.c 3 _ rfl;have g:=hsz.c 4 _ rfl;have o:=hsz.c 5 _ rfl;have b:=hsz.sz;clear hsz;go_enter func108,ntmps108
 go_upto_region 2 with fail
 clear l m h f g o;go_loopw [7] (λa wr=>∃(j:Nat),j<=6/\a=aB aI (j:Int)/\wr=w) (λa _=>6-(intOf a).toNat)
 case atStart=>exact⟨0,gU _,rfl,rfl⟩
 case round=>
  obtain⟨j,p,rfl,rfl⟩:=hrel;by_cases d:j<6
  ·have i:(j:Int)<6:=by omega
   have e:(Instr.index 118 (aC #[aB aI 1,aB aI 2,aB aI 4,aB aI 8,aB aI 16,aB aI 32]) (aB aI (j:Int))).run prog wr= .ok (aB aI (zz j:Int)) wr:=ZE d wr;have k:¬(n:Int)<=(zz j:Int):=by have:=(aGX d).2;omega
   generalize zz j=z at*;go_wp2
   go_roundw
   case rel=>exact⟨j+1,by omega,by go_num,by first | rfl | trivial⟩
   case measure=>simp[intOf];omega
  ·obtain rfl:j=6:=by omega
   go_wp2
   exact bodyPost_ret (v:=aG #[aF ⟨#[]⟩,.bool false]) (by simp[results,results108,go_sem]) rfl ⟨rfl,rfl⟩
theorem Jv (b:Bk)(p:Nat)(w:World)(ha:b.a<=1000)(hp:p<=1000):
 Calls prog 83 #[aC #[aB aI b.a,aB aI b.o,aB aI b.t],aB aI p] w λe w'=>e=aN (aB aI ((b.a:Int)-p))/\Below w.heap.size w w':=by
 go_enter func83,ntmps83
 go_wp2
 go_ret
 exact⟨rfl,aAq _ _⟩
theorem MC (a:Option Addr)(n cap:Nat)(l:List Bk)(p:Nat)(w:World)(hn:l.length=n)(hl:n<=1000)(hr:Row w a (flat aAx l))(hrise:uN l)(ha:∀b∈l,b.a<=1000)(hp:p<=1000):
 Calls prog 69 #[aA a n cap,aB aI p,.func (.func 83) #[] #[]] w λe w'=>e=aN (aG #[aB aI (lb l p:Int),.bool (hasB l p)])/\Below w.heap.size w w':=by
 subst hn;have F:=mD l p;have P:∀k w,(callFunc 83 k).run prog w= .ok (.enter 83 k) w:=enters_of func83 (by kernel_rfl) rfl;go_enter func69,ntmps69
 go_wp2
 go_loopw [9,10,11] (λB s _ wr=>∃i j:Nat,i<=lb l p/\lb l p<=j/\j<=l.length/\B=aB aI i/\s=aB aI j/\Below w.heap.size w wr) (λB s _ _=>(intOf s).toNat-(intOf B).toNat)
 case atStart=>exact⟨0,l.length,gU _,F,gT _,rfl,rfl,gX _ _⟩
 case round=>
  obtain⟨i,j,N,J,O,rfl,rfl,f⟩:=hrel;by_cases I:i<j
  ·have E:(i+j)/2<l.length:=by omega
   have m:=gO (JW hrise (a:=p) E);obtain⟨b,off,rfl,hb,x⟩:=aAw aAu (by decide) (hr.below f) E;obtain⟨q,v,r⟩:=bH x;have t:=ha _ (gL E);clear hr x;generalize l[(i+j)/2]=y at*;go_wp2_with fail
   refine(Jv y p _ t hp).mono ?_;rintro e H ⟨rfl,u⟩;have d:=gW f u;clear q v r;by_cases o:y.a<p
   ·have M:=m.out.2 o;have D:(y.a:Int)-p<0:=by omega
    go_wp2
    go_roundw
    case rel=>exact⟨(i+j)/2+1,j,by omega,J,O,by go_num,rfl,d⟩
    case measure=>simp[intOf];omega
   ·have M:¬(i+j)/2<lb l p:=λh=>o (m.out.1 h)
    have D:¬(y.a:Int)-p<0:=by omega
    go_wp2
    go_roundw
    case rel=>exact⟨i,(i+j)/2,N,by omega,by omega,rfl,by go_num,d⟩
    case measure=>simp[intOf];omega
  ·obtain rfl:i=lb l p:=by omega
   have L:(lb l p:Int)<=l.length:=by omega
   by_cases C:lb l p<l.length
   ·obtain⟨b,off,rfl,hb,x⟩:=aAw aAu (by decide) (hr.below f) C;obtain⟨q,v,r⟩:=bH x;have t:=ha _ (gL C);have g:=gO (xY hrise (a:=p) C);have A:(lb l p:Int)<l.length:=by omega
    clear hr x;generalize l[lb l p]=y at*;generalize c:lb l p=K at*;have z:=gO c;clear c;go_wp2_with fail
    refine(Jv y p _ t hp).mono ?_;rintro e H ⟨rfl,u⟩;have d:=gW f u;clear q v r;by_cases G:y.a=p
    ·have D:((y.a:Int)-p == 0)=true:=by rw[beq_iff_eq];omega
     go_wp2
     go_ret2
     refine⟨?_,d⟩;rw[g.out,z.out,gTg G];rfl
    ·have D:((y.a:Int)-p == 0)=false:=by rw[beq_eq_false_iff_ne];omega
     go_wp2
     go_ret2
     refine⟨?_,d⟩;rw[g.out,z.out,gV G];rfl
   ·have g:=gO (wK hrise (a:=p) (by omega));have A:¬(lb l p:Int)<l.length:=by omega
    clear hr;generalize c:lb l p=K at*;have z:=gO c;clear c;go_wp2
    go_ret2
    refine⟨?_,f⟩;rw[g.out,z.out];rfl
def jY (ns:List (List UInt8)):Bool:=[1,2,4,8,16,32].any λk=>ns.contains (kN k)
theorem aBy {w:World}(h:yD w):Row w (aK ⟨0,0,aJ⟩) (flat iF [1,2,4,8,16,32]):=λi v a=>by
 refine⟨0,0,rfl,h.sz,?_⟩;rw[Nat.zero_add];refine h.c i v ?_
 match i,a with
 | 0,a=>exact a
 | 1,a=>exact a
 | 2,a=>exact a
 | 3,a=>exact a
 | 4,a=>exact a
 | 5,a=>exact a
 | i+6,a=>simp[flat,iF]at a
theorem ZG (y:Cc)(k B:Nat)(W:World)(hk:∃j,j<6/\k=zz j)(hl:y.c.ns.length=y.n1)(hn:y.n1<=1000000)(hr:Row W y.a1 (flat encS y.c.ns))(hB:B<W.heap.size)(hc:W.cell? ⟨B,0,aJ⟩=aK (aA y.a1 y.n1 y.c1)):
 Calls prog 77 (#[aB aI (k:Int)]++#[aH (aK ⟨B,0,aJ⟩)]) W λev w'=>ev=aN (.bool (y.c.ns.contains (kN k)))/\Below W.heap.size W w':=by
 show Calls prog 77 #[aB aI (k:Int),aH (aK ⟨B,0,aJ⟩)] W _;obtain⟨j,d,rfl⟩:=hk;have b:Hid (∀W,Calls prog 51 #[aB aI (zz j:Int)] W λev w'=>ev=aN (aF ⟨(kN (zz j)).toArray⟩)/\W=w'):=λW=>SI d W
 have a:=(gX W.heap.size W).drew;have h:Hid (Calls prog 19 #[aA y.a1 y.n1 y.c1,aF ⟨(kN (zz j)).toArray⟩] W.drew λe w'=>e=aN (.bool (y.c.ns.contains (kN (zz j))))/\W.drew=w'):=uS y.a1 y.n1 y.c1 y.c.ns (kN (zz j)) W.drew hl hn (hr.below a);have g:=gO a;have f:=(a.cell (p:=⟨B,0,aJ⟩) hB).trans hc;generalize zz j=z at*;clear a hl hr;go_enter func77,ntmps77
 go_upto_region 1 with fail
 go_region_with (first | (go_at_call 51;refine(b.out _).mono ?_;rintro ev w' ⟨rfl,rfl⟩) | (go_at_call 19;refine h.out.mono ?_;rintro e w' ⟨rfl,rfl⟩))
 all_goals
  go_wp2
  go_ret
  exact⟨aX (by rw[Bool.eq_iff_iff];simp),g.out⟩
theorem PE (y:Cc)(w:World)(hy:Ku w y)(hn:y.n1<=1000000)(hsz:yD w):
 Calls prog 39 #[aC #[aA y.a1 y.n1 y.c1,aB aI y.c.z,aB aI y.c.r,aB aI y.c.o,aA y.a2 y.n2 y.c2,aA y.a3 y.n3 y.c3]] w λev w'=>ev=aN (.bool (jY y.c.ns))/\Below w.heap.size w w':=by
 have j:∀a w,(callFunc 77 a).run prog w= .ok (.enter 77 a) w:=enters_of func77 (by kernel_rfl) rfl;obtain⟨K,F,b,hb⟩:=boxes1 w #[aA y.a1 y.n1 y.c1,aB aI (y.c.z:Int),aB aI (y.c.r:Int),aB aI (y.c.o:Int),aA y.a2 y.n2 y.c2,aA y.a3 y.n3 y.c3] 67;have g:=K 0;simp only[gB,gC,gD]at g;have d:=hy.below hb;have l:=gO (rH (aK ⟨0,0,aJ⟩) 6 6 [1,2,4,8,16,32] 77 #[aH (aK ⟨w.heap.size,0,aJ⟩)] (λk=>y.c.ns.contains (kN k)) _ rfl (by decide) (aBy (hsz.below hb)) j (λW f k i=>ZG y k w.heap.size W (by
  simp only[gY,List.not_mem_nil,or_false]at i;rcases i with rfl | rfl | rfl | rfl | rfl | rfl
  ·exact⟨0,by decide,rfl⟩
  ·exact⟨1,by decide,rfl⟩
  ·exact⟨2,by decide,rfl⟩
  ·exact⟨3,by decide,rfl⟩
  ·exact⟨4,by decide,rfl⟩
  ·exact⟨5,by decide,rfl⟩) d.l1 hn (d.r1.below f) (gI b f.size) ((f.cell (p:=⟨w.heap.size,0,aJ⟩) b).trans g)))
 have m:([1,2,4,8,16,32].any λk=>y.c.ns.contains (kN k))=jY y.c.ns:=rfl;rw[m]at l;generalize jY y.c.ns=t at*;have n:=gO hb;have s:=(hsz.below hb).c 0 _ rfl;have q:=(hsz.below hb).sz;clear j K F hb d hy hsz g;go_enter func39,ntmps39
 go_wp2_with (go_at_call 64;refine l.out.mono ?_;rintro e w' ⟨rfl,h⟩)
 go_ret
 exact⟨rfl,gW n.out h⟩
theorem WE (x:Sl)(p C:Nat)(W:World)(hx:x.p<=1000000)(hp:p<=1000000)(hC:C<W.heap.size)(hc:W.cell? ⟨C,0,aJ⟩=aK (aB aI (p:Int))):
 Calls prog 82 (#[.agg (aY x).toArray]++#[aH (aK ⟨C,0,aJ⟩)]) W λev w'=>ev=aN (.bool (decide (x.p=p)))/\Below W.heap.size W w':=by
 show Calls prog 82 #[aC #[aB aI x.p,aB aI x.n,aB aI x.h],aH (aK ⟨C,0,aJ⟩)] W _;have hb:=aAq W (aO #[aB aI (x.p:Int),aB aI (x.n:Int),aB aI x.h] 99);have a:=(hb.cell (p:=⟨C,0,aJ⟩) hC).trans hc;have b:C≠W.heap.size:=by omega
 have c:=gO hb;clear hb hc;go_enter func82,ntmps82
 go_wp2
 go_ret
 exact⟨aX (by rw[Bool.eq_iff_iff];simp only[beq_iff_eq,decide_eq_true_eq];omega),c.out⟩
theorem WG (y:Cc)(p C:Nat)(W:World)(hy:Ku W y)(hn:y.n2<=1000000)(hs:∀x∈y.c.sl,x.p<=1000000)(hp:p<=1000000)(hC:C<W.heap.size)(hc:W.cell? ⟨C,0,aJ⟩=aK (aB aI (p:Int))):
 Calls prog 80 (#[.agg (dX y).toArray]++#[aH (aK ⟨C,0,aJ⟩)]) W λev w'=>ev=aN (.bool (y.c.sl.any λx=>decide (x.p=p)))/\Below W.heap.size W w':=by
 show Calls prog 80 #[aC #[aA y.a1 y.n1 y.c1,aB aI y.c.z,aB aI y.c.r,aB aI y.c.o,aA y.a2 y.n2 y.c2,aA y.a3 y.n3 y.c3],aH (aK ⟨C,0,aJ⟩)] W _;have i:∀a w,(callFunc 82 a).run prog w= .ok (.enter 82 a) w:=enters_of func82 (by kernel_rfl) rfl;obtain⟨K,F,j,hb⟩:=boxes1 W #[aA y.a1 y.n1 y.c1,aB aI (y.c.z:Int),aB aI (y.c.r:Int),aB aI (y.c.o:Int),aA y.a2 y.n2 y.c2,aA y.a3 y.n3 y.c3] 67;have n:=K 4;simp only[gB,gC,gD]at n;have f:=(hb.cell (p:=⟨C,0,aJ⟩) hC).trans hc;have d:=gI hC hb.size;have b:=hy.below hb;have l:=gO (EU y.a2 y.n2 y.c2 y.c.sl 82 #[aH (aK ⟨C,0,aJ⟩)] (λx=>decide (x.p=p)) _ b.l2 (by omega) b.r2 i (λq h x m=>WE x p C q (hs x m) hp (gI d h.size) ((h.cell (p:=⟨C,0,aJ⟩) d).trans f)));have k:=gO hb;clear i K F hb b hy hc f;go_enter func80,ntmps80
 go_wp2_with (go_at_call 81;refine l.out.mono ?_;rintro e w' ⟨rfl,g⟩)
 go_ret
 exact⟨rfl,gW k.out g⟩
def xC (s:Sy)(a:Int)(ev:Ending):Prop:=(∃p:Nat,a=16*(p:Int)/\¬s.OO p/\hasB s.h.live p=true/\ev=aN (aG #[aB aI (lb s.h.live p:Int),.bool true]))∨((∀b,s.whole b->a≠16*(b.a:Int))/\∃i:Nat,ev=aN (aG #[aB aI (i:Int),.bool false]))
theorem aBz {v:Sc}(h:v.ys.map (·.c)=s.cs)(p:Nat):(v.ys.any λy=>y.c.sl.any λx=>decide (x.p=p))=true↔s.OO p:=by
 unfold Sy.OO;rw[<- h];simp only[List.any_eq_true,List.mem_map,decide_eq_true_eq];constructor
 ·rintro⟨y,a,x,b,e⟩;exact⟨y.c,⟨y,a,rfl⟩,x,b,e⟩
 ·rintro⟨c,⟨y,a,rfl⟩,x,b,e⟩;exact⟨y,a,x,b,e⟩
theorem Jw (v:Sc)(s:Sy)(a:Int)(w:World)(hs:lZ w v s)(hk:bQ s)(hab: -1000000<=a/\a<=10000):
 Calls prog 41 #[aC #[aA v.a1 v.n1 v.c1,aA v.hc.az 2 v.hc.cz,aA v.hc.am 2 v.hc.cm,aB aI (s.h.aAh:Int),aA v.hc.al v.hc.lc.length v.hc.cl,aA v.hc.av s.h.live.length v.hc.cv,aA v.a2 v.ys.length v.c2],aB aI a] w λev w'=>xC s a ev/\Below w.heap.size w w':=by
 obtain⟨D,K,t,f⟩:=boxes1 w #[aA v.a1 v.n1 v.c1,aA v.hc.az 2 v.hc.cz,aA v.hc.am 2 v.hc.cm,aB aI (s.h.aAh:Int),aA v.hc.al v.hc.lc.length v.hc.cl,aA v.hc.av s.h.live.length v.hc.cv,aA v.a2 v.ys.length v.c2] 42;by_cases hg:0<=a/\a%16=0
 ·obtain⟨p,rfl⟩:∃p:Nat,a=16*(p:Int):=⟨(a/16).toNat,by omega⟩
  have I:∀l w,(callFunc 80 l).run prog w= .ok (.enter 80 l) w:=enters_of func80 (by kernel_rfl) rfl;have hp1:¬(16*(p:Int))<0:=by omega
  have Z:(16*(p:Int)).tmod 16=0:=by rw[Int.tmod_eq_emod_of_nonneg (by omega)];omega
  have Y:(16*(p:Int)).tdiv 16=p:=by rw[Int.tdiv_eq_ediv_of_nonneg (by omega)];omega
  obtain⟨M,S,k,o⟩:=boxes1 (w.alloc (aO #[aA v.a1 v.n1 v.c1,aA v.hc.az 2 v.hc.cz,aA v.hc.am 2 v.hc.cm,aB aI (s.h.aAh:Int),aA v.hc.al v.hc.lc.length v.hc.cl,aA v.hc.av s.h.live.length v.hc.cv,aA v.a2 v.ys.length v.c2] 42)) #[aB aI (p:Int)] 3;have m:=hs.below f;have g:=m.below o;have r:=M 0;simp only[gB,gC]at r;have hyl:v.ys.length<=20:=by have:=congrArg List.length hs.cy;rw[gTe]at this;rw[this];exact hk.cl
  have d:=gO (wP v.a2 v.ys.length v.c2 v.ys 80 #[aH (aK ⟨(w.alloc (aO #[aA v.a1 v.n1 v.c1,aA v.hc.az 2 v.hc.cz,aA v.hc.am 2 v.hc.cm,aB aI (s.h.aAh:Int),aA v.hc.al v.hc.lc.length v.hc.cl,aA v.hc.av s.h.live.length v.hc.cv,aA v.a2 v.ys.length v.c2] 42)).heap.size,0,aJ⟩)] (λy=>y.c.sl.any λx=>decide (x.p=p)) _ rfl (by omega) g.rc I (λW z y O=>by
   have F:y.c∈s.cs:=by rw[<- hs.cy];exact List.mem_map_of_mem O
   have u:=hk.ck _ F;have h2:=(g.ca y O).l2;exact WG y p _ W ((g.below z).ca y O) (by have:=u.mW hk.hk;omega) (λx hx=>by have:=(u.sk x hx).BM hk.hk;omega) (by omega) (gI k z.size) ((z.cell (p:=⟨(w.alloc (aO #[aA v.a1 v.n1 v.c1,aA v.hc.az 2 v.hc.cz,aA v.hc.am 2 v.hc.cm,aB aI (s.h.aAh:Int),aA v.hc.al v.hc.lc.length v.hc.cl,aA v.hc.av s.h.live.length v.hc.cv,aA v.a2 v.ys.length v.c2] 42)).heap.size,0,aJ⟩) k).trans r)))
  have j:=aBz hs.cy p;have J:(w.alloc (aO #[aA v.a1 v.n1 v.c1,aA v.hc.az 2 v.hc.cz,aA v.hc.am 2 v.hc.cm,aB aI (s.h.aAh:Int),aA v.hc.al v.hc.lc.length v.hc.cl,aA v.hc.av s.h.live.length v.hc.cv,aA v.a2 v.ys.length v.c2] 42)).heap.size=w.heap.size+1:=by simp
  have E:=aAp D t o;have C:=gI t o.size;obtain⟨U,k1,k2,Q,T,R,V⟩:=gA7 E;have L:=gO g;have A:=gO (gW f o);have P:=gO hk;rw[J]at d r k;cases hany:(v.ys.any λy=>y.c.sl.any λx=>decide (x.p=p))with
  | true=>
   rw[hany]at d;have q:Hid (xC s (16*(p:Int)) (aN (aG #[aB aI 0,.bool false]))):= .inr ⟨λb hb e=>by
    obtain rfl:p=b.a:=by omega
    exact(cO.1 hb).2 (j.1 hany),0,rfl⟩
   clear j hany I hs m g f o D K M S E hk;go_enter func41,ntmps41
   go_upto_region 4 with fail
   generalize (w.alloc _).alloc _=w2 at*;go_wp2_with (go_at_call 32;refine d.out.mono ?_;rintro e w' ⟨rfl,n⟩)
   exact bodyPost_ret (v:=aG #[aB aI 0,.bool false]) (by simp[results,results41,go_sem]) rfl ⟨q.out,gW A.out n⟩
  | false=>
   rw[hany]at d;have q:Hid (xC s (16*(p:Int)) (aN (aG #[aB aI (lb s.h.live p:Int),.bool (hasB s.h.live p)]))):=by
    cases hh:hasB s.h.live p with
    | true=>exact .inl ⟨p,rfl,(λe=>by rw[j.2 e]at hany;cases hany),hh,rfl⟩
    | false=>
     refine .inr ⟨λb hb e=> ?_,_,rfl⟩;obtain rfl:p=b.a:=by omega
     have h9:hasB s.h.live b.a=true:=by
      unfold hasB;exact List.any_eq_true.2 ⟨b,hb.1,gTg rfl⟩
     rw[h9]at hh;cases hh
   have B:Hid (∀W,Below ((w.alloc (aO #[aA v.a1 v.n1 v.c1,aA v.hc.az 2 v.hc.cz,aA v.hc.am 2 v.hc.cm,aB aI (s.h.aAh:Int),aA v.hc.al v.hc.lc.length v.hc.cl,aA v.hc.av s.h.live.length v.hc.cv,aA v.a2 v.ys.length v.c2] 42)).alloc (aO #[aB aI (p:Int)] 3)).heap.size ((w.alloc (aO #[aA v.a1 v.n1 v.c1,aA v.hc.az 2 v.hc.cz,aA v.hc.am 2 v.hc.cm,aB aI (s.h.aAh:Int),aA v.hc.al v.hc.lc.length v.hc.cl,aA v.hc.av s.h.live.length v.hc.cv,aA v.a2 v.ys.length v.c2] 42)).alloc (aO #[aB aI (p:Int)] 3)) W->Calls prog 69 #[aA v.hc.av s.h.live.length v.hc.cv,aB aI p,.func (.func 83) #[] #[]] W λe w'=>e=aN (aG #[aB aI (lb s.h.live p:Int),.bool (hasB s.h.live p)])/\Below W.heap.size W w'):=λW z=>MC v.hc.av s.h.live.length v.hc.cv s.h.live p W rfl (by have:=P.out.hk.iU;omega) ((L.out.below z).hh.vr) P.out.hk.vs (λb hb=>by
    obtain⟨_,_,h4,_⟩:=(P.out.hk.lv b hb).1;omega) (by omega)
   have H:=gO E;clear j hany I hs m g f o D K M S E hk;go_enter func41,ntmps41
   go_upto_region 4 with fail
   generalize (w.alloc _).alloc _=w2 at*;go_upto_region 6 with (go_at_call 32;refine d.out.mono ?_;rintro e w3 ⟨rfl,i⟩)
   have X:=aAp H.out C i;have ka3:=(i.cell (p:=⟨w.heap.size+1,0,aJ⟩) k).trans r;have N:=gO (B.out w3 i);have G:=gO (gW A.out i);clear U k1 k2 Q T R V r i B d;obtain⟨U,k1,k2,Q,T,R,V⟩:=gA7 X;go_wp2_with (go_at_call 69;refine N.out.mono ?_;rintro e w' ⟨rfl,n⟩)
   exact bodyPost_ret (v:=aG #[aB aI (lb s.h.live p:Int),.bool (hasB s.h.live p)]) (by simp[results,results41,go_sem]) rfl ⟨q.out,gW G.out n⟩
 ·have q:Hid (xC s a (aN (aG #[aB aI 0,.bool false]))):= .inr ⟨λb hb e=>hg (by omega),0,rfl⟩;have A:=gO f;clear hs hk f D K;by_cases h0:a<0
  ·go_enter func41,ntmps41
   go_wp2
   exact bodyPost_ret (v:=aG #[aB aI 0,.bool false]) (by simp[results,results41,go_sem]) rfl ⟨q.out,A.out⟩
  ·have h1:¬a.tmod 16=0:=by rw[Int.tmod_eq_emod_of_nonneg (by omega)];omega
   go_enter func41,ntmps41
   go_wp2
   exact bodyPost_ret (v:=aG #[aB aI 0,.bool false]) (by simp[results,results41,go_sem]) rfl ⟨q.out,A.out⟩
section
open Classical in
noncomputable def Sy.oL (s:Sy)(a:Int):Option (Nat×Nat):=if h:∃p:Nat×Nat,s.eF p.1 p.2 a then aK h.choose else aJ
theorem bQ.qH (hk:bQ s)(h:s.eF i k a):s.oL a=aK (i,k):=by
 have b:∃p:Nat×Nat,s.eF p.1 p.2 a:=⟨(i,k),h⟩
 unfold Sy.oL;rw[dif_pos b];have d:=b.choose_spec;obtain⟨c,e⟩:=hk.vF d h;rw[show b.choose=(i,k)from Prod.ext c e]
theorem zL (h:∀i k,¬s.eF i k a):s.oL a=aJ:=by
 unfold Sy.oL;rw[dif_neg];rintro⟨p,b⟩;exact h _ _ b
theorem tV (h:s.oL a=aK (i,k)):s.eF i k a:=by
 unfold Sy.oL at h;split at h
 ·rename_i h1;have b:=h1.choose_spec;rw[gP h]at b;exact b
 ·cases h
theorem WH (h:s.oL a=aJ):∀i k,¬s.eF i k a:=λi k b=>by
 unfold Sy.oL at h;rw[dif_pos ⟨(i,k),b⟩]at h;cases h
noncomputable def Sy.fP (s:Sy)(a:Int):Option (Nat×Nat×Ca):=match s.oL a with
 | some (i,k)=>match s.cs[i]? with
  | some c=>if jY c.ns then aK (i,k,c)else aJ
  | none=>aJ
 | none=>aJ
open Classical in
noncomputable def Sy.kT (s:Sy)(a:Int):Option Bk:=if h:∃b,s.whole b/\a=16*(b.a:Int)then aK h.choose else aJ
theorem bQ.Gt (hk:bQ s){b':Bk}(h1:b∈s.h.live)(h2:b'∈s.h.live)(h:b.a=b'.a):b=b':=by
 have c:=lX hk.hk.vs h1;have d:=lX hk.hk.vs h2;rw[h,d]at c;exact(gP c).symm
theorem bQ.DV (hk:bQ s)(h:s.whole b):s.kT (16*(b.a:Int))=aK b:=by
 have c:∃d,s.whole d/\(16*(b.a:Int))=16*(d.a:Int):=⟨b,h,rfl⟩
 unfold Sy.kT;rw[dif_pos c];obtain⟨e,f⟩:=c.choose_spec;rw[hk.Gt e.1 h.1 (by omega)]
theorem nX (h:s.kT a=aK b):s.whole b/\a=16*(b.a:Int):=by
 unfold Sy.kT at h;split at h
 ·rename_i h1;have c:=h1.choose_spec;rw[gP h]at c;exact c
 ·cases h
theorem SL (h:s.kT a=aJ):∀b,s.whole b->a≠16*(b.a:Int):=λb hb e=>by
 unfold Sy.kT at h;rw[dif_pos ⟨b,hb,e⟩]at h;cases h
noncomputable def Sy.dG (s:Sy)(a:Int):Option Nat:=match s.fP a with
 | some (_,_,c)=>aK c.z
 | none=>(s.kT a).map λb=>16*2^b.o
def Sy.iK (s:Sy)(cpu:Nat)(b:Bk):Sy:={s with h:=s.h.iD cpu (lb s.h.live b.a) b}
noncomputable def Sy.fM (s:Sy)(cpu:Nat)(a:Int):Option Sy:=match s.fP a with
 | some (i,k,_)=>aK (s.free i k a.toNat cpu)
 | none=>(s.kT a).map λb=>s.iK cpu b
theorem bQ.setH (hk:bQ s)(hh:eY h')(hc:h'.aAh=s.h.aAh)(hl:∀b∈s.h.live,s.OO b.a->b∈h'.live):bQ {s with h:=h'}:=by
 refine⟨hk.wl,hh,hk.cl,λc d=> ?_,hk.zd,hk.nd,hk.pd⟩;refine(hk.ck c d).move hc λx e=> ?_
 obtain⟨b,hb,f,g⟩:=((hk.ck c d).sk x e).live;exact⟨⟨b,hl b hb ⟨c,d,x,e,f.symm⟩,f,g⟩,((hk.ck c d).sk x e).chain⟩
theorem bQ.ZH (hk:bQ s){order t a:Nat}{u lo:Bool}(bJ:cpu<s.h.aAh)(ho:order<=4)(ht:t<3)(he:s.h.alloc cpu order t u lo=aK (h',a)):
 bQ {s with h:=h'}/\h'.aAh=s.h.aAh/\(∀b,({s with h:=h'}:Sy).whole b↔b=⟨a,order,t⟩∨s.whole b)/\(∀b∈s.h.live,apartB a order b)/\cZ 0 256 a order:=by
 obtain⟨v,n,f,d,k⟩:=hk.hk.alloc bJ ho ht he;have j:∀b∈s.h.live,apartB a order b:=λb hb=>dH λq g i=>by
  have w:=v.one q;rw[dJ,d,sJ]at w;have B:0<cnt s.h.live q:=jC.2 ⟨b,hb,i⟩;have D:hit (⟨a,order,t⟩:Bk) q=1:=jT.2 g;omega
 refine⟨hk.setH v f.aAh λb hb _=>by rw[d];exact rP.2 (.inr hb),f.aAh,λb=> ?_,j,k⟩;have l:∀p,({s with h:=h'}:Sy).OO p↔s.OO p:=λp=>Iff.rfl
 rw[cO,cO,l];show b∈h'.live/\_↔_;rw[d,rP];constructor
 ·rintro⟨g | g,i⟩
  ·exact .inl g
  ·exact .inr ⟨g,i⟩
 ·rintro(rfl | ⟨g,i⟩)
  ·refine⟨.inl rfl,fun⟨c,A,x,y,e⟩=> ?_⟩;obtain⟨r,m,G,_⟩:=((hk.ck c A).sk x y).live;have z:=j r m;unfold apartB Bk.fin at z;have C:=Nat.two_pow_pos order;have F:=Nat.two_pow_pos r.o;have E:x.p=a:=e;omega
  ·exact⟨.inr g,i⟩
theorem bQ.iK (hk:bQ s)(bJ:cpu<s.h.aAh)(hb:s.whole b):
 bQ (s.iK cpu b)/\(s.iK cpu b).h.aAh=s.h.aAh/\(∀x,(s.iK cpu b).whole x↔s.whole x/\x≠b)/\(∃hi:lb s.h.live b.a<s.h.live.length,s.h.live[lb s.h.live b.a]=b)/\hasB s.h.live b.a=true:=by
 have v:=lX hk.hk.vs hb.1;obtain⟨hi,e⟩:=gK.1 v;obtain⟨u,y,r,t⟩:=hk.hk.iD bJ hi;rw[e]at u r t;have c:∀x,x∈(s.h.iD cpu (lb s.h.live b.a) b).live↔x∈s.h.live/\x≠b:=λx=>by
  rw[t,List.mem_eraseIdx_iff_getElem];constructor
  ·rintro⟨j,k,f,d⟩;refine⟨by rw[<- d];exact gL k,λq=>f ?_⟩;have l:=lX hk.hk.vs (gL k);have g:=hk.hk.vs;rw[gN]at g;have i:s.h.live[j]=s.h.live[lb s.h.live b.a]:=by rw[e,d,q]
   rcases Nat.lt_trichotomy j (lb s.h.live b.a)with h | h | h
   ·have:=g j _ k hi h;rw[i]at this;omega
   ·exact h
   ·have:=g _ j hi k h;rw[i]at this;omega
  ·rintro⟨o,f⟩;obtain⟨j,k,d⟩:=List.mem_iff_getElem.1 o;refine⟨j,k,λq=> ?_,d⟩;subst q;rw[e]at d;exact f d.symm
 refine⟨hk.setH u r.aAh λx o w=>(c x).2 ⟨o,λd=>(cO.1 hb).2 (d▸w)⟩,r.aAh,λx=> ?_,⟨hi,e⟩,?_⟩
 ·have m:∀p,(s.iK cpu b).OO p↔s.OO p:=λp=>Iff.rfl
  rw[cO,cO,m];show x∈(s.h.iD cpu (lb s.h.live b.a) b).live/\_↔_;rw[c];constructor
  ·rintro⟨⟨l,i⟩,n⟩;exact⟨⟨l,n⟩,i⟩
  ·rintro⟨⟨l,n⟩,i⟩;exact⟨⟨l,i⟩,n⟩
 ·unfold hasB;exact List.any_eq_true.2 ⟨b,hb.1,gTg rfl⟩
theorem bQ.kZ (hk:bQ s)(hb:s.whole b):∀i k,¬s.eF i k (16*(b.a:Int)):=λi k ⟨c,x,r,q,p⟩=>by
 have d:=gM r;have f:=gM q;obtain⟨m,h,l,n⟩:=((hk.ck c d).sk x f).live;have g:b.a≠m.a:=λe=>hb.2 c d x f (by rw[<- l];exact e.symm)
 have j:=kK hk.hk hb.1 h g;have t:=jK (hk.ck c d).room p.1;unfold apartB Bk.fin at j;rw[l,n]at j;have v:=Nat.two_pow_pos b.o;generalize 2^b.o=u at*;generalize 2^c.o=w at*;omega
end
def Sy.WI (s:Sy)(r:Option (Hp×Nat)):Option (Sy×Int):=match r with
 | some (h',a)=>aK ({s with h:=h'},16*(a:Int))
 | none=>aJ
def Sy.dV (s:Sy)(cpu n:Nat):Option (Sy×Int):=if n<=32 then(match s.named (kN (zz (vY n)))with
 | some i=>s.one i cpu
 | none=>aJ)else s.WI (s.h.alloc cpu (tK n) 0 false false)
def ZI (s:Sy):Prop:=∀j,j<6->∃i,s.named (kN (zz j))=aK i
theorem Ip (v:Sc)(s:Sy)(cpu n:Nat)(w:World)(hs:lZ w v s)(hk:bQ s)(hf:∀c∈s.cs,c.ns.length<=1000)(hkn:ZI s)(bJ:cpu<s.h.aAh)(ho:sS w)(hsz:yD w)(h1:1<=n)(h2:n<=32):
 Calls prog 55 #[aC #[aA v.a1 v.n1 v.c1,aA v.hc.az 2 v.hc.cz,aA v.hc.am 2 v.hc.cm,aB aI (s.h.aAh:Int),aA v.hc.al v.hc.lc.length v.hc.cl,aA v.hc.av s.h.live.length v.hc.cv,aA v.a2 v.ys.length v.c2],aB aI cpu,aB aI n] w (zM (s.dV cpu n) w):=by
 obtain⟨K,K2,F1,F2,k,j⟩:=boxes2 w #[aA v.a1 v.n1 v.c1,aA v.hc.az 2 v.hc.cz,aA v.hc.am 2 v.hc.cm,aB aI (s.h.aAh:Int),aA v.hc.al v.hc.lc.length v.hc.cl,aA v.hc.av s.h.live.length v.hc.cv,aA v.a2 v.ys.length v.c2] 42 #[aA aJ 0 0,aA aJ 0 0,aA aJ 0 0,aB aI 0,aA aJ 0 0,aA aJ 0 0,aA aJ 0 0] 42;have u:=hs.below j;obtain⟨i,X⟩:=hkn (vY n) (yB h1 h2).1;have t:s.dV cpu n=s.one i cpu:=by
  unfold Sy.dV;rw[if_pos h2,X]
 rw[t];generalize U:(w.alloc (aO #[aA v.a1 v.n1 v.c1,aA v.hc.az 2 v.hc.cz,aA v.hc.am 2 v.hc.cm,aB aI (s.h.aAh:Int),aA v.hc.al v.hc.lc.length v.hc.cl,aA v.hc.av s.h.live.length v.hc.cv,aA v.a2 v.ys.length v.c2] 42)).alloc (aO #[aA aJ 0 0,aA aJ 0 0,aA aJ 0 0,aB aI 0,aA aJ 0 0,aA aJ 0 0,aA aJ 0 0] 42)=x at*;have qI:=gO (kE v s x u hk hf);have Xg:Hid (∀W,Below x.heap.size x W->Calls prog 108 #[aB aI n] W λg p=>g=aN (aG #[aF ⟨(kN (zz (vY n))).toArray⟩,.bool true])/\W=p):=λW H=>WC n W ((hsz.below j).below H) h1 h2
 have I:Hid (∀W,Below x.heap.size x W->Calls prog 53 #[aC #[aA v.a1 v.n1 v.c1,aA v.hc.az 2 v.hc.cz,aA v.hc.am 2 v.hc.cm,aB aI (s.h.aAh:Int),aA v.hc.al v.hc.lc.length v.hc.cl,aA v.hc.av s.h.live.length v.hc.cv,aA v.a2 v.ys.length v.c2],aF ⟨(kN (zz (vY n))).toArray⟩,aB aI cpu] W (zM (s.one i cpu) W)):=λW H=>Jy v s (kN (zz (vY n))) cpu i W (u.below H) hk hf X bJ ((ho.below j).below H)
 generalize zz (vY n)=z at*;obtain⟨rA,Xm⟩:∃rA,s.one i cpu=rA:=⟨_,rfl⟩
 rw[Xm]at I ⊢;obtain⟨k0,k1,k2,k3,k4,k5,k6⟩:=gA7 K;have V:=gO j;have N:=gO K;have P:=gO K2;have HF2:=gO F2;have E:w.heap.size<x.heap.size:=by omega
 have hn1:¬(n:Int)<1:=by omega
 clear hs hk hf X u K K2 F1 F2 j hkn ho hsz Xm t;go_enter func55,ntmps55
 go_upto_region 1 with fail
 try rw[U]
 go_upto_region 7 with (first | (go_at_call 11;refine qI.out.mono ?_;rintro g q ⟨rfl,d⟩) | (go_at_call 108;refine(Xg.out _ d).mono ?_;rintro g p ⟨rfl,rfl⟩))
 have HB2:=gO d;have y:=aAp N.out E d;have A:=gI k d.size;have C:=gO (aAp P.out k d);have F:=gO (aAt HF2.out k d);have Us:=gO (gW V.out d);have m:=I.out q d;have aOM:w.heap.size<=q.heap.size:=Us.out.size;clear k0 k1 k2 k3 k4 k5 k6 qI Xg I d HB2;obtain⟨k0,k1,k2,k3,k4,k5,k6⟩:=gA7 y;clear y;cases rA with
 | none=>
  have O:Hid (Calls prog 53 #[aC #[aA v.a1 v.n1 v.c1,aA v.hc.az 2 v.hc.cz,aA v.hc.am 2 v.hc.cm,aB aI (s.h.aAh:Int),aA v.hc.al v.hc.lc.length v.hc.cl,aA v.hc.av s.h.live.length v.hc.cv,aA v.a2 v.ys.length v.c2],aF ⟨(kN z).toArray⟩,aB aI cpu] q λg p=>g=aN (aG #[aC #[aA aJ 0 0,aA aJ 0 0,aA aJ 0 0,aB aI 0,aA aJ 0 0,aA aJ 0 0,aA aJ 0 0],aB aI 0,aB aI 6])/\Below q.heap.size q p):=by
   refine m.mono ?_;rintro g p (⟨_,h,hb⟩ | ⟨s',b',B,h,_⟩)
   ·exact⟨h,hb⟩
   ·cases h
  clear m;go_wp2_with (go_at_call 53;refine O.out.mono ?_;rintro g w3 ⟨rfl,e⟩;have f:=aAp C.out A e;have l:=aAt F.out A e;obtain⟨Z,y1,y2,L,y4,y5,y6⟩:=gA7 f;obtain⟨f0,M,Y,f3,f4,R,f6⟩:=gF7 l;skip)
  have Q:=nil7 f (gW Us.out e) (Nat.le_succ _);have J:=Q.1;have S:=gO Q.2;clear Q f l Z y1 y2 L y4 y5 y6 f0 M Y f3 f4 R f6;generalize ((((((w3.setCell _ _).setCell _ _).setCell _ _).setCell _ _).setCell _ _).setCell _ _).setCell _ _=wx at*;exact bodyPost_ret (v:=aG #[aC #[aA aJ 0 0,aA aJ 0 0,aA aJ 0 0,aB aI 0,aA aJ 0 0,aA aJ 0 0,aA aJ 0 0],aB aI 0,aB aI 6]) (by simp[results,results55,go_sem,J]) rfl (.inl ⟨rfl,rfl,S.out⟩)
 | some r=>
  obtain⟨o,b⟩:=r;have O:Hid (Calls prog 53 #[aC #[aA v.a1 v.n1 v.c1,aA v.hc.az 2 v.hc.cz,aA v.hc.am 2 v.hc.cm,aB aI (s.h.aAh:Int),aA v.hc.al v.hc.lc.length v.hc.cl,aA v.hc.av s.h.live.length v.hc.cv,aA v.a2 v.ys.length v.c2],aF ⟨(kN z).toArray⟩,aB aI cpu] q λg p=>∃a,g=aN (aG #[aC #[aA a.a1 a.n1 a.c1,aA a.hc.az 2 a.hc.cz,aA a.hc.am 2 a.hc.cm,aB aI (o.h.aAh:Int),aA a.hc.al a.hc.lc.length a.hc.cl,aA a.hc.av o.h.live.length a.hc.cv,aA a.a2 a.ys.length a.c2],aB aI b,aB aI 0])/\fO p q.heap.size o a/\Below q.heap.size q p):=by
   refine m.mono ?_;rintro g p (⟨h,_⟩ | ⟨s',b',B,h,h1,h2,h3⟩)
   ·cases h
   ·obtain⟨rfl,rfl⟩:o=s'/\b=b':=by simpa using h
    exact⟨B,h1,h2,h3⟩
  clear m;go_wp2_with (go_at_call 53;refine O.out.mono ?_;rintro g w3 ⟨a,rfl,D,e⟩;have f:=aAp C.out A e;have l:=aAt F.out A e;obtain⟨Z,y1,y2,L,y4,y5,y6⟩:=gA7 f;obtain⟨f0,M,Y,f3,f4,R,f6⟩:=gF7 l;skip)
  have J:=CU f a o;have oI:=gO (fO.put7 (T:=w.heap.size+1) (G:=w.heap.size) D A (by omega));have S:=gO (aAz (T:=w.heap.size+1) (gW Us.out e) (Nat.le_succ _) a o);clear f l Z y1 y2 L y4 y5 y6 f0 M Y f3 f4 R f6 D e;generalize ((((((w3.setCell _ _).setCell _ _).setCell _ _).setCell _ _).setCell _ _).setCell _ _).setCell _ _=wx at*;exact bodyPost_ret (v:=aG #[aC #[aA a.a1 a.n1 a.c1,aA a.hc.az 2 a.hc.cz,aA a.hc.am 2 a.hc.cm,aB aI (o.h.aAh:Int),aA a.hc.al a.hc.lc.length a.hc.cl,aA a.hc.av o.h.live.length a.hc.cv,aA a.a2 a.ys.length a.c2],aB aI b,aB aI 0]) (by simp[results,results55,go_sem,J]) rfl (.inr ⟨o,b,a,rfl,rfl,oI.out,S.out⟩)
theorem shl16 {o:Nat}(h:o<=4):wrap64 (16*2^o)=((16*2^o:Nat):Int):=by
 obtain rfl | rfl | rfl | rfl | rfl:o=0∨o=1∨o=2∨o=3∨o=4:=by omega
 all_goals decide+kernel
theorem PN (v:Sc)(s:Sy)(cpu n:Nat)(w:World)(hs:lZ w v s)(hk:bQ s)(hf:∀c∈s.cs,c.ns.length<=1000)(bJ:cpu<s.h.aAh)(ho:sS w)(hsz:yD w)(h1:33<=n)(h2:n<=256):
 Calls prog 55 #[aC #[aA v.a1 v.n1 v.c1,aA v.hc.az 2 v.hc.cz,aA v.hc.am 2 v.hc.cm,aB aI (s.h.aAh:Int),aA v.hc.al v.hc.lc.length v.hc.cl,aA v.hc.av s.h.live.length v.hc.cv,aA v.a2 v.ys.length v.c2],aB aI cpu,aB aI n] w (zM (s.dV cpu n) w):=by
 obtain⟨K1,K2,F1,F2,i,z⟩:=boxes2 w #[aA v.a1 v.n1 v.c1,aA v.hc.az 2 v.hc.cz,aA v.hc.am 2 v.hc.cm,aB aI (s.h.aAh:Int),aA v.hc.al v.hc.lc.length v.hc.cl,aA v.hc.av s.h.live.length v.hc.cv,aA v.a2 v.ys.length v.c2] 42 #[aA aJ 0 0,aA aJ 0 0,aA aJ 0 0,aB aI 0,aA aJ 0 0,aA aJ 0 0,aA aJ 0 0] 42;have A:=hs.below z;generalize hw1:(w.alloc (aO #[aA v.a1 v.n1 v.c1,aA v.hc.az 2 v.hc.cz,aA v.hc.am 2 v.hc.cm,aB aI (s.h.aAh:Int),aA v.hc.al v.hc.lc.length v.hc.cl,aA v.hc.av s.h.live.length v.hc.cv,aA v.a2 v.ys.length v.c2] 42)).alloc (aO #[aA aJ 0 0,aA aJ 0 0,aA aJ 0 0,aB aI 0,aA aJ 0 0,aA aJ 0 0,aA aJ 0 0] 42)=L at*;have qI:=gO (kE v s L A hk hf);have Xg:Hid (∀W,Below L.heap.size L W->Calls prog 108 #[aB aI n] W λj p=>j=aN (aG #[aF ⟨#[]⟩,.bool false])/\W=p):=λW hW=>PD n W ((hsz.below z).below hW) (by omega)
 obtain⟨hO2,hO4,hOn,_,U⟩:=zI h1 h2;obtain⟨I,Xm⟩:∃I,s.h.alloc cpu (tK n) 0 false false=I:=⟨_,rfl⟩
 have aHo:s.dV cpu n=s.WI I:=by
  unfold Sy.dV;rw[if_neg (by omega),Xm]
 rw[aHo];have hA:∀d a,I=aK (d,a)->a<=256:=λd a e=>by
  rw[<- Xm]at e;obtain⟨_,_,_,_,_,_,h5,_⟩:=hk.hk.alloc bJ (by omega) (by decide) e;omega
 have HA:=gO hA;clear hA;obtain⟨O,hO⟩:∃O,tK n=O:=⟨_,rfl⟩
 rw[hO]at hO2 hO4 hOn U Xm;have HOL:=gO U;have HPA:Hid (∀W,Below L.heap.size L W->Calls prog 52 #[aC #[aA v.hc.az 2 v.hc.cz,aA v.hc.am 2 v.hc.cm,aB aI (s.h.aAh:Int),aA v.hc.al v.hc.lc.length v.hc.cl,aA v.hc.av s.h.live.length v.hc.cv],aB aI cpu,aB aI (O:Int),aB aI ((0:Nat):Int)] W λj p=>Below W.heap.size W p/\((I=aJ/\j=aN (aG #[aC #[aA aJ 0 0,aA aJ 0 0,aB aI 0,aA aJ 0 0,aA aJ 0 0],aB aI 0,aB aI 6]))∨(∃(d:Hp) (a:Nat) (b:Hc),I=aK (d,a)/\j=aN (aG #[.agg (b.vals d),aB aI (a:Nat),aB aI 0])/\kR p W.heap.size d b))):=λW hW=>by
  have h:=CQ v.hc.az v.hc.am v.hc.al v.hc.av v.hc.cz v.hc.cm v.hc.cl v.hc.cv v.hc.lc.length s.h.live.length v.hc.y0 v.hc.y1 v.hc.lc s.h cpu O 0 W (A.below hW).hh hk.hk (by have:=(A.hh.ll);have h9:=congrArg List.length this;rw[gTe]at h9;rw[h9];have:=hk.hk.oQ;omega) (by have:=hk.hk.iU;omega) bJ hO4 (by decide) (by decide) ((ho.below z).below hW);have e0:s.h.alloc cpu O (mP 0) (decide (0/8%2=1)) (decide (0%2=1))=I:=Xm;rw[e0]at h;exact h
 obtain⟨k0,k1,k2,k3,k4,k5,k6⟩:=gA7 K1;have HB1:=gO z;have C:=gO K1;have R:=gO F1;have E:=gO K2;have G:=gO F2;have Hf:Hid (∀W,Below L.heap.size L W->Calls prog 12 #[aC #[aA v.a1 v.n1 v.c1,aA v.hc.az 2 v.hc.cz,aA v.hc.am 2 v.hc.cm,aB aI (s.h.aAh:Int),aA v.hc.al v.hc.lc.length v.hc.cl,aA v.hc.av s.h.live.length v.hc.cv,aA v.a2 v.ys.length v.c2]] W λj p=>∃m,j=aN (aC #[aA m.a1 m.n1 m.c1,aA m.hc.az 2 m.hc.cz,aA m.hc.am 2 m.hc.cm,aB aI (s.h.aAh:Int),aA m.hc.al m.hc.lc.length m.hc.cl,aA m.hc.av s.h.live.length m.hc.cv,aA m.a2 m.ys.length m.c2])/\fO p W.heap.size s m/\Below W.heap.size W p):=λW hW=>oJ v s W (A.below hW) hk hf
 have hn1:¬(n:Int)<1:=by omega
 have u:w.heap.size<L.heap.size:=by omega
 clear hs hk hf A K1 K2 F1 F2 z hsz aHo Xm hO U ho;go_enter func55,ntmps55
 go_upto_region 1 with fail
 try rw[hw1]
 go_upto_region 9 with (first | (go_at_call 11;refine qI.out.mono ?_;rintro j w2 ⟨rfl,X⟩) | (go_at_call 108;refine(Xg.out _ X).mono ?_;rintro j p ⟨rfl,rfl⟩))
 have HB12:=gO X;clear k0 k1 k2 k3 k4 k5 k6 qI Xg X;go_wp2_with fail
 go_loopw [38] (λV wr=>∃o:Nat,o<=O/\V=aB aI (o:Int)/\wr=w2) (λV _=>5-(intOf V).toNat)
 case atStart=>exact⟨0,by omega,rfl,rfl⟩
 case round=>
  obtain⟨o,ho,rfl,rfl⟩:=hrel;have aON:(o:Int)<5:=by omega
  have hsh:=shl16 (o:=o) (by omega);by_cases hlt:o<O
  ·have hP:=HOL.out o hlt;generalize y:16*2^o=P at hP;have hPi:(P:Int)<n:=by omega
   rw[y]at hsh;clear y;go_wp2
   go_roundw
   case rel=>exact⟨o+1,by omega,by go_num,by first | rfl | trivial⟩
   case measure=>simp[intOf];omega
  ·obtain rfl:o=O:=by omega
   generalize y:16*2^o=P at hOn;have hPi:¬(P:Int)<n:=by omega
   rw[y]at hsh;clear y;have q:=HB12.out;have K12:=aAp C.out u q;obtain⟨k0,k1,k2,k3,k4,k5,k6⟩:=gA7 K12;have F:=HPA.out wr q;clear HPA;have qZ:w.heap.size<wr.heap.size:=gI u q.size;have tZ:w.heap.size+1<wr.heap.size:=gI i q.size;cases I with
   | none=>
    have HPN:Hid (Calls prog 52 #[aC #[aA v.hc.az 2 v.hc.cz,aA v.hc.am 2 v.hc.cm,aB aI (s.h.aAh:Int),aA v.hc.al v.hc.lc.length v.hc.cl,aA v.hc.av s.h.live.length v.hc.cv],aB aI cpu,aB aI (o:Int),aB aI 0] wr λj p=>j=aN (aG #[aC #[aA aJ 0 0,aA aJ 0 0,aB aI 0,aA aJ 0 0,aA aJ 0 0],aB aI 0,aB aI 6])/\Below wr.heap.size wr p):=by
     refine F.mono ?_;rintro j p ⟨hb,(⟨_,h⟩ | ⟨d,a',b,h,_⟩)⟩
     ·exact⟨h,hb⟩
     ·cases h
    have HE:Hid (s.WI aJ=aJ):=rfl;clear F;go_upto_region 14 with (go_at_call 52;refine HPN.out.mono ?_;rintro j t ⟨rfl,x⟩)
    have g:=gW x (aAq t (aO #[aA aJ 0 0,aA aJ 0 0,aB aI 0,aA aJ 0 0,aA aJ 0 0] 39));have Y:=gO (aAp (aAp E.out i q) tZ g);have tX:=gO (aAt (aAt G.out i q) tZ g);have qL:=gO (gW (gW HB1.out q) g);clear x g E G C R K12 k0 k1 k2 k3 k4 k5 k6 HPN Hf;generalize t.alloc _=w4 at*;generalize t.heap.size=B14 at*;obtain⟨q0,q1,q2,q3,q4,q5,q6⟩:=gA7 Y.out;obtain⟨f0,f1,f2,f3,f4,f5,f6⟩:=gF7 tX.out;have jP:=nil7 Y.out qL.out (show w.heap.size<=w.heap.size+1 by omega);have KX:=jP.1;have jA:=gO jP.2;clear jP Y tX qL;go_wp2_with fail
    generalize ((((((w4.setCell _ _).setCell _ _).setCell _ _).setCell _ _).setCell _ _).setCell _ _).setCell _ _=wx at*;exact bodyPost_ret (v:=aG #[aC #[aA aJ 0 0,aA aJ 0 0,aA aJ 0 0,aB aI 0,aA aJ 0 0,aA aJ 0 0,aA aJ 0 0],aB aI 0,aB aI 6]) (by simp[results,results55,go_sem,KX]) rfl (.inl ⟨HE.out,rfl,jA.out⟩)
   | some r=>
    obtain⟨d,a⟩:=r;have SX:Hid (Calls prog 52 #[aC #[aA v.hc.az 2 v.hc.cz,aA v.hc.am 2 v.hc.cm,aB aI (s.h.aAh:Int),aA v.hc.al v.hc.lc.length v.hc.cl,aA v.hc.av s.h.live.length v.hc.cv],aB aI cpu,aB aI (o:Int),aB aI 0] wr λj p=>∃b,j=aN (aG #[aC #[aA b.az 2 b.cz,aA b.am 2 b.cm,aB aI (d.aAh:Int),aA b.al b.lc.length b.cl,aA b.av d.live.length b.cv],aB aI (a:Int),aB aI 0])/\kR p wr.heap.size d b/\Below wr.heap.size wr p):=by
     refine F.mono ?_;rintro j p ⟨hb,(⟨h,_⟩ | ⟨h'',a',b,h,h1,h2⟩)⟩
     ·cases h
     ·obtain⟨rfl,rfl⟩:d=h''/\a=a':=by simpa using h
      exact⟨b,h1,h2,hb⟩
    have HE:Hid (s.WI (aK (d,a))=aK ({s with h:=d},16*(a:Int))):=rfl;clear F;go_upto_region 14 with (go_at_call 52;refine SX.out.mono ?_;rintro j t ⟨b,rfl,hn3,x⟩)
    have ba:=aAq t (aO #[aA b.az 2 b.cz,aA b.am 2 b.cm,aB aI (d.aAh:Int),aA b.al b.lc.length b.cl,aA b.av d.live.length b.cv] 39);have K14:=aQ t #[aA b.az 2 b.cz,aA b.am 2 b.cm,aB aI (d.aAh:Int),aA b.al b.lc.length b.cl,aA b.av d.live.length b.cv] 39;have g:=gW x ba;have PO:t.heap.size<(t.alloc (aO #[aA b.az 2 b.cz,aA b.am 2 b.cm,aB aI (d.aAh:Int),aA b.al b.lc.length b.cl,aA b.av d.live.length b.cv] 39)).heap.size:=by simp
    have aHp:wr.heap.size<=t.heap.size:=x.size;have hX1:∀k,(k<w.heap.size∨k=w.heap.size+1)->k<wr.heap.size:=λk hk=>by omega
    have hHR:HR (t.alloc (aO #[aA b.az 2 b.cz,aA b.am 2 b.cm,aB aI (d.aAh:Int),aA b.al b.lc.length b.cl,aA b.av d.live.length b.cv] 39)) w.heap.size (λk=>k<w.heap.size∨k=w.heap.size+1) d b:=(HR.lift hn3 qZ hX1 (by omega)).below ba;have ZK:=gO hHR;have Q:=gO (aAp (aAp C.out u q) qZ g);have FG4:=gO (aAt (aAt R.out u q) qZ g);have KT4:=gO (aAp (aAp E.out i q) tZ g);have FT4:=gO (aAt (aAt G.out i q) tZ g);have HB4:=gO (gW (gW HB1.out q) g);have M:=gO (Hf.out _ (q.trans (g.mono q.size)));have PS:=gO K14;have N:wr.heap.size<=(t.alloc (aO #[aA b.az 2 b.cz,aA b.am 2 b.cm,aB aI (d.aAh:Int),aA b.al b.lc.length b.cl,aA b.av d.live.length b.cv] 39)).heap.size:=g.size;have hBne:t.heap.size≠w.heap.size:=by omega
    clear x g ba hHR K14 hn3 C R E G SX Hf K12 k0 k1 k2 k3 k4 k5 k6;generalize t.alloc _=w4 at*;generalize t.heap.size=B14 at*;obtain⟨k0,k1,k2,k3,k4,k5,k6⟩:=gA7 Q.out;have hs4:w.heap.size<w4.heap.size:=gI qZ N;have hT4:w.heap.size+1<w4.heap.size:=gI tZ N;go_upto_region 17 with (go_at_call 12;refine M.out.mono ?_;rintro j w5 ⟨f,rfl,Z,l⟩;have K5:=aAp Q.out hs4 l;have F5:=aAt FG4.out hs4 l;obtain⟨y0,y1,y2,y3,y4,y5,y6⟩:=gA7 K5;obtain⟨f0,f1,f2,f3,f4,f5,f6⟩:=gF7 F5;skip)
    have nH:SR w5 w.heap.size (λk=>k<w.heap.size∨k=w.heap.size+1) s f:=SR.lift Z hs4 (λk hk=>gI (hX1 k hk) N) (by omega);have D:=gO (SS.put7 nH K5 F5);have H:=fO.MF Z ZK.out (gT _);have HR6:Hid (HR (((((((w5.setCell ⟨w.heap.size,0,aJ⟩ (aA f.a1 f.n1 f.c1)).setCell ⟨w.heap.size,1,aJ⟩ (aA f.hc.az 2 f.hc.cz)).setCell ⟨w.heap.size,2,aJ⟩ (aA f.hc.am 2 f.hc.cm)).setCell ⟨w.heap.size,3,aJ⟩ (aB aI (s.h.aAh:Int))).setCell ⟨w.heap.size,4,aJ⟩ (aA f.hc.al f.hc.lc.length f.hc.cl)).setCell ⟨w.heap.size,5,aJ⟩ (aA f.hc.av s.h.live.length f.hc.cv)).setCell ⟨w.heap.size,6,aJ⟩ (aA f.a2 f.ys.length f.c2)) w.heap.size (λk=>k<w.heap.size∨k=w.heap.size+1) d b):=((((((((ZK.out.below l).fE 0 _).fE 1 _).fE 2 _).fE 3 _).fE 4 _).fE 5 _).fE 6 _)
    have HOF:=gO H;have KT6:=gO (lW (T:=w.heap.size) (aAp KT4.out hT4 l) (by omega) f s);have FT6:=gO (Gu (T:=w.heap.size) (aAt FT4.out hT4 l) f s);have J:=gO (lW (T:=w.heap.size) (aAp PS.out PO l) hBne f s);have S:=gO (aAz (T:=w.heap.size) (gW HB4.out l) (gT _) f s);clear K5 F5 y0 y1 y2 y3 y4 y5 y6 f0 f1 f2 f3 f4 f5 f6 k0 k1 k2 k3 k4 k5 k6 nH H Z l M Q FG4 KT4 FT4 ZK PS HB4;generalize ((((((w5.setCell _ _).setCell _ _).setCell _ _).setCell _ _).setCell _ _).setCell _ _).setCell _ _=w6 at*;obtain⟨x0,x1,x2,x3,x4⟩:=gA5 J.out;obtain⟨g0,g1,g2,g3,g4,g5,g6⟩:=gA7 D.out.k;obtain⟨f0,f1,f2,f3,f4,f5,f6⟩:=gF7 D.out.fz;go_upto_region 18 with fail
    have B:=D.out.putH2 HR6.out HOF.out;have iL:=gO B.1;have KT7:=(aAc (aAc (aAc (aAc (aAc KT6.out (show w.heap.size+1≠w.heap.size by omega) 1 (aA b.az 2 b.cz)) (show w.heap.size+1≠w.heap.size by omega) 2 (aA b.am 2 b.cm)) (show w.heap.size+1≠w.heap.size by omega) 3 (aB aI (d.aAh:Int))) (show w.heap.size+1≠w.heap.size by omega) 4 (aA b.al b.lc.length b.cl)) (show w.heap.size+1≠w.heap.size by omega) 5 (aA b.av d.live.length b.cv))
    have Y:=gO KT7;have tX:=gO (aAs (aAs (aAs (aAs (aAs FT6.out ⟨w.heap.size,1,aJ⟩ (aA b.az 2 b.cz)) ⟨w.heap.size,2,aJ⟩ (aA b.am 2 b.cm)) ⟨w.heap.size,3,aJ⟩ (aB aI (d.aAh:Int))) ⟨w.heap.size,4,aJ⟩ (aA b.al b.lc.length b.cl)) ⟨w.heap.size,5,aJ⟩ (aA b.av d.live.length b.cv));have qL:Hid (Below w.heap.size w (((((w6.setCell ⟨w.heap.size,1,aJ⟩ (aA b.az 2 b.cz)).setCell ⟨w.heap.size,2,aJ⟩ (aA b.am 2 b.cm)).setCell ⟨w.heap.size,3,aJ⟩ (aB aI (d.aAh:Int))).setCell ⟨w.heap.size,4,aJ⟩ (aA b.al b.lc.length b.cl)).setCell ⟨w.heap.size,5,aJ⟩ (aA b.av d.live.length b.cv))):=Safe.after S.out B.2 (λk hk=> .inl hk) S.out.size;clear x0 x1 x2 x3 x4 g0 g1 g2 g3 g4 g5 g6 f0 f1 f2 f3 f4 f5 f6 B KT7 D HR6 HOF KT6 FT6 J S;generalize ((((w6.setCell _ _).setCell _ _).setCell _ _).setCell _ _).setCell _ _=w7 at*;obtain⟨z0,z1,z2,z3,z4,z5,z6⟩:=gA7 iL.out.k;obtain⟨q0,q1,q2,q3,q4,q5,q6⟩:=gA7 Y.out;obtain⟨f0,f1,f2,f3,f4,f5,f6⟩:=gF7 tX.out;have eU:=out7 iL.out (T:=w.heap.size+1) (.inr rfl) (λk hk=> .inl hk) (Nat.lt_succ_self _) Y.out qL.out
    dsimp only at eU
    have KX:=eU.1;have oI:=gO eU.2.1;have jA:=gO eU.2.2;have hw64:wrap64 (16*(a:Int))=16*(a:Int):=IntWalk.wrap64_in _ (by have:=HA.out d a rfl;omega);have K:(a:Int)*16=16*(a:Int):=Int.mul_comm _ _;clear eU iL Y tX qL;go_wp2_with fail
    try rw[K]
    generalize ((((((w7.setCell _ _).setCell _ _).setCell _ _).setCell _ _).setCell _ _).setCell _ _).setCell _ _=wx at*;exact bodyPost_ret (v:=aG #[aC #[aA f.a1 f.n1 f.c1,aA b.az 2 b.cz,aA b.am 2 b.cm,aB aI (d.aAh:Int),aA b.al b.lc.length b.cl,aA b.av d.live.length b.cv,aA f.a2 f.ys.length f.c2],aB aI (16*(a:Int)),aB aI 0]) (by simp[results,results55,go_sem,KX,K,hw64]) rfl (.inr ⟨{s with h:=d},16*(a:Int),{f with hc:=b},HE.out,rfl,oI.out,jA.out⟩)
theorem Gw (hk:bQ s)(h:s.oL a=aK (i,k)){ev:Ending}(hp:DK s a ev):ev=aN (aG #[aB aI (i:Int),aB aI (k:Int),aB aI 0]):=by
 rcases hp with ⟨c,d,b,rfl⟩ | ⟨b,_⟩
 ·obtain⟨rfl,rfl⟩:=hk.vF b (tV h);rfl
 ·exact absurd (tV h) (b i k)
theorem Gx (h:s.oL a=aJ){ev:Ending}(hp:DK s a ev):ev=aN (aG #[aB aI 0,aB aI 0,aB aI 4]):=by
 rcases hp with ⟨c,d,b,_⟩ | ⟨_,rfl⟩
 ·exact absurd b (WH h c d)
 ·rfl
theorem rC (hk:bQ s)(h:s.kT a=aK b){ev:Ending}(hp:xC s a ev):∃hi:lb s.h.live b.a<s.h.live.length,s.h.live[lb s.h.live b.a]=b/\ev=aN (aG #[aB aI (lb s.h.live b.a:Int),.bool true]):=by
 obtain⟨c,f⟩:=nX h;rcases hp with ⟨p,d,g,i,rfl⟩ | ⟨d,_⟩
 ·obtain rfl:p=b.a:=by omega
  obtain⟨hi,e⟩:=gK.1 (lX hk.hk.vs c.1);exact⟨hi,e,rfl⟩
 ·exact absurd f (d b c)
theorem rD (h:s.kT a=aJ){ev:Ending}(hp:xC s a ev):∃i:Nat,ev=aN (aG #[aB aI (i:Int),.bool false]):=by
 rcases hp with ⟨p,g,f,c,_⟩ | ⟨_,h⟩
 ·exfalso;unfold hasB at c;obtain⟨b,hb,e⟩:=List.any_eq_true.1 c;have d:=of_decide_eq_true e;exact SL h b (cO.2 ⟨hb,by rw[d];exact f⟩) (by rw[d];exact g)
 ·exact h
theorem DX {c:Ca}(h:s.fP a=aK (i,k,c)):s.oL a=aK (i,k)/\s.cs[i]? =aK c/\jY c.ns=true:=by
 unfold Sy.fP at h;cases hf:s.oL a with
 | none=>rw[hf]at h;cases h
 | some p=>
  obtain⟨d,e⟩:=p;rw[hf]at h;simp only at h;cases hc:s.cs[d]? with
  | none=>rw[hc]at h;cases h
  | some c'=>
   rw[hc]at h;simp only at h;split at h
   ·rename_i hm;have b:=gP h;simp only[Prod.mk.injEq]at b;obtain⟨rfl,rfl,rfl⟩:=b;exact⟨rfl,hc,hm⟩
   ·cases h
def JB (r:Option Nat)(ev:Ending):Prop:=ev=match r with
 | some m=> aN (aG #[aB aI (m:Int),aB aI 0])
 | none=> aN (aG #[aB aI 0,aB aI 4])
theorem JC (v:Sc)(s:Sy)(a:Int)(w:World)(hs:lZ w v s)(hk:bQ s)(hf:∀c∈s.cs,c.ns.length<=1000)(hsz:yD w)(hab: -1000000<=a/\a<=10000):
 Calls prog 17 #[aC #[aA v.a1 v.n1 v.c1,aA v.hc.az 2 v.hc.cz,aA v.hc.am 2 v.hc.cm,aB aI (s.h.aAh:Int),aA v.hc.al v.hc.lc.length v.hc.cl,aA v.hc.av s.h.live.length v.hc.cv,aA v.a2 v.ys.length v.c2],aB aI a] w λev w'=>JB (s.dG a) ev/\Below w.heap.size w w':=by
 obtain⟨K1,F1,e,Q⟩:=boxes1 w #[aA v.a1 v.n1 v.c1,aA v.hc.az 2 v.hc.cz,aA v.hc.am 2 v.hc.cm,aB aI (s.h.aAh:Int),aA v.hc.al v.hc.lc.length v.hc.cl,aA v.hc.av s.h.live.length v.hc.cv,aA v.a2 v.ys.length v.c2] 42;have H:=hs.below Q;obtain⟨rZ,ZL⟩:∃rZ,s.dG a=rZ:=⟨_,rfl⟩
 rw[ZL];generalize hw1:w.alloc (aO #[aA v.a1 v.n1 v.c1,aA v.hc.az 2 v.hc.cz,aA v.hc.am 2 v.hc.cm,aB aI (s.h.aAh:Int),aA v.hc.al v.hc.lc.length v.hc.cl,aA v.hc.av s.h.live.length v.hc.cv,aA v.a2 v.ys.length v.c2] 42)=w1 at*;have qI:=gO (kE v s w1 H hk hf);have Oz:Hid (∀W,Below w1.heap.size w1 W->Calls prog 18 #[aC #[aA v.a1 v.n1 v.c1,aA v.hc.az 2 v.hc.cz,aA v.hc.am 2 v.hc.cm,aB aI (s.h.aAh:Int),aA v.hc.al v.hc.lc.length v.hc.cl,aA v.hc.av s.h.live.length v.hc.cv,aA v.a2 v.ys.length v.c2],aB aI a] W λev w'=>DK s a ev/\Below W.heap.size W w'):=λW hW=>yC v s a W (H.below hW) hk hf (by omega)
 have V:Hid (∀W,Below w1.heap.size w1 W->Calls prog 41 #[aC #[aA v.a1 v.n1 v.c1,aA v.hc.az 2 v.hc.cz,aA v.hc.am 2 v.hc.cm,aB aI (s.h.aAh:Int),aA v.hc.al v.hc.lc.length v.hc.cl,aA v.hc.av s.h.live.length v.hc.cv,aA v.a2 v.ys.length v.c2],aB aI a] W λev w'=>xC s a ev/\Below W.heap.size W w'):=λW hW=>Jw v s a W (H.below hW) hk hab
 have D:=gO H;have O:=gO hk;have HF:=gO hf;have iL:=gO (hsz.below Q);have I:=gO Q;have E:=gO K1;have Qr:=gO ZL;obtain⟨C,k1,k2,u,B,g,l⟩:=gA7 K1;clear hs hk hf H K1 F1 Q hsz ZL;go_enter func17,ntmps17
 go_upto_region 1 with fail
 try rw[hw1]
 clear hw1;go_upto_region 4 with (go_at_call 11;refine qI.out.mono ?_;rintro ev w2 ⟨rfl,U⟩)
 have K12:=aAp E.out e U;clear C k1 k2 u B g l qI;have A:=gO (Oz.out w2 U);have T:=gO U;obtain⟨C,k1,k2,u,B,g,l⟩:=gA7 K12;clear K12 Oz U;cases hfo:s.oL a with
 | none=>
  have Z:s.fP a=aJ:=by
   unfold Sy.fP;rw[hfo]
  have HFN:Hid (Calls prog 18 #[aC #[aA v.a1 v.n1 v.c1,aA v.hc.az 2 v.hc.cz,aA v.hc.am 2 v.hc.cm,aB aI (s.h.aAh:Int),aA v.hc.al v.hc.lc.length v.hc.cl,aA v.hc.av s.h.live.length v.hc.cv,aA v.a2 v.ys.length v.c2],aB aI a] w2 λev w'=>ev=aN (aG #[aB aI 0,aB aI 0,aB aI 4])/\Below w2.heap.size w2 w'):=by
   refine A.out.mono ?_;rintro ev w' ⟨h,hb⟩;exact⟨Gx hfo h,hb⟩
  have HM:=gO Z;clear A hfo Z;go_upto_region 7 with (go_at_call 18;refine HFN.out.mono ?_;rintro ev K ⟨rfl,N⟩)
  have f:=gO (gW T.out N);clear HFN C k1 k2 u B g l N T;have ZM:=aAp E.out e f.out;obtain⟨C,k1,k2,u,B,g,l⟩:=gA7 ZM;have d:=gO (V.out K f.out);clear ZM V;cases hwo:s.kT a with
  | none=>
   have X:Hid (rZ=aJ):=by
    unfold Hid;rw[<- Qr.out];unfold Sy.dG;rw[HM.out];simp only[hwo];rfl
   have ZN:Hid (Calls prog 41 #[aC #[aA v.a1 v.n1 v.c1,aA v.hc.az 2 v.hc.cz,aA v.hc.am 2 v.hc.cm,aB aI (s.h.aAh:Int),aA v.hc.al v.hc.lc.length v.hc.cl,aA v.hc.av s.h.live.length v.hc.cv,aA v.a2 v.ys.length v.c2],aB aI a] K λev w'=>(∃j:Nat,ev=aN (aG #[aB aI (j:Int),.bool false]))/\Below K.heap.size K w'):=by
    refine d.out.mono ?_;rintro ev w' ⟨h,hb⟩;exact⟨rD hwo h,hb⟩
   clear d hwo;go_wp2_with (go_at_call 41;refine ZN.out.mono ?_;rintro ev w9 ⟨⟨j,rfl⟩,q⟩)
   exact bodyPost_ret (v:=aG #[aB aI 0,aB aI 4]) (by simp[results,results17,go_sem]) rfl ⟨by unfold JB;rw[X.out],gW I.out (gW f.out q)⟩
  | some b=>
   have X:Hid (rZ=aK (16*2^b.o)):=by
    unfold Hid;rw[<- Qr.out];unfold Sy.dG;rw[HM.out];simp only[hwo];rfl
   have n:=(nX hwo).1;obtain⟨J,t⟩:=gK.1 (lX O.out.hk.vs n.1);have ZO:Hid (Calls prog 41 #[aC #[aA v.a1 v.n1 v.c1,aA v.hc.az 2 v.hc.cz,aA v.hc.am 2 v.hc.cm,aB aI (s.h.aAh:Int),aA v.hc.al v.hc.lc.length v.hc.cl,aA v.hc.av s.h.live.length v.hc.cv,aA v.a2 v.ys.length v.c2],aB aI a] K λev w'=>ev=aN (aG #[aB aI (lb s.h.live b.a:Int),.bool true])/\Below K.heap.size K w'):=by
    refine d.out.mono ?_;rintro ev w' ⟨h,hb⟩;obtain⟨_,_,h3⟩:=rC O.out hwo h;exact⟨h3,hb⟩
   have Qx:b.o<=4:=(O.out.hk.lv b n.1).1.1;have hsh:=shl16 Qx;have hll:=O.out.hk.iU;generalize Xl:lb s.h.live b.a=L at J t ZO;have hLi:(L:Int)<s.h.live.length:=by omega
   have HLB:=gO t;clear d hwo n t Xl;go_upto_region 9 with (go_at_call 41;refine ZO.out.mono ?_;rintro ev w9 ⟨rfl,q⟩)
   have r:=gW f.out q;have M:=aAp E.out e r;clear C k1 k2 u B g l;obtain⟨C,k1,k2,u,B,g,l⟩:=gA7 M;obtain⟨ab,ao,hav,hal,m⟩:=aAw aAu (by decide) (D.out.below r).hh.vr J;rw[HLB.out]at m;obtain⟨d0,d1,d2⟩:=bH m;rw[hav]at g;clear M m;go_wp2_with fail
   rw[hsh];exact bodyPost_ret (v:=aG #[aB aI ((16*2^b.o:Nat):Int),aB aI 0]) (by simp[results,results17,go_sem]) rfl ⟨by unfold JB;rw[X.out],gW I.out r⟩
 | some p=>
  obtain⟨i,k⟩:=p;obtain⟨c,x,hc,hx,ho⟩:=tV hfo;have HFS:Hid (Calls prog 18 #[aC #[aA v.a1 v.n1 v.c1,aA v.hc.az 2 v.hc.cz,aA v.hc.am 2 v.hc.cm,aB aI (s.h.aAh:Int),aA v.hc.al v.hc.lc.length v.hc.cl,aA v.hc.av s.h.live.length v.hc.cv,aA v.a2 v.ys.length v.c2],aB aI a] w2 λev w'=>ev=aN (aG #[aB aI (i:Int),aB aI (k:Int),aB aI 0])/\Below w2.heap.size w2 w'):=by
   refine A.out.mono ?_;rintro ev w' ⟨h,hb⟩;exact⟨Gw O.out hfo h,hb⟩
  have hil:=(gK.1 hc).1;have hiy:i<v.ys.length:=by
   have h:=congrArg List.length D.out.cy;rw[gTe]at h;omega
  have hyl:v.ys.length<=20:=by
   have h:=congrArg List.length D.out.cy;rw[gTe]at h;rw[h];exact O.out.cl
  have Zb:v.ys[i].c=c:=by
   have h1:=congrArg (·[i]?) D.out.cy;simp only[List.getElem?_map,gJ hiy,Option.map_some]at h1;rw[hc]at h1;exact gP h1
  have hii:(i:Int)<v.ys.length:=by omega
  have HFO:=gO hfo;have DI:=gO hc;have ZP:=gO Zb;clear A hfo hc hx ho hil Zb;go_upto_region 5 with (go_at_call 18;refine HFS.out.mono ?_;rintro ev K ⟨rfl,N⟩)
  have F:=gW T.out N;have f:=gO F;have K13:=aAp E.out e F;clear HFS C k1 k2 u B g l N T;obtain⟨C,k1,k2,u,B,g,l⟩:=gA7 K13;have hs3:=D.out.below F;obtain⟨bb,off,hba,hbb,hbc⟩:=aAw eH (by decide) hs3.rc hiy;have S:=hs3.ca _ (gL hiy);obtain⟨y,hy⟩:∃y,v.ys[i]=y:=⟨_,rfl⟩
  rw[hy]at hbc S ZP;obtain⟨e0,e1,e2,e3,e4,e5⟩:=kP hbc;rw[hba]at l;have hyn:y.n1<=1000000:=by
   rw[<- S.l1,ZP.out];exact gQ (HF.out c (gM DI.out)) (by decide)
  have OE:=gO (PE y K S hyn (iL.out.below F));have hz:y.c.z=c.z:=by rw[ZP.out]
  have hmy:jY y.c.ns=jY c.ns:=by rw[ZP.out]
  rw[hmy]at OE;clear hmy;have HBC:=gO (fun(W:World) (hW:Below K.heap.size K W)=>(hW.cell (p:=⟨bb,off+i*6+1,aJ⟩) hbb).trans e1);have Y:=gO K13;have hsz3:=gI e F.size;have Ik:=gO hba;clear K13 hs3 hba hbc S hy hyn F;cases hmb:jY c.ns with
  | true=>
   rw[hmb]at OE;have Z:s.fP a=aK (i,k,c):=by
    unfold Sy.fP;rw[HFO.out];simp only[DI.out,hmb,if_true]
   have X:Hid (rZ=aK y.c.z):=by
    unfold Hid;rw[<- Qr.out,hz];unfold Sy.dG;rw[Z]
   clear Z hmb hz;go_upto_region 6 with (go_at_call 39;refine OE.out.mono ?_;rintro ev P ⟨rfl,G⟩)
   have K14:=aAp Y.out hsz3 G;have e14:=HBC.out P G;clear C k1 k2 u B g l e0 e1 e2 e3 e4 e5;obtain⟨C,k1,k2,u,B,g,l⟩:=gA7 K14;rw[Ik.out]at l;clear K14;go_wp2_with fail
   exact bodyPost_ret (v:=aG #[aB aI (y.c.z:Int),aB aI 0]) (by simp[results,results17,go_sem]) rfl ⟨by unfold JB;rw[X.out],gW I.out (gW f.out G)⟩
  | false=>
   rw[hmb]at OE;have Z:s.fP a=aJ:=by
    unfold Sy.fP;rw[HFO.out];simp only[DI.out,hmb];rfl
   have HM:=gO Z;clear Z hmb hz;go_upto_region 7 with (go_at_call 39;refine OE.out.mono ?_;rintro ev P ⟨rfl,G⟩)
   have R:=gO (gW f.out G);clear C k1 k2 u B g l e0 e1 e2 e3 e4 e5 OE HBC Y Ik f G;have ZM:=aAp E.out e R.out;obtain⟨C,k1,k2,u,B,g,l⟩:=gA7 ZM;have d:=gO (V.out P R.out);clear ZM V;cases hwo:s.kT a with
   | none=>
    have X:Hid (rZ=aJ):=by
     unfold Hid;rw[<- Qr.out];unfold Sy.dG;rw[HM.out];simp only[hwo];rfl
    have ZN:Hid (Calls prog 41 #[aC #[aA v.a1 v.n1 v.c1,aA v.hc.az 2 v.hc.cz,aA v.hc.am 2 v.hc.cm,aB aI (s.h.aAh:Int),aA v.hc.al v.hc.lc.length v.hc.cl,aA v.hc.av s.h.live.length v.hc.cv,aA v.a2 v.ys.length v.c2],aB aI a] P λev w'=>(∃j:Nat,ev=aN (aG #[aB aI (j:Int),.bool false]))/\Below P.heap.size P w'):=by
     refine d.out.mono ?_;rintro ev w' ⟨h,hb⟩;exact⟨rD hwo h,hb⟩
    clear d hwo;go_wp2_with (go_at_call 41;refine ZN.out.mono ?_;rintro ev w9 ⟨⟨j,rfl⟩,q⟩)
    exact bodyPost_ret (v:=aG #[aB aI 0,aB aI 4]) (by simp[results,results17,go_sem]) rfl ⟨by unfold JB;rw[X.out],gW I.out (gW R.out q)⟩
   | some b=>
    have X:Hid (rZ=aK (16*2^b.o)):=by
     unfold Hid;rw[<- Qr.out];unfold Sy.dG;rw[HM.out];simp only[hwo];rfl
    have n:=(nX hwo).1;obtain⟨J,t⟩:=gK.1 (lX O.out.hk.vs n.1);have ZO:Hid (Calls prog 41 #[aC #[aA v.a1 v.n1 v.c1,aA v.hc.az 2 v.hc.cz,aA v.hc.am 2 v.hc.cm,aB aI (s.h.aAh:Int),aA v.hc.al v.hc.lc.length v.hc.cl,aA v.hc.av s.h.live.length v.hc.cv,aA v.a2 v.ys.length v.c2],aB aI a] P λev w'=>ev=aN (aG #[aB aI (lb s.h.live b.a:Int),.bool true])/\Below P.heap.size P w'):=by
     refine d.out.mono ?_;rintro ev w' ⟨h,hb⟩;obtain⟨_,_,h3⟩:=rC O.out hwo h;exact⟨h3,hb⟩
    have Qx:b.o<=4:=(O.out.hk.lv b n.1).1.1;have hsh:=shl16 Qx;have hll:=O.out.hk.iU;generalize Xl:lb s.h.live b.a=L at J t ZO;have hLi:(L:Int)<s.h.live.length:=by omega
    have HLB:=gO t;clear d hwo n t Xl;go_upto_region 9 with (go_at_call 41;refine ZO.out.mono ?_;rintro ev w9 ⟨rfl,q⟩)
    have r:=gW R.out q;have M:=aAp E.out e r;clear C k1 k2 u B g l;obtain⟨C,k1,k2,u,B,g,l⟩:=gA7 M;obtain⟨ab,ao,hav,hal,m⟩:=aAw aAu (by decide) (D.out.below r).hh.vr J;rw[HLB.out]at m;obtain⟨d0,d1,d2⟩:=bH m;rw[hav]at g;clear M m;go_wp2_with fail
    rw[hsh];exact bodyPost_ret (v:=aG #[aB aI ((16*2^b.o:Nat):Int),aB aI 0]) (by simp[results,results17,go_sem]) rfl ⟨by unfold JB;rw[X.out],gW I.out r⟩
end Go.Proofs.YtjaogfhcnmjkiaaGreatDoor
