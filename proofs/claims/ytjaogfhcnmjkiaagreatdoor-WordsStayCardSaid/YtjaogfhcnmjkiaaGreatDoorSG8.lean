/- joined. -/
import Derived.Test.YtjaogfhcnmjkiaaGreatDoorSG6
import Derived.Test.YtjaogfhcnmjkiaaGreatDoorSG7
import Derived.Deep.RegionLaw
set_option linter.all false
set_option maxRecDepth 100000
set_option maxHeartbeats 0
namespace Go.Proofs.YtjaogfhcnmjkiaaGreatDoor
open Go.RowKit
open Go.Value renaming slice->aA,int->aB,agg->aC,string->aF,tuple->aG,pointer->aH,ownBlock->gTh
open Go.IntKind renaming i64->aI
open Option renaming none->aJ,some->aK
open Go.Ending renaming returned->aN
open Go.Obj renaming cells->aO
open Go.Proofs.Tryz
variable {G g i p:Nat}{W w':World}{X:Nat->Prop}{al:Option Addr}{c:Hc}{h:Hp}{ls:List Ls}
section
variable {W:World}{G:Nat}{X:Nat->Prop}{h:Hp}{c:Hc}
theorem HR.zat (hs:HR W G X h c)(hi:i<2):JY W (c.zone i).a1 (c.zone i).a2 (c.zone i).n1 (c.zone i).n2 (h.zone i):=by
 unfold Hc.zone Hp.zone;obtain rfl | rfl:i=0∨i=1:=by omega
 ·exact hs.z0
 ·exact hs.z1
theorem HR.Cm (hs:HR W G X h c)(hg:c.az=aK ⟨g,0,aJ⟩)(hi:i<2):W.cell? ⟨g,i*4,aJ⟩=aK (aB aI (h.zone i).f)/\W.cell? ⟨g,i*4+1,aJ⟩=aK (aB aI (h.zone i).e)/\W.cell? ⟨g,i*4+2,aJ⟩=aK (aA (c.zone i).a1 (c.zone i).n1 (c.zone i).c1)/\W.cell? ⟨g,i*4+3,aJ⟩=aK (aA (c.zone i).a2 (c.zone i).n2 (c.zone i).c2):=by
 obtain⟨b,off,d,l,k⟩:=aAw iR (by decide) (aV hs.zs) (j:=i) (by simpa using hi);obtain⟨rfl,rfl⟩:g=b/\0=off:=by rw[hg]at d;simpa using d
 have a:=mO k;rw[Nat.zero_add]at a;have e0:=hs.e0;have e1:=hs.e1;unfold Hp.zone Hc.zone;obtain rfl | rfl:i=0∨i=1:=by omega
 ·simp only[List.getElem_cons_zero,e0]at a;exact a
 ·simp only[List.getElem_cons_succ,List.getElem_cons_zero,e1]at a;exact a
theorem HR.aFV (hs:HR W G X h c)(hg:c.az=aK ⟨g,0,aJ⟩)(hi:i<2):W.frozen? ⟨g,i*4,aJ⟩=false/\W.frozen? ⟨g,i*4+1,aJ⟩=false/\W.frozen? ⟨g,i*4+2,aJ⟩=false/\W.frozen? ⟨g,i*4+3,aJ⟩=false:=by
 obtain⟨d,b,_,_,_,a⟩:=hs.Fb;obtain rfl:g=d:=by rw[hg]at b;simpa using b
 exact⟨a _ (by omega),a _ (by omega),a _ (by omega),a _ (by omega)⟩
theorem HS.words (hs:HS W G X h c):W.cell? ⟨G,0,aJ⟩=aK (aA c.az 2 c.cz)/\W.cell? ⟨G,1,aJ⟩=aK (aA c.am 2 c.cm)/\W.cell? ⟨G,2,aJ⟩=aK (aB aI (h.aAh:Int))/\W.cell? ⟨G,3,aJ⟩=aK (aA c.al c.lc.length c.cl)/\W.cell? ⟨G,4,aJ⟩=aK (aA c.av h.live.length c.cv):=⟨hs.k 0,hs.k 1,hs.k 2,hs.k 3,hs.k 4⟩
theorem TV (c:Hc)(i:Nat)(y:Zc):∃y0 y1,c.dU i y={c with y0:=y0,y1:=y1}:=by
 unfold Hc.dU;split
 ·exact⟨y,c.y1,rfl⟩
 ·exact⟨c.y0,y,rfl⟩
end
theorem aDu (h:Hp)(a:Nat):h.jH a<2:=by unfold Hp.jH;split <;> omega
theorem Fv (G a o:Nat)(X:Nat->Prop)(h:Hp)(c:Hc)(w:World)(hs:HS w G X h c)(hz0:(h.zone (h.jH a)).ok)(aCo:cZ (h.zone (h.jH a)).f (h.zone (h.jH a)).e a o)(aFW:∀x∈(h.zone (h.jH a)).l,apartB a o x):
 Calls prog 86 #[aH (aK ⟨G,0,aJ⟩),aB aI a,aB aI o] w λev w'=>ev=aN (aG #[])/\(∃y0 y1,HS w' G X (h.jI a o) {c with y0:=y0,y1:=y1})/\Safe X w w':=by
 have u:=aDu h a;obtain⟨g,N,K,R,hgX,p⟩:=hs.r.Fb;obtain⟨F,k1,k2,O,P⟩:=hs.words;have W:=hs.r.gs;have m:=gO hs;have s:=gO aCo;have V:=gO hz0;have E:=gO aFW;have n:=gO N;have HF:=gO p;clear hs aCo hz0 aFW N p;go_enter func86,ntmps86
 go_wp2_with fail
 refine(KH _ _ _ _ _ _ _ _ _ _ _ _ _ h a _ m.out.r.at).mono ?_;rintro ev k ⟨rfl,b⟩;have j:=gO (m.out.below b);have Z:=gO (Safe.jD (X:=X) b);have Om:g<k.heap.size:=gI K b.size;have S:G<k.heap.size:=gI W b.size;clear F k1 k2 O P;obtain⟨F,k1,k2,O,P⟩:=j.out.words;rw[n.out]at F;obtain⟨z0,z1,z2,z3⟩:=j.out.r.Cm n.out u;have B:=gO (j.out.r.zat u);have U:((h.jH a:Nat):Int)<2:=by omega
 clear m b;have T:Hid (h.jI a o=h.jQ (h.jH a) ((h.zone (h.jH a)).back a o)):=rfl;generalize h.jH a=i at*;generalize c.zone i=y at*;generalize h.zone i=z at*;go_wp2_with fail
 have t:=j.out.below ((gX k.heap.size k).drew)
 go_region_with (go_at_call 124;refine(uO _ _ _ _ _ _ z a o _ (B.out.below ((gX k.heap.size k).drew)) V.out s.out E.out).mono ?_;rintro ev w3 ⟨D,I,M,C,H,rfl,J,A⟩;have d:=t.below A;have Q:=d.words.1;rw[n.out]at Q;obtain⟨x0,x1,x2,x3⟩:=d.r.Cm n.out u;obtain⟨f0,f1,f2,f3⟩:=d.r.aFV n.out u;clear d)
 all_goals
  obtain⟨q,L⟩:=t.aFx A u J n.out;obtain⟨y0,y1,Y⟩:=TV c i ⟨z.back a o,D,I,M,y.n2,C,H⟩;rw[Y,<- T.out]at q;refine bodyPost_end (v:=aG #[]) (by simp[results,results86,go_sem]) rfl ⟨rfl,⟨y0,y1,q⟩,(Z.out.then ((gX k.heap.size k).drew)).trans L⟩
theorem aAZ (G a o:Nat)(X:Nat->Prop)(h:Hp)(c:Hc)(w:World)(hs:HS w G X h c)(hk:eY h)(hb:cZ 0 256 a o)(hd:∀p,cnt h.all p+hit ⟨a,o,0⟩ p<=1):
 Calls prog 86 #[aH (aK ⟨G,0,aJ⟩),aB aI a,aB aI o] w λev w'=>ev=aN (aG #[])/\(∃y0 y1,HS w' G X (h.jI a o) {c with y0:=y0,y1:=y1})/\Safe X w w':=
 Fv G a o X h c w hs (hk.zone _) (hk.fits hb) λx e=>dH λp d b=>by
  have i:=hd p;have g:=EK h (h.jH a) p;have j:=jC.2 (show aAA (h.zone (h.jH a)).l p from⟨x,e,b⟩);have f:hit ⟨a,o,0⟩ p=1:=jT.2 d;omega
theorem sS.safe {w:World}(h:sS w)(hs:Safe X w w')(h0:X 1):sS w':=
 ⟨gI h.sz hs.size,λi v a=>(hs.cell (p:=⟨1,i,aJ⟩) h.sz h0).trans (h.c i v a)⟩
theorem sS.below {w:World}(h:sS w)(hb:Below w.heap.size w w'):sS w':=h.mono hb (gT _)
theorem Yx (l:List Bk):zC l=szB l:=by
 induction l with
 | nil=>rfl
 | cons b l ih=>rw[zC,szB,ih]
theorem aA1 (hk:eY h)(i:Nat)(u lo:Bool):h.held i u lo<=1000:=by
 have c:=hk.m0;have a:=hk.m1;have b:=hk.e1;have d:h.min i<=256:=by unfold Hp.min;split <;> omega
 unfold Hp.held;split <;> split <;> omega
theorem Oo {z z':Zn}{order t a:Nat}(h:z.ok)(ho:order<=4)(ht:t<3)(he:z.take order t=aK (z',a)):z'.f=z.f/\z'.e=z.e:=by
 by_cases hb:∃b∈z.l,order<=b.o
 ·obtain⟨z1,d,g,c⟩:=Zn.IE h ho ht hb;rw[g]at he;obtain⟨rfl,rfl⟩:z1=z'/\d=a:=by simpa using he
  exact⟨c.f,c.e⟩
 ·rw[Zn.IG hb]at he;cases he
theorem AA (G i order t flags:Nat)(X:Nat->Prop)(h:Hp)(c:Hc)(w:World)(hs:HS w G X h c)(hk:eY h)(hi:i<2)(hor:order<=4)(ht:t<3)(hf:flags<=15)(ho:sS w):
 Calls prog 136 #[aH (aK ⟨G,0,aJ⟩),aB aI i,aB aI order,aB aI t,aB aI flags] w λev w'=>
  (h.mF i order t (h.held i (decide (flags/8%2=1)) (decide (flags%2=1)))=aJ/\ev=aN (aG #[aB aI 0,.bool false])/\HS w' G X h c/\Safe X w w')∨
  (∃h' a y0 y1,h.mF i order t (h.held i (decide (flags/8%2=1)) (decide (flags%2=1)))=aK (h',a)/\ev=aN (aG #[aB aI (a:Nat),.bool true])/\HS w' G X h' {c with y0:=y0,y1:=y1}/\Safe X w w'):=by
 obtain⟨g,hg,hgs,hgG,hgX,hgf⟩:=hs.r.Fb;obtain⟨p,k1,k2,x,y⟩:=hs.words;rw[hg]at p;obtain⟨z0,z1,z2,z3⟩:=hs.r.Cm hg hi;have Ld:=hs.r.gs;have Q:=gO hs;have T:=gO (hk.zone i);have HK:=gO hk;have L:=gO hg;have b:=gO (hs.r.zat hi);have HO:=gO ho;have hi2:(i:Int)<2:=by omega
 have hS:szB (h.zone i).l<=256:=XB T.out;have hsh:=wI hor;have O:=yX hor;obtain⟨D,hD⟩:∃D,h.held i (decide (flags/8%2=1)) (decide (flags%2=1))=D:=⟨_,rfl⟩
 have hDb:D<=1000:=by rw[<- hD];exact aA1 hk _ _ _
 have iM:Hid (h.mF i order t D=if szB (h.zone i).l<D+2^order then aJ else match (h.zone i).take order t with
  | some (M,a)=>aK (h.jQ i M,a)
  | none=>aJ):=rfl
 rw[hD];have HD:=gO hD;clear hs ho hk hg hgf hD;have A:Hid (∃z,h.zone i=z):=⟨_,rfl⟩
 obtain⟨z,E⟩:=A.out;have HZE:=gO E;rw[E]at z0 z1 b T hS iM;clear E A;go_enter func136,ntmps136
 go_wp2_with fail
 refine(Yw _ _ _ _ _ _ z _ b.out T.out).mono ?_;rintro ev k ⟨rfl,q⟩;rw[Yx];have o:=gO (Q.out.below q);have Yt:=gO (Safe.jD (X:=X) q);have R:=gO (HO.out.below q);have aFX:G<k.heap.size:=gI Ld q.size;clear p k1 k2 x y z0 z1 z2 z3 Q b HO q Ld hgs;obtain⟨p,k1,k2,x,y⟩:=o.out.words;generalize szB z.l=n at*;have hn1:n<=256:=hS;have hSn:(2^order:Nat)<=16:=O.2;obtain⟨s,hs⟩:∃s,2^order=s:=⟨_,rfl⟩
 rw[hs]at O hSn iM;have hsh2:wrap64 (2^order)=(s:Int):=by rw[hsh,hs]
 clear hsh hs;have hsub:IntKind.i64.wrap ((n:Int)-s)=(n:Int)-s:=IntWalk.i64_in _ (by omega);have C:Hid (∀W,Below k.heap.size k W->Calls prog 155 #[aC #[aA c.az 2 c.cz,aA c.am 2 c.cm,aB aI h.aAh,aA c.al c.lc.length c.cl,aA c.av h.live.length c.cv],aB aI i,aB aI flags] W λev w'=>ev=aN (aB aI (D:Nat))/\Below W.heap.size W w'):=λW hW=>by
  have h1:=aAS _ _ _ _ c.cz c.cm c.cl c.cv _ _ _ _ _ h i flags W (o.out.r.at.below hW) HK.out hi hf;rw[HD.out]at h1;exact h1
 by_cases I:n<D+s
 ·have d1:decide ((n:Int)-s<D)=true:=gTg (by omega);go_wp2_with fail
  refine aU (by kernel_rfl) (by kernel_rfl) ?_
  repeat (go_big_quiet_step ((go_at_call 155;exact Calls.bV (C.out _ (aT k _)))))
  refine wpQuiet_nil ?_;rintro _ ⟨wx,rfl⟩;have d:=gO (o.out.below (aT k wx));have j:=gO (Yt.out.then (aT k wx));generalize ext k wx=w2 at*;go_wp2
  go_ret2
  exact .inl ⟨by rw[iM.out,if_pos I],rfl,d.out,j.out⟩
 ·have d1:decide ((n:Int)-s<D)=false:=gV (by omega);go_wp2_with fail
  refine aU (by kernel_rfl) (by kernel_rfl) ?_
  repeat (go_big_quiet_step ((go_at_call 155;exact Calls.bV (C.out _ (aT k _)))))
  refine wpQuiet_nil ?_;rintro _ ⟨wx,rfl⟩;have d:=gO (o.out.below (aT k wx));have j:=gO (Yt.out.then (aT k wx));have HO2:=gO (R.out.below (aT k wx));have aFY:G<(ext k wx).heap.size:=gI aFX (aT k wx).size;clear p k1 k2 x y C o Yt R;generalize ext k wx=w2 at*;obtain⟨p,k1,k2,x,y⟩:=d.out.words;rw[L.out]at p;obtain⟨z0,z1,z2,z3⟩:=d.out.r.Cm L.out hi;have b:=d.out.r.zat hi;rw[HZE.out]at z0 z1 b;go_wp2_with fail
  refine(aAO _ _ _ _ _ _ z order t w2 b T.out hor ht HO2.out).mono ?_;rintro ev w3 (⟨V,rfl,u⟩ | ⟨M,at_,Z,P,U,Y,c2',H,rfl,S,u⟩)
  ·have HS3:=gO (d.out.below u);have N:=gO (j.out.then u);have VI:=gO V;clear p k1 k2 x y z0 z1 z2 z3 b V;have B:=aAq w3 (aO #[aB aI 0,aB aI 0,aA aJ 0 0,aA aJ 0 0] 79);have m:=gO (HS3.out.below B);have HSF4:=gO (N.out.then B);go_wp2
   go_ret2
   exact .inl ⟨by rw[iM.out,if_neg I,VI.out],rfl,m.out,HSF4.out⟩
  ·have HSO:=gO H;obtain⟨K5,F5,hsz5,yL⟩:=boxes1 w3 #[aB aI (z.f:Int),aB aI (z.e:Int),aA Z U Y,aA P (c.zone i).n2 c2'] 79;have F:=gO (gW u yL);have HZ4:=gO (S.below yL);have m:=gO (d.out.below F.out);obtain⟨z4f,z4e⟩:M.f=z.f/\M.e=z.e:=Oo T.out hor ht H;clear p k1 k2 x y z0 z1 z2 z3 b H yL u S;obtain⟨p,k1,k2,x,y⟩:=m.out.words;rw[L.out]at p;have b0:=K5 0;have b1:=K5 1;have b2:=K5 2;have b3:=K5 3;simp only[gB,gC,gD]at b0 b1 b2 b3;clear K5 F5;go_wp2_with fail
   generalize w3.alloc _=K at*;generalize w3.heap.size=B4 at*
   go_still_tail 7,(by kernel_rfl)
   change wpList _ _ _ _ _ K.drew;have HB5:=gO (F.out.drew);have HZ5:=gO (HZ4.out.below ((gX K.heap.size K).drew));have HS5:=gO (m.out.below ((gX K.heap.size K).drew));clear p k1 k2 x y b0 b1 b2 b3 F HZ4 m;generalize K.drew=w5 at*;obtain⟨x0,x1,x2,x3⟩:=HS5.out.r.Cm L.out hi;obtain⟨f0,f1,f2,f3⟩:=HS5.out.r.aFV L.out hi;obtain⟨v,J⟩:=d.out.aFx HB5.out hi HZ5.out L.out;obtain⟨y0,y1,ey⟩:=TV c i ⟨M,Z,P,U,(c.zone i).n2,Y,c2'⟩;rw[ey]at v;rw[z4f,z4e]at v J;have HS6:=gO v;have SF6:=gO (j.out.trans J);clear v J ey;go_wp2
   go_ret2
   exact .inr ⟨h.jQ i M,at_,y0,y1,by rw[iM.out,if_neg I,HSO.out],rfl,HS6.out,SF6.out⟩
theorem Ot:∀{l:List Ls} {N:Nat},lJ l->(∀x∈l,x.key<N)->l.length<=N:=by
 intro l N h hb;have key:∀(l:List Ls) (a:Nat),lJ l->(∀x∈l,a<=x.key/\x.key<N)->l.length<=N-a:=by
  intro l
  induction l with
  | nil=>intro a _ _;simp
  | cons x l ih=>
   intro a e b;have f:=b x (by simp);have c:=List.pairwise_cons.1 e;have g:=ih (x.key+1) c.2 (λy d=>⟨c.1 y d,(b y (by simp[d])).2⟩);simp only[List.length_cons];omega
 simpa using key l 0 h (λx b=>⟨gU _,hb x b⟩)
theorem eY.oQ (hk:eY h):h.ls.length<=24:=Ot hk.lk λx e=>by
 have c:=hk.lr x e;have f:=hk.cp;obtain⟨a,b,d,_⟩:=c;unfold Ls.key;omega
theorem CG (hs:HR W G X h c):c.lc.length=h.ls.length:=by rw[<- hs.ll,gTe]
theorem Lh (hs:HR W G X h c)(hi:i<c.lc.length)(hi2:i<h.ls.length):c.lc[i].l=h.ls[i]:=by
 have a:=congrArg (·[i]?) hs.ll;simp[hi,hi2]at a;exact a
theorem HR.zD (hs:HR W G X h c)(hg:c.al=aK ⟨g,0,aJ⟩)(hi:i<c.lc.length):W.cell? ⟨g,i*4,aJ⟩=aK (aB aI c.lc[i].l.c)/\W.cell? ⟨g,i*4+1,aJ⟩=aK (aB aI c.lc[i].l.z)/\W.cell? ⟨g,i*4+2,aJ⟩=aK (aB aI c.lc[i].l.t)/\W.cell? ⟨g,i*4+3,aJ⟩=aK (aA c.lc[i].a c.lc[i].n c.lc[i].c):=by
 obtain⟨b,off,e,j,f⟩:=aAw aP (by decide) (aV hs.lsr) hi;obtain⟨rfl,rfl⟩:g=b/\0=off:=by rw[hg]at e;simpa using e
 have d:=oH f;rw[Nat.zero_add]at d;exact d
theorem Ro {l:Ls}(hh:sG ls l.key=true):∃hi:jU ls l.key<ls.length,bK ls l p=ls.set (jU ls l.key) {ls[jU ls l.key]with p:=ls[jU ls l.key].p++[p]}:=by
 unfold sG at hh;cases he:ls[jU ls l.key]? with
 | none=>rw[he]at hh;cases hh
 | some x=>
  rw[he]at hh;obtain⟨hi,a⟩:=gK.1 he;refine⟨hi,?_⟩;unfold bK;rw[he];simp only[decide_eq_true_eq]at hh;simp only[hh,if_true,a]
theorem Yy {l:Ls}(hh:sG ls l.key=false):bK ls l p=ls.take (jU ls l.key)++{l with p:=[p]}::ls.drop (jU ls l.key):=by
 unfold sG at hh;unfold bK;cases he:ls[jU ls l.key]? with
 | none=>rfl
 | some x=>
  rw[he]at hh;simp only[decide_eq_false_iff_not]at hh;simp only[hh,if_false]
theorem set_mid {α:Type}(a b:List α)(x y:α)(hi:i=a.length):(a++x::b).set i y=a++y::b:=by
 subst hi;simp
theorem aA3 {α:Type}(a b:List α)(x:α)(hi:i=a.length)(h:i<(a++x::b).length):(a++x::b)[i]=x:=by
 subst hi;simp
theorem aDv {c5:Hc}{cl:Nat}{lc:List Lc}(e:c5={c with al:=al,cl:=cl,lc:=lc})(uX:List Lc):({c with al:=al,cl:=cl,lc:=uX}:Hc)={c5 with lc:=uX}:=by subst e;rfl
def iT (l:Ls):Lc:=⟨⟨l.c,l.z,l.t,[]⟩,aJ,0,0⟩
theorem Rq (hs:HR W G X h c)(l:Ls)(I:Nat):dL W 0 ((c.lc.take I++iT l::c.lc.drop I).map kQ)/\∀r∈(c.lc.take I++iT l::c.lc.drop I).map kQ,∀g,r.v.ownBlock=aK g->∃r0∈c.lc.map kQ,r0.v.ownBlock=aK g:=by
 have f:dL W 0 (c.lc.map kQ):=hs.own.sub (by unfold Hc.rows;exact((List.sublist_cons_self _ _).trans (List.sublist_cons_self _ _)).trans (List.sublist_cons_self _ _));have i:(kQ (iT l)).v.ownBlock=aJ:=rfl;have j:dL W 0 (kQ (iT l)::c.lc.map kQ):=⟨λr a=>by
  rw[gY]at a;rcases a with a | a
  ·rw[a];exact⟨rfl,.inl ⟨rfl,rfl⟩⟩
  ·exact f.each r a,List.pairwise_cons.2 ⟨λr a g e=>by(rw[i]at e;cases e),f.Hu⟩⟩
 have d:(kQ (iT l)::c.lc.map kQ).Perm ((c.lc.take I++iT l::c.lc.drop I).map kQ):=by
  rw[<- List.map_cons];refine List.Perm.map _ ?_;have b:(c.lc.take I++iT l::c.lc.drop I).Perm (iT l::(c.lc.take I++c.lc.drop I)):=List.perm_middle;rw[List.take_append_drop]at b;exact b.symm
 refine⟨j.perm d,λr a g e=> ?_⟩;have b:=d.mem_iff.2 a;rw[gY]at b;rcases b with rfl | b
 ·rw[i]at e;cases e
 ·exact⟨r,b,e⟩
theorem TW (G p:Nat)(l:Ls)(x:Option Addr)(kx dx:Nat)(X:Nat->Prop)(h:Hp)(c:Hc)(w:World)(hs:HS w G X h c)(hk:eY h)(hl:l.z<2/\l.t<3):
 Calls prog 89 #[aH (aK ⟨G,0,aJ⟩),aC #[aB aI l.c,aB aI l.z,aB aI l.t,aA x kx dx],aB aI p] w λev w'=>ev=aN (aG #[])/\(∃al cl lc,HS w' G X {h with ls:=bK h.ls l p} {c with al:=al,cl:=cl,lc:=lc})/\Safe X w w':=by
 obtain⟨K4,F4,H,W⟩:=boxes1 w #[aB aI (l.c:Int),aB aI (l.z:Int),aB aI (l.t:Int),aA x kx dx] 160;have A:=gO (hs.new W);have O:=gO (Safe.jD (X:=X) W);have HK:=gO hk;have hG0:G<(w.alloc (aO #[aB aI (l.c:Int),aB aI (l.z:Int),aB aI (l.t:Int),aA x kx dx] 160)).heap.size:=A.out.r.gs;obtain⟨k0,k1,k2,k3,k4⟩:=A.out.words;have b0:=K4 0;have b1:=K4 1;have b2:=K4 2;have b3:=K4 3;simp only[gB,gC,gD]at b0 b1 b2 b3;have Xf:=hs.r.gs;have HXW:=gO hs.r.xs;have Rt:=hk.oQ;have TY:=gO (CG hs.r);have hc24:c.lc.length<=24:=by rw[TY.out];exact Rt
 clear hs hk W;go_enter func89,ntmps89
 go_wp2_with fail
 generalize w.alloc _=q at*;refine aU (by kernel_rfl) (by kernel_rfl) ?_
 repeat (go_big_quiet_step ((go_at_call 90;exact Calls.bV (TQ _ _ _ _ _ _ _ _ _ _ _ _ _ h l x kx dx _ (A.out.r.at.below (aT q _)) HK.out hl (by omega)))))
 refine wpQuiet_nil ?_;rintro _ ⟨wx,rfl⟩;have u:=gO (A.out.below (aT q wx));have y:=gO (O.out.then (aT q wx));have F:=aAp K4 H (aT q wx);have F4':=aAt F4 H (aT q wx);have hsz1:w.heap.size<(ext q wx).heap.size:=gI H (aT q wx).size;have aCp:q.heap.size<=(ext q wx).heap.size:=(aT q wx).size;clear k0 k1 k2 k3 k4 b0 b1 b2 b3 K4 F4 A O;generalize ext q wx=w2 at*;obtain⟨I,hI⟩:∃I,jU h.ls l.key=I:=⟨_,rfl⟩
 have HI:=gO hI;have VL:I<=h.ls.length:=by rw[<- hI];exact XC _ _
 rw[hI];clear hI
 go_upto_if 17 with fail
 go_cut [7,29] (λs7 s29 wx=>∃(Q:Hp) (d:Hc) (hi:I<d.lc.length),Hid (HS wx G (λk=>X k∨(w.heap.size<=k/\k<q.heap.size)) Q d)/\Hid (Safe X w wx)/\Hid (∃al cl lc,d={c with al:=al,cl:=cl,lc:=lc})/\Hid ({h with ls:=bK h.ls l p}={Q with ls:=Q.ls.set I {d.lc[I].l with p:=d.lc[I].l.p++[p]}})/\d.lc[I].n<=8)
 case first=>
  cases hh:sG h.ls l.key with
  | true=>
   obtain⟨Y,hpu⟩:=Ro (p:=p) hh;have hrel:∃(Q:Hp) (d:Hc) (hi:I<d.lc.length),Hid (HS w2 G (λk=>X k∨(w.heap.size<=k/\k<q.heap.size)) Q d)/\Hid (Safe X w w2)/\Hid (∃al cl lc,d={c with al:=al,cl:=cl,lc:=lc})/\Hid ({h with ls:=bK h.ls l p}={Q with ls:=Q.ls.set I {d.lc[I].l with p:=d.lc[I].l.p++[p]}})/\d.lc[I].n<=8:=by
    obtain rfl:=HI.out;have h6:jU h.ls l.key<c.lc.length:=by rw[TY.out];exact Y
    have h7:=Lh u.out.r h6 Y;refine⟨h,c,h6,u,y,⟨c.al,c.cl,c.lc,rfl⟩,?_,?_⟩
    ·unfold Hid;rw[hpu,h7]
    ·have h8:=zB (u.out.r.lI _ (gL h6));have h9:=(HK.out.lr _ (gL Y)).2.2.2.2.1;rw[h7]at h8;omega
   have aJe:=gO hrel;clear hrel hpu;go_wp2_with fail
   go_meet
   case rel=>exact aJe.out
  | false=>
   have HHF:=gO hh;clear hh;have hXB:(λk=>X k∨(w.heap.size<=k/\k<q.heap.size)) w.heap.size:= .inr ⟨gT _,H⟩;have J:=gO (u.out.far hXB 3 (aA aJ 0 0));have HSF3:=gO (y.out.set (g:=w.heap.size) (λe=>by have:=HXW.out _ e;omega) 3 (aA aJ 0 0));have K6:=gO (aAr F 3 (aA aJ 0 0));have aNL:Hid ((w2.setCell ⟨w.heap.size,3,aJ⟩ (aA aJ 0 0)).heap.size=w2.heap.size):=by simp[Hid]
   have b3:=F 3;have f3:=F4' 3;simp only[gB,gC,gD]at b3;clear F F4';go_wp2_with fail
   generalize w2.setCell _ _=D at*;have e0:=K6.out 0;have e1:=K6.out 1;have e2:=K6.out 2;have e3:=K6.out 3;simp only[gE,gG,gH,gB,gC,gD]at e0 e1 e2 e3;obtain⟨k0,k1,k2,k3,k4⟩:=J.out.words;clear b3 f3 K6 k0 k1 k2 k4;have V:=((gX D.heap.size D).alloc (gT _) (aO #[aB aI (l.c:Int),aB aI (l.z:Int),aB aI (l.t:Int),aA aJ 0 0] 160)).drew;have o:=gO (J.out.below V);have HSF4:=gO (HSF3.out.then V);have hgb:((D.alloc (aO #[aB aI (l.c:Int),aB aI (l.z:Int),aB aI (l.t:Int),aA aJ 0 0] 160)).drew).heap[D.heap.size]? =aK (.cells (bP (iT l)).toArray 160 (0,0)):=heap_alloc_new D _;have P:aK D.heap.size≠gTh (aA c.al c.lc.length c.cl):=λe=>by
    have:=(J.out.r.own.lt _ (jE c h) _ e.symm).2;omega
   have hIc:I<=c.lc.length:=by rw[TY.out];exact VL
   have aJf:G<D.heap.size:=J.out.r.gs;have HGB:=gO hgb;have HNB:=gO P;have aF0:G<((D.alloc (aO #[aB aI (l.c:Int),aB aI (l.z:Int),aB aI (l.t:Int),aA aJ 0 0] 160)).drew).heap.size:=o.out.r.gs;have HKG:=gO o.out.k;have HFG:=gO o.out.fz;have MV:Hid (aK G≠(rW c).v.ownBlock):=λe=>(o.out.r.og _ (jE c h) G e.symm).1 rfl
   clear hgb P V
   go_region_with (go_at_call 125;refine(VK 0 c.al c.lc.length c.cl D.heap.size I c.lc (iT l) _ o.out.r.lsr hIc (by omega) (gU _) HGB.out HNB.out).mono ?_;rintro ev w5 ⟨a',c',rfl,ho5,N,hl5⟩;have q3:=bD HKG.out aF0 N MV.out 3;have x3:=bG HFG.out aF0 N MV.out 3;have q3':=q3.trans (show(c.vals h)[3]? =aK (aA c.al c.lc.length c.cl)from rfl);clear q3)
   all_goals
    have j:(c.lc.take I++iT l::c.lc.drop I).length=c.lc.length+1:=by simp;omega
    obtain⟨hpo,M⟩:=Rq o.out.r l I;have M:=λr hr g e=>Or.inl (b:=NW (D.alloc (aO #[aB aI (l.c:Int),aB aI (l.z:Int),aB aI (l.t:Int),aA aJ 0 0] 160)).drew G (λk=>X k∨(w.heap.size<=k/\k<q.heap.size)) h c g) (M r hr g e)
    obtain⟨T,Z⟩:=o.out.lists N (al':=a') (cl':=c') (uX:=c.lc.take I++iT l::c.lc.drop I) (by rw[j];exact ho5) (by rw[j];exact hl5) hpo M;rw[j]at T Z;have f:=gO T;have SF6:=gO (HSF4.out.trans (Z.sub (λk _ hk=> .inl hk)));have hI6:I<(c.lc.take I++iT l::c.lc.drop I).length:=by rw[j];omega
    have HG6:=gO (aA3 (c.lc.take I) (c.lc.drop I) (iT l) (i:=I) (by rw[gTc];omega) hI6);have U:Hid ({h with ls:=bK h.ls l p}={h with ls:=((c.lc.take I++iT l::c.lc.drop I).map Lc.l).set I {(c.lc.take I++iT l::c.lc.drop I)[I].l with p:=(c.lc.take I++iT l::c.lc.drop I)[I].l.p++[p]}}):=by
     unfold Hid;rw[Yy HHF.out,HI.out,HG6.out,List.map_append,List.map_cons,List.map_take,List.map_drop,o.out.r.ll,set_mid _ _ _ _ (by rw[gTc];omega)];rfl
    clear T Z hpo M ho5 N hl5 x3 q3';go_wp2_with fail
    go_meet
    case rel=>exact⟨_,_,hI6,f,SF6,⟨a',c',_,rfl⟩,U,by rw[HG6.out];exact gU _⟩
 case rest=>
  obtain⟨Q,d,C,B,SF5,HC5,U,hn8⟩:=hcut;clear u y F F4' hsz1 aCp VL HI HK TY hc24 Rt;obtain⟨L,m,CJ,aDy,aDz,Lj⟩:=B.out.r.uY (by omega);have hI2:(I:Int)<d.lc.length:=by omega
  obtain⟨k0,k1,k2,k3,k4⟩:=B.out.words;rw[m]at k3;obtain⟨x0,x1,x2,x3⟩:=B.out.r.zD m C;have aNO:G<wc.heap.size:=B.out.r.gs;have MV:=gO m;have E:=((gX wc.heap.size wc).alloc (gT _) (aO #[aB aI (p:Int)] 3)).drew;have f:=gO (B.out.below E);have SF6:=gO (SF5.out.then E);have R:((wc.alloc (aO #[aB aI (p:Int)] 3)).drew).heap[wc.heap.size]? =aK (aO #[aB aI (p:Int)] 3 (0,0)):=heap_alloc_new wc _;have oW:=gO (World.news_of_block R);have S:kQ d.lc[I]∈d.lc.map kQ:=List.mem_map_of_mem (gL C);have HOWN:=gO (f.out.r.lI _ (gL C));have hlb:(rW d).v.ownBlock=aK L:=by unfold rW;rw[m];rfl
  have HNL:Hid (aK L≠(kQ d.lc[I]).v.ownBlock):=λe=>f.out.r.Hu.lp _ S L hlb e.symm
  have HNG:Hid (aK G≠(kQ d.lc[I]).v.ownBlock):=λe=>(f.out.r.og _ (nG S) G e.symm).1 rfl
  have aF1:L<((wc.alloc (aO #[aB aI (p:Int)] 3)).drew).heap.size:=gI CJ E.size;have hG6:G<((wc.alloc (aO #[aB aI (p:Int)] 3)).drew).heap.size:=f.out.r.gs;have HX3:=gO (f.out.r.zD m C).2.2.2;have HG3:=gO f.out.words.2.2.2.1;rw[m]at HG3;obtain⟨_,Ib,_,_,_,hf6⟩:=f.out.r.uY (by omega);have HF3:Hid (((wc.alloc (aO #[aB aI (p:Int)] 3)).drew).frozen? ⟨L,I*4+3,aJ⟩=false):=by
   rw[m]at Ib;obtain rfl:L=_:=by simpa using Ib
   exact hf6 _ (by omega)
  obtain⟨ti,hti,htz,hts,htb⟩:=info_parts lM;clear k0 k1 k2 k4 x0 x1 x2 m R S hlb Ib hf6 Lj E;go_wp2_with fail
  go_region_law (first | (refine step_append_lies _ rfl _ _ 34 rfl 0 3 ti (aB aI 0) 1 8 underlying34 hti htz hts htb rfl (by decide) (aA d.lc[I].a d.lc[I].n d.lc[I].c) d.lc[I].n (flat iF d.lc[I].l.p) rfl HOWN.out ⟨wc.heap.size,0,aJ⟩ 1 1 [aB aI (p:Int)] rfl rfl oW.out (by simp[Value.oneCell']) (by decide) (by unfold maxLen;omega) (by omega) (gU _) _ rfl ?_;intro g6 s w6 ho6 K hl6 aNQ;have q3:=(K.cell_far ⟨L,I*4+3,aJ⟩ aF1 HNL.out).trans HX3.out;have qf:=(K.frozen_far ⟨L,I*4+3,aJ⟩ aF1 HNL.out).trans HF3.out;have qg:=(K.cell_far ⟨G,3,aJ⟩ hG6 HNG.out).trans HG3.out))
  all_goals
   have ho7:(kQ ⟨{d.lc[I].l with p:=d.lc[I].l.p++[p]},aK ⟨g6,0,aJ⟩,d.lc[I].n+1,s⟩).on w6 0:=by
    have e:flat iF (d.lc[I].l.p++[p])=flat iF d.lc[I].l.p++[aB aI (p:Int)]:=by rw[aS,fJ];rfl
    unfold Rs.on kQ;simp only;rw[e];exact ho6
   obtain⟨hs7,sf7⟩:=f.out.page C K ho7 ⟨rfl,rfl,rfl⟩ (λk hk=>by
    obtain rfl:g6=k:=by simpa[kQ,gTh]using hk
    rcases hl6 with h1 | h1
    ·exact .inl h1
    ·exact .inr (Nat.le_of_eq h1.symm)) MV.out
   have hfin:∃al cl lc,HS (w6.setCell ⟨L,I*4+3,aJ⟩ (aA (aK ⟨g6,0,aJ⟩) (d.lc[I].n+1) s)) G X {h with ls:=bK h.ls l p} {c with al:=al,cl:=cl,lc:=lc}:=by
    rw[U.out];obtain⟨al,cl,lc,e⟩:=HC5.out;refine⟨al,cl,d.lc.set I ⟨{d.lc[I].l with p:=d.lc[I].l.p++[p]},aK ⟨g6,0,aJ⟩,d.lc[I].n+1,s⟩,?_⟩;rw[aDv e];exact hs7.sub λk hk=> .inl hk
   exact bodyPost_end (v:=aG #[]) (by simp[results,results89,go_sem]) rfl ⟨rfl,hfin,SF6.out.trans (sf7.sub λk _ hk=> .inl hk)⟩
end Go.Proofs.YtjaogfhcnmjkiaaGreatDoor
