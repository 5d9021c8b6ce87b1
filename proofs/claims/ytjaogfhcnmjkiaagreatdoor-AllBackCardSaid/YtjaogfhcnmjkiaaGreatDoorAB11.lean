/- joined. -/
import Derived.Test.YtjaogfhcnmjkiaaGreatDoorAB10
import Derived.Deep.RegionLaw
set_option linter.all false
set_option maxRecDepth 100000
set_option maxHeartbeats 0
namespace Go.Proofs.YtjaogfhcnmjkiaaGreatDoor
open Go.RowKit
open Go.Value renaming slice->aA,int->aB,agg->aC,string->aF,tuple->aG,pointer->aH,ownBlock->gTh
open Go.IntKind renaming i64->aI
open Option renaming none->aJ,some->aK
open Go.Ending renaming returned->aN
open Go.Obj renaming cells->aO
open Go.Proofs.Tryz
variable {G i p:Nat}{W W0:World}{X:Nat->Prop}{al:Option Addr}{c:Hc}{h:Hp}{ls:List Ls}{r:Lc}
theorem Oi:∀{l:List Ls} {N:Nat},mJ l->(∀x∈l,x.key<N)->l.length<=N:=by
 intro l N h hb;have key:∀(l:List Ls) (a:Nat),mJ l->(∀x∈l,a<=x.key/\x.key<N)->l.length<=N-a:=by
  intro l
  induction l with
  | nil=>intro a _ _;simp
  | cons x l ih=>
   intro a e b;have f:=b x (by simp);have c:=List.pairwise_cons.1 e;have g:=ih (x.key+1) c.2 (λy d=>⟨c.1 y d,(b y (by simp[d])).2⟩);simp only[List.length_cons];omega
 simpa using key l 0 h (λx b=>⟨gU _,hb x b⟩)
theorem fG.pK (hk:fG h):h.ls.length<=24:=Oi hk.lk λx e=>by
 have c:=hk.lr x e;have f:=hk.cp;obtain⟨a,b,d,_⟩:=c;unfold Ls.key;omega
theorem BU (hs:HR W G X h c):c.lc.length=h.ls.length:=by rw[<- hs.ll,gTe]
theorem KE (hs:HR W G X h c)(hi:i<c.lc.length)(hi2:i<h.ls.length):c.lc[i].l=h.ls[i]:=by
 have a:=congrArg (·[i]?) hs.ll;simp[hi,hi2]at a;exact a
theorem HR.y7 (hs:HR W G X h c){g:Nat}(hg:c.al=aK ⟨g,0,aJ⟩)(hi:i<c.lc.length):W.cell? ⟨g,i*4,aJ⟩=aK (aB aI c.lc[i].l.c)/\W.cell? ⟨g,i*4+1,aJ⟩=aK (aB aI c.lc[i].l.z)/\W.cell? ⟨g,i*4+2,aJ⟩=aK (aB aI c.lc[i].l.t)/\W.cell? ⟨g,i*4+3,aJ⟩=aK (aA c.lc[i].a c.lc[i].n c.lc[i].c):=by
 obtain⟨b,off,e,j,f⟩:=aZ bF (by decide) (bJ hs.lsr) hi;obtain⟨rfl,rfl⟩:g=b/\0=off:=by rw[hg]at e;simpa using e
 have d:=o9 f;rw[Nat.zero_add]at d;exact d
theorem QV {l:Ls}(hh:sW ls l.key=true):∃hi:kS ls l.key<ls.length,cO ls l p=ls.set (kS ls l.key) {ls[kS ls l.key]with p:=ls[kS ls l.key].p++[p]}:=by
 unfold sW at hh;cases he:ls[kS ls l.key]? with
 | none=>rw[he]at hh;cases hh
 | some x=>
  rw[he]at hh;obtain⟨hi,a⟩:=gK.1 he;refine⟨hi,?_⟩;unfold cO;rw[he];simp only[decide_eq_true_eq]at hh;simp only[hh,if_true,a]
theorem Yv {l:Ls}(hh:sW ls l.key=false):cO ls l p=ls.take (kS ls l.key)++{l with p:=[p]}::ls.drop (kS ls l.key):=by
 unfold sW at hh;unfold cO;cases he:ls[kS ls l.key]? with
 | none=>rfl
 | some x=>
  rw[he]at hh;simp only[decide_eq_false_iff_not]at hh;simp only[hh,if_false]
theorem set_mid {α:Type}(a b:List α)(x y:α)(hi:i=a.length):(a++x::b).set i y=a++y::b:=by
 subst hi;simp
theorem aBa {α:Type}(a b:List α)(x:α)(hi:i=a.length)(h:i<(a++x::b).length):(a++x::b)[i]=x:=by
 subst hi;simp
theorem aDA {c5:Hc}{cl:Nat}{lc:List Lc}(e:c5={c with al:=al,cl:=cl,lc:=lc})(uS:List Lc):({c with al:=al,cl:=cl,lc:=uS}:Hc)={c5 with lc:=uS}:=by subst e;rfl
def jL (l:Ls):Lc:=⟨⟨l.c,l.z,l.t,[]⟩,aJ,0,0⟩
theorem QW (hs:HR W G X h c)(l:Ls)(I:Nat):dY W 0 ((c.lc.take I++jL l::c.lc.drop I).map lM)/\∀r∈(c.lc.take I++jL l::c.lc.drop I).map lM,∀g,r.v.ownBlock=aK g->∃r0∈c.lc.map lM,r0.v.ownBlock=aK g:=by
 have f:dY W 0 (c.lc.map lM):=hs.own.sub (by unfold Hc.rows;exact((List.sublist_cons_self _ _).trans (List.sublist_cons_self _ _)).trans (List.sublist_cons_self _ _));have i:(lM (jL l)).v.ownBlock=aJ:=rfl;have j:dY W 0 (lM (jL l)::c.lc.map lM):=⟨λr a=>by
  rw[gY]at a;rcases a with a | a
  ·rw[a];exact⟨rfl,.inl ⟨rfl,rfl⟩⟩
  ·exact f.each r a,List.pairwise_cons.2 ⟨λr a g e=>by(rw[i]at e;cases e),f.GZ⟩⟩
 have d:(lM (jL l)::c.lc.map lM).Perm ((c.lc.take I++jL l::c.lc.drop I).map lM):=by
  rw[<- List.map_cons];refine List.Perm.map _ ?_;have b:(c.lc.take I++jL l::c.lc.drop I).Perm (jL l::(c.lc.take I++c.lc.drop I)):=List.perm_middle;rw[List.take_append_drop]at b;exact b.symm
 refine⟨j.perm d,λr a g e=> ?_⟩;have b:=d.mem_iff.2 a;rw[gY]at b;rcases b with rfl | b
 ·rw[i]at e;cases e
 ·exact⟨r,b,e⟩
theorem TD (G p:Nat)(l:Ls)(x:Option Addr)(kx dx:Nat)(X:Nat->Prop)(h:Hp)(c:Hc)(w:World)(hs:HS w G X h c)(hk:fG h)(hl:l.z<2/\l.t<3):
 Calls prog 89 #[aH (aK ⟨G,0,aJ⟩),aC #[aB aI l.c,aB aI l.z,aB aI l.t,aA x kx dx],aB aI p] w λev w'=>ev=aN (aG #[])/\(∃al cl lc,HS w' G X {h with ls:=cO h.ls l p} {c with al:=al,cl:=cl,lc:=lc})/\Safe X w w':=by
 obtain⟨K4,F4,H,W⟩:=boxes1 w #[aB aI (l.c:Int),aB aI (l.z:Int),aB aI (l.t:Int),aA x kx dx] 160;have A:=gO (hs.new W);have O:=gO (Safe.jT (X:=X) W);have HK:=gO hk;have hG0:G<(w.alloc (aO #[aB aI (l.c:Int),aB aI (l.z:Int),aB aI (l.t:Int),aA x kx dx] 160)).heap.size:=A.out.r.gs;obtain⟨k0,k1,k2,k3,k4⟩:=A.out.words;have b0:=K4 0;have b1:=K4 1;have b2:=K4 2;have b3:=K4 3;simp only[gB,gC,gD]at b0 b1 b2 b3;have WW:=hs.r.gs;have HXW:=gO hs.r.xs;have QX:=hk.pK;have TG:=gO (BU hs.r);have hc24:c.lc.length<=24:=by rw[TG.out];exact QX
 clear hs hk W;go_enter func89,ntmps89
 go_wp2_with fail
 generalize w.alloc _=q at*;refine bH (by kernel_rfl) (by kernel_rfl) ?_
 repeat (go_big_quiet_step ((go_at_call 90;exact Calls.dF (Tt _ _ _ _ _ _ _ _ _ _ _ _ _ h l x kx dx _ (A.out.r.at.below (bD q _)) HK.out hl (by omega)))))
 refine wpQuiet_nil ?_;rintro _ ⟨wx,rfl⟩;have u:=gO (A.out.below (bD q wx));have y:=gO (O.out.then (bD q wx));have F:=aQ K4 H (bD q wx);have F4':=aU F4 H (bD q wx);have hsz1:w.heap.size<(ext q wx).heap.size:=gI H (bD q wx).size;have aCu:q.heap.size<=(ext q wx).heap.size:=(bD q wx).size;clear k0 k1 k2 k3 k4 b0 b1 b2 b3 K4 F4 A O;generalize ext q wx=w2 at*;obtain⟨I,hI⟩:∃I,kS h.ls l.key=I:=⟨_,rfl⟩
 have HI:=gO hI;have Vy:I<=h.ls.length:=by rw[<- hI];exact Xx _ _
 rw[hI];clear hI
 go_upto_if 17 with fail
 go_cut [7,29] (λs7 s29 wx=>∃(Q:Hp) (d:Hc) (hi:I<d.lc.length),Hid (HS wx G (λk=>X k∨(w.heap.size<=k/\k<q.heap.size)) Q d)/\Hid (Safe X w wx)/\Hid (∃al cl lc,d={c with al:=al,cl:=cl,lc:=lc})/\Hid ({h with ls:=cO h.ls l p}={Q with ls:=Q.ls.set I {d.lc[I].l with p:=d.lc[I].l.p++[p]}})/\d.lc[I].n<=8)
 case first=>
  cases hh:sW h.ls l.key with
  | true=>
   obtain⟨Y,hpu⟩:=QV (p:=p) hh;have hrel:∃(Q:Hp) (d:Hc) (hi:I<d.lc.length),Hid (HS w2 G (λk=>X k∨(w.heap.size<=k/\k<q.heap.size)) Q d)/\Hid (Safe X w w2)/\Hid (∃al cl lc,d={c with al:=al,cl:=cl,lc:=lc})/\Hid ({h with ls:=cO h.ls l p}={Q with ls:=Q.ls.set I {d.lc[I].l with p:=d.lc[I].l.p++[p]}})/\d.lc[I].n<=8:=by
    obtain rfl:=HI.out;have h6:kS h.ls l.key<c.lc.length:=by rw[TG.out];exact Y
    have h7:=KE u.out.r h6 Y;refine⟨h,c,h6,u,y,⟨c.al,c.cl,c.lc,rfl⟩,?_,?_⟩
    ·unfold Hid;rw[hpu,h7]
    ·have h8:=yY (u.out.r.mG _ (gL h6));have h9:=(HK.out.lr _ (gL Y)).2.2.2.2.1;rw[h7]at h8;omega
   have aJx:=gO hrel;clear hrel hpu;go_wp2_with fail
   go_meet
   case rel=>exact aJx.out
  | false=>
   have HHF:=gO hh;clear hh;have hXB:(λk=>X k∨(w.heap.size<=k/\k<q.heap.size)) w.heap.size:= .inr ⟨gT _,H⟩;have J:=gO (u.out.far hXB 3 (aA aJ 0 0));have HSF3:=gO (y.out.set (g:=w.heap.size) (λe=>by have:=HXW.out _ e;omega) 3 (aA aJ 0 0));have K6:=gO (aW F 3 (aA aJ 0 0));have aN9:Hid ((w2.setCell ⟨w.heap.size,3,aJ⟩ (aA aJ 0 0)).heap.size=w2.heap.size):=by simp[Hid]
   have b3:=F 3;have f3:=F4' 3;simp only[gB,gC,gD]at b3;clear F F4';go_wp2_with fail
   generalize w2.setCell _ _=D at*;have e0:=K6.out 0;have e1:=K6.out 1;have e2:=K6.out 2;have e3:=K6.out 3;simp only[gE,gG,gH,gB,gC,gD]at e0 e1 e2 e3;obtain⟨k0,k1,k2,k3,k4⟩:=J.out.words;clear b3 f3 K6 k0 k1 k2 k4;have V:=((gX D.heap.size D).alloc (gT _) (aO #[aB aI (l.c:Int),aB aI (l.z:Int),aB aI (l.t:Int),aA aJ 0 0] 160)).drew;have o:=gO (J.out.below V);have HSF4:=gO (HSF3.out.then V);have hgb:((D.alloc (aO #[aB aI (l.c:Int),aB aI (l.z:Int),aB aI (l.t:Int),aA aJ 0 0] 160)).drew).heap[D.heap.size]? =aK (.cells (dB (jL l)).toArray 160 (0,0)):=heap_alloc_new D _;have P:aK D.heap.size≠gTh (aA c.al c.lc.length c.cl):=λe=>by
    have:=(J.out.r.own.lt _ (jU c h) _ e.symm).2;omega
   have hIc:I<=c.lc.length:=by rw[TG.out];exact Vy
   have aJy:G<D.heap.size:=J.out.r.gs;have Kz:=gO hgb;have KO:=gO P;have aF8:G<((D.alloc (aO #[aB aI (l.c:Int),aB aI (l.z:Int),aB aI (l.t:Int),aA aJ 0 0] 160)).drew).heap.size:=o.out.r.gs;have HKG:=gO o.out.k;have HFG:=gO o.out.fz;have MI:Hid (aK G≠(sN c).v.ownBlock):=λe=>(o.out.r.og _ (jU c h) G e.symm).1 rfl
   clear hgb P V
   go_region_with (go_at_call 125;refine(Vx 0 c.al c.lc.length c.cl D.heap.size I c.lc (jL l) _ o.out.r.lsr hIc (by omega) (gU _) Kz.out KO.out).mono ?_;rintro ev w5 ⟨a',c',rfl,ho5,N,hl5⟩;have q3:=bV HKG.out aF8 N MI.out 3;have x3:=bY HFG.out aF8 N MI.out 3;have q3':=q3.trans (show(c.vals h)[3]? =aK (aA c.al c.lc.length c.cl)from rfl);clear q3)
   all_goals
    have j:(c.lc.take I++jL l::c.lc.drop I).length=c.lc.length+1:=by simp;omega
    obtain⟨hpo,M⟩:=QW o.out.r l I;have M:=λr hr g e=>Or.inl (b:=NP (D.alloc (aO #[aB aI (l.c:Int),aB aI (l.z:Int),aB aI (l.t:Int),aA aJ 0 0] 160)).drew G (λk=>X k∨(w.heap.size<=k/\k<q.heap.size)) h c g) (M r hr g e)
    obtain⟨T,Z⟩:=o.out.lists N (al':=a') (cl':=c') (uS:=c.lc.take I++jL l::c.lc.drop I) (by rw[j];exact ho5) (by rw[j];exact hl5) hpo M;rw[j]at T Z;have f:=gO T;have SF6:=gO (HSF4.out.trans (Z.sub (λk _ hk=> .inl hk)));have hI6:I<(c.lc.take I++jL l::c.lc.drop I).length:=by rw[j];omega
    have HG6:=gO (aBa (c.lc.take I) (c.lc.drop I) (jL l) (i:=I) (by rw[gTc];omega) hI6);have U:Hid ({h with ls:=cO h.ls l p}={h with ls:=((c.lc.take I++jL l::c.lc.drop I).map Lc.l).set I {(c.lc.take I++jL l::c.lc.drop I)[I].l with p:=(c.lc.take I++jL l::c.lc.drop I)[I].l.p++[p]}}):=by
     unfold Hid;rw[Yv HHF.out,HI.out,HG6.out,List.map_append,List.map_cons,List.map_take,List.map_drop,o.out.r.ll,set_mid _ _ _ _ (by rw[gTc];omega)];rfl
    clear T Z hpo M ho5 N hl5 x3 q3';go_wp2_with fail
    go_meet
    case rel=>exact⟨_,_,hI6,f,SF6,⟨a',c',_,rfl⟩,U,by rw[HG6.out];exact gU _⟩
 case rest=>
  obtain⟨Q,d,C,B,SF5,HC5,U,hn8⟩:=hcut;clear u y F F4' hsz1 aCu Vy HI HK TG hc24 QX;obtain⟨L,m,Cb,aDD,aDE,KH⟩:=B.out.r.uT (by omega);have hI2:(I:Int)<d.lc.length:=by omega
  obtain⟨k0,k1,k2,k3,k4⟩:=B.out.words;rw[m]at k3;obtain⟨x0,x1,x2,x3⟩:=B.out.r.y7 m C;have aOc:G<wc.heap.size:=B.out.r.gs;have MI:=gO m;have E:=((gX wc.heap.size wc).alloc (gT _) (aO #[aB aI (p:Int)] 3)).drew;have f:=gO (B.out.below E);have SF6:=gO (SF5.out.then E);have R:((wc.alloc (aO #[aB aI (p:Int)] 3)).drew).heap[wc.heap.size]? =aK (aO #[aB aI (p:Int)] 3 (0,0)):=heap_alloc_new wc _;have nP:=gO (World.news_of_block R);have S:lM d.lc[I]∈d.lc.map lM:=List.mem_map_of_mem (gL C);have HOWN:=gO (f.out.r.mG _ (gL C));have hlb:(sN d).v.ownBlock=aK L:=by unfold sN;rw[m];rfl
  have HNL:Hid (aK L≠(lM d.lc[I]).v.ownBlock):=λe=>f.out.r.GZ.lp _ S L hlb e.symm
  have HNG:Hid (aK G≠(lM d.lc[I]).v.ownBlock):=λe=>(f.out.r.og _ (nY S) G e.symm).1 rfl
  have aF9:L<((wc.alloc (aO #[aB aI (p:Int)] 3)).drew).heap.size:=gI Cb E.size;have hG6:G<((wc.alloc (aO #[aB aI (p:Int)] 3)).drew).heap.size:=f.out.r.gs;have HX3:=gO (f.out.r.y7 m C).2.2.2;have HG3:=gO f.out.words.2.2.2.1;rw[m]at HG3;obtain⟨_,Hq,_,_,_,hf6⟩:=f.out.r.uT (by omega);have HF3:Hid (((wc.alloc (aO #[aB aI (p:Int)] 3)).drew).frozen? ⟨L,I*4+3,aJ⟩=false):=by
   rw[m]at Hq;obtain rfl:L=_:=by simpa using Hq
   exact hf6 _ (by omega)
  obtain⟨ti,hti,htz,hts,htb⟩:=info_parts mO;clear k0 k1 k2 k4 x0 x1 x2 m R S hlb Hq hf6 KH E;go_wp2_with fail
  go_region_law (first | (refine step_append_lies _ rfl _ _ 34 rfl 0 3 ti (aB aI 0) 1 8 underlying34 hti htz hts htb rfl (by decide) (aA d.lc[I].a d.lc[I].n d.lc[I].c) d.lc[I].n (flat jA d.lc[I].l.p) rfl HOWN.out ⟨wc.heap.size,0,aJ⟩ 1 1 [aB aI (p:Int)] rfl rfl nP.out (by simp[Value.oneCell']) (by decide) (by unfold maxLen;omega) (by omega) (gU _) _ rfl ?_;intro g6 s w6 ho6 K hl6 aOe;have q3:=(K.cell_far ⟨L,I*4+3,aJ⟩ aF9 HNL.out).trans HX3.out;have qf:=(K.frozen_far ⟨L,I*4+3,aJ⟩ aF9 HNL.out).trans HF3.out;have qg:=(K.cell_far ⟨G,3,aJ⟩ hG6 HNG.out).trans HG3.out))
  all_goals
   have ho7:(lM ⟨{d.lc[I].l with p:=d.lc[I].l.p++[p]},aK ⟨g6,0,aJ⟩,d.lc[I].n+1,s⟩).on w6 0:=by
    have e:flat jA (d.lc[I].l.p++[p])=flat jA d.lc[I].l.p++[aB aI (p:Int)]:=by rw[bG,iC];rfl
    unfold Rs.on lM;simp only;rw[e];exact ho6
   obtain⟨hs7,sf7⟩:=f.out.page C K ho7 ⟨rfl,rfl,rfl⟩ (λk hk=>by
    obtain rfl:g6=k:=by simpa[lM,gTh]using hk
    rcases hl6 with h1 | h1
    ·exact .inl h1
    ·exact .inr (Nat.le_of_eq h1.symm)) MI.out
   have hfin:∃al cl lc,HS (w6.setCell ⟨L,I*4+3,aJ⟩ (aA (aK ⟨g6,0,aJ⟩) (d.lc[I].n+1) s)) G X {h with ls:=cO h.ls l p} {c with al:=al,cl:=cl,lc:=lc}:=by
    rw[U.out];obtain⟨al,cl,lc,e⟩:=HC5.out;refine⟨al,cl,d.lc.set I ⟨{d.lc[I].l with p:=d.lc[I].l.p++[p]},aK ⟨g6,0,aJ⟩,d.lc[I].n+1,s⟩,?_⟩;rw[aDA e];exact hs7.sub λk hk=> .inl hk
   exact bodyPost_end (v:=aG #[]) (by simp[results,results89,go_sem]) rfl ⟨rfl,hfin,SF6.out.trans (sf7.sub λk _ hk=> .inl hk)⟩
theorem Ol (G:Nat)(X:Nat->Prop)(h:Hp)(c:Hc)(w:World)(hs:HS w G X h c)(hk:fG h):
 Calls prog 59 #[aH (aK ⟨G,0,aJ⟩)] w λev w'=>ev=aN (aG #[])/\(∃c',HS w' G X h.drain c')/\Safe X w w':=by
 have R:=gO hs;have HK:=gO hk;have TG:=gO (BU hs.r);have QX:=hk.pK;have M:c.lc.length<=24:=by rw[TG.out];exact QX
 obtain⟨k0,k1,k2,k3,k4⟩:=hs.words;have Ky:=hs.r.gs;clear hs hk;go_enter func59,ntmps59
 go_wp2_with fail
 clear k0 k1 k2 k3 k4;obtain⟨n,hn⟩:∃n,c.lc.length=n:=⟨_,rfl⟩
 have HN:=gO hn;obtain⟨A,hA⟩:∃A,c.al=A:=⟨_,rfl⟩
 have HA:=gO hA;rw[hn]at M ⊢;rw[hA];clear hn hA;go_loopw [11] (λD wr=>∃(i:Nat) (y0 y1:Zc),i<=n/\D=aB aI (i:Int)/\Hid (HS wr G X (dI h (h.ls.take i)) {c with y0:=y0,y1:=y1})/\Hid (Safe X w wr)) (λD _=>n-(intOf D).toNat)
 case atStart=>exact⟨0,c.y0,c.y1,gU _,rfl,R,Safe.refl _ _⟩
 case round=>
  obtain⟨i,y0,y1,hi,rfl,q,Ce⟩:=hrel;clear R;have hGr:G<wr.heap.size:=q.out.r.gs;by_cases hlt:i<n
  ·have hlt2:(i:Int)<n:=by omega
   have s:i<c.lc.length:=by rw[HN.out];exact hlt
   have f:i<h.ls.length:=by rw[<- TG.out];exact s
   obtain⟨L,F,Cb,aDD,aDE,KH⟩:=q.out.r.uT (show 0<c.lc.length by omega);obtain⟨x0,x1,x2,x3⟩:=q.out.r.y7 F s;have h7:c.lc[i].l=h.ls[i]:=by
    have h8:=KE q.out.r s (by rw[(Fg h _).1];exact f);simp only[(Fg h _).1]at h8;exact h8
   have Hq:c.al=aK ⟨L,0,aJ⟩:=F;have V:wr.cell? ⟨L,i*4,aJ⟩=aK (aB aI (c.lc[i].l.c:Int)):=x0;have T:wr.cell? ⟨L,i*4+1,aJ⟩=aK (aB aI (c.lc[i].l.z:Int)):=x1;have O:wr.cell? ⟨L,i*4+2,aJ⟩=aK (aB aI (c.lc[i].l.t:Int)):=x2;have x:wr.cell? ⟨L,i*4+3,aJ⟩=aK (aA c.lc[i].a c.lc[i].n c.lc[i].c):=x3;clear x0 x1 x2 x3 F KH;have E:c.lc[i]∈c.lc:=gL s;have d:=q.out.r.mG _ E;have u:=yY d;have C:=HK.out.lr _ (gL f);have h88:=C.2.2.2.2.1;have hpos:=C.2.2.2.1;have aGa:Hid (∀j (hj:j<h.ls[i].p.length),_):=λj hj=>Dy HK.out f hj
   have WX:=gO (Oj h h.ls f);rw[h7]at u;have g:Hid ((lM c.lc[i]).on wr 0):=d;have Z:=gO h7;obtain rfl:A=aK ⟨L,0,aJ⟩:=HA.out.symm.trans Hq;have Q:=gO E;clear d h7 C E;obtain⟨r,hr⟩:∃r,c.lc[i]=r:=⟨_,rfl⟩
   simp only[hr]at V T O x u g Z Q;obtain⟨pb,nD,I,_,_⟩:=aZ dH (by decide) (bJ g.out) (j:=0) (by show 0<r.l.p.length;rw[Z.out];omega);rw[I]at x;have HPA:=gO I;clear hr I Hq;go_wp2_with fail
   have y:=aT wr (aO #[aB aI (r.l.c:Int),aB aI (r.l.z:Int),aB aI (r.l.t:Int),aA (aK ⟨pb,nD,aJ⟩) r.n r.c] 160);have W:=gO (q.out.below y);have Y:=gO (Ce.out.then y);obtain⟨we,rfl⟩:∃we,we=wr:=⟨_,rfl⟩
   clear y q Ce V T O x hGr Cb;generalize we.alloc _=w5 at*;go_loopw [18] (λH wq=>∃(j:Nat) (z0 z1:Zc),j<=r.n/\H=aB aI (j:Int)/\Hid (HS wq G X (bK (dI h (h.ls.take i)) (h.ls[i].p.take j)) {c with y0:=z0,y1:=z1})/\Hid (Safe X w wq)) (λH _=>r.n-(intOf H).toNat)
   case atStart=>exact⟨0,y0,y1,gU _,rfl,W,Y⟩
   case round=>
    obtain⟨j,z0,z1,hj,rfl,Ob,N⟩:=hrel;clear W Y;by_cases hjl:j<r.n
    ·have aDw:(j:Int)<r.n:=by omega
     have B:j<h.ls[i].p.length:=by omega
     have hjr:j<r.l.p.length:=by rw[Z.out];exact B
     obtain⟨pb',Fa,J,hpb,S⟩:=aZ dH (by decide) (bJ (Ob.out.r.mG r Q.out)) (j:=j) hjr;obtain⟨rfl,rfl⟩:pb=pb'/\nD=Fa:=by
      rw[HPA.out]at J;simpa using J
     have Fb:=lI S;rw[Nat.mul_one]at Fb;obtain⟨P,hP⟩:∃P,r.l.p[j]=P:=⟨_,rfl⟩
     have U:h.ls[i].p[j]=P:=by rw[<- hP];simp only[Z.out]
     obtain⟨g1,g2,g3⟩:=Dy HK.out f B;have Np:=gO (Ap (dI h (h.ls.take i)) h.ls[i].p B);rw[U]at g1 g2 g3 Np;rw[hP]at Fb;have G1:=gO g1;have G2:=gO g2;have G3:=gO g3;clear S hP U g1 g2 g3 J;go_wp2_with fail
     refine(Fe G P 0 X _ _ wr Ob.out G1.out G2.out G3.out).mono ?_;rintro ev w6 ⟨rfl,⟨u0,u1,b⟩,m⟩;rw[<- Np.out]at b;have o:=gO b;have K:=gO (N.out.trans m);clear b m Fb;go_wp2
     go_roundw
     case rel=>exact⟨j+1,u0,u1,by omega,by go_num,o,K⟩
     case measure=>simp[intOf];omega
    ·obtain rfl:j=r.n:=by omega
     have o:Hid (HS wr G X (dI h (h.ls.take (i+1))) {c with y0:=z0,y1:=z1}):=by
      unfold Hid;rw[WX.out];have h1:=Ob.out;rw[gTf (show h.ls[i].p.length<=r.n by omega)]at h1;exact h1
     go_wp2
     go_roundw
     case rel=>exact⟨i+1,z0,z1,by omega,by go_num,o,N⟩
     case measure=>simp[intOf];omega
  ·obtain rfl:i=n:=by omega
   obtain⟨b,m⟩:=q.out.lists (World.grownBy.refl wr _) (al':=aJ) (cl':=0) (uS:=[]) ⟨rfl,.inl ⟨rfl,rfl⟩⟩ (λk hk=>by cases hk) (dY.nil _ _) (λr hr=>by cases hr);have e:({dI h (h.ls.take i)with ls:=([]:List Lc).map Lc.l}:Hp)=h.drain:=by
    rw[gTf (by rw[<- TG.out,HN.out];exact gT _)];rfl
   rw[e]at b;have o:Hid (HS (wr.setCell ⟨G,3,aJ⟩ (aA aJ 0 0)) G X h.drain _):=b;have K:Hid (Safe X w (wr.setCell ⟨G,3,aJ⟩ (aA aJ 0 0))):=Ce.out.trans m;obtain⟨k0,k1,k2,k3,k4⟩:=q.out.words;have kf:=q.out.fz 3;clear b m e;go_wp2
   refine bodyPost_end (v:=aG #[]) (by simp[results,results59,go_sem]) rfl ⟨rfl,⟨_,o.out⟩,K.out⟩
section
variable {W Wm Wv:World}{mF bm bv g:Nat}{am av:Option Addr}{cm cv:Nat}{m:List Nat}{v:List Bk}{aP:Nat}
theorem aDH (hm:Wm.ownsRow bm 3 1 (aA am m.length cm) m.length (flat jA m))(hv:Wv.ownsRow bv 82 3 (aA av v.length cv) v.length (flat bC v))(h1:mF<=bm)(h2:mF<=bv)(hbm:Below Wm.heap.size Wm W)(hbv:Below Wv.heap.size Wv W)(hd:Wm.heap.size<=bv∨Wv.heap.size<=bm)(hbs:mF<=W.heap.size):
 CZ (W.alloc (aO #[aA aJ 0 0,aA am m.length cm,aB aI (aP:Int),aA aJ 0 0,aA av v.length cv] 39)) mF W.heap.size [] aJ 0 am cm m av cv v aP:=by
 have c:=own_below (own_below hm hbm (gT _)) (aT W (aO #[aA aJ 0 0,aA am m.length cm,aB aI (aP:Int),aA aJ 0 0,aA av v.length cv] 39)) (gT _);have b:=own_below (own_below hv hbv (gT _)) (aT W (aO #[aA aJ 0 0,aA am m.length cm,aB aI (aP:Int),aA aJ 0 0,aA av v.length cv] 39)) (gT _);have d:∀(r:Rs),(MH aJ 0 []).off r:=λr k h=>by cases h
 exact⟨⟨rfl,.inl ⟨rfl,rfl⟩⟩,own_base b h2,own_base c h1,λy a=>(by simp at a),d _,d _,λy a=>(by simp at a),λk g f=>by
  have j:=hm.lt k f;have i:=hv.lt k g;omega,λy a=>(by simp at a),λe=>(by cases e),λe=>by have:=(hv.lt _ e).2;have:=hbv.size;omega,λe=>by have:=(hm.lt _ e).2;have:=hbm.size;omega,λy a=>(by simp at a),⟨hbs,by simp⟩,bI _ _ _,fP _ _ _⟩
theorem Yw (hm:Wm.ownsRow bm 3 1 (aA am m.length cm) m.length (flat jA m))(hv:Wv.ownsRow bv 82 3 (aA av v.length cv) v.length (flat bC v))(h1:mF<=bm)(h2:mF<=bv)(hbm:Below Wm.heap.size Wm W)(hbv:Below Wv.heap.size Wv W)(hd:Wm.heap.size<=bv∨Wv.heap.size<=bm)
 (hk:∀o,W.cell? ⟨g,o,aJ⟩=(#[aA aJ 0 0,aA aJ 0 0,aB aI 0,aA aJ 0 0,aA aJ 0 0]:Array Value)[o]?) (hf:∀o,W.frozen? ⟨g,o,aJ⟩=false) (hg:mF<=g/\g<W.heap.size) (hgm:g<bm∨Wm.heap.size<=g) (hgv:g<bv∨Wv.heap.size<=g):
 CZ (((((W.setCell ⟨g,0,aJ⟩ (aA aJ 0 0)).setCell ⟨g,1,aJ⟩ (aA am m.length cm)).setCell ⟨g,2,aJ⟩ (aB aI (aP:Int))).setCell ⟨g,3,aJ⟩ (aA aJ 0 0)).setCell ⟨g,4,aJ⟩ (aA av v.length cv)) mF g [] aJ 0 am cm m av cv v aP:=by
 have nm:=own_ne hm hgm;have i:=own_ne hv hgv;have l:∀{b:Nat} {e:TypeId} {size:Nat} {x:Value} {n:Nat} {xs:List Value},W.ownsRow b e size x n xs->x.ownBlock≠aK g->(((((W.setCell ⟨g,0,aJ⟩ (aA aJ 0 0)).setCell ⟨g,1,aJ⟩ (aA am m.length cm)).setCell ⟨g,2,aJ⟩ (aB aI (aP:Int))).setCell ⟨g,3,aJ⟩ (aA aJ 0 0)).setCell ⟨g,4,aJ⟩ (aA av v.length cv)).ownsRow b e size x n xs:=λh c=>
  bU (bU (bU (bU (bU h c _) c _) c _) c _) c _
 have f:=l (own_below hm hbm (gT _)) nm;have d:=l (own_below hv hbv (gT _)) i;have j:∀(r:Rs),(MH aJ 0 []).off r:=λr k h=>by cases h
 exact⟨⟨rfl,.inl ⟨rfl,rfl⟩⟩,own_base d h2,own_base f h1,λy a=>(by simp at a),j _,j _,λy a=>(by simp at a),λk q p=>by
  have t:=hm.lt k p;have s:=hv.lt k q;omega,λy a=>(by simp at a),λe=>(by cases e),i,nm,λy a=>(by simp at a),⟨hg.1,by simpa using hg.2⟩,aW (aW (aW (aW (aW hk 0 _) 1 _) 2 _) 3 _) 4 _,aV (aV (aV (aV (aV hf _ _) _ _) _ _) _ _) _ _⟩
end
theorem Yx (hs:HR W G X h c)(ho:W.ownsRow W0.heap.size 3 1 (aA r.a r.n r.c) r.n (flat jA r.l.p))(h0:HR W0 G X h c):dY W 0 ((c.lc++[r]).map lM):=by
 have e:dY W 0 (c.lc.map lM):=hs.own.sub (by unfold Hc.rows;exact((List.sublist_cons_self _ _).trans (List.sublist_cons_self _ _)).trans (List.sublist_cons_self _ _));have d:dY W 0 (lM r::c.lc.map lM):=e.cons (r':=lM r) (bs:=W0.heap.size) ho (gU _) λs b g i=>by
  have f:=h0.own.lt s (nY b) g i;exact f.2
 refine d.perm ?_;rw[List.map_append];exact(List.perm_append_singleton _ _).symm
theorem QZ {W':World}(ho:W.ownsRow W0.heap.size 3 1 (aA r.a r.n r.c) r.n (flat jA r.l.p))(h0:HR W0 G X h c):∀s∈(c.lc++[r]).map lM,∀g,s.v.ownBlock=aK g->(∃r0∈c.lc.map lM,r0.v.ownBlock=aK g)∨NP W' G X h c g:=λs b g d=>by
 rw[List.map_append,gZ]at b;rcases b with b | b
 ·exact .inl ⟨s,b,d⟩
 ·obtain rfl:s=lM r:=by simpa using b
  exact .inr (h0.fresh (ho.lt g d).1)
theorem aBb {B:Nat}(hs:HR W G X h c)(hx:∀k,k<B->X k):∀k,(sN c).v.ownBlock=aK k->B<=k:=λk b=>by
 rcases Nat.lt_or_ge k B with a | a
 ·exact absurd (hx k a) (hs.og _ (jU c h) k b).2
 ·exact a
theorem aBd:(prog.info? 79).map (λi=>(i.zero,i.size,i.bytes))=aK (aK (aC #[aB aI 0,aB aI 0,aA aJ 0 0,aA aJ 0 0]),4,64):=by kernel_rfl
theorem Om (hk:fG h)(i:Nat):(h.zone i).l.length<=256/\(h.zone i).y.length<=256:=by
 have a:=hk.zone i;have d:=sQ.length_le a.2 (λb hb=>(a.2.fit b hb).1.2.2.1);have c:=a.1.e2;have e:=a.1.len;omega
theorem Ar (az am al av:Option Addr)(cz cm cl cv nl nv:Nat)(y0 y1:Zc)(lc:List Lc)(h:Hp)(w:World)(hh:HAt w az am al av nl nv y0 y1 lc h)(hk:fG h)(QS:nv<=1000):
 Calls prog 36 #[aC #[aA az 2 cz,aA am 2 cm,aB aI h.aP,aA al nl cl,aA av nv cv]] w λev w'=>∃(g:Nat) (c':Hc),ev=aN (.agg (c'.vals h))/\HS w' g (λk=>k<w.heap.size) h c'/\w.heap.size<=g/\Below w.heap.size w w':=by
 obtain rfl:=hh.nv;obtain⟨K1,K2,F1,F2,I,hbw⟩:=boxes2 w #[aA az 2 cz,aA am 2 cm,aB aI (h.aP:Int),aA al nl cl,aA av h.live.length cv] 39 #[aA aJ 0 0,aA aJ 0 0,aB aI 0,aA aJ 0 0,aA aJ 0 0] 39;have HH:=gO hh;have HK:=gO hk;have u:=gO hbw;clear hh hk;have aGb:((w.alloc (aO #[aA az 2 cz,aA am 2 cm,aB aI (h.aP:Int),aA al nl cl,aA av h.live.length cv] 39)).alloc (aO #[aA aJ 0 0,aA aJ 0 0,aB aI 0,aA aJ 0 0,aA aJ 0 0] 39)).heap.size=w.heap.size+2:=by simp
 have aGc:=gO aGb;clear aGb;go_enter func36,ntmps36
 go_upto_region 1 with fail
 generalize (w.alloc _).alloc _=w1 at*;have q1:=(HH.out.below u.out).mr;have q2:=(HH.out.below u.out).vr;have LK0:∀W,Below w1.heap.size w1 W->∀o,W.cell? ⟨w.heap.size,o,aJ⟩=(#[aA az 2 cz,aA am 2 cm,aB aI (h.aP:Int),aA al nl cl,aA av h.live.length cv]:Array Value)[o]? :=λW h o=>aQ K1 (by omega) h o
 go_cut [3] (λs3 wx=>∃(g:Nat) (Vz uJ:Option Addr) (VA D:Nat),s3=aH (aK ⟨g,0,aJ⟩)/\Hid (CZ wx w1.heap.size g [] aJ 0 Vz VA [h.m0,h.m1] uJ D h.live h.aP)/\Hid (Below w1.heap.size w1 wx))
 case first=>
  go_region_held3 (λW=>Below w1.heap.size w1 W) ((repeat (first | with_reducible assumption | with_reducible exact gX _ _ | with_reducible refine Below.setCell ?_ ?_ _ | with_reducible apply Below.drew | with_reducible refine gW ?_ (aT _ _) | with_reducible refine gW ?_ (by with_reducible assumption) | (simp only;omega)))) (first | (go_at_call 35;refine(JO _ 2 _ [h.m0,h.m1] _ rfl (by decide) (q1.below (by assumption))).mono ?_;rintro e K ⟨Vz,VA,rfl,Eb,hbm⟩;(try ((have hx:Below ((w1.alloc (.cells (#[aA aJ 0 0,aA aJ 0 0,aB aI 0,aA aJ 0 0,aA aJ 0 0]:Array Value) 39)).drew).heap.size ((w1.alloc (.cells (#[aA aJ 0 0,aA aJ 0 0,aB aI 0,aA aJ 0 0,aA aJ 0 0]:Array Value) 39)).drew) K:=by with_reducible exact hbm);have KA:=aQ (w1:=(w1.alloc (.cells (#[aA aJ 0 0,aA aJ 0 0,aB aI 0,aA aJ 0 0,aA aJ 0 0]:Array Value) 39)).drew) (vs:=#[aA aJ 0 0,aA aJ 0 0,aB aI 0,aA aJ 0 0,aA aJ 0 0]) (λo=>bI w1 #[aA aJ 0 0,aA aJ 0 0,aB aI 0,aA aJ 0 0,aA aJ 0 0] 39 o) (show w1.heap.size<((w1.alloc (.cells (#[aA aJ 0 0,aA aJ 0 0,aB aI 0,aA aJ 0 0,aA aJ 0 0]:Array Value) 39)).drew).heap.size by simp) hx;have FA:=aU (w1:=(w1.alloc (.cells (#[aA aJ 0 0,aA aJ 0 0,aB aI 0,aA aJ 0 0,aA aJ 0 0]:Array Value) 39)).drew) (λo=>fP w1 #[aA aJ 0 0,aA aJ 0 0,aB aI 0,aA aJ 0 0,aA aJ 0 0] 39 o) (show w1.heap.size<((w1.alloc (.cells (#[aA aJ 0 0,aA aJ 0 0,aB aI 0,aA aJ 0 0,aA aJ 0 0]:Array Value) 39)).drew).heap.size by simp) hx;have SA:w1.heap.size<K.heap.size:=gI (show w1.heap.size<((w1.alloc (.cells (#[aA aJ 0 0,aA aJ 0 0,aB aI 0,aA aJ 0 0,aA aJ 0 0]:Array Value) 39)).drew).heap.size by simp) hx.size));(first | have SM:w1.heap.size<=K.heap.size:=gR SA | have SM:w1.heap.size<=K.heap.size:=hbm.size)) | (go_at_call 75;refine(Tc _ _ _ h.live _ rfl (by omega) (q2.below (by assumption))).mono ?_;rintro e wv ⟨uJ,D,rfl,hov,x⟩;(try first | (have KB:=aQ KA SA x;have FB:=aU FA SA x) | ((have hx:Below (K.alloc (.cells (#[aA aJ 0 0,aA aJ 0 0,aB aI 0,aA aJ 0 0,aA aJ 0 0]:Array Value) 39)).heap.size (K.alloc (.cells (#[aA aJ 0 0,aA aJ 0 0,aB aI 0,aA aJ 0 0,aA aJ 0 0]:Array Value) 39)) wv:=by with_reducible exact x);have KB:=aQ (w1:=K.alloc (.cells (#[aA aJ 0 0,aA aJ 0 0,aB aI 0,aA aJ 0 0,aA aJ 0 0]:Array Value) 39)) (vs:=#[aA aJ 0 0,aA aJ 0 0,aB aI 0,aA aJ 0 0,aA aJ 0 0]) (λo=>bI K #[aA aJ 0 0,aA aJ 0 0,aB aI 0,aA aJ 0 0,aA aJ 0 0] 39 o) (show K.heap.size<(K.alloc (.cells (#[aA aJ 0 0,aA aJ 0 0,aB aI 0,aA aJ 0 0,aA aJ 0 0]:Array Value) 39)).heap.size by simp) hx;have FB:=aU (w1:=K.alloc (.cells (#[aA aJ 0 0,aA aJ 0 0,aB aI 0,aA aJ 0 0,aA aJ 0 0]:Array Value) 39)) (λo=>fP K #[aA aJ 0 0,aA aJ 0 0,aB aI 0,aA aJ 0 0,aA aJ 0 0] 39 o) (show K.heap.size<(K.alloc (.cells (#[aA aJ 0 0,aA aJ 0 0,aB aI 0,aA aJ 0 0,aA aJ 0 0]:Array Value) 39)).heap.size by simp) hx))))
  all_goals (go_wp2_with fail;go_meet)
  ·exact⟨wv.heap.size,Vz,uJ,VA,D,rfl,aDH (m:=[h.m0,h.m1]) Eb hov (gT _) SM x (gX _ _) (.inl (gT _)) (gQ SM x.size),by assumption⟩
  ·have hs:=x.size;simp at hs;exact⟨K.heap.size,Vz,uJ,VA,D,rfl,Yw (m:=[h.m0,h.m1]) Eb hov (gT _) (by simp;omega) (gW (aT _ _) x) (gX _ _) (.inl (by simp)) KB FB ⟨SM,by omega⟩ (.inr (gT _)) (.inl (by simp)),by assumption⟩
  ·have hs:=x.size;exact⟨w1.heap.size,Vz,uJ,VA,D,rfl,Yw (m:=[h.m0,h.m1]) Eb hov (by simp) SM x (gX _ _) (.inl (gT _)) KB FB ⟨gT _,by omega⟩ (.inl (by simp)) (.inl SA),by assumption⟩
 case rest=>
  obtain⟨g,Vz,uJ,VA,D,rfl,HCZ,kP⟩:=hcut;clear q1 q2;have K2h:=gO K2;have F2h:=gO F2;have k0:=LK0 wc kP.out 0;have LKH:=gO LK0;simp only[gB,gC]at k0;clear LK0 K1 K2 F1 F2 hbw;obtain⟨qb,qo,ha1,_,_⟩:=aZ iV (by decide) HH.out.zr (j:=0) (by simp);obtain rfl:=ha1;have aJC:=kP.out.size;have hBw:w.heap.size<wc.heap.size:=by omega
  go_wp2_with fail
  go_loopw [20] (λs20 wr=>∃(i:Nat) (zs:List Zc) (P:Option Addr) (O:Nat),i<=2/\s20=aB aI (i:Int)/\zs.length=i/\Hid (∀j (hj:j<zs.length),zs[j].z=h.zone j)/\Hid (CZ wr w1.heap.size g zs P O Vz VA [h.m0,h.m1] uJ D h.live h.aP)/\Hid (Below w1.heap.size w1 wr)) (λs20 _=>2-(intOf s20).toNat)
  case atStart=>exact⟨0,[],aJ,0,gU _,rfl,rfl,λj hj=>(by simp at hj),HCZ,kP⟩
  case round=>
   obtain⟨i,zs,P,O,hi,rfl,hzl,Z,HC,HB⟩:=hrel;clear HCZ kP k0;by_cases N:i<2
   ·subst hzl;have hlt2:((zs.length:Nat):Int)<2:=by omega
    obtain⟨y,hyz,J,L⟩:∃y:Zc,y.z=h.zone zs.length/\IJ wr y.a1 y.a2 y.n1 y.n2 (h.zone zs.length)/\(wr.cell? ⟨qb,qo+zs.length*4,aJ⟩=aK (aB aI (h.zone zs.length).f)/\wr.cell? ⟨qb,qo+zs.length*4+1,aJ⟩=aK (aB aI (h.zone zs.length).e)/\wr.cell? ⟨qb,qo+zs.length*4+2,aJ⟩=aK (aA y.a1 y.n1 y.c1)/\wr.cell? ⟨qb,qo+zs.length*4+3,aJ⟩=aK (aA y.a2 y.n2 y.c2)):=by
     have R:=HH.out.below (Below.trans u.out (HB.out.mono (u.out.size)));obtain⟨b1,o1,Q,h2,h3⟩:=aZ iV (by decide) R.zr (j:=zs.length) (by simp;omega);obtain⟨rfl,rfl⟩:qb=b1/\qo=o1:=by simpa using Q
     have h4:=lK h3;obtain h5 | h5:zs.length=0∨zs.length=1:=by omega
     ·refine⟨y0,?_,?_,?_⟩
      ·rw[h5];exact R.e0
      ·rw[h5];exact R.t0
      ·have e:[y0,y1][zs.length]'(by simp;omega)=y0:=by simp[h5]
       have e2:h.zone zs.length=h.z0:=by rw[h5];rfl
       rw[e,R.e0]at h4;rw[e2];exact h4
     ·refine⟨y1,?_,?_,?_⟩
      ·rw[h5];exact R.e1
      ·rw[h5];exact R.t1
      ·have e:[y0,y1][zs.length]'(by simp;omega)=y1:=by simp[h5]
       have e2:h.zone zs.length=h.z1:=by rw[h5];rfl
       rw[e,R.e1]at h4;rw[e2];exact h4
    obtain⟨z0,z1,z2,z3⟩:=L;have aJD:=Om HK.out zs.length;have HAT:=gO J;have QK:qb<wr.heap.size:=World.block_lt_of_cell? _ _ z0;have hnn:=J.l1;have aJE:=J.l2;have hL1:y.n1<=1000:=by omega
    have hL2:y.n2<=1000:=by omega
    obtain⟨z,hz⟩:∃z,h.zone zs.length=z:=⟨_,rfl⟩
    rw[hz]at z0 z1 HAT;have HZ:=gO hz;clear J hz hyz hnn aJE aJD;go_wp2_with fail
    obtain⟨E1,EF1,Kv,uV⟩:=boxes1 wr #[aB aI (z.f:Int),aB aI (z.e:Int),aA y.a1 y.n1 y.c1,aA y.a2 y.n2 y.c2] 79;have e0:=E1 0;have e1:=E1 1;have e2:=E1 2;have e3:=E1 3;simp only[gB,gC,gD]at e0 e1 e2 e3;have HC5:=gO (HC.out.below uV);have HB5:=gO (gW HB.out uV);have HAT5:=gO (HAT.out.below uV);clear E1 EF1 uV z0 z1 z2 z3 HC HB HAT;generalize wr.alloc _=w5 at*;have g0:=HC5.out.k 0;have aOf:=HC5.out.gs.2;simp only[gB,gC]at g0;have Yy:=gO (HC5.out.below ((gX w5.heap.size w5).drew));have aCv:=gO (HAT5.out.below ((gX w5.heap.size w5).drew));have aGd:=gO HB5.out.drew;obtain⟨ti,hti,htz,hts,htb⟩:=info_parts aBd;go_region_law (first | (refine step_append_lies _ rfl _ _ 35 rfl w1.heap.size 79 ti (aC #[aB aI 0,aB aI 0,aA aJ 0 0,aA aJ 0 0]) 4 64 underlying35 hti htz hts htb rfl (by decide) (aA P zs.length O) zs.length (flat oG zs) rfl E.out.oz ⟨B.heap.size,0,aJ⟩ 1 1 [aB aI (z.f:Int),aB aI (z.e:Int),aA H y.n1 G,aA A y.n2 C] rfl rfl M.out (by simp[Value.oneCell']) (by decide) (by unfold maxLen;omega) (by omega) aGe _ rfl ?_;intro g7 cap7 w7 ho7 U hl7 mQ;have q7:=(bV E.out.k E.out.gs.2 U (λe=>E.out.gz e.symm) 0).trans (show _=aK (aA P zs.length O)from rfl);have f7:=bY E.out.fz E.out.gs.2 U (λe=>E.out.gz e.symm) 0) | (go_simp;go_at_call 76;refine(Eh y.a1 y.a2 y.n1 y.n2 y.c1 y.c2 z.f z.e z _ aCv.out hL1 hL2).mono ?_;rintro ev B ⟨H,A,G,C,rfl,hz6,q⟩;have hc6:=Yy.out.below q;have hg6:=hc6.gs.2;have q6':=(hc6.k 0).trans (show _=aK (aA P zs.length O)from rfl);have E:=gO (hc6.below (aT B (aO #[aB aI (z.f:Int),aB aI (z.e:Int),aA H y.n1 G,aA A y.n2 C] 79)));have M:=gO (World.news_of_block (heap_alloc_new B (aO #[aB aI (z.f:Int),aB aI (z.e:Int),aA H y.n1 G,aA A y.n2 C] 79)));have HB6:=gO (gW aGd.out q);have aGe:w1.heap.size<=(B.alloc (aO #[aB aI (z.f:Int),aB aI (z.e:Int),aA H y.n1 G,aA A y.n2 C] 79)).heap.size:=gQ HB6.out.size (aT B _).size;clear hc6))
    all_goals
     have hba:=aT B (aO #[aB aI (z.f:Int),aB aI (z.e:Int),aA H y.n1 G,aA A y.n2 C] 79);have ho8:w7.ownsRow w1.heap.size 79 4 (aA (aK ⟨g7,0,aJ⟩) (zs.length+1) cap7) (zs.length+1) (flat oG (zs++[⟨z,H,A,y.n1,y.n2,G,C⟩])):=by
      rw[bG,iC];exact ho7
     have C9:=gO (Yy.out.add (gW q hba) (hz6.below hba) ho8 U hl7);have HB9:=gO (gS (Below.grown (gW HB6.out hba) U aGe (λk hk=>(Yy.out.oz.lt k hk).1)) g 0 Yy.out.gs.1 (aA (aK ⟨g7,0,aJ⟩) (zs.length+1) cap7));have HZ9:Hid (∀j (hj:j<(zs++[(⟨z,H,A,y.n1,y.n2,G,C⟩:Zc)]).length),(zs++[(⟨z,H,A,y.n1,y.n2,G,C⟩:Zc)])[j].z=h.zone j):=λj hj=>by
      by_cases hjl:j<zs.length
      ·rw[List.getElem_append_left hjl];exact Z.out j hjl
      ·have hje:j=zs.length:=by simp at hj;omega
       subst hje;rw[List.getElem_append_right (gT _)];simp[HZ.out]
     clear ho7 ho8 U hl7 hba E M HC5 Yy HB5 aGd HAT5 aCv hz6 q q7 f7;go_wp2
     go_roundw
     case rel=>exact⟨zs.length+1,_,_,_,by omega,by go_num,by simp,HZ9,C9,HB9⟩
     case measure=>simp[intOf];omega
   ·have hi22:zs.length=2:=by omega
    have hlt2:¬((i:Int)<2):=by omega
    obtain⟨ya,yb,rfl⟩:∃ya yb,zs=[ya,yb]:=by
     match zs,hi22 with
     | [a,b],_=>exact⟨a,b,rfl⟩
    have J:=Z.out 0 (by simp);have hyb:=Z.out 1 (by simp);have hs0:=HC.out.done (X:=λk=>k<w1.heap.size) (λk hk=>hk);have HS0:Hid (HS wr g (λk=>k<w1.heap.size) {h with ls:=h.ls.take 0} ⟨P,O,Vz,VA,aJ,0,uJ,D,ya,yb,[]⟩):=by
     have e0:ya.z=h.z0:=J;have e1:yb.z=h.z1:=hyb;unfold Hid;rw[e0,e1]at hs0;exact hs0
    have hgb:=HC.out.gs.1;have hBr:w.heap.size<wr.heap.size:=by have:=HB.out.size;omega
    have k3:=LKH.out wr HB.out 3;simp only[gB,gC,gD]at k3;have hnl:=HH.out.nl;have hll:=HH.out.ll;have hlc:=HK.out.pK;have hlen:lc.length=h.ls.length:=by rw[<- hll,gTe]
    clear hs0 J hyb HC Z hi22;have HI0:=gO hzl;clear hzl N hi;obtain⟨i0,rfl⟩:∃i0,i0=i:=⟨_,rfl⟩
    obtain rfl:=hnl;have QX:lc.length<=24:=by omega
    have TG:=gO hlen;have HLL:=gO hll;clear hlen hll hlc;go_wp2_with fail
    clear k3;go_loopw [35] (λs35 wq=>∃(i:Nat) (d:Hc),i<=lc.length/\s35=aB aI (i:Int)/\Hid (HS wq g (λk=>k<w1.heap.size) {h with ls:=h.ls.take i} d)/\Hid (Below w1.heap.size w1 wq)) (λs35 _=>lc.length-(intOf s35).toNat)
    case atStart=>exact⟨0,_,gU _,rfl,HS0,HB⟩
    case round=>
     obtain⟨i,d,hi,rfl,lD,oH⟩:=hrel;clear HS0 HB;by_cases N:i<lc.length
     ·have hlt2:(i:Int)<lc.length:=by omega
      have R:=HH.out.below (Below.trans u.out (oH.out.mono (u.out.size)));obtain⟨pb,nD,hpa,hpb,hpc⟩:=aZ bF (by decide) R.lr N;obtain⟨x0,x1,x2,x3⟩:=o9 hpc;have hpr:=R.pr _ (gL N);have hi2:i<h.ls.length:=by rw[<- TG.out];exact N
      have h7:lc[i].l=h.ls[i]:=by
       have h3:=congrArg (·[i]?) HLL.out;simp[N,hi2]at h3;exact h3
      have h8:=(HK.out.lr _ (gL hi2)).2.2.2.2.1;obtain⟨r,hr⟩:∃r,lc[i]=r:=⟨_,rfl⟩
      simp only[hr]at x0 x1 x2 x3 hpr h7;rw[<- h7]at h8;have H7:=gO h7;obtain⟨hrn,L⟩:=hpr;have hn8:r.n<=8:=by omega
      have Oo:=gO L;have XY:w1.heap.size<=wr.heap.size:=oH.out.size;obtain rfl:=hpa;clear hpc R hr L h7;go_wp2_with fail
      obtain⟨E1,EF1,Kv,uV⟩:=boxes1 wr #[aB aI (r.l.c:Int),aB aI (r.l.z:Int),aB aI (r.l.t:Int),aA r.a r.n r.c] 160;have HS5:=gO (lD.out.new uV);have HB5:=gO (gW oH.out uV);have HROW5:=gO (Oo.out.below uV);have e3:=E1 3;simp only[gB,gC,gD]at e3;have HE:=gO E1;have HEF:=gO EF1;clear E1 EF1 uV x0 x1 x2 x3 Oo lD oH;generalize wr.alloc _=w5 at*;generalize wr.heap.size=T at*;have hXT:(λk=>k<w1.heap.size∨(T<=k/\k<w5.heap.size)) T:= .inr ⟨gT _,Kv⟩;clear e3;refine(JO r.a r.n r.c r.l.p w5 hrn (by omega) HROW5.out).mono ?_;rintro ev B ⟨s,c',rfl,ho6,q⟩;have HE6:=aQ HE.out Kv q;have HEF6:=aU HEF.out Kv q;have esz6:T<B.heap.size:=gI Kv q.size;have HS7:=gO ((HS5.out.below q).far hXT 3 (aA s r.n c'));have HO7:Hid ((B.setCell ⟨T,3,aJ⟩ (aA s r.n c')).ownsRow w5.heap.size 3 1 (aA s r.n c') r.n (flat jA r.l.p)):=bU (i:=3) ho6 (own_ne ho6 (b:=T) (.inl Kv)) (aA s r.n c');have K7:=aW HE6 3 (aA s r.n c');have HB7:=gO (gS (gW HB5.out q) T 3 XY (aA s r.n c'));have f3:=HEF6 3;have e3':=HE6 3;simp only[gB,gC,gD]at e3';have k0':=K7 0;have k1':=K7 1;have k2':=K7 2;have k3':=K7 3;simp only[gE,gG,gH,gB,gC,gD]at k0' k1' k2' k3';obtain⟨_,_,_,q3,_⟩:=HS7.out.words;have V:=gO (HS7.out.below (aT (B.setCell ⟨T,3,aJ⟩ (aA s r.n c')) (aO #[aB aI (r.l.c:Int),aB aI (r.l.z:Int),aB aI (r.l.t:Int),aA s r.n c'] 160)));have M:=(World.news_of_block (heap_alloc_new (B.setCell ⟨T,3,aJ⟩ (aA s r.n c')) (aO #[aB aI (r.l.c:Int),aB aI (r.l.z:Int),aB aI (r.l.t:Int),aA s r.n c'] 160)))
      have NQ:Hid ((sN d).v.ownBlock≠aK g):=λe=>(V.out.r.og _ (jU d _) g e).1 rfl
      have aDI:(B.setCell ⟨T,3,aJ⟩ (aA s r.n c')).heap.size=B.heap.size:=by simp
      rw[aDI]at M;have zA:=gO M;clear M aDI;obtain⟨ti,hti,htz,hts,htb⟩:=info_parts Am;have hcl:d.lc.length<=24:=by have Q:=BU V.out.r;rw[Q];simp;omega
      have aOi:g<B.heap.size:=(HS5.out.below q).r.gs;have H5:=gO HS5.out;have HB6:=gO q;clear HE6 HEF6 K7 ho6 q;go_wp2_with (at_builtin;refine wpList_append_lies _ rfl _ _ 36 rfl 0 160 ti (aC #[aB aI 0,aB aI 0,aB aI 0,aA aJ 0 0]) 4 48 underlying36 hti htz hts htb rfl (by decide) (aA d.al d.lc.length d.cl) d.lc.length (flat dB d.lc) rfl V.out.r.lsr ⟨B.heap.size,0,aJ⟩ 1 1 [aB aI (r.l.c:Int),aB aI (r.l.z:Int),aB aI (r.l.t:Int),aA s r.n c'] rfl rfl zA.out (by simp[Value.oneCell']) (by decide) (by unfold maxLen;omega) (by omega) (gU _) _ rfl ?_;intro g9 S w9 ho9 hg9 hl9 aBe;have q9:=(bV V.out.k V.out.r.gs hg9 (λe=>NQ.out e.symm) 3).trans (show _=aK (aA d.al d.lc.length d.cl)from rfl);have f9:=bY V.out.fz V.out.r.gs hg9 (λe=>NQ.out e.symm) 3)
      have hl1:(d.lc++[(⟨r.l,s,r.n,c'⟩:Lc)]).length=d.lc.length+1:=by simp
      have hpo:dY ((B.setCell ⟨T,3,aJ⟩ (aA s r.n c')).alloc (aO #[aB aI (r.l.c:Int),aB aI (r.l.z:Int),aB aI (r.l.t:Int),aA s r.n c'] 160)) 0 ((d.lc++[(⟨r.l,s,r.n,c'⟩:Lc)]).map lM):=Yx (r:=⟨r.l,s,r.n,c'⟩) V.out.r (own_below HO7.out (aT _ _) (gT _)) H5.out.r;have hpq:=QZ (r:=⟨r.l,s,r.n,c'⟩) (W':=(B.setCell ⟨T,3,aJ⟩ (aA s r.n c')).alloc (aO #[aB aI (r.l.c:Int),aB aI (r.l.z:Int),aB aI (r.l.t:Int),aA s r.n c'] 160)) HO7.out H5.out.r;obtain⟨hs9,sf9⟩:=V.out.lists hg9 (al':=aK ⟨g9,0,aJ⟩) (cl':=S) (uS:=d.lc++[(⟨r.l,s,r.n,c'⟩:Lc)]) (by rw[hl1,bG,iC];exact ho9) (by
       rw[hl1];intro k hk;obtain rfl:g9=k:=by simpa[gTh]using hk
       rcases hl9 with Q | Q
       ·exact .inl Q
       ·exact .inr (Nat.le_of_eq Q.symm)) hpo hpq
      rw[hl1]at hs9;have aJF:(d.lc++[(⟨r.l,s,r.n,c'⟩:Lc)]).map Lc.l=h.ls.take (i+1):=by
       have Q:=V.out.r.ll;rw[List.map_append,Q,List.take_succ_eq_append_getElem hi2,<- H7.out];rfl
      rw[aJF]at hs9;have HS9:=gO (hs9.sub (Y:=λk=>k<w1.heap.size) λk hk=> .inl hk);have HB9:Hid (Below w1.heap.size w1 (w9.setCell ⟨g,3,aJ⟩ (aA (aK ⟨g9,0,aJ⟩) (d.lc.length+1) S))):=gS (Below.grown (gW HB7.out (aT _ _)) hg9 (gQ HB7.out.size (aT _ _).size) (λk hk=>(aBb H5.out.r (λk hk=> .inl hk) k hk))) g 3 hgb (aA (aK ⟨g9,0,aJ⟩) (d.lc.length+1) S);go_roundw
      case rel=>exact⟨i+1,_,by omega,by go_num,HS9,HB9⟩
      case measure=>simp[intOf];omega
     ·obtain rfl:i=lc.length:=by omega
      have HS9:Hid (HS wr g (λk=>k<w1.heap.size) h d):=by
       have Q:=lD.out;rw[gTf (by rw[TG.out];exact gT _)]at Q;exact Q
      obtain⟨x0,x1,x2,x3,x4⟩:=HS9.out.words;have Dx:=aQ K2h.out I oH.out;have F2r:=aU F2h.out I oH.out;have y0':=Dx 0;have y1':=Dx 1;have y2':=Dx 2;have y3':=Dx 3;have y4':=Dx 4;obtain⟨f0,f1,f2,f3,f4⟩:=gF5 F2r;simp only[gB,gC,gD]at y0' y1' y2' y3' y4';have KX:=aW (aW (aW (aW (aW Dx 0 (aA d.az 2 d.cz)) 1 (aA d.am 2 d.cm)) 2 (aB aI (h.aP:Int))) 3 (aA d.al d.lc.length d.cl)) 4 (aA d.av h.live.length d.cv);have pO:=gO (((((HS9.out.far I 0 (aA d.az 2 d.cz)).far I 1 (aA d.am 2 d.cm)).far I 2 (aB aI (h.aP:Int))).far I 3 (aA d.al d.lc.length d.cl)).far I 4 (aA d.av h.live.length d.cv));have F:w.heap.size<=w.heap.size+1:=Nat.le_succ _;have HBX2:=gO (gS (gS (gS (gS (gS (Below.trans u.out (oH.out.mono (u.out.size))) (w.heap.size+1) 0 F (aA d.az 2 d.cz)) (w.heap.size+1) 1 F (aA d.am 2 d.cm)) (w.heap.size+1) 2 F (aB aI (h.aP:Int))) (w.heap.size+1) 3 F (aA d.al d.lc.length d.cl)) (w.heap.size+1) 4 F (aA d.av h.live.length d.cv));go_wp2
      generalize ((((wr.setCell _ _).setCell _ _).setCell _ _).setCell _ _).setCell _ _=wx at*;change ∀o,wx.cell? ⟨w.heap.size+1,o,aJ⟩=(#[aA d.az 2 d.cz,aA d.am 2 d.cm,aB aI (h.aP:Int),aA d.al d.lc.length d.cl,aA d.av h.live.length d.cv]:Array Value)[o]? at KX;refine bodyPost_ret (v:=aC #[aA d.az 2 d.cz,aA d.am 2 d.cm,aB aI (h.aP:Int),aA d.al d.lc.length d.cl,aA d.av h.live.length d.cv]) (by simp[results,results36,go_sem,KX]) rfl ⟨g,d,rfl,pO.out.sub (λk hk=>by have:=u.out.size;exact gI hk this),by have:=u.out.size;omega,HBX2.out⟩
end Go.Proofs.YtjaogfhcnmjkiaaGreatDoor
