/- joined. -/
import Derived.Test.YtcmpmobhongkiaaGreatDoorRK0
import Derived.Test.YtcmpmobhongkiaaGreatDoorRK13
import Derived.Test.YtcmpmobhongkiaaGreatDoorRK19
import Derived.Test.YtcmpmobhongkiaaGreatDoorRK22
import Derived.Deep.DeepCutAuto
import Derived.Deep.RegionLaw
set_option linter.unusedVariables false
set_option linter.unusedSimpArgs false
namespace Go.Proofs.YtcmpmobhongkiaaGreatDoor
section
open Go.RowKit
theorem KJ:∀{l:List Ls} {N:Nat},kS l->(∀x∈l,x.key<N)->l.length<=N:=by
 intro l N h hb;have key:∀(l:List Ls) (a:Nat),kS l->(∀x∈l,a<=x.key/\x.key<N)->l.length<=N-a:=by
  intro l
  induction l with
  | nil=>intro a _ _;simp
  | cons x l ih=>
   intro a hr hx;have h1:=hx x (by simp);have h2:=List.pairwise_cons.1 hr;have h3:=ih (x.key+1) h2.2 (fun y hy=>⟨h2.1 y hy,(hx y (by simp[hy])).2⟩);simp only[List.length_cons];omega
 simpa using key l 0 h (fun x hx=>⟨Nat.zero_le _,hb x hx⟩)
theorem dZ.oW {h:Hp}(hk:dZ h):h.ls.length<=24:=KJ hk.lk fun x hx=>by
 have h1:=hk.lr x hx;have h2:=hk.cp;obtain⟨a,b,d,_⟩:=h1;unfold Ls.key;omega
theorem zX {W:World}{G:Nat}{X:Nat->Prop}{h:Hp}{c:Hc}(hs:HR W G X h c):c.lc.length=h.ls.length:=by rw[<- hs.ll,List.length_map]
theorem Io {W:World}{G:Nat}{X:Nat->Prop}{h:Hp}{c:Hc}(hs:HR W G X h c){i:Nat}(hi:i<c.lc.length)(hi2:i<h.ls.length):c.lc[i].l=h.ls[i]:=by
 have h3:=congrArg (·[i]?) hs.ll;simp[hi,hi2]at h3;exact h3
theorem HR.xB {W:World}{G:Nat}{X:Nat->Prop}{h:Hp}{c:Hc}(hs:HR W G X h c){g:Nat}(hg:c.al=some ⟨g,0,none⟩){i:Nat}(hi:i<c.lc.length):W.cell? ⟨g,i*4,none⟩=some (.int .i64 c.lc[i].l.c)/\W.cell? ⟨g,i*4+1,none⟩=some (.int .i64 c.lc[i].l.z)/\W.cell? ⟨g,i*4+2,none⟩=some (.int .i64 c.lc[i].l.t)/\W.cell? ⟨g,i*4+3,none⟩=some (.slice c.lc[i].a c.lc[i].n c.lc[i].c):=by
 obtain⟨b,off,h1,h2,h3⟩:=aN aP (by decide) (aY hs.lsr) hi;obtain⟨rfl,rfl⟩:g=b/\0=off:=by rw[hg]at h1;simpa using h1
 have h4:=nK h3;rw[Nat.zero_add]at h4;exact h4
theorem OE {ls:List Ls}{l:Ls}{p:Nat}(hh:qQ ls l.key=true):∃hi:jJ ls l.key<ls.length,bG ls l p=ls.set (jJ ls l.key) {ls[jJ ls l.key]with p:=ls[jJ ls l.key].p++[p]}:=by
 unfold qQ at hh;cases he:ls[jJ ls l.key]? with
 | none=>rw[he]at hh;cases hh
 | some x=>
  rw[he]at hh;obtain⟨hi,hx⟩:=List.getElem?_eq_some_iff.1 he;refine⟨hi,?_⟩;unfold bG;rw[he];simp only[decide_eq_true_eq]at hh;simp only[hh,if_true,hx]
theorem VF {ls:List Ls}{l:Ls}{p:Nat}(hh:qQ ls l.key=false):bG ls l p=ls.take (jJ ls l.key)++{l with p:=[p]}::ls.drop (jJ ls l.key):=by
 unfold qQ at hh;unfold bG;cases he:ls[jJ ls l.key]? with
 | none=>rfl
 | some x=>
  rw[he]at hh;simp only[decide_eq_false_iff_not]at hh;simp only[hh,if_false]
theorem set_mid {α:Type}(a b:List α)(x y:α){i:Nat}(hi:i=a.length):(a++x::b).set i y=a++y::b:=by
 subst hi;simp
theorem Yu {α:Type}(a b:List α)(x:α){i:Nat}(hi:i=a.length)(h:i<(a++x::b).length):(a++x::b)[i]=x:=by
 subst hi;simp
theorem aA2 {c c5:Hc}{al:Option Addr}{cl:Nat}{lc:List Lc}(e:c5={c with al:=al,cl:=cl,lc:=lc})(sH:List Lc):({c with al:=al,cl:=cl,lc:=sH}:Hc)={c5 with lc:=sH}:=by subst e;rfl
def iG (l:Ls):Lc:=⟨⟨l.c,l.z,l.t,[]⟩,none,0,0⟩
theorem OG {W:World}{G:Nat}{X:Nat->Prop}{h:Hp}{c:Hc}(hs:HR W G X h c)(l:Ls)(I:Nat):dJ W 0 ((c.lc.take I++iG l::c.lc.drop I).map jZ)/\∀r∈(c.lc.take I++iG l::c.lc.drop I).map jZ,∀g,r.v.ownBlock=some g->∃r0∈c.lc.map jZ,r0.v.ownBlock=some g:=by
 have h1:dJ W 0 (c.lc.map jZ):=hs.own.sub (by unfold Hc.rows;exact((List.sublist_cons_self _ _).trans (List.sublist_cons_self _ _)).trans (List.sublist_cons_self _ _));have hn:(jZ (iG l)).v.ownBlock=none:=rfl;have h2:dJ W 0 (jZ (iG l)::c.lc.map jZ):=⟨fun r hr=>by
  rw[List.mem_cons]at hr;rcases hr with hr | hr
  ·rw[hr];exact⟨rfl,.inl ⟨rfl,rfl⟩⟩
  ·exact h1.each r hr,List.pairwise_cons.2 ⟨fun r hr g e=>by(rw[hn]at e;cases e),h1.FP⟩⟩
 have hp:(jZ (iG l)::c.lc.map jZ).Perm ((c.lc.take I++iG l::c.lc.drop I).map jZ):=by
  rw[<- List.map_cons];refine List.Perm.map _ ?_;have h3:(c.lc.take I++iG l::c.lc.drop I).Perm (iG l::(c.lc.take I++c.lc.drop I)):=List.perm_middle;rw[List.take_append_drop]at h3;exact h3.symm
 refine⟨h2.perm hp,fun r hr g e=> ?_⟩;have h3:=hp.mem_iff.2 hr;rw[List.mem_cons]at h3;rcases h3 with rfl | h3
 ·rw[hn]at e;cases e
 ·exact⟨r,h3,e⟩
set_option maxHeartbeats 8000000 in
set_option maxRecDepth 100000 in
theorem Qz (G p:Nat)(l:Ls)(x:Option Addr)(kx dx:Nat)(X:Nat->Prop)(h:Hp)(c:Hc)(w:World)(hs:HS w G X h c)(hk:dZ h)(hl:l.z<2/\l.t<3):
 Calls Tryz.prog 138 #[.pointer (some ⟨G,0,none⟩),.agg #[.int .i64 l.c,.int .i64 l.z,.int .i64 l.t,.slice x kx dx],.int .i64 p] w fun ev w'=>ev= .returned (.tuple #[])/\(∃al cl lc,HS w' G X {h with ls:=bG h.ls l p} {c with al:=al,cl:=cl,lc:=lc})/\Safe X w w':=by
 obtain⟨K4,F4,hsz,hbw⟩:=boxes1 w #[.int .i64 (l.c:Int),.int .i64 (l.z:Int),.int .i64 (l.t:Int),.slice x kx dx] 207;have HS0:=gO (hs.new hbw);have HSF0:=gO (Safe.iM (X:=X) hbw);have HK:=gO hk;have hG0:G<(w.alloc (.cells #[.int .i64 (l.c:Int),.int .i64 (l.z:Int),.int .i64 (l.t:Int),.slice x kx dx] 207)).heap.size:=HS0.out.r.gs;obtain⟨k0,k1,k2,k3,k4⟩:=HS0.out.words;have b0:=K4 0;have b1:=K4 1;have b2:=K4 2;have b3:=K4 3;simp only[gB,gC,gD]at b0 b1 b2 b3;have hGw:=hs.r.gs;have HXW:=gO hs.r.xs;have OH:=hk.oW;have QA:=gO (zX hs.r);have hc24:c.lc.length<=24:=by rw[QA.out];exact OH
 clear hs hk hbw;go_enter Tryz.func138,Tryz.ntmps138
 go_wp2_with fail
 generalize w.alloc _=w1 at*;refine aS (by kernel_rfl) (by kernel_rfl) ?_
 repeat (go_big_quiet_step ((go_at_call 139;exact Calls.bV (Qu _ _ _ _ _ _ _ _ _ _ _ _ _ h l x kx dx _ (HS0.out.r.at.below (aQ w1 _)) HK.out hl (by omega)))))
 refine wpQuiet_nil ?_;rintro _ ⟨wx,rfl⟩;have HS1:=gO (HS0.out.below (aQ w1 wx));have HSF1:=gO (HSF0.out.then (aQ w1 wx));have K4':=aB K4 hsz (aQ w1 wx);have F4':=aH F4 hsz (aQ w1 wx);have hsz1:w.heap.size<(ext w1 wx).heap.size:=gI hsz (aQ w1 wx).size;have ZM:w1.heap.size<=(ext w1 wx).heap.size:=(aQ w1 wx).size;clear k0 k1 k2 k3 k4 b0 b1 b2 b3 K4 F4 HS0 HSF0;generalize ext w1 wx=w2 at*;obtain⟨I,hI⟩:∃I,jJ h.ls l.key=I:=⟨_,rfl⟩
 have HI:=gO hI;have SX:I<=h.ls.length:=by rw[<- hI];exact UC _ _
 rw[hI];clear hI
 go_upto_if 17 with fail
 go_cut [7,29] (fun s7 s29 wx=>∃(h5:Hp) (c5:Hc) (hi:I<c5.lc.length),Hid (HS wx G (fun k=>X k∨(w.heap.size<=k/\k<w1.heap.size)) h5 c5)/\Hid (Safe X w wx)/\Hid (∃al cl lc,c5={c with al:=al,cl:=cl,lc:=lc})/\Hid ({h with ls:=bG h.ls l p}={h5 with ls:=h5.ls.set I {c5.lc[I].l with p:=c5.lc[I].l.p++[p]}})/\c5.lc[I].n<=8)
 case first=>
  cases hh:qQ h.ls l.key with
  | true=>
   obtain⟨hi0,hpu⟩:=OE (p:=p) hh;have hrel:∃(h5:Hp) (c5:Hc) (hi:I<c5.lc.length),Hid (HS w2 G (fun k=>X k∨(w.heap.size<=k/\k<w1.heap.size)) h5 c5)/\Hid (Safe X w w2)/\Hid (∃al cl lc,c5={c with al:=al,cl:=cl,lc:=lc})/\Hid ({h with ls:=bG h.ls l p}={h5 with ls:=h5.ls.set I {c5.lc[I].l with p:=c5.lc[I].l.p++[p]}})/\c5.lc[I].n<=8:=by
    obtain rfl:=HI.out;have h6:jJ h.ls l.key<c.lc.length:=by rw[QA.out];exact hi0
    have h7:=Io HS1.out.r h6 hi0;refine⟨h,c,h6,HS1,HSF1,⟨c.al,c.cl,c.lc,rfl⟩,?_,?_⟩
    ·unfold Hid;rw[hpu,h7]
    ·have h8:=wZ (HS1.out.r.kR _ (gL h6));have h9:=(HK.out.lr _ (gL hi0)).2.2.2.2.1;rw[h7]at h8;omega
   have aFV:=gO hrel;clear hrel hpu;go_wp2_with fail
   go_meet
   case rel=>exact aFV.out
  | false=>
   have HHF:=gO hh;clear hh;have hXB:(fun k=>X k∨(w.heap.size<=k/\k<w1.heap.size)) w.heap.size:= .inr ⟨Nat.le_refl _,hsz⟩;have HS3:=gO (HS1.out.far hXB 3 (.slice none 0 0));have HSF3:=gO (HSF1.out.set (g:=w.heap.size) (fun e=>by have:=HXW.out _ e;omega) 3 (.slice none 0 0));have K6:=gO (aI K4' 3 (.slice none 0 0));have aJ9:Hid ((w2.setCell ⟨w.heap.size,3,none⟩ (.slice none 0 0)).heap.size=w2.heap.size):=by simp[Hid]
   have b3:=K4' 3;have f3:=F4' 3;simp only[gB,gC,gD]at b3;clear K4' F4';go_wp2_with fail
   generalize w2.setCell _ _=w3 at*;have e0:=K6.out 0;have e1:=K6.out 1;have e2:=K6.out 2;have e3:=K6.out 3;simp only[gE,gG,gH,gB,gC,gD]at e0 e1 e2 e3;obtain⟨k0,k1,k2,k3,k4⟩:=HS3.out.words;clear b3 f3 K6 k0 k1 k2 k4;have hB4:=((Below.refl w3.heap.size w3).alloc (Nat.le_refl _) (.cells #[.int .i64 (l.c:Int),.int .i64 (l.z:Int),.int .i64 (l.t:Int),.slice none 0 0] 207)).drew;have HS4:=gO (HS3.out.below hB4);have HSF4:=gO (HSF3.out.then hB4);have hgb:((w3.alloc (.cells #[.int .i64 (l.c:Int),.int .i64 (l.z:Int),.int .i64 (l.t:Int),.slice none 0 0] 207)).drew).heap[w3.heap.size]? =some (.cells (bH (iG l)).toArray 207 (0,0)):=heap_alloc_new w3 _;have hneb:some w3.heap.size≠Value.ownBlock (.slice c.al c.lc.length c.cl):=fun e=>by
    have:=(HS3.out.r.own.lt _ (iO c h) _ e.symm).2;omega
   have hIc:I<=c.lc.length:=by rw[QA.out];exact SX
   have aFW:G<w3.heap.size:=HS3.out.r.gs;have XG:=gO hgb;have XH:=gO hneb;have aDd:G<((w3.alloc (.cells #[.int .i64 (l.c:Int),.int .i64 (l.z:Int),.int .i64 (l.t:Int),.slice none 0 0] 207)).drew).heap.size:=HS4.out.r.gs;have HKG:=gO HS4.out.k;have HFG:=gO HS4.out.fz;have Jl:Hid (some G≠(qM c).v.ownBlock):=fun e=>(HS4.out.r.og _ (iO c h) G e.symm).1 rfl
   clear hgb hneb hB4
   go_region_with (go_at_call 167;refine(SV 0 c.al c.lc.length c.cl w3.heap.size I c.lc (iG l) _ HS4.out.r.lsr hIc (by omega) (Nat.zero_le _) XG.out XH.out).mono ?_;rintro ev w5 ⟨a',c',rfl,ho5,hg5,hl5⟩;have q3:=bT HKG.out aDd hg5 Jl.out 3;have x3:=bU HFG.out aDd hg5 Jl.out 3;have q3':=q3.trans (show(c.vals h)[3]? =some (.slice c.al c.lc.length c.cl)from rfl);clear q3)
   all_goals
    have hlenL:(c.lc.take I++iG l::c.lc.drop I).length=c.lc.length+1:=by simp;omega
    obtain⟨hpo,hpq⟩:=OG HS4.out.r l I;have hpq:=fun r hr g e=>Or.inl (b:=JX (w3.alloc (.cells #[.int .i64 (l.c:Int),.int .i64 (l.z:Int),.int .i64 (l.t:Int),.slice none 0 0] 207)).drew G (fun k=>X k∨(w.heap.size<=k/\k<w1.heap.size)) h c g) (hpq r hr g e)
    obtain⟨hs6,sf6⟩:=HS4.out.lists hg5 (al':=a') (cl':=c') (sH:=c.lc.take I++iG l::c.lc.drop I) (by rw[hlenL];exact ho5) (by rw[hlenL];exact hl5) hpo hpq;rw[hlenL]at hs6 sf6;have HS6:=gO hs6;have SF6:=gO (HSF4.out.trans (sf6.sub (fun k _ hk=> .inl hk)));have hI6:I<(c.lc.take I++iG l::c.lc.drop I).length:=by rw[hlenL];omega
    have HG6:=gO (Yu (c.lc.take I) (c.lc.drop I) (iG l) (i:=I) (by rw[List.length_take];omega) hI6);have HPU:Hid ({h with ls:=bG h.ls l p}={h with ls:=((c.lc.take I++iG l::c.lc.drop I).map Lc.l).set I {(c.lc.take I++iG l::c.lc.drop I)[I].l with p:=(c.lc.take I++iG l::c.lc.drop I)[I].l.p++[p]}}):=by
     unfold Hid;rw[VF HHF.out,HI.out,HG6.out,List.map_append,List.map_cons,List.map_take,List.map_drop,HS4.out.r.ll,set_mid _ _ _ _ (by rw[List.length_take];omega)];rfl
    clear hs6 sf6 hpo hpq ho5 hg5 hl5 x3 q3';go_wp2_with fail
    go_meet
    case rel=>exact⟨_,_,hI6,HS6,SF6,⟨a',c',_,rfl⟩,HPU,by rw[HG6.out];exact Nat.zero_le _⟩
 case rest=>
  obtain⟨h5,c5,hi5,HS5,SF5,HC5,HPU,hn8⟩:=hcut;clear HS1 HSF1 K4' F4' hsz1 ZM SX HI HK QA hc24 OH;obtain⟨gl,hgl,zY,aA5,aA6,Ip⟩:=HS5.out.r.sJ (by omega);have hI2:(I:Int)<c5.lc.length:=by omega
  obtain⟨k0,k1,k2,k3,k4⟩:=HS5.out.words;rw[hgl]at k3;obtain⟨x0,x1,x2,x3⟩:=HS5.out.r.xB hgl hi5;have aKc:G<wc.heap.size:=HS5.out.r.gs;have Jl:=gO hgl;have hW6:=((Below.refl wc.heap.size wc).alloc (Nat.le_refl _) (.cells #[.int .i64 (p:Int)] 3)).drew;have HS6:=gO (HS5.out.below hW6);have SF6:=gO (SF5.out.then hW6);have hnew:((wc.alloc (.cells #[.int .i64 (p:Int)] 3)).drew).heap[wc.heap.size]? =some (.cells #[.int .i64 (p:Int)] 3 (0,0)):=heap_alloc_new wc _;have tV:=gO (World.news_of_block hnew);have hpm:jZ c5.lc[I]∈c5.lc.map jZ:=List.mem_map_of_mem (gL hi5);have HOWN:=gO (HS6.out.r.kR _ (gL hi5));have hlb:(qM c5).v.ownBlock=some gl:=by unfold qM;rw[hgl];rfl
  have HNL:Hid (some gl≠(jZ c5.lc[I]).v.ownBlock):=fun e=>HS6.out.r.FP.lp _ hpm gl hlb e.symm
  have HNG:Hid (some G≠(jZ c5.lc[I]).v.ownBlock):=fun e=>(HS6.out.r.og _ (lX hpm) G e.symm).1 rfl
  have aDe:gl<((wc.alloc (.cells #[.int .i64 (p:Int)] 3)).drew).heap.size:=gI zY hW6.size;have hG6:G<((wc.alloc (.cells #[.int .i64 (p:Int)] 3)).drew).heap.size:=HS6.out.r.gs;have HX3:=gO (HS6.out.r.xB hgl hi5).2.2.2;have HG3:=gO HS6.out.words.2.2.2.1;rw[hgl]at HG3;obtain⟨_,EG,_,_,_,hf6⟩:=HS6.out.r.sJ (by omega);have HF3:Hid (((wc.alloc (.cells #[.int .i64 (p:Int)] 3)).drew).frozen? ⟨gl,I*4+3,none⟩=false):=by
   rw[hgl]at EG;obtain rfl:gl=_:=by simpa using EG
   exact hf6 _ (by omega)
  obtain⟨ti,hti,htz,hts,htb⟩:=info_parts oN;clear k0 k1 k2 k4 x0 x1 x2 hgl hnew hpm hlb EG hf6 Ip hW6;go_wp2_with fail
  go_region_law (first | (refine step_append_lies _ rfl _ _ 39 rfl 0 3 ti (.int .i64 0) 1 8 Tryz.underlying39 hti htz hts htb rfl (by decide) (.slice c5.lc[I].a c5.lc[I].n c5.lc[I].c) c5.lc[I].n (flat gV c5.lc[I].l.p) rfl HOWN.out ⟨wc.heap.size,0,none⟩ 1 1 [.int .i64 (p:Int)] rfl rfl tV.out (by simp[Value.oneCell']) (by decide) (by unfold maxLen;omega) (by omega) (Nat.zero_le _) _ rfl ?_;intro g6 cap6 w6 ho6 hg6 hl6 aKe;have q3:=(hg6.cell_far ⟨gl,I*4+3,none⟩ aDe HNL.out).trans HX3.out;have qf:=(hg6.frozen_far ⟨gl,I*4+3,none⟩ aDe HNL.out).trans HF3.out;have qg:=(hg6.cell_far ⟨G,3,none⟩ hG6 HNG.out).trans HG3.out))
  all_goals
   have ho7:(jZ ⟨{c5.lc[I].l with p:=c5.lc[I].l.p++[p]},some ⟨g6,0,none⟩,c5.lc[I].n+1,cap6⟩).on w6 0:=by
    have e:flat gV (c5.lc[I].l.p++[p])=flat gV c5.lc[I].l.p++[.int .i64 (p:Int)]:=by rw[aT,gX];rfl
    unfold Rs.on jZ;simp only;rw[e];exact ho6
   obtain⟨hs7,sf7⟩:=HS6.out.page hi5 hg6 ho7 ⟨rfl,rfl,rfl⟩ (fun k hk=>by
    obtain rfl:g6=k:=by simpa[jZ,Value.ownBlock]using hk
    rcases hl6 with h1 | h1
    ·exact .inl h1
    ·exact .inr (Nat.le_of_eq h1.symm)) Jl.out
   have hfin:∃al cl lc,HS (w6.setCell ⟨gl,I*4+3,none⟩ (.slice (some ⟨g6,0,none⟩) (c5.lc[I].n+1) cap6)) G X {h with ls:=bG h.ls l p} {c with al:=al,cl:=cl,lc:=lc}:=by
    rw[HPU.out];obtain⟨al,cl,lc,e⟩:=HC5.out;refine⟨al,cl,c5.lc.set I ⟨{c5.lc[I].l with p:=c5.lc[I].l.p++[p]},some ⟨g6,0,none⟩,c5.lc[I].n+1,cap6⟩,?_⟩;rw[aA2 e];exact hs7.sub fun k hk=> .inl hk
   exact bodyPost_end (v:= .tuple #[]) (by simp[results,Tryz.results138,go_sem]) rfl ⟨rfl,hfin,SF6.out.trans (sf7.sub fun k _ hk=> .inl hk)⟩
end
end Go.Proofs.YtcmpmobhongkiaaGreatDoor
