/- joined. -/
import Derived.Test.YtcmpmobhongkiaaGreatDoorRK0
import Derived.Test.YtcmpmobhongkiaaGreatDoorRK26
import Derived.Test.YtcmpmobhongkiaaGreatDoorRK31
import Derived.Test.YtcmpmobhongkiaaGreatDoorRK33
set_option linter.unusedVariables false
set_option linter.unusedSimpArgs false
namespace Go.Proofs.YtcmpmobhongkiaaGreatDoor
section
open Go.RowKit
def Sy.discard (s:Sy)(i k cpu:Nat):Sy:=match s.cs[i]? with
 | some c=>match c.sl[k]? with
  | some x=>match s.h.live[lb s.h.live x.p]? with
   | some b=>{s with h:=s.h.fZ cpu (lb s.h.live x.p) b,cs:=s.cs.set i {c with sl:=c.sl.eraseIdx k}}
   | none=>s
  | none=>s
 | none=>s
def aDP (v:Sc)(s:Sy)(i k cpu:Nat)(G:Nat)(X:Nat->Prop)(w:World)(ev:Ending)(w':World):Prop:=ev= .returned (.tuple #[])/\∃v',SS w' G X (s.discard i k cpu) v'/\Safe X w w'/\v'.a2=v.a2
set_option maxHeartbeats 8000000 in
set_option maxRecDepth 100000 in
theorem Lm (v:Sc)(s:Sy)(G i k cpu:Nat)(X:Nat->Prop)(w:World)(hs:SS w G X s v)(hk:bK s)(hi:i<v.ys.length)(hkk:k<v.ys[i].c.sl.length)(bJ:cpu<s.h.aC):
 Calls Tryz.prog 74 #[.pointer (some ⟨G,0,none⟩),.int .i64 i,.int .i64 k,.int .i64 cpu] w (aDP v s i k cpu G X w):=by
 obtain⟨gc,ha2,o9,OO,Wj,hcc⟩:=hs.r.XD hi;have hym:=gL hi;have hcm:v.ys[i].c∈s.cs:=by rw[<- hs.r.cy];exact List.mem_map_of_mem hym
 have hci:s.cs[i]? =some v.ys[i].c:=by
  rw[<- hs.r.cy,List.getElem?_map,gJ hi];rfl
 have hck:=hk.ck _ hcm;have hvl:v.ys.length<=20:=by have:=congrArg List.length hs.r.cy;rw[List.length_map]at this;rw[this];exact hk.cl
 have Ij:s.h.live.length<=1000:=gQ hk.hk.iZ (by decide);have VT:v.hc.lc.length<=1000:=by
  have h1:=congrArg List.length hs.r.hr.ll;rw[List.length_map]at h1;rw[h1];exact gQ hk.hk.oW (by decide)
 have hii:(i:Int)<v.ys.length:=by omega
 obtain⟨_,hr2,_⟩:=hs.r.y hym;obtain⟨y,hy⟩:∃y,v.ys[i]=y:=⟨_,rfl⟩
 have HY:=gO hy;rw[hy]at hci hck hr2 hcc;have hkk':k<y.c.sl.length:=by rw[<- hy];exact hkk
 have hlive:=(hck.sk _ (gL hkk')).live;have hp:=(hck.sk _ (gL hkk')).zH hk.hk;obtain⟨gs,hgs,_,OW,hcs,_⟩:=oI hr2 (k*3) (by show k*3<(flat aX y.c.sl).length;rw[flat_length aK];omega);have hl2:y.c.sl.length=y.n2:=bC aK (by decide) hr2;have hsl:=hck.mP hk.hk;have ps:w.cell? ⟨gs,k*3,none⟩=some (.int .i64 (y.c.sl[k].p:Int)):=by
  have h1:=flat_get aK y.c.sl k hkk' 0 (by decide);have h2:k*3<(flat aX y.c.sl).length:=by rw[flat_length aK];omega
  rw[hcs];have h3:(flat aX y.c.sl)[k*3]? =some (vI (y.c.sl[k].p:Int)):=by simpa[aX]using h1
  rw[gJ h2]at h3;exact h3
 obtain⟨hlb,NP,hth⟩:=(hck.sk _ (gL hkk')).at hk.hk;have hF:=fun(W:World) (hW:Below w.heap.size w W)=>DC v.hc.az v.hc.am v.hc.al v.hc.av v.hc.cz v.hc.cm v.hc.cl v.hc.cv _ _ _ _ _ s.h cpu y.c.sl[k].p W (hs.r.hr.at.below hW) hk.hk VT Ij bJ (by omega) hth
 have WE:s.discard i k cpu={s with h:=s.h.fZ cpu (lb s.h.live y.c.sl[k].p) s.h.live[lb s.h.live y.c.sl[k].p],cs:=s.cs.set i {y.c with sl:=y.c.sl.eraseIdx k}}:=by
  unfold Sy.discard;rw[hci];simp only[gJ hkk',gJ hlb]
 obtain⟨h',hh'⟩:∃h',s.h.fZ cpu (lb s.h.live y.c.sl[k].p) s.h.live[lb s.h.live y.c.sl[k].p]=h':=⟨_,rfl⟩
 rw[hh']at WE;have HF:Hid (∀W,Below w.heap.size w W->Calls Tryz.prog 89 #[.agg #[.slice v.hc.az 2 v.hc.cz,.slice v.hc.am 2 v.hc.cm,.int .i64 s.h.aC,.slice v.hc.al v.hc.lc.length v.hc.cl,.slice v.hc.av s.h.live.length v.hc.cv],.int .i64 cpu,.int .i64 y.c.sl[k].p] W fun ev w'=>∃hc':Hc,ev= .returned (.tuple #[.agg #[.slice hc'.az 2 hc'.cz,.slice hc'.am 2 hc'.cm,.int .i64 (h'.aC:Int),.slice hc'.al hc'.lc.length hc'.cl,.slice hc'.av h'.live.length hc'.cv],.int .i64 0])/\kU w' W.heap.size h' hc'/\Below W.heap.size W w'):=fun W hW=>by
  refine(hF W hW).mono ?_;rintro ev w' ⟨hb,c',_,h1,h2⟩;rw[hh']at h1 h2;exact⟨c',h1,h2,hb⟩
 obtain⟨b4,f4⟩:=hcc 4 (by decide);simp only[dX,vI,gC,gD]at b4;have g1:=hs.k 1;have g2:=hs.k 2;have g3:=hs.k 3;have g4:=hs.k 4;have g5:=hs.k 5;have g6:=hs.k 6;unfold Sc.vals at g1 g2 g3 g4 g5 g6;simp only[gB,gC,gD]at g1 g2 g3 g4 g5 g6;rw[ha2]at g6;rw[hgs]at b4;have aGR:=gO hgs;have HS:=gO hs;have HDS:=gO WE;have HC:=gO hcc;have HA2:=gO ha2;have Ik:=hs.r.hr.gs;have hGc:G≠gc:=fun e=>OO e.symm
 have aKV:gs≠G:=fun e=>(hs.r.og _ (kH hym (show mX v.ys[i]∈fP v.ys[i]by simp[fP])) gs (by rw[hy];unfold mX;rw[hgs];rfl)).1 e
 have hn2:y.n2<=256:=by omega
 have hkn:(k:Int)<y.n2:=by omega
 have aGS:k<y.n2:=by omega
 clear hs hk hcc hy hck hcm hci hF hh' WE hlive hlb NP hth hcs hr2 ha2 hgs hkk hl2 hsl hym hvl;generalize y.c.sl[k]=x at*;clear hkk';go_enter Tryz.func74,Tryz.ntmps74
 go_upto_region 1 with fail
 go_cut [15] (fun s15 wx=>∃(hc':Hc),Hid (SS wx G X {s with h:=h'} {v with hc:=hc'})/\Hid (Safe X w wx))
 case first=>
  go_region_law (first | (go_simp;go_at_call 89;refine(HF.out _ ((Below.refl _ _).drew)).mono ?_;rintro ev w1 ⟨hc',rfl,hn1,hb1⟩;have KG:=aB HS.out.k Ik (Below.step ((Below.refl w.heap.size w).drew) hb1);have FG:=aH HS.out.fz Ik (Below.step ((Below.refl w.heap.size w).drew) hb1);have z1:=KG 1;have z2:=KG 2;have z3:=KG 3;have z4:=KG 4;have z5:=KG 5;have q1:=FG 1;have q2:=FG 2;have q3:=FG 3;have q4:=FG 4;have q5:=FG 5;unfold Sc.vals at z1 z2 z3 z4 z5;simp only[gB,gC,gD]at z1 z2 z3 z4 z5;have HKG:=gO KG;clear KG FG))
  all_goals
   have hb1':Below w.heap.size w w1:=Below.step ((Below.refl w.heap.size w).drew) hb1;have hput:=HS.out.aGA hb1' hn1;have HP1:=gO hput.1;have HP2:=gO hput.2;clear hput hb1' hb1 hn1 HKG z1 z2 z3 z4 z5 q1 q2 q3 q4 q5 g1 g2 g3 g4 g5 g6 b4 f4 ps;go_wp2_with fail
   go_meet
   exact⟨hc',HP1,HP2⟩
 case rest=>
  obtain⟨hc',YC,HFx⟩:=hcut;clear g1 g2 g3 g4 g5 g6 b4 f4 ps HF;have hi1:i<({v with hc:=hc'}:Sc).ys.length:=hi;obtain⟨gc1,Iy,Gf,aDz,aDA,Wp⟩:=YC.out.r.XD hi1;have hgg:gc=gc1:=by
   have h9:v.a2=some ⟨gc1,0,none⟩:=Iy;rw[HA2.out]at h9;simpa using h9
  subst hgg;have qH:∀j,j<6->wc.cell? ⟨gc,i*6+j,none⟩=(dX y)[j]? /\wc.frozen? ⟨gc,i*6+j,none⟩=false:=fun j hj=>by
   have h:=Wp j hj;have e:({v with hc:=hc'}:Sc).ys[i]=y:=HY.out;rw[e]at h;exact h
  have hym:y∈({v with hc:=hc'}:Sc).ys:=by rw[<- HY.out];exact gL hi
  have HSL:Hid ((mX y).on wc 0):=(YC.out.r.y hym).2.1;have Wq:Hid (some gc≠(Value.slice y.a2 y.n2 y.c2).ownBlock):=fun e=>YC.out.r.ZK hi1 HY.out Iy e.symm
  have x4:=(qH 4 (by decide)).1;have y4:=(qH 4 (by decide)).2;simp only[dX,vI,gC,gD]at x4;have HA21:=gO Iy;have HHI:=gO hi1;have hr:Hid ({w:=s.w,h:=h',cs:=s.cs}={s with h:=h'}):=rfl;clear Wp qH Iy hi1 hym;have X4:=gO x4;have Y4:=gO y4;go_wp2_with (go_at_call 124;refine(Sr 0 y.a2 y.n2 y.c2 y.c.sl k wc HSL.out aGS (by omega) (Nat.zero_le _)).mono ?_;rintro ev w5 ⟨rfl,hown5,hg5⟩;have q4:=(World.cell?_of_block (w:=wc) (a:=⟨gc,i*6+4,none⟩) (hg5.block gc Gf Wq.out)).trans X4.out;have p4:=(World.frozen?_of_block (w:=wc) (a:=⟨gc,i*6+4,none⟩) (hg5.block gc Gf Wq.out)).trans Y4.out)
  obtain⟨v',t1,t2,t3⟩:=YC.out.Vu HHI.out HY.out hown5 hg5 (fun k' h9=> .inl (by unfold mX;rw[aGR.out]at h9 ⊢;exact h9)) HA21.out;have t4:SS (w5.setCell ⟨gc,i*6+4,none⟩ (.slice y.a2 (y.n2-1) y.c2)) G X (s.discard i k cpu) v':=by
   rw[HDS.out];exact t1
  exact bodyPost_ret (v:= .tuple #[]) (by simp[results,Tryz.results74,go_sem]) rfl ⟨rfl,v',t4,HFx.out.trans t2,t3⟩
end
end Go.Proofs.YtcmpmobhongkiaaGreatDoor
