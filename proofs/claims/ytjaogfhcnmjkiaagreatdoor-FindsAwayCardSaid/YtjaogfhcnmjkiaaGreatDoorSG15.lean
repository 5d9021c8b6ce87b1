/- joined. -/
import Derived.Test.YtjaogfhcnmjkiaaGreatDoorSG12
set_option linter.all false
set_option maxRecDepth 100000
set_option maxHeartbeats 0
namespace Go.Proofs.YtjaogfhcnmjkiaaGreatDoor
open Go.RowKit
open Go.Value renaming slice->aA,int->aB,agg->aC,string->aF,tuple->aG,pointer->aH,ownBlock->gTh
open Go.IntKind renaming i64->aI
open Option renaming none->aJ,some->aK
open Go.Ending renaming returned->aN
open Go.Obj renaming cells->aO
open Go.Proofs.Tryz
section
attribute [local go_sem ↓] iW
theorem OA (base:Nat)(a:Option Addr)(n c g:Nat)(l:List Bk)(b:Bk)(w:World)(hown:w.ownsRow base 82 3 (aA a n c) n (flat aAx l))(hn:n<=1000)(hbase:base<=w.heap.size)(hv:Row w (aK ⟨g,0,aJ⟩) (aAx b)):
 Calls prog 106 #[aA a n c,aB aI n,aA (aK ⟨g,0,aJ⟩) 1 1] w λev w'=>∃a' c',ev=aN (aA a' (n+1) c')/\w'.ownsRow base 82 3 (aA a' (n+1) c') (n+1) (flat aAx (l++[b]))/\w.grownBy w' (gTh (aA a n c))/\(∀k,(aA a' (n+1) c').ownBlock=aK k->(aA a n c).ownBlock=aK k∨w.heap.size<=k):=by
 have C:=dR hown;have v:=gO hown;clear hown;have G:(n:Int)<=c:=by omega
 obtain⟨D,o,m,r,s⟩:=info_parts uP;have f:∀j u,(aAx b)[j]? =aK u->w.cell? ((⟨g,0,aJ⟩:Addr).add j)=aK u:=λj u E=>by
  obtain⟨y,off,e,_,x⟩:=hv j u E;obtain⟨rfl,rfl⟩:g=y/\0=off:=by simpa using e
  rw[Addr.add_lit];exact x
 go_enter func106,ntmps106
 go_wp2_with (at_builtin;refine wpList_append_lies _ rfl _ _ 37 rfl base 82 D (aC #[aB aI 0,aB aI 0,aB aI 0]) 3 24 underlying37 o m r s rfl (by decide) _ n _ rfl v.out ⟨g,0,aJ⟩ 1 1 (aAx b) rfl rfl f (by simp[aAx,vI,Value.oneCell']) (by decide) (by unfold maxLen;omega) (by omega) hbase _ rfl ?_)
 intro B c' F d z i t;rw[show flat aAx l++aAx b=flat aAx (l++[b])from by rw[aS,fJ]]at d;have p:=gO d;have q:=gO i;clear d v f i;go_wp2
 go_ret
 exact⟨_,c',rfl,p.out,z,λk A=>by
  obtain rfl:B=k:=by simpa[gTh]using A
  rcases q.out with h | h
  ·exact .inl h
  ·exact .inr (Nat.le_of_eq h.symm)⟩
theorem Lp (base:Nat)(a:Option Addr)(n c g i:Nat)(l:List Bk)(b:Bk)(w:World)(hown:w.ownsRow base 82 3 (aA a n c) n (flat aAx l))(hi:i<n)(hn:n<=1000)(hc:c<n+1)(hbase:base<=w.heap.size)(hv:Row w (aK ⟨g,0,aJ⟩) (aAx b)):
 Calls prog 106 #[aA a n c,aB aI i,aA (aK ⟨g,0,aJ⟩) 1 1] w λev w'=>∃a' c',ev=aN (aA a' (n+1) c')/\w'.ownsRow base 82 3 (aA a' (n+1) c') (n+1) (flat aAx (l.take i++b::l.drop i))/\w.grownBy w' (gTh (aA a n c))/\(∀k,(aA a' (n+1) c').ownBlock=aK k->(aA a n c).ownBlock=aK k∨w.heap.size<=k):=by
 have U:=dR hown;have J:l.length=n:=aZ aAu (by decide) hown;have L:=flat_length aAu l;obtain⟨G,zs,X,u,F,d,x⟩:=wL (P:=prog) 37 3 37 82 underlying37 underlying3 (aC #[aB aI 0,aB aI 0,aB aI 0]) 3 24 uP rfl (by decide) a i c _ base (iY hown (show i<=n by omega)) (n+1-i) (by omega) (by omega) (by omega) (by omega);rw[show i+(n+1-i)=n+1 by omega]at u d;rw[show((n+1-i:Nat):Int)=(n:Int)+1-(i:Int)by omega]at u;rw[fC aAu]at d;have HR:=gO (aV hown);have V:=dR d;have B:=gO d;have C:=gO x;have t:=gO ((gX w.heap.size w).grown x (gT _) (by simp));have b0:(i:Int)<=n:=by omega
 have b2:(i:Int)<=c:=by omega
 have b3:¬(i:Int)=n:=by omega
 have b4:(c:Int)<(n:Int)+1:=by omega
 have Y:(i:Int)<=(n:Int)+1:=by omega
 have Z:((n+1:Nat):Int)<=G:=by omega
 have A:(prog.info? 82).map (·.size)=aK 3:=by kernel_rfl
 have z:=hv.mono t.out (gT _);have q:(flat aAx (l.take i)).length=i*3:=by rw[flat_length aAu,gTc];omega
 have E:bY (aK ⟨w.heap.size,0,aJ⟩) i G 3=(aK ⟨w.heap.size,0,aJ⟩:Option Addr).map (·.add (i*3)):=by unfold bY;rw[if_neg (by omega)]
 have K:bY (aK ⟨w.heap.size,0,aJ⟩) (i+1) G 3=(aK ⟨w.heap.size,0,aJ⟩:Option Addr).map (·.add ((i+1)*3)):=by unfold bY;rw[if_neg (by omega)]
 obtain⟨D,N,e,f⟩:=jM (P:=prog) 37 37 3 82 underlying37 3 A (bY (aK ⟨w.heap.size,0,aJ⟩) i G 3) (aK ⟨g,0,aJ⟩) (n+1-i) (G-i) 1 1 (aAx b) (by rw[show Nat.min 1 (n+1-i)=1 from Nat.min_eq_left (by omega)];rfl) z (by simp[aAx,vI,Value.oneCell']) w.heap.size (n+1) G i (aK ⟨w.heap.size,0,aJ⟩) _ B.out (λ_=>E) (λh=>by rw[E]at h;simp at h) (by rw[aAu];omega);rw[aAu,List.take_left' q,<- Nat.succ_mul]at e;have o:(flat aAx (l.take i)++zs).drop ((i+1)*3)=zs.drop 3:=by rw[List.drop_append,List.drop_eq_nil_of_le (by omega),q,List.nil_append];congr 1;omega
 rw[Nat.succ_eq_add_one,o]at e;have r:=(t.out.grown f t.out.size (by intro k s;simp[gTh]at s;omega)).drew;have O:=own_below e ((gX D.heap.size D).drew) (gT _);have p:=((aV hown).mono r (gT _)).cut i c 3 ((n-i)*3) (by omega);rw[gTf (by rw[gTd,L];omega),fD aAu]at p;have y:(flat aAx (l.drop i)).length=(n-i)*3:=by rw[flat_length aAu,gTd,J]
 obtain⟨S,M,j,m⟩:=jM (P:=prog) (w:=D.drew) 37 37 3 82 underlying37 3 A (bY (aK ⟨w.heap.size,0,aJ⟩) (i+1) G 3) (bY a i c 3) (n-i) (G-(i+1)) (n-i) (c-i) (flat aAx (l.drop i)) (by rw[y,show Nat.min (n-i) (n-i)=n-i from Nat.min_self _]) p (pJ _) w.heap.size (n+1) G (i+1) (aK ⟨w.heap.size,0,aJ⟩) _ O (λ_=>K) (λh=>by rw[K]at h;simp at h) (by rw[y];omega);rw[show(flat aAx (l.take i)++aAx b++zs.drop 3).take ((i+1)*3)=flat aAx (l.take i)++aAx b from List.take_left' (by rw[gTb,q,aAu];omega),y,show(flat aAx (l.take i)++aAx b++zs.drop 3).drop ((i+1)*3+(n-i)*3)=[]from List.drop_eq_nil_of_le (by simp only[gTb,q,aAu,gTd,F];omega),List.append_nil,<- fJ aAx b,<- aS,<- aS,List.append_assoc,List.singleton_append]at j;have H:=gO (own_base j hbase);have I:Hid (w.grownBy S (gTh (aA a n c))):=by
  have v:=C.out;refine⟨m.os.trans (f.os.trans v.os),m.tape.trans (f.tape.trans v.tape),m.output.trans (f.output.trans v.output),gQ v.size (gQ f.size m.size),λk s R=> ?_⟩;have Q:aK k≠gTh (aA (aK ⟨w.heap.size,0,aJ⟩) (n+1) G):=by simp[gTh];omega
  exact(m.block k (gI s (gQ v.size f.size)) Q).trans ((f.block k (gI s v.size) Q).trans (v.block k s (by simp)))
 have b7:((i:Int)+1)<=G:=by omega
 have s1:IntKind.i64.wrap ((i:Int)+1)=(i:Int)+1:=IntWalk.i64_in _ (by omega);have b8:0<=(i:Int)+1:=by omega
 have b9:((i:Int)+1).toNat=i+1:=by omega
 have T:(i:Int)+1<=(n:Int)+1:=by omega
 clear hown e O j x f m d p z r B HR C o E K;go_enter func106,ntmps106
 go_wp2_with (at_builtin;refine kM rfl _ _ 37 3 rfl _ _ rfl rfl u ?_)
 go_still_tail 8,(by kernel_rfl)
 change wpList _ _ _ _ _ D.drew;generalize D.drew=W at*;go_wp2
 go_ret
 exact⟨_,_,rfl,H.out,I.out,λk s=> .inr (by simp[gTh]at s;omega)⟩
theorem Ig (base:Nat)(a:Option Addr)(n c g i:Nat)(l:List Bk)(b:Bk)(w:World)(hown:w.ownsRow base 82 3 (aA a n c) n (flat aAx l))(hi:i<n)(hn:n<=1000)(hc:n+1<=c)(hbase:base<=w.heap.size)(hgb:w.heap[g]? =aK (.cells (aAx b).toArray 82 (0,0)))(hne:aK g≠gTh (aA a n c))(hv:Row w (aK ⟨g,0,aJ⟩) (aAx b)):
 Calls prog 106 #[aA a n c,aB aI i,aA (aK ⟨g,0,aJ⟩) 1 1] w λev w'=>∃a' c',ev=aN (aA a' (n+1) c')/\w'.ownsRow base 82 3 (aA a' (n+1) c') (n+1) (flat aAx (l.take i++b::l.drop i))/\w.grownBy w' (gTh (aA a n c))/\(∀k,(aA a' (n+1) c').ownBlock=aK k->(aA a n c).ownBlock=aK k∨w.heap.size<=k):=by
 have L:l.length=n:=aZ aAu (by decide) hown;have u:=flat_length aAu l;obtain⟨d,s,rfl,E,C,v⟩:∃d s,a=aK ⟨d,0,aJ⟩/\w.heap[d]? =aK (.cells s 82 (0,0))/\s.size=c*3/\c<=maxLen:=by
  rcases hown.2 with ⟨S,h2⟩ | ⟨d,I,s,S,_,Y,_,v,hs,_⟩
  ·omega
  ·obtain⟨rfl,rfl⟩:a=aK ⟨d,0,aJ⟩/\c=I:=by simpa using S
   exact⟨d,s,rfl,Y,hs,v⟩
 have M:g≠d:=λe=>hne (by rw[e];rfl)
 have hcut:∀j,j<=n->bY (aK ⟨d,0,aJ⟩) j c 3=(aK ⟨d,0,aJ⟩:Option Addr).map (·.add (j*3)):=λj hj=>by unfold bY;rw[if_neg (by omega)]
 have R:bY (aK ⟨d,0,aJ⟩) (i+1) c 3=aK ⟨d,(i+1)*3,aJ⟩:=by rw[hcut _ (by omega)];simp[Addr.add_lit]
 have B:(prog.info? 82).map (·.size)=aK 3:=by kernel_rfl
 have G:(callFunc 137 #[aA (aK ⟨g,0,aJ⟩) 1 1,aA (bY (aK ⟨d,0,aJ⟩) (i+1) c 3) (n-i) (c-(i+1))]).run prog w= .ok (.value (.bool false)) w:=by
  rw[R,run_callFunc_extern func137 (by kernel_rfl) (by kernel_rfl) (by kernel_rfl) (e:=Extern.SlicesOverlaps.overlaps #[37,37] #[4]) (by kernel_rfl),
   Lib.run_overlaps_apart w 37 4 82 underlying37 3 Tryz.sizeOf82 ⟨g,0,aJ⟩ ⟨d,(i+1)*3,aJ⟩ 1 1 _ _ M 82 82 3 (c*3) (by simp[World.shape?,hgb,aAx]) (by simp[World.shape?,E,C]) (by omega) (by simp[World.frozen?,hgb]) (by simp[World.frozen?,hgb])]
  rfl
 obtain⟨y,H,r⟩:=wH hown (show n<=n+1 by omega) hc;rw[show(n+1-n)*3=3 by omega]at H;have x:(flat aAx (l.drop i)).length=(n-i)*3:=by rw[flat_length aAu,gTd,L]
 have Z:(flat aAx (l.take i)).length=i*3:=by rw[flat_length aAu,gTc];omega
 have z:Below w.heap.size w w.drew:=(gX w.heap.size w).drew;have p:=own_below r z (gT _);have t:=((aV hown).below z).cut i c 3 ((n-i)*3) (by omega);rw[gTf (by rw[gTd,u];omega),fD aAu]at t;obtain⟨w2,O,o,f⟩:=jM (P:=prog) (w:=w.drew) 37 37 3 82 underlying37 3 B (bY (aK ⟨d,0,aJ⟩) (i+1) c 3) (bY (aK ⟨d,0,aJ⟩) i c 3) (n-i) (c-(i+1)) (n+1-i) (c-i) (flat aAx (l.drop i)) (by rw[x,show Nat.min (n+1-i) (n-i)=n-i from Nat.min_eq_right (by omega)]) t (pJ _) base (n+1) c (i+1) (aK ⟨d,0,aJ⟩) _ p (λ_=>hcut _ (by omega)) (λh=>by rw[hcut _ (by omega)]at h;simp at h) (by rw[x];omega);have Q:((flat aAx l++y).take ((i+1)*3)++flat aAx (l.drop i)++(flat aAx l++y).drop ((i+1)*3+(flat aAx (l.drop i)).length))=(flat aAx l++y).take ((i+1)*3)++flat aAx (l.drop i):=by
  rw[show(flat aAx l++y).drop ((i+1)*3+(flat aAx (l.drop i)).length)=[]from List.drop_eq_nil_of_le (by rw[gTb,u,x];omega),List.append_nil]
 rw[Q]at o;have U:((flat aAx l++y).take ((i+1)*3)).length=(i+1)*3:=by rw[gTc,gTb,u];omega
 have A:=sN (hv.below z) f hne;obtain⟨W,N,m,q⟩:=jM (P:=prog) (w:=w2) 37 37 3 82 underlying37 3 B (bY (aK ⟨d,0,aJ⟩) i c 3) (aK ⟨g,0,aJ⟩) (n+1-i) (c-i) 1 1 (aAx b) (by rw[show Nat.min 1 (n+1-i)=1 from Nat.min_eq_left (by omega)];rfl) A (by simp[aAx,vI,Value.oneCell']) base (n+1) c i (aK ⟨d,0,aJ⟩) _ o (λ_=>hcut _ (by omega)) (λh=>by rw[hcut _ (by omega)]at h;simp at h) (by rw[aAu];omega);have T:((flat aAx l++y).take ((i+1)*3)++flat aAx (l.drop i)).take (i*3)++aAx b++((flat aAx l++y).take ((i+1)*3)++flat aAx (l.drop i)).drop (i*3+(aAx b).length)=flat aAx (l.take i++b::l.drop i):=by
  rw[aAu,show i*3+3=(i+1)*3 by omega,List.drop_left' U,List.take_append_of_le_length (by rw[U];omega),List.take_take,show min (i*3) ((i+1)*3)=i*3 by omega,List.take_append_of_le_length (by rw[u];omega),fC aAu,aS,dS,List.append_assoc]
 rw[T]at m;have J:=gO m;have K:Hid (w.grownBy W (gTh (aA (aK ⟨d,0,aJ⟩) n c))):=
  ⟨q.os.trans f.os,q.tape.trans f.tape,q.output.trans f.output,gQ f.size q.size,λk F D=>(q.block k (gI F f.size) D).trans (f.block k F D)⟩
 have b0:(i:Int)<=n:=by omega
 have b2:(i:Int)<=c:=by omega
 have b3:¬(i:Int)=n:=by omega
 have b4:¬(c:Int)<(n:Int)+1:=by omega
 have b5:(i:Int)<=(n:Int)+1:=by omega
 have b6:(n:Int)+1<=c:=by omega
 have b7:((i:Int)+1)<=c:=by omega
 have s1:IntKind.i64.wrap ((i:Int)+1)=(i:Int)+1:=IntWalk.i64_in _ (by omega);have b8:0<=(i:Int)+1:=by omega
 have b9:((i:Int)+1).toNat=i+1:=by omega
 have X:(i:Int)+1<=(n:Int)+1:=by omega
 have V:((n:Int)+1).toNat=n+1:=by omega
 have b12:c<=9223372036854775807:=by unfold maxLen at v;omega
 clear hown r p t o m f q Q T hv A hcut R E hgb C;go_enter func106,ntmps106
 go_wp2_with (simp only[G])
 go_still_tail 8,(by kernel_rfl)
 change wpList _ _ _ _ _ w.drew;go_wp2
 go_ret
 exact⟨_,_,rfl,J.out,K.out,λk F=> .inl F⟩
theorem FW (base:Nat)(a:Option Addr)(n c g i:Nat)(l:List Bk)(b:Bk)(w:World)(hown:w.ownsRow base 82 3 (aA a n c) n (flat aAx l))(hi:i<=n)(hn:n<=1000)(hbase:base<=w.heap.size)(hgb:w.heap[g]? =aK (.cells (aAx b).toArray 82 (0,0)))(hne:aK g≠gTh (aA a n c)):
 Calls prog 106 #[aA a n c,aB aI i,aA (aK ⟨g,0,aJ⟩) 1 1] w λev w'=>∃a' c',ev=aN (aA a' (n+1) c')/\w'.ownsRow base 82 3 (aA a' (n+1) c') (n+1) (flat aAx (l.take i++b::l.drop i))/\w.grownBy w' (gTh (aA a n c))/\(∀k,(aA a' (n+1) c').ownBlock=aK k->(aA a n c).ownBlock=aK k∨w.heap.size<=k):=by
 have d:g<w.heap.size:=(Array.getElem?_eq_some_iff.1 hgb).1;have e:Row w (aK ⟨g,0,aJ⟩) (aAx b):=by
  intro j v m;exact⟨g,0,rfl,d,by rw[Nat.zero_add,cell_of_row _ _ _ _ _ _ hgb];simpa using m⟩
 have f:l.length=n:=aZ aAu (by decide) hown;by_cases h:i=n
 ·subst h;have:=OA base a i c g l b w hown hn hbase e;rw[gTf (by omega),List.drop_eq_nil_of_le (by omega)];exact this
 ·by_cases o:n+1<=c
  ·exact Ig base a n c g i l b w hown (by omega) hn o hbase hgb hne e
  ·exact Lp base a n c g i l b w hown (by omega) hn (by omega) hbase e
end
theorem YO (flags:Nat):mP flags<3:=by unfold mP;split <;> (try split) <;> omega
theorem CQ (az am al av:Option Addr)(cz cm cl cv nl nv:Nat)(y0 y1:Zc)(lc:List Lc)(h:Hp)(cpu order flags:Nat)(w:World)(hh:HAt w az am al av nl nv y0 y1 lc h)(hk:eY h)(hnl:nl<=1000)(Rk:nv<=1000)(hc:cpu<h.aAh)(hor:order<=4)(hf:flags<=15)(hff:¬(flags/2%2=1/\flags/4%2=1))(ho:sS w):
 Calls prog 52 #[aC #[aA az 2 cz,aA am 2 cm,aB aI h.aAh,aA al nl cl,aA av nv cv],aB aI cpu,aB aI order,aB aI flags] w λev w'=>Below w.heap.size w w'/\((h.alloc cpu order (mP flags) (decide (flags/8%2=1)) (decide (flags%2=1))=aJ/\ev=aN (aG #[aC #[aA aJ 0 0,aA aJ 0 0,aB aI 0,aA aJ 0 0,aA aJ 0 0],aB aI 0,aB aI 6]))∨(∃(h':Hp) (a:Nat) (c':Hc),h.alloc cpu order (mP flags) (decide (flags/8%2=1)) (decide (flags%2=1))=aK (h',a)/\ev=aN (aG #[.agg (c'.vals h'),aB aI (a:Nat),aB aI 0])/\kR w' w.heap.size h' c')):=by
 obtain⟨K1,K2,F1,F2,hsz,hbw⟩:=boxes2 w #[aA az 2 cz,aA am 2 cm,aB aI (h.aAh:Int),aA al nl cl,aA av nv cv] 39 #[aA aJ 0 0,aA aJ 0 0,aB aI 0,aA aJ 0 0,aA aJ 0 0] 39;have HH:=gO (hh.below hbw);have HK:=gO hk;have HB1:=gO hbw;have HO:=gO ho;have HLV:Hid (h.live.length<=1000):=by unfold Hid;rw[hh.nv];exact Rk
 have h0w:=ho.sz;have l:=K1 0;have m:=K1 1;have p:=K1 2;have n:=K1 3;have j:=K1 4;simp only[gB,gC,gD]at l m p n j;clear hh hk hbw ho;go_enter func52,ntmps52
 go_wp2_with fail
 generalize (w.alloc _).alloc _=w1 at*;refine(yA _ _ _ _ _ _ _ _ _ _ _ _ _ h w1 HH.out HK.out hnl Rk).mono ?_;rintro ev w2 ⟨rfl,G⟩;have FU:=aAp K1 (by omega) G;have F1a:=aAt F1 (by omega) G;have K2a:=aAp K2 hsz G;have F2a:=aAt F2 hsz G;have HH2:=gO (HH.out.below G);have HB2:=gO (Below.trans HB1.out (G.mono HB1.out.size));have W:w.heap.size+1<w2.heap.size:=gI hsz G.size;clear l m p n j G K1 F1 K2 F2;have l:=FU 0;have m:=FU 1;have p:=FU 2;have n:=FU 3;have j:=FU 4;simp only[gB,gC,gD]at l m p n j;have d1:decide ((cpu:Int)<0)=false:=gV (by omega);have d2:decide (h.aAh<=cpu)=false:=gV (by omega);have d3:decide ((order:Int)<0)=false:=gV (by omega);have d4:decide ((4:Int)<order)=false:=gV (by omega);go_wp2_with fail
 refine(Vt flags w2 hf hff).mono ?_;rintro ev _ ⟨rfl,rfl⟩;go_wp2_with fail
 refine(AO _ _ _ _ _ _ _ _ _ _ _ _ _ h w2 HH2.out HK.out Rk).mono ?_;rintro ev w3 ⟨g,c,rfl,hs3,hg3,M⟩;have Bq:=aAp FU (by omega) M;have FV:=aAt F1a (by omega) M;have K2b:=gO (aAp K2a W M);have F2b:=gO (aAt F2a W M);have HS4:=gO (hs3.move (B:=w.heap.size) (show w.heap.size<w2.heap.size by omega) Bq FV);have HB3:=gO (Below.trans HB2.out (M.mono HB2.out.size));clear l m p n j FU F1a K2a F2a hs3 HH HH2 hg3;have l:=Bq 0;have m:=Bq 1;have p:=Bq 2;have n:=Bq 3;have j:=Bq 4;have f10:=FV 0;have f11:=FV 1;have f12:=FV 2;have f13:=FV 3;have f14:=FV 4;simp only[gB,gC,gD]at l m p n j;unfold Hc.vals;go_wp2_with fail
 have Ie:Hid (HS (((((w3.setCell ⟨w.heap.size,0,aJ⟩ (aA c.az 2 c.cz)).setCell ⟨w.heap.size,1,aJ⟩ (aA c.am 2 c.cm)).setCell ⟨w.heap.size,2,aJ⟩ (aB aI (h.aAh:Int))).setCell ⟨w.heap.size,3,aJ⟩ (aA c.al c.lc.length c.cl)).setCell ⟨w.heap.size,4,aJ⟩ (aA c.av h.live.length c.cv)) w.heap.size (λk=>k<w2.heap.size/\k≠w.heap.size) h c):=HS4;have A:w.heap.size+1≠w.heap.size:=by omega
 have K2c:=gO (aAc (aAc (aAc (aAc (aAc K2b.out A 0 (aA c.az 2 c.cz)) A 1 (aA c.am 2 c.cm)) A 2 (aB aI (h.aAh:Int))) A 3 (aA c.al c.lc.length c.cl)) A 4 (aA c.av h.live.length c.cv));have F2c:=gO (aAs (aAs (aAs (aAs (aAs F2b.out ⟨w.heap.size,0,aJ⟩ (aA c.az 2 c.cz)) ⟨w.heap.size,1,aJ⟩ (aA c.am 2 c.cm)) ⟨w.heap.size,2,aJ⟩ (aB aI (h.aAh:Int))) ⟨w.heap.size,3,aJ⟩ (aA c.al c.lc.length c.cl)) ⟨w.heap.size,4,aJ⟩ (aA c.av h.live.length c.cv));have H:w.heap.size<=w.heap.size:=gT _;have HB4:=gO (gS (gS (gS (gS (gS HB3.out w.heap.size 0 H (aA c.az 2 c.cz)) w.heap.size 1 H (aA c.am 2 c.cm)) w.heap.size 2 H (aB aI (h.aAh:Int))) w.heap.size 3 H (aA c.al c.lc.length c.cl)) w.heap.size 4 H (aA c.av h.live.length c.cv));have qG:w.heap.size+1<(((((w3.setCell ⟨w.heap.size,0,aJ⟩ (aA c.az 2 c.cz)).setCell ⟨w.heap.size,1,aJ⟩ (aA c.am 2 c.cm)).setCell ⟨w.heap.size,2,aJ⟩ (aB aI (h.aAh:Int))).setCell ⟨w.heap.size,3,aJ⟩ (aA c.al c.lc.length c.cl)).setCell ⟨w.heap.size,4,aJ⟩ (aA c.av h.live.length c.cv)).heap.size:=by have:=M.size;simp;omega
 clear l m p n j f10 f11 f12 f13 f14 Bq FV K2b F2b HS4 M HB3;generalize (((((w3.setCell _ _).setCell _ _).setCell _ _).setCell _ _).setCell _ _)=w4 at*;have f:(λk=>k<w2.heap.size/\k≠w.heap.size) (w.heap.size+1):=⟨W,A⟩
 have Z:=YO flags;obtain⟨t,ht⟩:∃t,mP flags=t:=⟨_,rfl⟩
 rw[ht]at Z ⊢;have HTT:=gO ht;clear ht;have hX0:(λk=>k<w2.heap.size/\k≠w.heap.size) 1:=⟨by omega,by omega⟩
 have HO4:Hid (sS w4):=HO.out.mono HB4.out (gT _);refine(FQ w.heap.size cpu order t flags (λk=>k<w2.heap.size/\k≠w.heap.size) h c w4 Ie.out HK.out hc hor Z hf HO4.out hX0).mono ?_;rintro ev w5 (⟨U,rfl,V,T⟩ | ⟨h',a,b,N,rfl,V,T⟩)
 ·have HN1:=gO U;have x:=gO V;have P:=gO T;clear U V T;obtain⟨hkd,_,hsd,hld,hvd⟩:=HK.out.drain;have HKD:=gO hkd;have hcd:cpu<h.drain.aAh:=by rw[hsd.aAh];exact hc
  have HVD:=gO hvd;clear hkd hsd hld hvd;go_wp2_with fail
  refine(Ov w.heap.size (λk=>k<w2.heap.size/\k≠w.heap.size) h c w5 x.out HK.out).mono ?_;rintro ev Q ⟨rfl,⟨c6,hs6⟩,sf6⟩;have u:=gO hs6;have J:=gO (P.out.trans sf6);clear hs6 sf6 x P;have HO6:Hid (sS Q):=HO4.out.safe J.out hX0;go_wp2_with fail
  refine(FQ w.heap.size cpu order t flags (λk=>k<w2.heap.size/\k≠w.heap.size) h.drain c6 Q u.out HKD.out hcd hor Z hf HO6.out hX0).mono ?_;rintro ev w7 (⟨U,rfl,hs7,Y⟩ | ⟨h',a,b,N,rfl,hs7,Y⟩)
  ·have HN2:=gO U;have s:=gO (J.out.trans Y);have z:=s.out.box K2c.out qG f;have F:=s.out.Xe F2c.out qG f;have L:=gO (Safe.after HB4.out s.out (B:=w.heap.size) (λk hk=>⟨by omega,by omega⟩) (by omega));have d:w.heap.size<=w.heap.size+1:=Nat.le_succ _;have jA:=gO (gS (gS (gS (gS (gS L.out (w.heap.size+1) 0 d (aA aJ 0 0)) (w.heap.size+1) 1 d (aA aJ 0 0)) (w.heap.size+1) 2 d (aB aI 0)) (w.heap.size+1) 3 d (aA aJ 0 0)) (w.heap.size+1) 4 d (aA aJ 0 0));have KX:=(aAr (aAr (aAr (aAr (aAr z 0 (aA aJ 0 0)) 1 (aA aJ 0 0)) 2 (aB aI 0)) 3 (aA aJ 0 0)) 4 (aA aJ 0 0))
   have l:=z 0;have m:=z 1;have p:=z 2;have n:=z 3;have j:=z 4;have f10:=F 0;have f11:=F 1;have f12:=F 2;have f13:=F 3;have f14:=F 4;simp only[gB,gC,gD]at l m p n j;have HAN:Hid (h.alloc cpu order t (decide (flags/8%2=1)) (decide (flags%2=1))=aJ):=by
    unfold Hid Hp.alloc;rw[HN1.out];simp only;rw[HN2.out]
   clear U hs7 Y;go_wp2
   generalize (((((w7.setCell _ _).setCell _ _).setCell _ _).setCell _ _).setCell _ _)=wx at*;change ∀o,wx.cell? ⟨w.heap.size+1,o,aJ⟩=(#[aA aJ 0 0,aA aJ 0 0,aB aI 0,aA aJ 0 0,aA aJ 0 0]:Array Value)[o]? at KX;refine bodyPost_ret (v:=aG #[aC #[aA aJ 0 0,aA aJ 0 0,aB aI 0,aA aJ 0 0,aA aJ 0 0],aB aI 0,aB aI 6]) (by simp[results,results52,go_sem,KX]) rfl ⟨jA.out,.inl ⟨by rw[HTT.out];exact HAN.out,rfl⟩⟩
  ·have hT:=HKD.out.attempt hcd hor Z N;have HT:=gO hT;have x:=gO hs7;have P:=gO (J.out.trans Y);have HNV:Hid (h'.live.length<=1000):=by unfold Hid;rw[hT.live,HVD.out];exact HLV.out
   have Ef:Hid (h.alloc cpu order t (decide (flags/8%2=1)) (decide (flags%2=1))=aK ({h' with live:=bI h'.live ⟨a,order,t⟩},a)):=by
    unfold Hid Hp.alloc;rw[HN1.out];simp only;rw[N]
   clear hs7 Y N hT u J;have YP:h'.live.length<=1000:=HNV.out;have ha5:a<=1000:=by have:=HT.out.fit.2.2.1;omega
   obtain⟨q0,q1,q2,q3,q4⟩:=x.out.words;have hB5:w.heap.size<w7.heap.size:=x.out.r.gs;go_wp2_with fail
   refine(KN _ _ _ _ _ _ _ _ _ _ _ _ _ h' a w7 x.out.r.at HT.out.ok YP ha5).mono ?_;rintro ev C ⟨rfl,hb7⟩;have u:=gO (x.out.below hb7);have J:=gO (P.out.then hb7);clear q0 q1 q2 q3 q4 hB5 hb7;obtain⟨q0,q1,q2,q3,q4⟩:=u.out.words;have aJD:w.heap.size<C.heap.size:=u.out.r.gs;obtain⟨I,hI⟩:∃I,lb h'.live a=I:=⟨_,rfl⟩
   have VL:I<=h'.live.length:=by rw[<- hI];exact mD _ _
   have HI:=gO hI;rw[hI];clear hI;have i:=gO (u.out.below (aAq C (aO #[aB aI (a:Int),aB aI (order:Int),aB aI (t:Int)] 82)));have S:=gO (J.out.then (aAq C (aO #[aB aI (a:Int),aB aI (order:Int),aB aI (t:Int)] 82)));have HGB:Hid ((C.alloc (aO #[aB aI (a:Int),aB aI (order:Int),aB aI (t:Int)] 82)).heap[C.heap.size]? =aK (aO #[aB aI (a:Int),aB aI (order:Int),aB aI (t:Int)] 82 (0,0))):=heap_alloc_new C _;have HNB:Hid (aK C.heap.size≠gTh (aA b.av h'.live.length b.cv)):=λe=>by
    have:=(u.out.r.own.lt _ (jW b h') _ e.symm).2;omega
   go_wp2_with fail
   generalize C.alloc _=w8 at*;refine(FW 0 b.av h'.live.length b.cv C.heap.size I h'.live ⟨a,order,t⟩ w8 i.out.r.lv VL YP (gU _) HGB.out HNB.out).mono ?_;rintro ev w9x ⟨uK,cv',rfl,K,E,R⟩;have y:h'.live.take I++⟨a,order,t⟩::h'.live.drop I=bI h'.live ⟨a,order,t⟩:=by unfold bI;rw[HI.out]
   have q:(bI h'.live ⟨a,order,t⟩).length=h'.live.length+1:=by rw[<- y];simp;omega
   rw[y]at K;obtain⟨D,O⟩:=i.out.away E (uK:=uK) (cv':=cv') (v':=bI h'.live ⟨a,order,t⟩) (by rw[q];exact K) (by rw[q];exact R);have X:w.heap.size<w8.heap.size:=i.out.r.gs;have yM:Hid (aK w.heap.size≠gTh (aA b.av h'.live.length b.cv)):=λe=>(i.out.r.og _ (jW b h') _ e.symm).1 rfl
   have r4:=(bD i.out.k X E yM.out 4).trans (show _=aK (aA b.av h'.live.length b.cv)from rfl);have g4:=bG i.out.fz X E yM.out 4;rw[q]at D O;have HS9:=gO D;have s:=gO (S.out.trans O);obtain⟨p0,p1,p2,p3,p4⟩:=D.words;rw[q]at p4;have z:=s.out.box K2c.out qG f;have F:=s.out.Xe F2c.out qG f;have L:=gO (Safe.after HB4.out s.out (B:=w.heap.size) (λk hk=>⟨by omega,by omega⟩) (by omega));have d:w.heap.size<=w.heap.size+1:=Nat.le_succ _;have oI:=gO (((((HS9.out.far f 0 (aA b.az 2 b.cz)).far f 1 (aA b.am 2 b.cm)).far f 2 (aB aI (h'.aAh:Int))).far f 3 (aA b.al b.lc.length b.cl)).far f 4 (aA uK (h'.live.length+1) cv'));have jA:=gO (gS (gS (gS (gS (gS L.out (w.heap.size+1) 0 d (aA b.az 2 b.cz)) (w.heap.size+1) 1 d (aA b.am 2 b.cm)) (w.heap.size+1) 2 d (aB aI (h'.aAh:Int))) (w.heap.size+1) 3 d (aA b.al b.lc.length b.cl)) (w.heap.size+1) 4 d (aA uK (h'.live.length+1) cv'));have KX:=(aAr (aAr (aAr (aAr (aAr z 0 (aA b.az 2 b.cz)) 1 (aA b.am 2 b.cm)) 2 (aB aI (h'.aAh:Int))) 3 (aA b.al b.lc.length b.cl)) 4 (aA uK (h'.live.length+1) cv'))
   have l:=z 0;have m:=z 1;have p:=z 2;have n:=z 3;have j:=z 4;have f10:=F 0;have f11:=F 1;have f12:=F 2;have f13:=F 3;have f14:=F 4;simp only[gB,gC,gD]at l m p n j;have Lr:=gO q;clear D O K E R HS9 s i S y q L;go_wp2
   generalize ((((((w9x.setCell _ _).setCell _ _).setCell _ _).setCell _ _).setCell _ _).setCell _ _)=wx at*;change ∀o,wx.cell? ⟨w.heap.size+1,o,aJ⟩=(#[aA b.az 2 b.cz,aA b.am 2 b.cm,aB aI (h'.aAh:Int),aA b.al b.lc.length b.cl,aA uK (h'.live.length+1) cv']:Array Value)[o]? at KX;refine bodyPost_ret (v:=aG #[aC #[aA b.az 2 b.cz,aA b.am 2 b.cm,aB aI (h'.aAh:Int),aA b.al b.lc.length b.cl,aA uK (h'.live.length+1) cv'],aB aI (a:Int),aB aI 0]) (by simp[results,results52,go_sem,KX]) rfl ⟨jA.out,.inr ⟨_,a,_,by rw[HTT.out];exact Ef.out,?_,oI.out.r.sub (λk hk=>⟨by omega,by omega⟩)⟩⟩;unfold Hc.vals;simp only[Lr.out]
 ·have hT:=HK.out.attempt hc hor Z N;have HT:=gO hT;have x:=gO V;have P:=gO T;have HNV:Hid (h'.live.length<=1000):=by unfold Hid;rw[hT.live];exact HLV.out
  have Ef:Hid (h.alloc cpu order t (decide (flags/8%2=1)) (decide (flags%2=1))=aK ({h' with live:=bI h'.live ⟨a,order,t⟩},a)):=by
   unfold Hid Hp.alloc;rw[N]
  clear V T N hT;have YP:h'.live.length<=1000:=HNV.out;have ha5:a<=1000:=by have:=HT.out.fit.2.2.1;omega
  obtain⟨q0,q1,q2,q3,q4⟩:=x.out.words;have hB5:w.heap.size<w5.heap.size:=x.out.r.gs;go_wp2_with fail
  refine(KN _ _ _ _ _ _ _ _ _ _ _ _ _ h' a w5 x.out.r.at HT.out.ok YP ha5).mono ?_;rintro ev Q ⟨rfl,hb6⟩;have u:=gO (x.out.below hb6);have J:=gO (P.out.then hb6);clear q0 q1 q2 q3 q4 hB5 hb6;obtain⟨q0,q1,q2,q3,q4⟩:=u.out.words;have aJD:w.heap.size<Q.heap.size:=u.out.r.gs;obtain⟨I,hI⟩:∃I,lb h'.live a=I:=⟨_,rfl⟩
  have VL:I<=h'.live.length:=by rw[<- hI];exact mD _ _
  have HI:=gO hI;rw[hI];clear hI;have i:=gO (u.out.below (aAq Q (aO #[aB aI (a:Int),aB aI (order:Int),aB aI (t:Int)] 82)));have S:=gO (J.out.then (aAq Q (aO #[aB aI (a:Int),aB aI (order:Int),aB aI (t:Int)] 82)));have HGB:Hid ((Q.alloc (aO #[aB aI (a:Int),aB aI (order:Int),aB aI (t:Int)] 82)).heap[Q.heap.size]? =aK (aO #[aB aI (a:Int),aB aI (order:Int),aB aI (t:Int)] 82 (0,0))):=heap_alloc_new Q _;have HNB:Hid (aK Q.heap.size≠gTh (aA b.av h'.live.length b.cv)):=λe=>by
   have:=(u.out.r.own.lt _ (jW b h') _ e.symm).2;omega
  go_wp2_with fail
  generalize Q.alloc _=w7 at*;refine(FW 0 b.av h'.live.length b.cv Q.heap.size I h'.live ⟨a,order,t⟩ w7 i.out.r.lv VL YP (gU _) HGB.out HNB.out).mono ?_;rintro ev w8 ⟨uK,cv',rfl,K,E,R⟩;have y:h'.live.take I++⟨a,order,t⟩::h'.live.drop I=bI h'.live ⟨a,order,t⟩:=by unfold bI;rw[HI.out]
  have q:(bI h'.live ⟨a,order,t⟩).length=h'.live.length+1:=by rw[<- y];simp;omega
  rw[y]at K;obtain⟨D,O⟩:=i.out.away E (uK:=uK) (cv':=cv') (v':=bI h'.live ⟨a,order,t⟩) (by rw[q];exact K) (by rw[q];exact R);have X:w.heap.size<w7.heap.size:=i.out.r.gs;have yM:Hid (aK w.heap.size≠gTh (aA b.av h'.live.length b.cv)):=λe=>(i.out.r.og _ (jW b h') _ e.symm).1 rfl
  have r4:=(bD i.out.k X E yM.out 4).trans (show _=aK (aA b.av h'.live.length b.cv)from rfl);have g4:=bG i.out.fz X E yM.out 4;rw[q]at D O;have HS9:=gO D;have s:=gO (S.out.trans O);obtain⟨p0,p1,p2,p3,p4⟩:=D.words;rw[q]at p4;have z:=s.out.box K2c.out qG f;have F:=s.out.Xe F2c.out qG f;have L:=gO (Safe.after HB4.out s.out (B:=w.heap.size) (λk hk=>⟨by omega,by omega⟩) (by omega));have d:w.heap.size<=w.heap.size+1:=Nat.le_succ _;have oI:=gO (((((HS9.out.far f 0 (aA b.az 2 b.cz)).far f 1 (aA b.am 2 b.cm)).far f 2 (aB aI (h'.aAh:Int))).far f 3 (aA b.al b.lc.length b.cl)).far f 4 (aA uK (h'.live.length+1) cv'));have jA:=gO (gS (gS (gS (gS (gS L.out (w.heap.size+1) 0 d (aA b.az 2 b.cz)) (w.heap.size+1) 1 d (aA b.am 2 b.cm)) (w.heap.size+1) 2 d (aB aI (h'.aAh:Int))) (w.heap.size+1) 3 d (aA b.al b.lc.length b.cl)) (w.heap.size+1) 4 d (aA uK (h'.live.length+1) cv'));have KX:=(aAr (aAr (aAr (aAr (aAr z 0 (aA b.az 2 b.cz)) 1 (aA b.am 2 b.cm)) 2 (aB aI (h'.aAh:Int))) 3 (aA b.al b.lc.length b.cl)) 4 (aA uK (h'.live.length+1) cv'))
  have l:=z 0;have m:=z 1;have p:=z 2;have n:=z 3;have j:=z 4;have f10:=F 0;have f11:=F 1;have f12:=F 2;have f13:=F 3;have f14:=F 4;simp only[gB,gC,gD]at l m p n j;have Lr:=gO q;clear D O K E R HS9 s i S y q L;go_wp2
  generalize ((((((w8.setCell _ _).setCell _ _).setCell _ _).setCell _ _).setCell _ _).setCell _ _)=wx at*;change ∀o,wx.cell? ⟨w.heap.size+1,o,aJ⟩=(#[aA b.az 2 b.cz,aA b.am 2 b.cm,aB aI (h'.aAh:Int),aA b.al b.lc.length b.cl,aA uK (h'.live.length+1) cv']:Array Value)[o]? at KX;refine bodyPost_ret (v:=aG #[aC #[aA b.az 2 b.cz,aA b.am 2 b.cm,aB aI (h'.aAh:Int),aA b.al b.lc.length b.cl,aA uK (h'.live.length+1) cv'],aB aI (a:Int),aB aI 0]) (by simp[results,results52,go_sem,KX]) rfl ⟨jA.out,.inr ⟨_,a,_,by rw[HTT.out];exact Ef.out,?_,oI.out.r.sub (λk hk=>⟨by omega,by omega⟩)⟩⟩;unfold Hc.vals;simp only[Lr.out]
end Go.Proofs.YtjaogfhcnmjkiaaGreatDoor
