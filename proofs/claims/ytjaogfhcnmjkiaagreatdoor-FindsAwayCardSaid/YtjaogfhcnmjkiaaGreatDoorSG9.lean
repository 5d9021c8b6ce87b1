/- joined. -/
import Derived.Test.YtjaogfhcnmjkiaaGreatDoorSG5
import Derived.Deep.AppendLies
set_option linter.all false
set_option maxRecDepth 100000
set_option maxHeartbeats 0
namespace Go.Proofs.YtjaogfhcnmjkiaaGreatDoor
open Go.RowKit
open Go.Value renaming slice->aA,int->aB,agg->aC,string->aF,tuple->aG,pointer->aH,ownBlock->gTh
open Go.IntKind renaming i64->aI
open Option renaming none->aJ,some->aK
open Go.Ending renaming returned->aN
open Go.Obj renaming cells->aO
open Go.Proofs.Tryz
section
attribute [local go_sem ↓] iW
theorem Aw:(prog.info? 99).map (λi=>(i.zero,i.size,i.bytes))=aK (aK (aC #[aB aI 0,aB aI 0,aB aI 0]),3,24):=by kernel_rfl
theorem xZ (l:List (Sl)):∀u∈flat aY l,u.oneCell'=true:=by
 intro u a;simp only[flat,List.mem_flatMap]at a;obtain⟨r,_,b⟩:=a;simp only[aY,gY,List.not_mem_nil,or_false]at b;rcases b with rfl | rfl | rfl <;> rfl
theorem aAR (w:World):(zeroValue 99).run prog w= .ok (aC #[aB aI 0,aB aI 0,aB aI 0]) w:=by
 obtain⟨i,a,b,c,hb⟩:=info_parts Aw;simp[zeroValue,typeInfo,a,b]
theorem Vx (base:Nat)(a:Option Addr)(n c:Nat)(l:List Sl)(i:Nat)(w:World)(hown:w.ownsRow base 99 3 (aA a n c) n (flat aY l))(hi:i<n)(hn:n<=1000)(hbase:base<=w.heap.size):
 Calls prog 122 #[aA a n c,aB aI i,aB aI (i+1)] w λev w'=>ev=aN (aA a (n-1) c)/\w'.ownsRow base 99 3 (aA a (n-1) c) (n-1) (flat aY (l.eraseIdx i))/\w.grownBy w' (gTh (aA a n c)):=by
 have z:l.length=n:=aZ aAv (by decide) hown;have I:=dR hown;have q:c<=9223372036854775807:=by
  rcases hown.2 with ⟨v,O⟩ | ⟨g,y,H,v,_,_,_,q,_⟩
  ·simp at v;omega
  ·have:c=y:=by simp at v;exact v.2
   unfold maxLen at q;omega
 have C:=gO hown;clear hown;have S:(i:Int)<=n:=by omega
 have M:(i:Int)+1<=n:=by omega
 have V:(i:Int)<=c:=by omega
 have R:(i:Int)+1<=c:=by omega
 have W:(n:Int)<=c:=by omega
 have N:(0:Int)<=(i:Int)+1:=by omega
 have Q:((i:Int)+1).toNat=i+1:=by omega
 go_enter func122,ntmps122
 go_wp2_with fail
 go_still_tail 6,(by kernel_rfl)
 change wpList _ _ _ _ _ w.drew;have p:=own_below C.out ((gX w.heap.size w).drew) (gT _);have m:=(aV p).cut (i+1) c 3 ((n-(i+1))*3) (by omega);have t:=flat_length aAv l;rw[gTf (by rw[gTd,t];omega),fD aAv]at m;have j:=iY p (show i<=n by omega);rw[fC aAv]at j;have G:Hid (∀w',w.drew.grownBy w' (gTh (aA a i c))->w.grownBy w' (gTh (aA a n c))):=λw' h=>⟨h.os,h.tape,h.output,h.size,λk u o=>h.block k u (by cases a with | none=>simp[gTh] | some x=>simpa[gTh]using o)⟩
 have D:w.drew.heap.size=w.heap.size:=rfl;clear p;generalize w.drew=L at*;refine qQ rfl _ _ 65 rfl base 99 (aC #[aB aI 0,aB aI 0,aB aI 0]) 3 24 underlying65 Aw (by decide) a i c _ rfl j (bY a (i+1) c 3) (n-(i+1)) (c-(i+1)) (flat aY (l.drop (i+1))) rfl (by rw[flat_length aAv,gTd,z]) m (xZ _) (by omega) ?_;intro K b s;have d:=G.out K s;rw[<- aS,<- List.eraseIdx_eq_take_drop_succ]at b;have J:i+(n-(i+1))=n-1:=by omega
 rw[J]at b ⊢;have r:=gO b;have U:(n:Int)-1<=n:=by omega
 have X:((n-1:Nat):Int)<=n:=by omega
 have T:n-(n-1)=1:=by omega
 clear b s m j C t;obtain⟨E,F,f,e⟩:=Ep (P:=prog) 65 0 99 underlying65 3 (aC #[aB aI 0,aB aI 0,aB aI 0]) aAR rfl (by decide) base (n-1) 1 c (c-(n-1)) a _ r.out (by omega);have A:=gO f;have B:Hid (w.grownBy E (gTh (aA a n c))):=⟨e.os.trans d.os,e.tape.trans d.tape,e.output.trans d.output,gQ d.size e.size,λk u o=>(e.block k (gI u d.size) (by cases a with | none=>simp[gTh] | some x=>simpa[gTh]using o)).trans (d.block k u o)⟩
 clear f r d e;go_wp2
 go_ret
 exact⟨rfl,A.out,B.out⟩
theorem NY (base:Nat)(a:Option Addr)(n c g:Nat)(l:List Sl)(b:Sl)(w:World)(hown:w.ownsRow base 99 3 (aA a n c) n (flat aY l))(hn:n<=1000)(hbase:base<=w.heap.size)(hv:Row w (aK ⟨g,0,aJ⟩) (aY b)):
 Calls prog 177 #[aA a n c,aB aI n,aA (aK ⟨g,0,aJ⟩) 1 1] w λev w'=>∃a' c',ev=aN (aA a' (n+1) c')/\w'.ownsRow base 99 3 (aA a' (n+1) c') (n+1) (flat aY (l++[b]))/\w.grownBy w' (gTh (aA a n c))/\(∀k,(aA a' (n+1) c').ownBlock=aK k->(aA a n c).ownBlock=aK k∨w.heap.size<=k):=by
 have C:=dR hown;have v:=gO hown;clear hown;have G:(n:Int)<=c:=by omega
 obtain⟨D,o,m,r,s⟩:=info_parts Aw;have f:∀j u,(aY b)[j]? =aK u->w.cell? ((⟨g,0,aJ⟩:Addr).add j)=aK u:=λj u E=>by
  obtain⟨y,off,e,_,x⟩:=hv j u E;obtain⟨rfl,rfl⟩:g=y/\0=off:=by simpa using e
  rw[Addr.add_lit];exact x
 go_enter func177,ntmps177
 go_wp2_with (at_builtin;refine wpList_append_lies _ rfl _ _ 65 rfl base 99 D (aC #[aB aI 0,aB aI 0,aB aI 0]) 3 24 underlying65 o m r s rfl (by decide) _ n _ rfl v.out ⟨g,0,aJ⟩ 1 1 (aY b) rfl rfl f (by simp[aY,vI,Value.oneCell']) (by decide) (by unfold maxLen;omega) (by omega) hbase _ rfl ?_)
 intro B c' F d z i t;rw[show flat aY l++aY b=flat aY (l++[b])from by rw[aS,fJ]]at d;have p:=gO d;have q:=gO i;clear d v f i;go_wp2
 go_ret
 exact⟨_,c',rfl,p.out,z,λk A=>by
  obtain rfl:B=k:=by simpa[gTh]using A
  rcases q.out with h | h
  ·exact .inl h
  ·exact .inr (Nat.le_of_eq h.symm)⟩
theorem KI (base:Nat)(a:Option Addr)(n c g i:Nat)(l:List Sl)(b:Sl)(w:World)(hown:w.ownsRow base 99 3 (aA a n c) n (flat aY l))(hi:i<n)(hn:n<=1000)(hc:c<n+1)(hbase:base<=w.heap.size)(hv:Row w (aK ⟨g,0,aJ⟩) (aY b)):
 Calls prog 177 #[aA a n c,aB aI i,aA (aK ⟨g,0,aJ⟩) 1 1] w λev w'=>∃a' c',ev=aN (aA a' (n+1) c')/\w'.ownsRow base 99 3 (aA a' (n+1) c') (n+1) (flat aY (l.take i++b::l.drop i))/\w.grownBy w' (gTh (aA a n c))/\(∀k,(aA a' (n+1) c').ownBlock=aK k->(aA a n c).ownBlock=aK k∨w.heap.size<=k):=by
 have U:=dR hown;have J:l.length=n:=aZ aAv (by decide) hown;have L:=flat_length aAv l;obtain⟨G,zs,X,u,F,d,x⟩:=wL (P:=prog) 65 3 65 99 underlying65 underlying3 (aC #[aB aI 0,aB aI 0,aB aI 0]) 3 24 Aw rfl (by decide) a i c _ base (iY hown (show i<=n by omega)) (n+1-i) (by omega) (by omega) (by omega) (by omega);rw[show i+(n+1-i)=n+1 by omega]at u d;rw[show((n+1-i:Nat):Int)=(n:Int)+1-(i:Int)by omega]at u;rw[fC aAv]at d;have HR:=gO (aV hown);have V:=dR d;have B:=gO d;have C:=gO x;have t:=gO ((gX w.heap.size w).grown x (gT _) (by simp));have b0:(i:Int)<=n:=by omega
 have b2:(i:Int)<=c:=by omega
 have b3:¬(i:Int)=n:=by omega
 have b4:(c:Int)<(n:Int)+1:=by omega
 have Y:(i:Int)<=(n:Int)+1:=by omega
 have Z:((n+1:Nat):Int)<=G:=by omega
 have A:(prog.info? 99).map (·.size)=aK 3:=by kernel_rfl
 have z:=hv.mono t.out (gT _);have q:(flat aY (l.take i)).length=i*3:=by rw[flat_length aAv,gTc];omega
 have E:bY (aK ⟨w.heap.size,0,aJ⟩) i G 3=(aK ⟨w.heap.size,0,aJ⟩:Option Addr).map (·.add (i*3)):=by unfold bY;rw[if_neg (by omega)]
 have K:bY (aK ⟨w.heap.size,0,aJ⟩) (i+1) G 3=(aK ⟨w.heap.size,0,aJ⟩:Option Addr).map (·.add ((i+1)*3)):=by unfold bY;rw[if_neg (by omega)]
 obtain⟨D,N,e,f⟩:=jM (P:=prog) 65 65 3 99 underlying65 3 A (bY (aK ⟨w.heap.size,0,aJ⟩) i G 3) (aK ⟨g,0,aJ⟩) (n+1-i) (G-i) 1 1 (aY b) (by rw[show Nat.min 1 (n+1-i)=1 from Nat.min_eq_left (by omega)];rfl) z (by simp[aY,vI,Value.oneCell']) w.heap.size (n+1) G i (aK ⟨w.heap.size,0,aJ⟩) _ B.out (λ_=>E) (λh=>by rw[E]at h;simp at h) (by rw[aAv];omega);rw[aAv,List.take_left' q,<- Nat.succ_mul]at e;have o:(flat aY (l.take i)++zs).drop ((i+1)*3)=zs.drop 3:=by rw[List.drop_append,List.drop_eq_nil_of_le (by omega),q,List.nil_append];congr 1;omega
 rw[Nat.succ_eq_add_one,o]at e;have r:=(t.out.grown f t.out.size (by intro k s;simp[gTh]at s;omega)).drew;have O:=own_below e ((gX D.heap.size D).drew) (gT _);have p:=((aV hown).mono r (gT _)).cut i c 3 ((n-i)*3) (by omega);rw[gTf (by rw[gTd,L];omega),fD aAv]at p;have y:(flat aY (l.drop i)).length=(n-i)*3:=by rw[flat_length aAv,gTd,J]
 obtain⟨S,M,j,m⟩:=jM (P:=prog) (w:=D.drew) 65 65 3 99 underlying65 3 A (bY (aK ⟨w.heap.size,0,aJ⟩) (i+1) G 3) (bY a i c 3) (n-i) (G-(i+1)) (n-i) (c-i) (flat aY (l.drop i)) (by rw[y,show Nat.min (n-i) (n-i)=n-i from Nat.min_self _]) p (xZ _) w.heap.size (n+1) G (i+1) (aK ⟨w.heap.size,0,aJ⟩) _ O (λ_=>K) (λh=>by rw[K]at h;simp at h) (by rw[y];omega);rw[show(flat aY (l.take i)++aY b++zs.drop 3).take ((i+1)*3)=flat aY (l.take i)++aY b from List.take_left' (by rw[gTb,q,aAv];omega),y,show(flat aY (l.take i)++aY b++zs.drop 3).drop ((i+1)*3+(n-i)*3)=[]from List.drop_eq_nil_of_le (by simp only[gTb,q,aAv,gTd,F];omega),List.append_nil,<- fJ aY b,<- aS,<- aS,List.append_assoc,List.singleton_append]at j;have H:=gO (own_base j hbase);have I:Hid (w.grownBy S (gTh (aA a n c))):=by
  have v:=C.out;refine⟨m.os.trans (f.os.trans v.os),m.tape.trans (f.tape.trans v.tape),m.output.trans (f.output.trans v.output),gQ v.size (gQ f.size m.size),λk s R=> ?_⟩;have Q:aK k≠gTh (aA (aK ⟨w.heap.size,0,aJ⟩) (n+1) G):=by simp[gTh];omega
  exact(m.block k (gI s (gQ v.size f.size)) Q).trans ((f.block k (gI s v.size) Q).trans (v.block k s (by simp)))
 have b7:((i:Int)+1)<=G:=by omega
 have s1:IntKind.i64.wrap ((i:Int)+1)=(i:Int)+1:=IntWalk.i64_in _ (by omega);have b8:0<=(i:Int)+1:=by omega
 have b9:((i:Int)+1).toNat=i+1:=by omega
 have T:(i:Int)+1<=(n:Int)+1:=by omega
 clear hown e O j x f m d p z r B HR C o E K;go_enter func177,ntmps177
 go_wp2_with (at_builtin;refine kM rfl _ _ 65 3 rfl _ _ rfl rfl u ?_)
 go_still_tail 8,(by kernel_rfl)
 change wpList _ _ _ _ _ D.drew;generalize D.drew=W at*;go_wp2
 go_ret
 exact⟨_,_,rfl,H.out,I.out,λk s=> .inr (by simp[gTh]at s;omega)⟩
theorem Hw (base:Nat)(a:Option Addr)(n c g i:Nat)(l:List Sl)(b:Sl)(w:World)(hown:w.ownsRow base 99 3 (aA a n c) n (flat aY l))(hi:i<n)(hn:n<=1000)(hc:n+1<=c)(hbase:base<=w.heap.size)(hgb:w.heap[g]? =aK (.cells (aY b).toArray 99 (0,0)))(hne:aK g≠gTh (aA a n c))(hv:Row w (aK ⟨g,0,aJ⟩) (aY b)):
 Calls prog 177 #[aA a n c,aB aI i,aA (aK ⟨g,0,aJ⟩) 1 1] w λev w'=>∃a' c',ev=aN (aA a' (n+1) c')/\w'.ownsRow base 99 3 (aA a' (n+1) c') (n+1) (flat aY (l.take i++b::l.drop i))/\w.grownBy w' (gTh (aA a n c))/\(∀k,(aA a' (n+1) c').ownBlock=aK k->(aA a n c).ownBlock=aK k∨w.heap.size<=k):=by
 have L:l.length=n:=aZ aAv (by decide) hown;have u:=flat_length aAv l;obtain⟨d,s,rfl,E,C,v⟩:∃d s,a=aK ⟨d,0,aJ⟩/\w.heap[d]? =aK (.cells s 99 (0,0))/\s.size=c*3/\c<=maxLen:=by
  rcases hown.2 with ⟨S,h2⟩ | ⟨d,I,s,S,_,Y,_,v,hs,_⟩
  ·omega
  ·obtain⟨rfl,rfl⟩:a=aK ⟨d,0,aJ⟩/\c=I:=by simpa using S
   exact⟨d,s,rfl,Y,hs,v⟩
 have M:g≠d:=λe=>hne (by rw[e];rfl)
 have hcut:∀j,j<=n->bY (aK ⟨d,0,aJ⟩) j c 3=(aK ⟨d,0,aJ⟩:Option Addr).map (·.add (j*3)):=λj hj=>by unfold bY;rw[if_neg (by omega)]
 have R:bY (aK ⟨d,0,aJ⟩) (i+1) c 3=aK ⟨d,(i+1)*3,aJ⟩:=by rw[hcut _ (by omega)];simp[Addr.add_lit]
 have B:(prog.info? 99).map (·.size)=aK 3:=by kernel_rfl
 have G:(callFunc 185 #[aA (aK ⟨g,0,aJ⟩) 1 1,aA (bY (aK ⟨d,0,aJ⟩) (i+1) c 3) (n-i) (c-(i+1))]).run prog w= .ok (.value (.bool false)) w:=by
  rw[R,run_callFunc_extern func185 (by kernel_rfl) (by kernel_rfl) (by kernel_rfl) (e:=Extern.SlicesOverlaps.overlaps #[65,65] #[4]) (by kernel_rfl),
   Lib.run_overlaps_apart w 65 4 99 underlying65 3 Tryz.sizeOf99 ⟨g,0,aJ⟩ ⟨d,(i+1)*3,aJ⟩ 1 1 _ _ M 99 99 3 (c*3) (by simp[World.shape?,hgb,aY]) (by simp[World.shape?,E,C]) (by omega) (by simp[World.frozen?,hgb]) (by simp[World.frozen?,hgb])]
  rfl
 obtain⟨y,H,r⟩:=wH hown (show n<=n+1 by omega) hc;rw[show(n+1-n)*3=3 by omega]at H;have x:(flat aY (l.drop i)).length=(n-i)*3:=by rw[flat_length aAv,gTd,L]
 have Z:(flat aY (l.take i)).length=i*3:=by rw[flat_length aAv,gTc];omega
 have z:Below w.heap.size w w.drew:=(gX w.heap.size w).drew;have p:=own_below r z (gT _);have t:=((aV hown).below z).cut i c 3 ((n-i)*3) (by omega);rw[gTf (by rw[gTd,u];omega),fD aAv]at t;obtain⟨w2,O,o,f⟩:=jM (P:=prog) (w:=w.drew) 65 65 3 99 underlying65 3 B (bY (aK ⟨d,0,aJ⟩) (i+1) c 3) (bY (aK ⟨d,0,aJ⟩) i c 3) (n-i) (c-(i+1)) (n+1-i) (c-i) (flat aY (l.drop i)) (by rw[x,show Nat.min (n+1-i) (n-i)=n-i from Nat.min_eq_right (by omega)]) t (xZ _) base (n+1) c (i+1) (aK ⟨d,0,aJ⟩) _ p (λ_=>hcut _ (by omega)) (λh=>by rw[hcut _ (by omega)]at h;simp at h) (by rw[x];omega);have Q:((flat aY l++y).take ((i+1)*3)++flat aY (l.drop i)++(flat aY l++y).drop ((i+1)*3+(flat aY (l.drop i)).length))=(flat aY l++y).take ((i+1)*3)++flat aY (l.drop i):=by
  rw[show(flat aY l++y).drop ((i+1)*3+(flat aY (l.drop i)).length)=[]from List.drop_eq_nil_of_le (by rw[gTb,u,x];omega),List.append_nil]
 rw[Q]at o;have U:((flat aY l++y).take ((i+1)*3)).length=(i+1)*3:=by rw[gTc,gTb,u];omega
 have A:=sN (hv.below z) f hne;obtain⟨W,N,m,q⟩:=jM (P:=prog) (w:=w2) 65 65 3 99 underlying65 3 B (bY (aK ⟨d,0,aJ⟩) i c 3) (aK ⟨g,0,aJ⟩) (n+1-i) (c-i) 1 1 (aY b) (by rw[show Nat.min 1 (n+1-i)=1 from Nat.min_eq_left (by omega)];rfl) A (by simp[aY,vI,Value.oneCell']) base (n+1) c i (aK ⟨d,0,aJ⟩) _ o (λ_=>hcut _ (by omega)) (λh=>by rw[hcut _ (by omega)]at h;simp at h) (by rw[aAv];omega);have T:((flat aY l++y).take ((i+1)*3)++flat aY (l.drop i)).take (i*3)++aY b++((flat aY l++y).take ((i+1)*3)++flat aY (l.drop i)).drop (i*3+(aY b).length)=flat aY (l.take i++b::l.drop i):=by
  rw[aAv,show i*3+3=(i+1)*3 by omega,List.drop_left' U,List.take_append_of_le_length (by rw[U];omega),List.take_take,show min (i*3) ((i+1)*3)=i*3 by omega,List.take_append_of_le_length (by rw[u];omega),fC aAv,aS,dS,List.append_assoc]
 rw[T]at m;have J:=gO m;have K:Hid (w.grownBy W (gTh (aA (aK ⟨d,0,aJ⟩) n c))):=
  ⟨q.os.trans f.os,q.tape.trans f.tape,q.output.trans f.output,gQ f.size q.size,λk F D=>(q.block k (gI F f.size) D).trans (f.block k F D)⟩
 have b0:(i:Int)<=n:=by omega
 have b2:(i:Int)<=c:=by omega
 have b3:¬(i:Int)=n:=by omega
 have b4:¬(c:Int)<(n:Int)+1:=by omega
 have b5:(i:Int)<=(n:Int)+1:=by omega
 have b6:(n:Int)+1<=c:=by omega
 have b7:((i:Int)+1)<=c:=by omega
 have s1:IntKind.i64.wrap ((i:Int)+1)=(i:Int)+1:=IntWalk.i64_in _ (by omega);have b8:0<=(i:Int)+1:=by omega
 have b9:((i:Int)+1).toNat=i+1:=by omega
 have X:(i:Int)+1<=(n:Int)+1:=by omega
 have V:((n:Int)+1).toNat=n+1:=by omega
 have b12:c<=9223372036854775807:=by unfold maxLen at v;omega
 clear hown r p t o m f q Q T hv A hcut R E hgb C;go_enter func177,ntmps177
 go_wp2_with (simp only[G])
 go_still_tail 8,(by kernel_rfl)
 change wpList _ _ _ _ _ w.drew;go_wp2
 go_ret
 exact⟨_,_,rfl,J.out,K.out,λk F=> .inl F⟩
theorem Vy (base:Nat)(a:Option Addr)(n c g i:Nat)(l:List Sl)(b:Sl)(w:World)(hown:w.ownsRow base 99 3 (aA a n c) n (flat aY l))(hi:i<=n)(hn:n<=1000)(hbase:base<=w.heap.size)(hgb:w.heap[g]? =aK (.cells (aY b).toArray 99 (0,0)))(hne:aK g≠gTh (aA a n c)):
 Calls prog 177 #[aA a n c,aB aI i,aA (aK ⟨g,0,aJ⟩) 1 1] w λev w'=>∃a' c',ev=aN (aA a' (n+1) c')/\w'.ownsRow base 99 3 (aA a' (n+1) c') (n+1) (flat aY (l.take i++b::l.drop i))/\w.grownBy w' (gTh (aA a n c))/\(∀k,(aA a' (n+1) c').ownBlock=aK k->(aA a n c).ownBlock=aK k∨w.heap.size<=k):=by
 have d:g<w.heap.size:=(Array.getElem?_eq_some_iff.1 hgb).1;have e:Row w (aK ⟨g,0,aJ⟩) (aY b):=by
  intro j v m;exact⟨g,0,rfl,d,by rw[Nat.zero_add,cell_of_row _ _ _ _ _ _ hgb];simpa using m⟩
 have f:l.length=n:=aZ aAv (by decide) hown;by_cases h:i=n
 ·subst h;have:=NY base a i c g l b w hown hn hbase e;rw[gTf (by omega),List.drop_eq_nil_of_le (by omega)];exact this
 ·by_cases o:n+1<=c
  ·exact Hw base a n c g i l b w hown (by omega) hn o hbase hgb hne e
  ·exact KI base a n c g i l b w hown (by omega) hn (by omega) hbase e
end
section
attribute [local go_sem ↓] iW
theorem Rh:(prog.info? 9).map (λi=>(i.zero,i.size,i.bytes))=aK (aK (.string ByteArray.empty),1,16):=by kernel_rfl
theorem Fe (l:List (List UInt8)):∀u∈flat encS l,u.oneCell'=true:=by
 intro u a;simp only[flat,List.mem_flatMap]at a;obtain⟨r,_,b⟩:=a;simp only[encS,gY,List.not_mem_nil,or_false]at b;rcases b with rfl <;> rfl
theorem NZ (base:Nat)(a:Option Addr)(n c g:Nat)(l:List (List UInt8))(b:List UInt8)(w:World)(hown:w.ownsRow base 9 1 (aA a n c) n (flat encS l))(hn:n<=1000)(hbase:base<=w.heap.size)(hv:Row w (aK ⟨g,0,aJ⟩) (encS b)):
 Calls prog 102 #[aA a n c,aB aI n,aA (aK ⟨g,0,aJ⟩) 1 1] w λev w'=>∃a' c',ev=aN (aA a' (n+1) c')/\w'.ownsRow base 9 1 (aA a' (n+1) c') (n+1) (flat encS (l++[b]))/\w.grownBy w' (gTh (aA a n c))/\(∀k,(aA a' (n+1) c').ownBlock=aK k->(aA a n c).ownBlock=aK k∨w.heap.size<=k):=by
 have C:=dR hown;have v:=gO hown;clear hown;have G:(n:Int)<=c:=by omega
 obtain⟨D,o,m,r,s⟩:=info_parts Rh;have f:∀j u,(encS b)[j]? =aK u->w.cell? ((⟨g,0,aJ⟩:Addr).add j)=aK u:=λj u E=>by
  obtain⟨y,off,e,_,x⟩:=hv j u E;obtain⟨rfl,rfl⟩:g=y/\0=off:=by simpa using e
  rw[Addr.add_lit];exact x
 go_enter func102,ntmps102
 go_wp2_with (at_builtin;refine wpList_append_lies _ rfl _ _ 64 rfl base 9 D (.string ByteArray.empty) 1 16 underlying64 o m r s rfl (by decide) _ n _ rfl v.out ⟨g,0,aJ⟩ 1 1 (encS b) rfl rfl f (by simp[encS,sV,Value.oneCell']) (by decide) (by unfold maxLen;omega) (by omega) hbase _ rfl ?_)
 intro B c' F d z i t;rw[show flat encS l++encS b=flat encS (l++[b])from by rw[aS,fJ]]at d;have p:=gO d;have q:=gO i;clear d v f i;go_wp2
 go_ret
 exact⟨_,c',rfl,p.out,z,λk A=>by
  obtain rfl:B=k:=by simpa[gTh]using A
  rcases q.out with h | h
  ·exact .inl h
  ·exact .inr (Nat.le_of_eq h.symm)⟩
theorem KJ (base:Nat)(a:Option Addr)(n c g i:Nat)(l:List (List UInt8))(b:List UInt8)(w:World)(hown:w.ownsRow base 9 1 (aA a n c) n (flat encS l))(hi:i<n)(hn:n<=1000)(hc:c<n+1)(hbase:base<=w.heap.size)(hv:Row w (aK ⟨g,0,aJ⟩) (encS b)):
 Calls prog 102 #[aA a n c,aB aI i,aA (aK ⟨g,0,aJ⟩) 1 1] w λev w'=>∃a' c',ev=aN (aA a' (n+1) c')/\w'.ownsRow base 9 1 (aA a' (n+1) c') (n+1) (flat encS (l.take i++b::l.drop i))/\w.grownBy w' (gTh (aA a n c))/\(∀k,(aA a' (n+1) c').ownBlock=aK k->(aA a n c).ownBlock=aK k∨w.heap.size<=k):=by
 have U:=dR hown;have J:l.length=n:=aZ bF (by decide) hown;have L:=flat_length bF l;obtain⟨G,zs,X,u,F,d,x⟩:=wL (P:=prog) 64 3 64 9 underlying64 underlying3 (.string ByteArray.empty) 1 16 Rh rfl (by decide) a i c _ base (iY hown (show i<=n by omega)) (n+1-i) (by omega) (by omega) (by omega) (by omega);rw[show i+(n+1-i)=n+1 by omega]at u d;rw[show((n+1-i:Nat):Int)=(n:Int)+1-(i:Int)by omega]at u;rw[fC bF]at d;have HR:=gO (aV hown);have V:=dR d;have B:=gO d;have C:=gO x;have t:=gO ((gX w.heap.size w).grown x (gT _) (by simp));have b0:(i:Int)<=n:=by omega
 have b2:(i:Int)<=c:=by omega
 have b3:¬(i:Int)=n:=by omega
 have b4:(c:Int)<(n:Int)+1:=by omega
 have Y:(i:Int)<=(n:Int)+1:=by omega
 have Z:((n+1:Nat):Int)<=G:=by omega
 have A:(prog.info? 9).map (·.size)=aK 1:=by kernel_rfl
 have z:=hv.mono t.out (gT _);have q:(flat encS (l.take i)).length=i*1:=by rw[flat_length bF,gTc];omega
 have E:bY (aK ⟨w.heap.size,0,aJ⟩) i G 1=(aK ⟨w.heap.size,0,aJ⟩:Option Addr).map (·.add (i*1)):=by unfold bY;rw[if_neg (by omega)]
 have K:bY (aK ⟨w.heap.size,0,aJ⟩) (i+1) G 1=(aK ⟨w.heap.size,0,aJ⟩:Option Addr).map (·.add ((i+1)*1)):=by unfold bY;rw[if_neg (by omega)]
 obtain⟨D,N,e,f⟩:=jM (P:=prog) 64 64 3 9 underlying64 1 A (bY (aK ⟨w.heap.size,0,aJ⟩) i G 1) (aK ⟨g,0,aJ⟩) (n+1-i) (G-i) 1 1 (encS b) (by rw[show Nat.min 1 (n+1-i)=1 from Nat.min_eq_left (by omega)];rfl) z (by simp[encS,sV,Value.oneCell']) w.heap.size (n+1) G i (aK ⟨w.heap.size,0,aJ⟩) _ B.out (λ_=>E) (λh=>by rw[E]at h;simp at h) (by rw[bF];omega);rw[bF,List.take_left' q,<- Nat.succ_mul]at e;have o:(flat encS (l.take i)++zs).drop ((i+1)*1)=zs.drop 1:=by rw[List.drop_append,List.drop_eq_nil_of_le (by omega),q,List.nil_append];congr 1;omega
 rw[Nat.succ_eq_add_one,o]at e;have r:=(t.out.grown f t.out.size (by intro k s;simp[gTh]at s;omega)).drew;have O:=own_below e ((gX D.heap.size D).drew) (gT _);have p:=((aV hown).mono r (gT _)).cut i c 1 ((n-i)*1) (by omega);rw[gTf (by rw[gTd,L];omega),fD bF]at p;have y:(flat encS (l.drop i)).length=(n-i)*1:=by rw[flat_length bF,gTd,J]
 obtain⟨S,M,j,m⟩:=jM (P:=prog) (w:=D.drew) 64 64 3 9 underlying64 1 A (bY (aK ⟨w.heap.size,0,aJ⟩) (i+1) G 1) (bY a i c 1) (n-i) (G-(i+1)) (n-i) (c-i) (flat encS (l.drop i)) (by rw[y,show Nat.min (n-i) (n-i)=n-i from Nat.min_self _]) p (Fe _) w.heap.size (n+1) G (i+1) (aK ⟨w.heap.size,0,aJ⟩) _ O (λ_=>K) (λh=>by rw[K]at h;simp at h) (by rw[y];omega);rw[show(flat encS (l.take i)++encS b++zs.drop 1).take ((i+1)*1)=flat encS (l.take i)++encS b from List.take_left' (by rw[gTb,q,bF];omega),y,show(flat encS (l.take i)++encS b++zs.drop 1).drop ((i+1)*1+(n-i)*1)=[]from List.drop_eq_nil_of_le (by simp only[gTb,q,bF,gTd,F];omega),List.append_nil,<- fJ encS b,<- aS,<- aS,List.append_assoc,List.singleton_append]at j;have H:=gO (own_base j hbase);have I:Hid (w.grownBy S (gTh (aA a n c))):=by
  have v:=C.out;refine⟨m.os.trans (f.os.trans v.os),m.tape.trans (f.tape.trans v.tape),m.output.trans (f.output.trans v.output),gQ v.size (gQ f.size m.size),λk s R=> ?_⟩;have Q:aK k≠gTh (aA (aK ⟨w.heap.size,0,aJ⟩) (n+1) G):=by simp[gTh];omega
  exact(m.block k (gI s (gQ v.size f.size)) Q).trans ((f.block k (gI s v.size) Q).trans (v.block k s (by simp)))
 have b7:((i:Int)+1)<=G:=by omega
 have s1:IntKind.i64.wrap ((i:Int)+1)=(i:Int)+1:=IntWalk.i64_in _ (by omega);have b8:0<=(i:Int)+1:=by omega
 have b9:((i:Int)+1).toNat=i+1:=by omega
 have T:(i:Int)+1<=(n:Int)+1:=by omega
 clear hown e O j x f m d p z r B HR C o E K;go_enter func102,ntmps102
 go_wp2_with (at_builtin;refine kM rfl _ _ 64 3 rfl _ _ rfl rfl u ?_)
 go_still_tail 8,(by kernel_rfl)
 change wpList _ _ _ _ _ D.drew;generalize D.drew=W at*;go_wp2
 go_ret
 exact⟨_,_,rfl,H.out,I.out,λk s=> .inr (by simp[gTh]at s;omega)⟩
theorem Hy (base:Nat)(a:Option Addr)(n c g i:Nat)(l:List (List UInt8))(b:List UInt8)(w:World)(hown:w.ownsRow base 9 1 (aA a n c) n (flat encS l))(hi:i<n)(hn:n<=1000)(hc:n+1<=c)(hbase:base<=w.heap.size)(hgb:w.heap[g]? =aK (.cells (encS b).toArray 9 (0,0)))(hne:aK g≠gTh (aA a n c))(hv:Row w (aK ⟨g,0,aJ⟩) (encS b)):
 Calls prog 102 #[aA a n c,aB aI i,aA (aK ⟨g,0,aJ⟩) 1 1] w λev w'=>∃a' c',ev=aN (aA a' (n+1) c')/\w'.ownsRow base 9 1 (aA a' (n+1) c') (n+1) (flat encS (l.take i++b::l.drop i))/\w.grownBy w' (gTh (aA a n c))/\(∀k,(aA a' (n+1) c').ownBlock=aK k->(aA a n c).ownBlock=aK k∨w.heap.size<=k):=by
 have L:l.length=n:=aZ bF (by decide) hown;have u:=flat_length bF l;obtain⟨d,s,rfl,E,C,v⟩:∃d s,a=aK ⟨d,0,aJ⟩/\w.heap[d]? =aK (.cells s 9 (0,0))/\s.size=c*1/\c<=maxLen:=by
  rcases hown.2 with ⟨S,h2⟩ | ⟨d,I,s,S,_,Y,_,v,hs,_⟩
  ·omega
  ·obtain⟨rfl,rfl⟩:a=aK ⟨d,0,aJ⟩/\c=I:=by simpa using S
   exact⟨d,s,rfl,Y,hs,v⟩
 have M:g≠d:=λe=>hne (by rw[e];rfl)
 have hcut:∀j,j<=n->bY (aK ⟨d,0,aJ⟩) j c 1=(aK ⟨d,0,aJ⟩:Option Addr).map (·.add (j*1)):=λj hj=>by unfold bY;rw[if_neg (by omega)]
 have R:bY (aK ⟨d,0,aJ⟩) (i+1) c 1=aK ⟨d,(i+1)*1,aJ⟩:=by rw[hcut _ (by omega)];simp[Addr.add_lit]
 have B:(prog.info? 9).map (·.size)=aK 1:=by kernel_rfl
 have G:(callFunc 132 #[aA (aK ⟨g,0,aJ⟩) 1 1,aA (bY (aK ⟨d,0,aJ⟩) (i+1) c 1) (n-i) (c-(i+1))]).run prog w= .ok (.value (.bool false)) w:=by
  rw[R,run_callFunc_extern func132 (by kernel_rfl) (by kernel_rfl) (by kernel_rfl) (e:=Extern.SlicesOverlaps.overlaps #[64,64] #[4]) (by kernel_rfl),
   Lib.run_overlaps_apart w 64 4 9 underlying64 1 Tryz.sizeOf9 ⟨g,0,aJ⟩ ⟨d,(i+1)*1,aJ⟩ 1 1 _ _ M 9 9 1 (c*1) (by simp[World.shape?,hgb,encS]) (by simp[World.shape?,E,C]) (by omega) (by simp[World.frozen?,hgb]) (by simp[World.frozen?,hgb])]
  rfl
 obtain⟨y,H,r⟩:=wH hown (show n<=n+1 by omega) hc;rw[show(n+1-n)*1=1 by omega]at H;have x:(flat encS (l.drop i)).length=(n-i)*1:=by rw[flat_length bF,gTd,L]
 have Z:(flat encS (l.take i)).length=i*1:=by rw[flat_length bF,gTc];omega
 have z:Below w.heap.size w w.drew:=(gX w.heap.size w).drew;have p:=own_below r z (gT _);have t:=((aV hown).below z).cut i c 1 ((n-i)*1) (by omega);rw[gTf (by rw[gTd,u];omega),fD bF]at t;obtain⟨w2,O,o,f⟩:=jM (P:=prog) (w:=w.drew) 64 64 3 9 underlying64 1 B (bY (aK ⟨d,0,aJ⟩) (i+1) c 1) (bY (aK ⟨d,0,aJ⟩) i c 1) (n-i) (c-(i+1)) (n+1-i) (c-i) (flat encS (l.drop i)) (by rw[x,show Nat.min (n+1-i) (n-i)=n-i from Nat.min_eq_right (by omega)]) t (Fe _) base (n+1) c (i+1) (aK ⟨d,0,aJ⟩) _ p (λ_=>hcut _ (by omega)) (λh=>by rw[hcut _ (by omega)]at h;simp at h) (by rw[x];omega);have Q:((flat encS l++y).take ((i+1)*1)++flat encS (l.drop i)++(flat encS l++y).drop ((i+1)*1+(flat encS (l.drop i)).length))=(flat encS l++y).take ((i+1)*1)++flat encS (l.drop i):=by
  rw[show(flat encS l++y).drop ((i+1)*1+(flat encS (l.drop i)).length)=[]from List.drop_eq_nil_of_le (by rw[gTb,u,x];omega),List.append_nil]
 rw[Q]at o;have U:((flat encS l++y).take ((i+1)*1)).length=(i+1)*1:=by rw[gTc,gTb,u];omega
 have A:=sN (hv.below z) f hne;obtain⟨W,N,m,q⟩:=jM (P:=prog) (w:=w2) 64 64 3 9 underlying64 1 B (bY (aK ⟨d,0,aJ⟩) i c 1) (aK ⟨g,0,aJ⟩) (n+1-i) (c-i) 1 1 (encS b) (by rw[show Nat.min 1 (n+1-i)=1 from Nat.min_eq_left (by omega)];rfl) A (by simp[encS,sV,Value.oneCell']) base (n+1) c i (aK ⟨d,0,aJ⟩) _ o (λ_=>hcut _ (by omega)) (λh=>by rw[hcut _ (by omega)]at h;simp at h) (by rw[bF];omega);have T:((flat encS l++y).take ((i+1)*1)++flat encS (l.drop i)).take (i*1)++encS b++((flat encS l++y).take ((i+1)*1)++flat encS (l.drop i)).drop (i*1+(encS b).length)=flat encS (l.take i++b::l.drop i):=by
  rw[bF,show i*1+1=(i+1)*1 by omega,List.drop_left' U,List.take_append_of_le_length (by rw[U];omega),List.take_take,show min (i*1) ((i+1)*1)=i*1 by omega,List.take_append_of_le_length (by rw[u];omega),fC bF,aS,dS,List.append_assoc]
 rw[T]at m;have J:=gO m;have K:Hid (w.grownBy W (gTh (aA (aK ⟨d,0,aJ⟩) n c))):=
  ⟨q.os.trans f.os,q.tape.trans f.tape,q.output.trans f.output,gQ f.size q.size,λk F D=>(q.block k (gI F f.size) D).trans (f.block k F D)⟩
 have b0:(i:Int)<=n:=by omega
 have b2:(i:Int)<=c:=by omega
 have b3:¬(i:Int)=n:=by omega
 have b4:¬(c:Int)<(n:Int)+1:=by omega
 have b5:(i:Int)<=(n:Int)+1:=by omega
 have b6:(n:Int)+1<=c:=by omega
 have b7:((i:Int)+1)<=c:=by omega
 have s1:IntKind.i64.wrap ((i:Int)+1)=(i:Int)+1:=IntWalk.i64_in _ (by omega);have b8:0<=(i:Int)+1:=by omega
 have b9:((i:Int)+1).toNat=i+1:=by omega
 have X:(i:Int)+1<=(n:Int)+1:=by omega
 have V:((n:Int)+1).toNat=n+1:=by omega
 have b12:c<=9223372036854775807:=by unfold maxLen at v;omega
 clear hown r p t o m f q Q T hv A hcut R E hgb C;go_enter func102,ntmps102
 go_wp2_with (simp only[G])
 go_still_tail 8,(by kernel_rfl)
 change wpList _ _ _ _ _ w.drew;go_wp2
 go_ret
 exact⟨_,_,rfl,J.out,K.out,λk F=> .inl F⟩
theorem Yk (base:Nat)(a:Option Addr)(n c g i:Nat)(l:List (List UInt8))(b:List UInt8)(w:World)(hown:w.ownsRow base 9 1 (aA a n c) n (flat encS l))(hi:i<=n)(hn:n<=1000)(hbase:base<=w.heap.size)(hgb:w.heap[g]? =aK (.cells (encS b).toArray 9 (0,0)))(hne:aK g≠gTh (aA a n c)):
 Calls prog 102 #[aA a n c,aB aI i,aA (aK ⟨g,0,aJ⟩) 1 1] w λev w'=>∃a' c',ev=aN (aA a' (n+1) c')/\w'.ownsRow base 9 1 (aA a' (n+1) c') (n+1) (flat encS (l.take i++b::l.drop i))/\w.grownBy w' (gTh (aA a n c))/\(∀k,(aA a' (n+1) c').ownBlock=aK k->(aA a n c).ownBlock=aK k∨w.heap.size<=k):=by
 have d:g<w.heap.size:=(Array.getElem?_eq_some_iff.1 hgb).1;have e:Row w (aK ⟨g,0,aJ⟩) (encS b):=by
  intro j v m;exact⟨g,0,rfl,d,by rw[Nat.zero_add,cell_of_row _ _ _ _ _ _ hgb];simpa using m⟩
 have f:l.length=n:=aZ bF (by decide) hown;by_cases h:i=n
 ·subst h;have:=NZ base a i c g l b w hown hn hbase e;rw[gTf (by omega),List.drop_eq_nil_of_le (by omega)];exact this
 ·by_cases o:n+1<=c
  ·exact Hy base a n c g i l b w hown (by omega) hn o hbase hgb hne e
  ·exact KJ base a n c g i l b w hown (by omega) hn (by omega) hbase e
end
end Go.Proofs.YtjaogfhcnmjkiaaGreatDoor
