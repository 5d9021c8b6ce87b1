/- joined. -/
import Derived.Test.YtjaogfhcnmjkiaaGreatDoorAB8
set_option linter.all false
set_option maxRecDepth 100000
set_option maxHeartbeats 0
namespace Go.Proofs.YtjaogfhcnmjkiaaGreatDoor
open Go.RowKit
open Go.Value renaming slice->aA,int->aB,agg->aC,string->aF,tuple->aG,pointer->aH,ownBlock->gTh
open Go.IntKind renaming i64->aI
open Option renaming none->aJ,some->aK
open Go.Ending renaming returned->aN
open Go.Obj renaming cells->aO
open Go.Proofs.Tryz
section
attribute [local go_sem ↓] jP
theorem Ai:(prog.info? 99).map (λi=>(i.zero,i.size,i.bytes))=aK (aK (aC #[aB aI 0,aB aI 0,aB aI 0]),3,24):=by kernel_rfl
theorem BQ:Hu bQ 65 99 3 24 (aC #[aB aI 0,aB aI 0,aB aI 0]):=⟨aY,by decide,underlying65,Ai,by decide,rfl,λx=>by simp[bQ,vI,Value.oneCell'],by simp[Value.cells,Value.oneCell'],Tryz.sizeOf99⟩
theorem xY (l:List (Sl)):∀u∈flat bQ l,u.oneCell'=true:=BQ.ones l
theorem Vj (base:Nat)(a:Option Addr)(n c:Nat)(l:List (Sl))(i:Nat)(w:World)(hown:w.ownsRow base 99 3 (aA a n c) n (flat bQ l))(hi:i<n)(hn:n<=1000)(hbase:base<=w.heap.size):
 Calls prog 122 #[aA a n c,aB aI i,aB aI (i+1)] w λev w'=>ev=aN (aA a (n-1) c)/\w'.ownsRow base 99 3 (aA a (n-1) c) (n-1) (flat bQ (l.eraseIdx i))/\w.grownBy w' (gTh (aA a n c)):=by
 obtain⟨f,x,o,b,g,d,e⟩:=BQ.del hown hi;have h:=eU hown;obtain⟨r,_,_,_,m,p,_⟩:=rG hi hn;have k:(i:Int)+1<=n:=by omega
 have v:(i:Int)<=c:=by omega
 have q:(i:Int)+1<=c:=by omega
 have u:(n:Int)<=c:=by omega
 have t:(n:Int)-1<=n:=by omega
 have y:((n-1:Nat):Int)<=n:=by omega
 have s:n-(n-1)=1:=by omega
 clear hown;go_enter func122,ntmps122
 go_wp2_with fail
 go_still_tail 6,(by kernel_rfl)
 change wpList _ _ _ _ _ w.drew;generalize w.drew=j at*;refine lJ rfl _ _ 65 65 rfl _ _ rfl rfl b ?_;go_wp2
 go_ret
 exact⟨rfl,d.out,e.out⟩
theorem Vk (base:Nat)(a:Option Addr)(n c g i:Nat)(l:List (Sl))(b:Sl)(w:World)(hown:w.ownsRow base 99 3 (aA a n c) n (flat bQ l))(hi:i<=n)(hn:n<=1000)(hbase:base<=w.heap.size)(hgb:w.heap[g]? =aK (.cells (bQ b).toArray 99 (0,0)))(hne:aK g≠gTh (aA a n c)):
 Calls prog 177 #[aA a n c,aB aI i,aA (aK ⟨g,0,aJ⟩) 1 1] w λev w'=>∃a' c',ev=aN (aA a' (n+1) c')/\w'.ownsRow base 99 3 (aA a' (n+1) c') (n+1) (flat bQ (l.take i++b::l.drop i))/\w.grownBy w' (gTh (aA a n c))/\(∀k,(aA a' (n+1) c').ownBlock=aK k->(aA a n c).ownBlock=aK k∨w.heap.size<=k):=by
 obtain⟨Q,S,t,d⟩:=BQ.head hown hgb;have b2:(i:Int)<=c:=by omega
 by_cases V:i=n
 ·subst V;rw[gTf (by omega),List.drop_eq_nil_of_le (by omega)];obtain⟨U,y,u,B,D⟩:=info_parts BQ.info;have H:=gO hown;clear hown hgb t;go_enter func177,ntmps177
  go_wp2_with (at_builtin;refine wpList_append_lies _ rfl _ _ 65 rfl base 99 U _ 3 _ underlying65 y u B D BQ.zs (by decide) _ i _ rfl H.out ⟨g,0,aJ⟩ 1 1 (bQ b) rfl rfl d (BQ.one b) (by decide) (by unfold maxLen;omega) (by omega) hbase _ rfl ?_)
  intro R c' I f N j E;rw[show flat bQ l++bQ b=flat bQ (l++[b])from by rw[bG,iC]]at f;have z:=gO f;have A:=gO j;clear f H d j;go_wp2
  go_ret
  exact⟨_,c',rfl,z.out,N,λk s=>by
   obtain rfl:R=k:=by simpa[gTh]using s
   exact A.out.imp id λh=>Nat.le_of_eq h.symm⟩
 ·have p:i<n:=by omega
  obtain⟨b0,b3,Z,s1,b8,b9,M,J⟩:=rG p hn;by_cases Y:n+1<=c
  ·obtain⟨O,C,K,rfl,W,F,r,q,m,o⟩:=BQ.shift hown p hn Y hgb hne t;have v:(callFunc 185 #[aA (aK ⟨g,0,aJ⟩) 1 1,aA (dJ (aK ⟨O,0,aJ⟩) (i+1) c 3) (n-i) (c-(i+1))]).run prog w= .ok (.value (.bool false)) w:=by
    rw[run_callFunc_extern func185 (by kernel_rfl) (by kernel_rfl) (by kernel_rfl) (e:=Extern.SlicesOverlaps.overlaps #[65,65] #[4]) (by kernel_rfl),F];rfl
   have T:¬(c:Int)<(n:Int)+1:=by omega
   have L:(n:Int)+1<=c:=by omega
   have P:((i:Int)+1)<=c:=by omega
   clear hown hgb t F d;go_enter func177,ntmps177
   go_wp2_with (simp only[v])
   go_still_tail 8,(by kernel_rfl)
   change wpList _ _ _ _ _ w.drew;go_wp2
   go_ret
   exact⟨_,_,rfl,m.out,o.out,λk s=> .inl s⟩
  ·obtain⟨G,I,C,K,x,L,r,q,m,o⟩:=BQ.grow hown p hn (by omega) hbase t;have T:(c:Int)<(n:Int)+1:=by omega
   have P:((i:Int)+1)<=G:=by omega
   clear hown hgb t d;go_enter func177,ntmps177
   go_wp2_with (at_builtin;refine lJ rfl _ _ 65 3 rfl _ _ rfl rfl x ?_)
   go_still_tail 8,(by kernel_rfl)
   change wpList _ _ _ _ _ C.drew;generalize C.drew=X at*;go_wp2
   go_ret
   exact⟨_,_,rfl,m.out,o.out,λk s=> .inr (by simp[gTh]at s;omega)⟩
end
section
attribute [local go_sem ↓] jP
theorem QM:(prog.info? 9).map (λi=>(i.zero,i.size,i.bytes))=aK (aK (.string ByteArray.empty),1,16):=by kernel_rfl
theorem Ho:Hu encS 64 9 1 16 (.string ByteArray.empty):=⟨bW,by decide,underlying64,QM,by decide,rfl,λx=>by simp[encS,sV,Value.oneCell'],by simp[Value.cells,Value.oneCell'],Tryz.sizeOf9⟩
theorem EX (l:List (List UInt8)):∀u∈flat encS l,u.oneCell'=true:=Ho.ones l
theorem Yg (base:Nat)(a:Option Addr)(n c g i:Nat)(l:List (List UInt8))(b:List UInt8)(w:World)(hown:w.ownsRow base 9 1 (aA a n c) n (flat encS l))(hi:i<=n)(hn:n<=1000)(hbase:base<=w.heap.size)(hgb:w.heap[g]? =aK (.cells (encS b).toArray 9 (0,0)))(hne:aK g≠gTh (aA a n c)):
 Calls prog 102 #[aA a n c,aB aI i,aA (aK ⟨g,0,aJ⟩) 1 1] w λev w'=>∃a' c',ev=aN (aA a' (n+1) c')/\w'.ownsRow base 9 1 (aA a' (n+1) c') (n+1) (flat encS (l.take i++b::l.drop i))/\w.grownBy w' (gTh (aA a n c))/\(∀k,(aA a' (n+1) c').ownBlock=aK k->(aA a n c).ownBlock=aK k∨w.heap.size<=k):=by
 obtain⟨Q,S,t,d⟩:=Ho.head hown hgb;have b2:(i:Int)<=c:=by omega
 by_cases V:i=n
 ·subst V;rw[gTf (by omega),List.drop_eq_nil_of_le (by omega)];obtain⟨U,y,u,B,D⟩:=info_parts Ho.info;have H:=gO hown;clear hown hgb t;go_enter func102,ntmps102
  go_wp2_with (at_builtin;refine wpList_append_lies _ rfl _ _ 64 rfl base 9 U _ 1 _ underlying64 y u B D Ho.zs (by decide) _ i _ rfl H.out ⟨g,0,aJ⟩ 1 1 (encS b) rfl rfl d (Ho.one b) (by decide) (by unfold maxLen;omega) (by omega) hbase _ rfl ?_)
  intro R c' I f N j E;rw[show flat encS l++encS b=flat encS (l++[b])from by rw[bG,iC]]at f;have z:=gO f;have A:=gO j;clear f H d j;go_wp2
  go_ret
  exact⟨_,c',rfl,z.out,N,λk s=>by
   obtain rfl:R=k:=by simpa[gTh]using s
   exact A.out.imp id λh=>Nat.le_of_eq h.symm⟩
 ·have p:i<n:=by omega
  obtain⟨b0,b3,Z,s1,b8,b9,M,J⟩:=rG p hn;by_cases Y:n+1<=c
  ·obtain⟨O,C,K,rfl,W,F,r,q,m,o⟩:=Ho.shift hown p hn Y hgb hne t;have v:(callFunc 132 #[aA (aK ⟨g,0,aJ⟩) 1 1,aA (dJ (aK ⟨O,0,aJ⟩) (i+1) c 1) (n-i) (c-(i+1))]).run prog w= .ok (.value (.bool false)) w:=by
    rw[run_callFunc_extern func132 (by kernel_rfl) (by kernel_rfl) (by kernel_rfl) (e:=Extern.SlicesOverlaps.overlaps #[64,64] #[4]) (by kernel_rfl),F];rfl
   have T:¬(c:Int)<(n:Int)+1:=by omega
   have L:(n:Int)+1<=c:=by omega
   have P:((i:Int)+1)<=c:=by omega
   clear hown hgb t F d;go_enter func102,ntmps102
   go_wp2_with (simp only[v])
   go_still_tail 8,(by kernel_rfl)
   change wpList _ _ _ _ _ w.drew;go_wp2
   go_ret
   exact⟨_,_,rfl,m.out,o.out,λk s=> .inl s⟩
  ·obtain⟨G,I,C,K,x,L,r,q,m,o⟩:=Ho.grow hown p hn (by omega) hbase t;have T:(c:Int)<(n:Int)+1:=by omega
   have P:((i:Int)+1)<=G:=by omega
   clear hown hgb t d;go_enter func102,ntmps102
   go_wp2_with (at_builtin;refine lJ rfl _ _ 64 3 rfl _ _ rfl rfl x ?_)
   go_still_tail 8,(by kernel_rfl)
   change wpList _ _ _ _ _ C.drew;generalize C.drew=X at*;go_wp2
   go_ret
   exact⟨_,_,rfl,m.out,o.out,λk s=> .inr (by simp[gTh]at s;omega)⟩
end
end Go.Proofs.YtjaogfhcnmjkiaaGreatDoor
