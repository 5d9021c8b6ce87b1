/- joined. -/
import Derived.Test.YtjaogfhcnmjkiaaGreatDoorSG4
import Derived.Lib.ConvBytes
import Derived.StringKeys
import Derived.Lib.Strings
set_option linter.all false
set_option maxRecDepth 100000
set_option maxHeartbeats 0
namespace Go.Proofs.YtjaogfhcnmjkiaaGreatDoor
open Go.RowKit
open Go.Value renaming slice->aA,int->aB,agg->aC,string->aF,tuple->aG,pointer->aH,ownBlock->gTh
open Go.IntKind renaming i64->aI
open Option renaming none->aJ,some->aK
open Go.Ending renaming returned->aN
open Go.Obj renaming cells->aO
open Go.Proofs.Tryz
variable {A vs:Array Value}{G g n o:Nat}{W w w':World}{b:Bool}{f:Nat->Bool}{l:List Int}{r x y:List UInt8}{rs:List Rs}{xs:List Value}
structure Sl where
 p:Nat
 n:Nat
 h:Int
deriving DecidableEq
structure Ca where
 ns:List (List UInt8)
 z:Nat
 r:Nat
 o:Nat
 sl:List Sl
 ac:List Int
deriving DecidableEq
structure Sy where
 w:List Int
 h:Hp
 cs:List Ca
deriving DecidableEq
def fG (k:Nat):Nat:=if 4<=16/k then 0 else if 4<=32/k then 1 else 2
def aAC (k:Nat):Nat:=16*2^fG k/k
def nameB (s:List UInt8):Bool:=decide (0<s.length/\s.length<=8)&&s.all λc=>decide ((97<=c/\c<=122)∨(48<=c/\c<=57))
def iC (c:Ca)(p:Nat)(a:Int):Bool:=decide (0<=a-16*p/\a-16*p<c.r*c.z/\(a-16*p)%c.z=0)
structure vV (s:Sy)(c:Ca)(x:Sl):Prop where
 live:∃b∈s.h.live,b.a=x.p/\b.o=c.o
 chain:∃l,follow s.w x.h c.r=aK l/\l.length=x.n/\∀a∈l,iC c x.p a=true
structure qJ (s:Sy)(c:Ca):Prop where
 z:1<=c.z/\c.z<=64
 o:c.o=fG c.z
 r:c.r=aAC c.z
 ns:c.ns≠[]
 nm:∀n∈c.ns,nameB n=true
 nr:c.ns.Pairwise λa b=>Go.Op.bytesLess a b=true
 ac:c.ac.length=s.h.aAh
 sr:c.sl.Pairwise λa b=>a.p<b.p
 sk:∀x∈c.sl,vV s c x
 aw:∀a∈c.ac,a= -1∨∃x∈c.sl,(x.p:Int)=a
 ad:c.ac.Pairwise λa b=>a=b->a= -1
structure bQ (s:Sy):Prop where
 wl:s.w.length=4096
 hk:eY s.h
 cl:s.cs.length<=20
 ck:∀c∈s.cs,qJ s c
 zd:s.cs.Pairwise λc d=>c.z≠d.z
 nd:s.cs.Pairwise λc d=>∀n∈c.ns,n∉d.ns
 pd:s.cs.Pairwise λc d=>∀x∈c.sl,∀y∈d.sl,x.p≠y.p
def Sy.named (s:Sy)(n:List UInt8):Option Nat:=s.cs.findIdx? λc=>c.ns.contains n
def Sy.fB (s:Sy)(i:Nat)(c:Ca):Sy:={s with cs:=s.cs.set i c}
def Ca.find (c:Ca)(p:Int):Option Nat:=c.sl.findIdx? λx=>decide ((x.p:Int)=p)
def Qz (l:List Sl)(p:Nat):Nat:=(l.takeWhile λx=>decide (x.p<p)).length
def pW (l:List Sl)(x:Sl):List Sl:=l.take (Qz l x.p)++x::l.drop (Qz l x.p)
def Sy.grow (s:Sy)(i cpu:Nat)(c:Ca):Option (Sy×Nat):=match s.h.alloc cpu c.o 0 false false with
 | some (h',a)=>aK ({w:=chainTo s.w (16*a) c.z c.r c.r,h:=h',cs:=s.cs.set i {c with sl:=pW c.sl ⟨a,c.r,((16*a:Nat):Int)⟩}},Qz c.sl a)
 | none=>aJ
def Ca.own (c:Ca)(cpu:Nat):Option Nat:=match c.find (c.ac.getD cpu (-1))with
 | some k=>match c.sl[k]? with
  | some x=>if 0<x.n then aK k else aJ
  | none=>aJ
 | none=>aJ
def Ca.nobody (c:Ca):Option Nat:=c.sl.findIdx? λx=>decide (0<x.n)&& !c.ac.contains (x.p:Int)
def Sy.mine (s:Sy)(i cpu k:Nat):Sy:=match s.cs[i]? with
 | some c=>match c.sl[k]? with
  | some x=>s.fB i {c with ac:=c.ac.set cpu (x.p:Int)}
  | none=>s
 | none=>s
def Sy.choose (s:Sy)(i cpu:Nat):Option (Sy×Nat):=match s.cs[i]? with
 | some c=>match c.own cpu with
  | some k=>aK (s,k)
  | none=>match c.nobody with
   | some k=>aK (s.mine i cpu k,k)
   | none=>match s.grow i cpu c with
    | some (s',k)=>aK (s'.mine i cpu k,k)
    | none=>aJ
 | none=>aJ
def Sy.pop (s:Sy)(i k:Nat):Option (Sy×Int):=match s.cs[i]? with
 | some c=>match c.sl[k]? with
  | some x=>aK (s.fB i {c with sl:=c.sl.set k ⟨x.p,x.n-1,s.w.getD x.h.toNat 0⟩},x.h)
  | none=>aJ
 | none=>aJ
def Sy.one (s:Sy)(i cpu:Nat):Option (Sy×Int):=match s.choose i cpu with
 | some (s',k)=>s'.pop i k
 | none=>aJ
def Sy.bulk (s:Sy)(i cpu:Nat):Nat->Option (Sy×List Int)
 | 0=>aK (s,[])
 | n+1=>match s.bulk i cpu n with
  | some (s',l)=>match s'.one i cpu with
   | some (t,a)=>aK (t,l++[a])
   | none=>aJ
  | none=>aJ
def Dk (l:List (List UInt8))(n:List UInt8):Nat:=(l.takeWhile λx=>Go.Op.bytesLess x n).length
def Sy.create (s:Sy)(n:List UInt8)(z:Nat):Option Sy:=match s.cs.findIdx? λc=>decide (c.z=z)with
 | some i=>match s.cs[i]? with
  | some c=>aK (s.fB i {c with ns:=c.ns.take (Dk c.ns n)++n::c.ns.drop (Dk c.ns n)})
  | none=>aJ
 | none=>if s.cs.length=20 then aJ else aK {s with cs:=s.cs++[⟨[n],z,aAC z,fG z,[],List.replicate s.h.aAh (-1)⟩]}
theorem aAH {k:Nat}:aAC k*k<=64:=by
 unfold aAC;refine gQ (Nat.div_mul_le_self _ _) ?_;have:fG k<=2:=by unfold fG;split <;> (try split) <;> omega
 rcases(show fG k=0∨fG k=1∨fG k=2 by omega)with h | h | h <;> rw[h] <;> decide
theorem Dq (xs:List Int)(most:Int):∀(f:Nat) (p:Int) (out l:List Int),(out.length:Int)<=most->jB xs most f p out=aK l->(l.length:Int)<=most
 | 0,_,_,_,_,h=>by simp[jB]at h
 | f+1,p,out,l,ho,h=>by
  unfold jB at h;split at h
  ·rw[<- gP h];exact ho
  ·split at h
   ·cases h
   ·rename_i h2;refine Dq xs most f _ _ l ?_ h;simp only[gTb,List.length_cons,List.length_nil];have:¬(most<=(out.length:Int)):=λa=>h2 (.inl a)
    omega
theorem QD {xs:List Int}{p most:Int}(hm:0<=most)(h:follow xs p most=aK l):(l.length:Int)<=most:=Dq xs most _ p [] l (by simpa using hm) h
theorem qJ.rz {s:Sy}{c:Ca}(h:qJ s c):c.r*c.z<=64:=by rw[h.r];exact aAH
theorem qJ.r64 {s:Sy}{c:Ca}(h:qJ s c):c.r<=64:=gQ (Nat.le_mul_of_pos_right _ h.z.1) h.rz
theorem vV.BM {s:Sy}{c:Ca}{x:Sl}(h:vV s c x)(hk:eY s.h):x.p<256:=by
 obtain⟨b,hb,a,_⟩:=h.live;have:=(hk.lv b hb).1.2.2.1;omega
theorem vV.QE {s:Sy}{c:Ca}{x:Sl}(h:vV s c x):x.n<=c.r:=by
 obtain⟨l,a,b,_⟩:=h.chain;have:=QD (by omega) a;omega
theorem jV {c:Ca}{p:Nat}{a:Int}(h:iC c p a=true):16*(p:Int)<=a/\a<16*p+c.r*c.z/\(a-16*p)%c.z=0:=by
 have:=of_decide_eq_true h;omega
theorem IQ:∀{l:List Sl} {k N:Nat},(l.Pairwise λa b=>a.p<b.p)->(∀x∈l,k<=x.p/\x.p<N)->l.length+k<=N∨l=[]
 | [],_,_,_,_=> .inr rfl
 | c::m,k,N,q1,q2=>by
  have q3:=List.pairwise_cons.1 q1;have e:=q2 c (by simp);rcases IQ (k:=c.p+1) (N:=N) q3.2 λx d=>⟨q3.1 x d,(q2 x (by simp[d])).2⟩with q5 | rfl
  ·simp only[List.length_cons];exact .inl (by omega)
  ·simp only[List.length_cons,List.length_nil];exact .inl (by omega)
theorem qJ.mW {s:Sy}{c:Ca}(h:qJ s c)(hk:eY s.h):c.sl.length<=256:=by
 rcases IQ (k:=0) (N:=256) h.sr λx a=>⟨gU _,(h.sk x a).BM hk⟩with h1 | h1
 ·omega
 ·rw[h1];exact gU _
def sV (l:List UInt8):Value:=aF ⟨l.toArray⟩
def encS (l:List UInt8):List Value:=[sV l]
theorem bF (l:List UInt8):(encS l).length=1:=rfl
theorem qA (hc:∀i v,(encS r)[i]? =aK v->w.cell? ⟨g,o+i,aJ⟩=aK v):w.cell? ⟨g,o,aJ⟩=aK (aF ⟨r.toArray⟩):=hc 0 _ rfl
def aY (x:Sl):List Value:=[vI x.p,vI x.n,vI x.h]
theorem aAv (x:Sl):(aY x).length=3:=rfl
theorem fV {b:Nat}{r:Sl}(hc:∀i v,(aY r)[i]? =aK v->w.cell? ⟨b,o+i,aJ⟩=aK v):w.cell? ⟨b,o,aJ⟩=aK (aB aI r.p)/\w.cell? ⟨b,o+1,aJ⟩=aK (aB aI r.n)/\w.cell? ⟨b,o+2,aJ⟩=aK (aB aI r.h):=⟨hc 0 _ rfl,hc 1 _ rfl,hc 2 _ rfl⟩
structure Cc where
 a1:Option Addr
 n1:Nat
 c1:Nat
 a2:Option Addr
 n2:Nat
 c2:Nat
 a3:Option Addr
 n3:Nat
 c3:Nat
 c:Ca
def dX (y:Cc):List Value:=[aA y.a1 y.n1 y.c1,vI y.c.z,vI y.c.r,vI y.c.o,aA y.a2 y.n2 y.c2,aA y.a3 y.n3 y.c3]
theorem eH (y:Cc):(dX y).length=6:=rfl
theorem kP {b:Nat}{y:Cc}(hc:∀i v,(dX y)[i]? =aK v->w.cell? ⟨b,o+i,aJ⟩=aK v):w.cell? ⟨b,o,aJ⟩=aK (aA y.a1 y.n1 y.c1)/\w.cell? ⟨b,o+1,aJ⟩=aK (aB aI y.c.z)/\w.cell? ⟨b,o+2,aJ⟩=aK (aB aI y.c.r)/\w.cell? ⟨b,o+3,aJ⟩=aK (aB aI y.c.o)/\w.cell? ⟨b,o+4,aJ⟩=aK (aA y.a2 y.n2 y.c2)/\w.cell? ⟨b,o+5,aJ⟩=aK (aA y.a3 y.n3 y.c3):=⟨hc 0 _ rfl,hc 1 _ rfl,hc 2 _ rfl,hc 3 _ rfl,hc 4 _ rfl,hc 5 _ rfl⟩
structure Ku (w:World)(y:Cc):Prop where
 l1:y.c.ns.length=y.n1
 l2:y.c.sl.length=y.n2
 l3:y.c.ac.length=y.n3
 r1:Row w y.a1 (flat encS y.c.ns)
 r2:Row w y.a2 (flat aY y.c.sl)
 r3:Row w y.a3 (y.c.ac.map vI)
 k1:y.n1<=y.c1
 k2:y.n2<=y.c2
 k3:y.n3<=y.c3
theorem Ku.below {y:Cc}(h:Ku w y)(hb:Below w.heap.size w w'):Ku w' y:=⟨h.l1,h.l2,h.l3,h.r1.below hb,h.r2.below hb,h.r3.below hb,h.k1,h.k2,h.k3⟩
theorem yY (c:Ca)(a1 a2 a3:Option Addr)(n1 c1 n2 c2 n3 c3 p:Nat)(a:Int)(w:World)(hz:1<=c.z)(hrz:c.r*c.z<=100000)(hp:p<=1000)(ha1: -1000000000000<=a)(ha2:a<=1000000000000):
 Calls prog 43 #[aC #[aA a1 n1 c1,aB aI c.z,aB aI c.r,aB aI c.o,aA a2 n2 c2,aA a3 n3 c3],aB aI p,aB aI a] w λev w'=>ev=aN (.bool (iC c p a))/\Below w.heap.size w w':=by
 have hb:=aAq w (aO #[aA a1 n1 c1,aB aI (c.z:Int),aB aI (c.r:Int),aB aI (c.o:Int),aA a2 n2 c2,aA a3 n3 c3] 67);have K:=aQ w #[aA a1 n1 c1,aB aI (c.z:Int),aB aI (c.r:Int),aB aI (c.o:Int),aA a2 n2 c2,aA a3 n3 c3] 67;have k1:=K 1;have k2:=K 2;simp only[gB,gC,gD]at k1 k2;have b:((c.r:Int)*(c.z:Int))=((c.r*c.z:Nat):Int):=by rw[Int.natCast_mul]
 have k:0<=(c.r:Int)*(c.z:Int):=by rw[b];omega
 have l:(c.r:Int)*(c.z:Int)<=100000:=by rw[b];omega
 clear b;have e:=gO hb;clear hb K;have j:((c.z:Int) == 0)=false:=by rw[beq_eq_false_iff_ne];omega
 by_cases d:0<=a-p*16
 ·by_cases g:a-p*16<(c.r:Int)*c.z
  ·have i:decide (0<=a-(p:Int)*16)=true:=gTg d;go_enter func43,ntmps43
   go_wp2_with fail
   go_ret
   refine⟨aX ?_,e.out⟩;unfold iC;rw[Int.mul_comm 16 (p:Int)];by_cases f:(a-(p:Int)*16)%(c.z:Int)=0
   ·rw[f,gTg ⟨d,g,rfl⟩];rfl
   ·rw[gV (λh=>f h.2.2)];exact beq_eq_false_iff_ne.2 f
  ·have i:decide (0<=a-(p:Int)*16)=true:=gTg d;go_enter func43,ntmps43
   go_wp2_with fail
   go_ret
   refine⟨aX ?_,e.out⟩;unfold iC;rw[Int.mul_comm 16 (p:Int)];symm;exact gV (λh=>absurd h.2.1 (Int.not_lt.2 g))
 ·have i:decide (0<=a-(p:Int)*16)=false:=gV d;go_enter func43,ntmps43
  go_wp2_with fail
  go_ret
  refine⟨aX ?_,e.out⟩;unfold iC;rw[Int.mul_comm 16 (p:Int)];symm;exact gV (λh=>absurd h.1 (Int.not_le.2 d))
theorem XR:∀x:List UInt8,Go.Op.bytesLess x x=false
 | []=>rfl
 | a::x=>by
  rw[Go.Op.bytesLess,XR x];simp
theorem ES:∀{x y z:List UInt8},Go.Op.bytesLess x y=true->Go.Op.bytesLess y z=true->Go.Op.bytesLess x z=true
 | [],[],_,h,_=>by simp[Go.Op.bytesLess]at h
 | [],_::_,[],_,h=>by simp[Go.Op.bytesLess]at h
 | [],_::_,_::_,_,_=>rfl
 | _::_,[],_,h,_=>by simp[Go.Op.bytesLess]at h
 | _::_,_::_,[],_,h=>by simp[Go.Op.bytesLess]at h
 | a::x,b::y,c::z,h,k=>by
  simp only[Go.Op.bytesLess,Bool.or_eq_true,Bool.and_eq_true,decide_eq_true_eq,beq_iff_eq,UInt8.lt_iff_toNat_lt]at h k ⊢;rcases h with h | ⟨rfl,h⟩
  ·rcases k with k | ⟨rfl,k⟩
   ·exact .inl (by omega)
   ·exact .inl h
  ·rcases k with k | ⟨rfl,k⟩
   ·exact .inl k
   ·exact .inr ⟨rfl,ES h k⟩
theorem aAK (h:Go.Op.bytesLess x y=b):Go.Op.bytesLess (ByteArray.mk x.toArray).toList (ByteArray.mk y.toArray).toList=b:=by
 rw[Go.Lib.toList_data,Go.Lib.toList_data];exact h
theorem Vb (w:World)(h:Go.Op.bytesLess x y=b):(binOp .geq 9 (.string ⟨x.toArray⟩) (.string ⟨y.toArray⟩)).run prog w= .ok (.bool (!b)) w:=by
 simp[binOp,Go.Op.stringOp];exact h
theorem QK:(prog.info? 4).map (λi=>(i.zero,i.size,i.bytes))=aK (aK (.bool false),1,1):=by kernel_rfl
theorem ET (w:World):(zeroValue 4).run prog w= .ok (.bool false) w:=by
 obtain⟨i,a,b,c,hb⟩:=info_parts QK;simp[zeroValue,typeInfo,a,b]
theorem sO {B:Nat}(hg:w.grownBy w' (aK B))(h1:n<=B)(h2:n<=w.heap.size):Below n w w':=
 ⟨hg.os,hg.tape,hg.output,hg.size,λk a=>hg.block k (by omega) (by simp;omega)⟩
theorem TG {B b:Nat}(hk:∀o,w.cell? ⟨b,o,aJ⟩=vs[o]?)(hg:w.grownBy w' (aK B))(hb:b<w.heap.size)(hne:b≠B)(o:Nat):w'.cell? ⟨b,o,aJ⟩=vs[o]? :=
 (World.cell?_of_block (w:=w) (a:=⟨b,o,aJ⟩) (hg.block b hb (by simp;exact hne))).trans (hk o)
section
variable {w:World}{B n:Nat}{S:Lit->Prop}
theorem NC (l:List UInt8)(hl:l.length<=1000):keyOf prog 9 (sV l)=aK (.string l):=by
 have h:=Go.WideMaps.keyOf_string_mk underlying9 (s:=ByteArray.mk l.toArray) (by unfold maxLen;show l.toArray.size<=_;simp;omega);simpa[sV]using h
theorem aB8 (p:Nat)(hp:p<=1000):keyOf prog 3 (.int .i64 (p:Int))=aK (.int .i64 (p:Int)):=
 Go.Maps.keyOf_int_mk underlying3 (by
  show(decide (IntKind.i64.min<=(p:Int))&&decide ((p:Int)<=IntKind.i64.max))=true;rw[show IntKind.i64.min= -9223372036854775808 from rfl,show IntKind.i64.max=9223372036854775807 from rfl];simp;omega)
theorem ND (h:fQ w prog 9 4 B n S)(l:List UInt8)(hl:l.length<=1000)(hno:¬S (.string l)):(Instr.lookup 92 (.map (aK B)) (sV l) false).run prog w= .ok (.bool false) w:=
 h.out (Go.Maps.string_keyed underlying9) underlying92 underlying4 (ET w) (NC l hl) trivial hno
theorem NG (h:fQ w prog 9 4 B n S)(hn:n<=1000000)(l:List UInt8)(hl:l.length<=1000):∃w',(Instr.mapUpdate 92 (.map (aK B)) (sV l) (.bool true)).run prog w= .ok () w'/\fQ w' prog 9 4 B (n+1) (λx=>x= .string l∨S x)/\w.grownBy w' (aK B):=
 h.put (Go.Maps.string_keyed underlying9) underlying92 underlying4 (by unfold maxLen;omega) (NC l hl) trivial
theorem XT (h:fQ w prog 3 4 B n S)(p:Nat)(hp:p<=1000)(hno:¬S (.int .i64 (p:Int))):(Instr.lookup 93 (.map (aK B)) (.int .i64 (p:Int)) false).run prog w= .ok (.bool false) w:=
 h.out (Go.Maps.int_keyed underlying3) underlying93 underlying4 (ET w) (aB8 p hp) trivial hno
theorem XU (h:fQ w prog 3 4 B n S)(hn:n<=1000000)(p:Nat)(hp:p<=1000):∃w',(Instr.mapUpdate 93 (.map (aK B)) (.int .i64 (p:Int)) (.bool true)).run prog w= .ok () w'/\fQ w' prog 3 4 B (n+1) (λx=>x= .int .i64 (p:Int)∨S x)/\w.grownBy w' (aK B):=
 h.put (Go.Maps.int_keyed underlying3) underlying93 underlying4 (by unfold maxLen;omega) (aB8 p hp) trivial
end
structure Hc where
 az:Option Addr
 cz:Nat
 am:Option Addr
 cm:Nat
 al:Option Addr
 cl:Nat
 av:Option Addr
 cv:Nat
 y0:Zc
 y1:Zc
 lc:List Lc
def Bv (c:Hc):Rs:=⟨79,4,aA c.az 2 c.cz,2,flat nK [c.y0,c.y1]⟩
def rW (c:Hc):Rs:=⟨160,4,aA c.al c.lc.length c.cl,c.lc.length,flat bP c.lc⟩
def Ap (c:Hc)(h:Hp):Rs:=⟨82,3,aA c.av h.live.length c.cv,h.live.length,flat aAx h.live⟩
def kQ (r:Lc):Rs:=⟨3,1,aA r.a r.n r.c,r.n,flat iF r.l.p⟩
def mnR (c:Hc)(h:Hp):Rs:=⟨3,1,aA c.am 2 c.cm,2,flat iF [h.m0,h.m1]⟩
def Vu (y:Zc):Rs:=⟨82,3,aA y.a1 y.n1 y.c1,y.n1,flat aAx y.z.l⟩
def Vw (y:Zc):Rs:=⟨3,1,aA y.a2 y.n2 y.c2,y.n2,flat iF y.z.y⟩
def Hc.rows (c:Hc)(h:Hp):List Rs:=Bv c::rW c::Ap c h::c.lc.map kQ
def Hc.reads (c:Hc)(h:Hp):List Rs:=[mnR c h,Vu c.y0,Vw c.y0,Vu c.y1,Vw c.y1]
def Hc.vals (c:Hc)(h:Hp):Array Value:=#[aA c.az 2 c.cz,aA c.am 2 c.cm,aB aI (h.aAh:Int),aA c.al c.lc.length c.cl,aA c.av h.live.length c.cv]
structure HR (W:World)(G:Nat)(X:Nat->Prop)(h:Hp)(c:Hc):Prop where
 own:dL W 0 (c.rows h)
 ro:∀r∈c.reads h,r.on W 0
 ds:∀r∈c.reads h,∀s∈c.rows h,r.off s
 og:∀r∈c.rows h,∀g,r.v.ownBlock=aK g->g≠G/\¬X g
 rg:∀r∈c.reads h,r.v.ownBlock≠aK G
 rx:∀r∈c.reads h,∀g,r.v.ownBlock=aK g->¬X g
 gs:G<W.heap.size
 xg:¬X G
 xs:∀k,X k->k<W.heap.size
 e0:c.y0.z=h.z0
 e1:c.y1.z=h.z1
 ll:c.lc.map Lc.l=h.ls
structure HS (W:World)(G:Nat)(X:Nat->Prop)(h:Hp)(c:Hc):Prop where
 r:HR W G X h c
 k:∀o,W.cell? ⟨G,o,aJ⟩=(c.vals h)[o]?
 fz:∀o,W.frozen? ⟨G,o,aJ⟩=false
theorem Yg {b:Nat}{y:Zc}(h:(Vu y).on W b):y.z.l.length=y.n1:=by
 have a:=h.1;unfold Vu at a;simp only at a;rw[flat_length aAu]at a;omega
theorem Yh {b:Nat}{y:Zc}(h:(Vw y).on W b):y.z.y.length=y.n2:=by
 have a:=h.1;unfold Vw at a;simp only at a;rw[flat_length bU]at a;omega
theorem zB {b:Nat}{y:Lc}(h:(kQ y).on W b):y.l.p.length=y.n:=by
 have a:=h.1;unfold kQ at a;simp only at a;rw[flat_length bU]at a;omega
section
variable {W W':World}{G:Nat}{X Y:Nat->Prop}{h:Hp}{c:Hc}
theorem HR.lI (hs:HR W G X h c):∀r∈c.lc,(kQ r).on W 0:=λr a=>hs.own.each _ (by
 unfold Hc.rows;exact List.mem_cons_of_mem _ (List.mem_cons_of_mem _ (List.mem_cons_of_mem _ (List.mem_map_of_mem a))))
theorem HR.zs (hs:HR W G X h c):(Bv c).on W 0:=hs.own.each _ (by simp[Hc.rows])
theorem HR.lsr (hs:HR W G X h c):(rW c).on W 0:=hs.own.each _ (by simp[Hc.rows])
theorem HR.lv (hs:HR W G X h c):(Ap c h).on W 0:=hs.own.each _ (by simp[Hc.rows])
theorem HR.mn (hs:HR W G X h c):(mnR c h).on W 0:=hs.ro _ (by simp[Hc.reads])
theorem HR.l0 (hs:HR W G X h c):(Vu c.y0).on W 0:=hs.ro _ (by simp[Hc.reads])
theorem HR.t0 (hs:HR W G X h c):(Vw c.y0).on W 0:=hs.ro _ (by simp[Hc.reads])
theorem HR.l1 (hs:HR W G X h c):(Vu c.y1).on W 0:=hs.ro _ (by simp[Hc.reads])
theorem HR.t1 (hs:HR W G X h c):(Vw c.y1).on W 0:=hs.ro _ (by simp[Hc.reads])
theorem HR.z0 (hs:HR W G X h c):JY W c.y0.a1 c.y0.a2 c.y0.n1 c.y0.n2 h.z0:=by
 rw[<- hs.e0];exact⟨Yg hs.l0,Yh hs.t0,aV hs.l0,aV hs.t0⟩
theorem HR.z1 (hs:HR W G X h c):JY W c.y1.a1 c.y1.a2 c.y1.n1 c.y1.n2 h.z1:=by
 rw[<- hs.e1];exact⟨Yg hs.l1,Yh hs.t1,aV hs.l1,aV hs.t1⟩
theorem HR.at (hs:HR W G X h c):HAt W c.az c.am c.al c.av c.lc.length h.live.length c.y0 c.y1 c.lc h:=
 ⟨aV hs.zs,aV hs.mn,aV hs.lsr,aV hs.lv,hs.e0,hs.e1,hs.z0,hs.z1,hs.ll,rfl,rfl,λr a=>⟨zB (hs.lI r a),aV (hs.lI r a)⟩⟩
theorem HR.below (hs:HR W G X h c)(hb:Below W.heap.size W W'):HR W' G X h c:=
 ⟨hs.own.below hb,λr a=>own_below (hs.ro r a) hb (gT _),hs.ds,hs.og,hs.rg,hs.rx,gI hs.gs hb.size,hs.xg,λk b=>gI (hs.xs k b) hb.size,hs.e0,hs.e1,hs.ll⟩
theorem HS.below (hs:HS W G X h c)(hb:Below W.heap.size W W'):HS W' G X h c:=
 ⟨hs.r.below hb,aAp hs.k hs.r.gs hb,aAt hs.fz hs.r.gs hb⟩
theorem HR.sub (hs:HR W G X h c)(hy:∀k,Y k->X k):HR W G Y h c:=
 ⟨hs.own,hs.ro,hs.ds,λr a g b=>⟨(hs.og r a g b).1,λe=>(hs.og r a g b).2 (hy g e)⟩,hs.rg,λr a g b e=>hs.rx r a g b (hy g e),hs.gs,λe=>hs.xg (hy _ e),λk d=>hs.xs k (hy k d),hs.e0,hs.e1,hs.ll⟩
theorem HS.sub (hs:HS W G X h c)(hy:∀k,Y k->X k):HS W G Y h c:=⟨hs.r.sub hy,hs.k,hs.fz⟩
theorem HR.more (hs:HR W G X h c)(hy:∀k,Y k->k<W.heap.size/\k≠G/\(∀r∈c.rows h,r.v.ownBlock≠aK k)/\∀r∈c.reads h,r.v.ownBlock≠aK k):HR W G Y h c:=
 ⟨hs.own,hs.ro,hs.ds,λr a g b=>⟨(hs.og r a g b).1,λe=>(hy g e).2.2.1 r a b⟩,hs.rg,λr a g b e=>(hy g e).2.2.2 r a b,hs.gs,λe=>(hy _ e).2.1 rfl,λk d=>(hy k d).1,hs.e0,hs.e1,hs.ll⟩
theorem HS.more (hs:HS W G X h c)(hy:∀k,Y k->k<W.heap.size/\k≠G/\(∀r∈c.rows h,r.v.ownBlock≠aK k)/\∀r∈c.reads h,r.v.ownBlock≠aK k):HS W G Y h c:=⟨hs.r.more hy,hs.k,hs.fz⟩
theorem HS.new (hs:HS W G X h c)(hb:Below W.heap.size W W'):HS W' G (λk=>X k∨(W.heap.size<=k/\k<W'.heap.size)) h c:=
 (hs.below hb).more λk b=>by
  rcases b with b | ⟨g,d⟩
  ·have f:=hs.r.xs k b;exact⟨gI f hb.size,λe=>hs.r.xg (e▸b),λr a e=>(hs.r.og r a k e).2 b,λr a e=>hs.r.rx r a k e b⟩
  ·exact⟨d,λe=>by have:=hs.r.gs;omega,λr a e=>by have:=(hs.r.own.lt r a k e).2;omega,λr a e=>by have:=((hs.r.ro r a).lt k e).2;omega⟩
theorem HR.fE (hs:HR W G X h c)(i:Nat)(u:Value):HR (W.setCell ⟨G,i,aJ⟩ u) G X h c:=
 ⟨hs.own.far (λr a e=>(hs.og r a G e).1 rfl) i u,λr a=>bC (hs.ro r a) (hs.rg r a) u,hs.ds,hs.og,hs.rg,hs.rx,by simpa using hs.gs,hs.xg,λk b=>by simpa using hs.xs k b,hs.e0,hs.e1,hs.ll⟩
theorem HS.far (hs:HS W G X h c)(hx:X g)(i:Nat)(u:Value):HS (W.setCell ⟨g,i,aJ⟩ u) G X h c:=by
 have b:G≠g:=λe=>hs.r.xg (e▸hx)
 exact⟨⟨hs.r.own.far (λr a e=>(hs.r.og r a g e).2 hx) i u,λr a=>bC (hs.r.ro r a) (λe=>hs.r.rx r a g e hx) u,hs.r.ds,hs.r.og,hs.r.rg,hs.r.rx,by simpa using hs.r.gs,hs.r.xg,λk d=>by simpa using hs.r.xs k d,hs.r.e0,hs.r.e1,hs.r.ll⟩,aAc hs.k b i u,aAs hs.fz _ _⟩
end
def put4 (W:World)(g o:Nat)(u0 u1 u2 u3:Value):World:=(((W.setCell ⟨g,o,aJ⟩ u0).setCell ⟨g,o+1,aJ⟩ u1).setCell ⟨g,o+2,aJ⟩ u2).setCell ⟨g,o+3,aJ⟩ u3
section
variable {W W1:World}{G:Nat}{X:Nat->Prop}{h:Hp}{c:Hc}
theorem Fa {base:Nat}{e:TypeId}{size:Nat}{v:Value}(h:W.ownsRow base e size v n xs)(hb:v.ownBlock≠aK g)(o:Nat)(u0 u1 u2 u3:Value):(put4 W g o u0 u1 u2 u3).ownsRow base e size v n xs:=
 bC (bC (bC (bC h hb u0) hb u1) hb u2) hb u3
theorem Safe.put4 (g o:Nat)(u0 u1 u2 u3:Value)(hg:¬X g):Safe X W (put4 W g o u0 u1 u2 u3):=((((Safe.refl X W).set hg o u0).set hg (o+1) u1).set hg (o+2) u2).set hg (o+3) u3
theorem dL.put4 {lH:Nat}{r:Rs}(h:dL W lH (r::rs)){c:Nat}(hv:r.v=aA (aK ⟨g,0,aJ⟩) r.n c)(o:Nat)(u0 u1 u2 u3:Value)(h0:u0.oneCell'=true)(h1:u1.oneCell'=true)(h2:u2.oneCell'=true)(h3:u3.oneCell'=true):
 dL (put4 W g o u0 u1 u2 u3) lH ({r with xs:=(((r.xs.set o u0).set (o+1) u1).set (o+2) u2).set (o+3) u3}::rs):=by
 have b:=h.cell (i:=0) (by simp) (g:=g) (c:=c) hv o u0 h0;have k1:=b.cell (i:=0) (by simp) (g:=g) (c:=c) hv (o+1) u1 h1;have k2:=k1.cell (i:=0) (by simp) (g:=g) (c:=c) hv (o+2) u2 h2;have a:=k2.cell (i:=0) (by simp) (g:=g) (c:=c) hv (o+3) u3 h3;exact a
theorem Yi {b:Nat}(h:∀o,W.cell? ⟨b,o,aJ⟩=A[o]?)(hne:b≠g)(p:Nat)(u0 u1 u2 u3:Value)(o:Nat):(put4 W g p u0 u1 u2 u3).cell? ⟨b,o,aJ⟩=A[o]? :=
 aAc (aAc (aAc (aAc h hne p u0) hne (p+1) u1) hne (p+2) u2) hne (p+3) u3 o
theorem Yj {b:Nat}(h:∀o,W.frozen? ⟨b,o,aJ⟩=false)(p:Nat)(u0 u1 u2 u3:Value)(o:Nat):(put4 W g p u0 u1 u2 u3).frozen? ⟨b,o,aJ⟩=false:=
 aAs (aAs (aAs (aAs h _ u0) _ u1) _ u2) _ u3 o
theorem Jd (g p:Nat)(u0 u1 u2 u3:Value):(put4 W g p u0 u1 u2 u3).heap.size=W.heap.size:=by unfold put4;simp
def Hc.zone (c:Hc)(i:Nat):Zc:=if i=0 then c.y0 else c.y1
def Hc.dU (c:Hc)(i:Nat)(y:Zc):Hc:=if i=0 then{c with y0:=y}else{c with y1:=y}
theorem HR.Fb (hs:HR W G X h c):∃g,c.az=aK ⟨g,0,aJ⟩/\g<W.heap.size/\g≠G/\¬X g/\∀j,j<8->W.frozen? ⟨g,j,aJ⟩=false:=by
 obtain⟨g,v,a,_,f,_,_⟩:=fH hs.zs 0 (by simp[Bv,flat,nK]);have i:(Bv c).v.ownBlock=aK g:=by unfold Bv;rw[a];rfl
 have b:=hs.og (Bv c) (by simp[Hc.rows]) g i;refine⟨g,a,f,b.1,b.2,λj l=> ?_⟩;obtain⟨k,m,d,_,_,_,e⟩:=fH hs.zs j (by simp[Bv,flat,nK];omega);rw[a]at d;obtain rfl:g=k:=by simpa using d
 exact e
theorem HS.aFx (hs:HS W G X h c)(hb:Below W.heap.size W W1){i:Nat}(hi:i<2){z':Zn}{a1 a2:Option Addr}{n1 n2 c1 c2:Nat}(hz:iH W1 W.heap.size a1 a2 n1 n2 c1 c2 z')(hg:c.az=aK ⟨g,0,aJ⟩):
 HS (put4 W1 g (i*4) (vI z'.f) (vI z'.e) (aA a1 n1 c1) (aA a2 n2 c2)) G X (h.jQ i z') (c.dU i ⟨z',a1,a2,n1,n2,c1,c2⟩)/\Safe X W (put4 W1 g (i*4) (vI z'.f) (vI z'.e) (aA a1 n1 c1) (aA a2 n2 c2)):=by
 have m:=hs.below hb;obtain⟨d,z,J,C,N,_⟩:=hs.r.Fb;obtain rfl:g=d:=by rw[hg]at z;simpa using z
 have L:(Bv c).v.ownBlock=aK g:=by unfold Bv;rw[hg];rfl
 have x:Bv c∈c.rows h:=by simp[Hc.rows]
 have y:=hz.ne (g:=g) (.inl J);have O:=hz.ne (g:=G) (.inl hs.r.gs);have p:(h.jQ i z').live=h.live:=by unfold Hp.jQ;split <;> rfl
 have M:(h.jQ i z').ls=h.ls:=by unfold Hp.jQ;split <;> rfl
 have B:(h.jQ i z').aAh=h.aAh:=by unfold Hp.jQ;split <;> rfl
 have F:(h.jQ i z').m0=h.m0:=by unfold Hp.jQ;split <;> rfl
 have H:(h.jQ i z').m1=h.m1:=by unfold Hp.jQ;split <;> rfl
 have q:(c.dU i ⟨z',a1,a2,n1,n2,c1,c2⟩).rows (h.jQ i z')={Bv c with xs:=(((((Bv c).xs.set (i*4) (vI z'.f)).set (i*4+1) (vI z'.e)).set (i*4+2) (aA a1 n1 c1)).set (i*4+3) (aA a2 n2 c2))}::rW c::Ap c h::c.lc.map kQ:=by
  unfold Hc.rows;have e1:Ap (c.dU i ⟨z',a1,a2,n1,n2,c1,c2⟩) (h.jQ i z')=Ap c h:=by unfold Ap;rw[p];unfold Hc.dU;split <;> rfl
  have Q:rW (c.dU i ⟨z',a1,a2,n1,n2,c1,c2⟩)=rW c:=by unfold Hc.dU;split <;> rfl
  have R:(c.dU i ⟨z',a1,a2,n1,n2,c1,c2⟩).lc=c.lc:=by unfold Hc.dU;split <;> rfl
  rw[e1,Q,R];congr 1;obtain rfl | rfl:i=0∨i=1:=by omega
  ·rfl
  ·rfl
 have a:∀r∈(c.dU i ⟨z',a1,a2,n1,n2,c1,c2⟩).reads (h.jQ i z'),r∈c.reads h∨r=Vu ⟨z',a1,a2,n1,n2,c1,c2⟩∨r=Vw ⟨z',a1,a2,n1,n2,c1,c2⟩:=λr b=>by
  have e1:mnR (c.dU i ⟨z',a1,a2,n1,n2,c1,c2⟩) (h.jQ i z')=mnR c h:=by unfold mnR;rw[F,H];unfold Hc.dU;split <;> rfl
  unfold Hc.reads at b ⊢;rw[e1]at b;unfold Hc.dU at b;obtain rfl | rfl:i=0∨i=1:=by omega
  ·simp only[if_true,gY,List.not_mem_nil,or_false]at b ⊢;rcases b with h | h | h | h | h <;> simp[h]
  ·simp only[show ¬(1:Nat)=0 by omega,if_false,gY,List.not_mem_nil,or_false]at b ⊢;rcases b with h | h | h | h | h <;> simp[h]
 have t:∀s∈(c.dU i ⟨z',a1,a2,n1,n2,c1,c2⟩).rows (h.jQ i z'),∃u∈c.rows h,u.v=s.v:=λs j=>by
  rw[q,gY]at j;rcases j with rfl | j
  ·exact⟨Bv c,x,rfl⟩
  ·exact⟨s,by unfold Hc.rows;exact List.mem_cons_of_mem _ j,rfl⟩
 refine⟨⟨⟨?_,λr b=> ?_,λr b s j=> ?_,λr b d l=> ?_,λr b=> ?_,λr b d l I=> ?_,by rw[Jd];exact m.r.gs,hs.r.xg,λk P=>by rw[Jd];exact m.r.xs k P,?_,?_,?_⟩,?_,Yj m.fz _ _ _ _ _⟩,(Safe.jD hb).trans (.put4 _ _ _ _ _ _ N)⟩
 ·rw[q];have o:=m.r.own;unfold Hc.rows at o;exact o.put4 (c:=c.cz) (by unfold Bv;rw[hg]) (i*4) _ _ _ _ rfl rfl rfl rfl
 ·rcases a r b with o | rfl | rfl
  ·exact Fa (m.r.ro r o) (λe=>hs.r.ds r o _ x g e L) _ _ _ _ _
  ·exact Fa (own_base hz.o1 (gU _)) y.1 _ _ _ _ _
  ·exact Fa (own_base hz.o2 (gU _)) y.2 _ _ _ _ _
 ·obtain⟨u,n,K⟩:=t s j;intro d o w;rw[<- K]at w;rcases a r b with A | rfl | rfl
  ·exact hs.r.ds r A u n d o w
  ·have D:=(hz.o1.lt d o).1;have E:=(hs.r.own.lt u n d w).2;omega
  ·have D:=(hz.o2.lt d o).1;have E:=(hs.r.own.lt u n d w).2;omega
 ·obtain⟨u,n,K⟩:=t r b;rw[<- K]at l;exact hs.r.og u n d l
 ·rcases a r b with A | rfl | rfl
  ·exact hs.r.rg r A
  ·exact O.1
  ·exact O.2
 ·rcases a r b with A | rfl | rfl
  ·exact hs.r.rx r A d l I
  ·have D:=(hz.o1.lt d l).1;have E:=hs.r.xs d I;omega
  ·have D:=(hz.o2.lt d l).1;have E:=hs.r.xs d I;omega
 ·have:=hs.r.e0;unfold Hc.dU Hp.jQ;obtain rfl | rfl:i=0∨i=1:=by omega
  ·rfl
  ·exact this
 ·have:=hs.r.e1;unfold Hc.dU Hp.jQ;obtain rfl | rfl:i=0∨i=1:=by omega
  ·exact this
  ·rfl
 ·have:=hs.r.ll;rw[M,<- this];unfold Hc.dU;split <;> rfl
 ·have o:=Yi m.k (λe=>C e.symm) (i*4) (vI z'.f) (vI z'.e) (aA a1 n1 c1) (aA a2 n2 c2);have w:(c.dU i ⟨z',a1,a2,n1,n2,c1,c2⟩).vals (h.jQ i z')=c.vals h:=by
   unfold Hc.vals;rw[p,B];unfold Hc.dU;split <;> rfl
  rw[w];exact o
end
def uZ (f:Nat->Bool)(b:Bool):Array Value:=(((List.range 256).map λp=>Value.bool (f p))++[Value.bool b]).toArray
theorem Ci (f:Nat->Bool)(b:Bool):(uZ f b).size=257:=by simp[uZ]
theorem Fg (f:Nat->Bool)(b:Bool)(p:Nat)(h:p<256):(uZ f b)[p]? =aK (.bool (f p)):=by
 unfold uZ;rw[gB,List.getElem?_append_left (by simpa using h),List.getElem?_map,List.getElem?_range h];rfl
theorem Az (f:Nat->Bool)(b:Bool):(uZ f b)[256]? =aK (.bool b):=by
 unfold uZ;rw[gB,List.getElem?_append_right (by simp)];simp
theorem Yo (f g:Nat->Bool)(b:Bool)(q:Nat)(hq:q<256)(v:Bool)(hv:g q=v)(h:∀p,p<256->p≠q->g p=f p):(uZ f b).setIfInBounds q (.bool v)=uZ g b:=by
 apply Array.ext_getElem?;intro i;rw[Array.getElem?_setIfInBounds];by_cases c:i<256
 ·rw[Fg g b i c];by_cases a:q=i
  ·subst a;rw[if_pos rfl,if_pos (by rw[Ci];omega),hv]
  ·rw[if_neg a,Fg f b i c,h i c (λe=>a e.symm)]
 ·by_cases d:i=256
  ·subst d;rw[if_neg (by omega),Az,Az]
  ·rw[Array.getElem?_eq_none (show(uZ g b).size<=i by rw[Ci];omega),if_neg (by omega),Array.getElem?_eq_none (show(uZ f b).size<=i by rw[Ci];omega)]
theorem Rl {g:Nat->Bool}(h:∀p,p<256->f p=g p):uZ f b=uZ g b:=by
 unfold uZ;congr 1;congr 1;exact List.map_congr_left λp a=>by rw[h p (List.mem_range.1 a)]
def marked (f:Nat->Bool)(a q p:Nat):Bool:=f p||decide (a<=p/\p<q)
theorem Rn (f:Nat->Bool)(a p:Nat):marked f a a p=f p:=by unfold marked;rw[gV (by omega),Bool.or_false]
theorem Vz (f:Nat->Bool)(a q:Nat):marked f a q q=f q:=by unfold marked;rw[gV (by omega),Bool.or_false]
theorem Oh (f:Nat->Bool)(a q:Nat)(h:a<=q)(hq:q<256)(b:Bool):(uZ (marked f a q) b).setIfInBounds q (.bool true)=uZ (marked f a (q+1)) b:=by
 refine Yo _ _ b q hq true ?_ λp d c=> ?_
 ·unfold marked;rw[gTg (by omega),Bool.or_true]
 ·unfold marked;congr 1;exact decide_eq_decide.2 (by omega)
structure Cj (W:World)(G:Nat)(f:Nat->Bool)(b:Bool):Prop where
 k:∀o,W.cell? ⟨G,o,aJ⟩=(uZ f b)[o]?
 fz:∀o,W.frozen? ⟨G,o,aJ⟩=false
 hi:G<W.heap.size
theorem Cj.below {W':World}(h:Cj W G f b)(hb:Below W.heap.size W W'):Cj W' G f b:=⟨aAp h.k h.hi hb,aAt h.fz h.hi hb,gI h.hi hb.size⟩
theorem Cj.mark {g:Nat->Bool}(h:Cj W G f b)(q:Nat)(v:Bool)(he:(uZ f b).setIfInBounds q (.bool v)=uZ g b):Cj (W.setCell ⟨G,q,aJ⟩ (.bool v)) G g b:=⟨he▸aAr h.k q _,aAs h.fz _ _,by simpa using h.hi⟩
theorem Cj.congr {g:Nat->Bool}(h:Cj W G f b)(hfg:∀p,p<256->f p=g p):Cj W G g b:=⟨by rw[<- Rl hfg];exact h.k,h.fz,h.hi⟩
theorem aAW (G a n:Nat)(f:Nat->Bool)(b:Bool)(w:World)(hm:Cj w G f b)(hn:a+n<=256)(h1:a<256)(hf:∀p,a<=p->p<a+n->f p=false):
 Calls prog 66 #[aH (aK ⟨G,0,aJ⟩),aB aI a,aB aI n] w λev w'=>ev=aN (aG #[])/\Cj w' G (marked f a (a+n)) b/\Safe (λk=>k≠G) w w':=by
 have C:decide ((256:Int)<=a)=false:=gV (by omega);have A:decide (256<=a)=false:=gV (by omega);have B:decide ((256:Int)-a<n)=false:=gV (by omega);have o:=gO hm;clear hm;go_enter func66,ntmps66
 go_wp2
 go_loopw [6] (λi wr=>∃q:Nat,a<=q/\q<=a+n/\i=aB aI (q:Int)/\Hid (Cj wr G (marked f a q) b)/\Hid (Safe (λk=>k≠G) w wr)) (λi _=>a+n-(intOf i).toNat)
 case atStart=>exact⟨a,gT _,by omega,rfl,o.out.congr (λp _=>(Rn f a p).symm),Safe.refl _ _⟩
 case round=>
  obtain⟨q,d,z,rfl,h,s⟩:=hrel;clear o;have u:=h.out.hi;by_cases j:q<a+n
  ·have t:(q:Int)<a+n:=by omega
   have x:(q:Int)<256:=by omega
   have r:q<256:=by omega
   have c:=(h.out.k q).trans (Fg _ b q r);rw[Vz,hf q d j]at c;have y:=h.out.fz q;have l:=gO (h.out.mark q true (Oh f a q d r b));have m:=gO (s.out.set (g:=G) (λe=>e rfl) q (.bool true));go_wp2
   go_roundw
   case rel=>exact⟨q+1,by omega,by omega,by go_num,l,m⟩
   case measure=>simp[intOf];omega
  ·obtain rfl:q=a+n:=by omega
   have D:¬((a:Int)+n<a+n):=by omega
   go_wp2
   refine bodyPost_end (v:=aG #[]) (by simp[results,results66,go_sem]) rfl ⟨rfl,h.out,s.out⟩
def Hz (done:List Bk)(p:Nat):Bool:=decide (0<cnt done p)
theorem Yq (done:List Bk)(b:Bk)(p:Nat):marked (Hz done) b.a b.fin p=Hz (done++[b]) p:=by
 unfold marked Hz;rw[bT];have c:cnt [b] p=hit b p:=by simp[cnt]
 rw[c];unfold hit;by_cases h:b.a<=p/\p<b.fin
 ·rw[if_pos h,gTg h,Bool.or_true,gTg (by omega)]
 ·rw[if_neg h,gV h,Bool.or_false,Nat.add_zero]
theorem Fh (G:Nat)(b:Bk)(done:List Bk)(w:World)(hm:Cj w G (Hz done) false)(h1:∀p,cnt (done++[b]) p<=1)(hb:b.fin<=256)(v:Int)(hv:v=((2^b.o:Nat):Int)):
 Calls prog 66 #[aH (aK ⟨G,0,aJ⟩),aB aI b.a,aB aI v] w λev w'=>ev=aN (aG #[])/\Cj w' G (Hz (done++[b])) false/\Safe (λk=>k≠G) w w':=by
 subst hv;have g:=dZ b.o;have c:b.fin=b.a+2^b.o:=rfl;refine(aAW G b.a (2^b.o) (Hz done) false w hm (by omega) (by omega) (λp d f=> ?_)).mono λev w' h=>⟨h.1,h.2.1.congr λp _=>by rw[<- c];exact Yq done b p,h.2.2⟩
 have e:=h1 p;rw[bT]at e;have i:cnt [b] p=1:=by
  simp only[cnt,Nat.add_zero];exact jT.2 ⟨d,f⟩
 unfold Hz;exact gV (by omega)
end Go.Proofs.YtjaogfhcnmjkiaaGreatDoor
