/- joined. -/
import Derived.Test.YtjaogfhcnmjkiaaGreatDoorAB7
import Derived.Lib.ConvBytes
import Derived.Maps.OwnOps
set_option linter.all false
set_option maxRecDepth 100000
set_option maxHeartbeats 0
namespace Go.Proofs.YtjaogfhcnmjkiaaGreatDoor
open Go.RowKit
open Go.Value renaming slice->aA,int->aB,agg->aC,string->aF,tuple->aG,pointer->aH,ownBlock->gTh
open Go.IntKind renaming i64->aI
open Option renaming none->aJ,some->aK
open Go.Ending renaming returned->aN
open Go.Obj renaming cells->aO
open Go.Proofs.Tryz
variable {g o:Nat}{r:List UInt8}{w w':World}
def sV (l:List UInt8):Value:=aF ⟨l.toArray⟩
def encS (l:List UInt8):List Value:=[sV l]
theorem bW (l:List UInt8):(encS l).length=1:=rfl
theorem qO (hc:∀i v,(encS r)[i]? =aK v->w.cell? ⟨g,o+i,aJ⟩=aK v):w.cell? ⟨g,o,aJ⟩=aK (aF ⟨r.toArray⟩):=hc 0 _ rfl
def bQ (x:Sl):List Value:=[vI x.p,vI x.n,vI x.h]
theorem aY (x:Sl):(bQ x).length=3:=rfl
theorem iK {b:Nat}{r:Sl}(hc:∀i v,(bQ r)[i]? =aK v->w.cell? ⟨b,o+i,aJ⟩=aK v):w.cell? ⟨b,o,aJ⟩=aK (aB aI r.p)/\w.cell? ⟨b,o+1,aJ⟩=aK (aB aI r.n)/\w.cell? ⟨b,o+2,aJ⟩=aK (aB aI r.h):=⟨hc 0 _ rfl,hc 1 _ rfl,hc 2 _ rfl⟩
structure Cc where
 a1:Option Addr
 n1:Nat
 c1:Nat
 a2:Option Addr
 n2:Nat
 c2:Nat
 a3:Option Addr
 n3:Nat
 c3:Nat
 c:Ca
def fD (y:Cc):List Value:=[aA y.a1 y.n1 y.c1,vI y.c.z,vI y.c.r,vI y.c.o,aA y.a2 y.n2 y.c2,aA y.a3 y.n3 y.c3]
theorem eY (y:Cc):(fD y).length=6:=rfl
theorem kM {b:Nat}{y:Cc}(hc:∀i v,(fD y)[i]? =aK v->w.cell? ⟨b,o+i,aJ⟩=aK v):w.cell? ⟨b,o,aJ⟩=aK (aA y.a1 y.n1 y.c1)/\w.cell? ⟨b,o+1,aJ⟩=aK (aB aI y.c.z)/\w.cell? ⟨b,o+2,aJ⟩=aK (aB aI y.c.r)/\w.cell? ⟨b,o+3,aJ⟩=aK (aB aI y.c.o)/\w.cell? ⟨b,o+4,aJ⟩=aK (aA y.a2 y.n2 y.c2)/\w.cell? ⟨b,o+5,aJ⟩=aK (aA y.a3 y.n3 y.c3):=⟨hc 0 _ rfl,hc 1 _ rfl,hc 2 _ rfl,hc 3 _ rfl,hc 4 _ rfl,hc 5 _ rfl⟩
structure JW (w:World)(y:Cc):Prop where
 l1:y.c.ns.length=y.n1
 l2:y.c.sl.length=y.n2
 l3:y.c.ac.length=y.n3
 r1:Row w y.a1 (flat encS y.c.ns)
 r2:Row w y.a2 (flat bQ y.c.sl)
 r3:Row w y.a3 (y.c.ac.map vI)
 k1:y.n1<=y.c1
 k2:y.n2<=y.c2
 k3:y.n3<=y.c3
theorem JW.below {y:Cc}(h:JW w y)(hb:Below w.heap.size w w'):JW w' y:=⟨h.l1,h.l2,h.l3,h.r1.below hb,h.r2.below hb,h.r3.below hb,h.k1,h.k2,h.k3⟩
theorem yT (c:Ca)(a1 a2 a3:Option Addr)(n1 c1 n2 c2 n3 c3 p:Nat)(a:Int)(w:World)(hz:1<=c.z)(hrz:c.r*c.z<=100000)(hp:p<=1000)(ha1: -1000000000000<=a)(ha2:a<=1000000000000):
 Calls prog 43 #[aC #[aA a1 n1 c1,aB aI c.z,aB aI c.r,aB aI c.o,aA a2 n2 c2,aA a3 n3 c3],aB aI p,aB aI a] w λev w'=>ev=aN (.bool (iO c p a))/\Below w.heap.size w w':=by
 have hb:=aT w (aO #[aA a1 n1 c1,aB aI (c.z:Int),aB aI (c.r:Int),aB aI (c.o:Int),aA a2 n2 c2,aA a3 n3 c3] 67);have K:=bI w #[aA a1 n1 c1,aB aI (c.z:Int),aB aI (c.r:Int),aB aI (c.o:Int),aA a2 n2 c2,aA a3 n3 c3] 67;have k1:=K 1;have k2:=K 2;simp only[gB,gC,gD]at k1 k2;have b:((c.r:Int)*(c.z:Int))=((c.r*c.z:Nat):Int):=by rw[Int.natCast_mul]
 have k:0<=(c.r:Int)*(c.z:Int):=by rw[b];omega
 have l:(c.r:Int)*(c.z:Int)<=100000:=by rw[b];omega
 clear b;have e:=gO hb;clear hb K;have j:((c.z:Int) == 0)=false:=by rw[beq_eq_false_iff_ne];omega
 by_cases d:0<=a-p*16
 ·by_cases g:a-p*16<(c.r:Int)*c.z
  ·have i:decide (0<=a-(p:Int)*16)=true:=gTg d;go_enter func43,ntmps43
   go_wp2_with fail
   go_ret
   refine⟨bP ?_,e.out⟩;unfold iO;rw[Int.mul_comm 16 (p:Int)];by_cases f:(a-(p:Int)*16)%(c.z:Int)=0
   ·rw[f,gTg ⟨d,g,rfl⟩];rfl
   ·rw[gV (λh=>f h.2.2)];exact beq_eq_false_iff_ne.2 f
  ·have i:decide (0<=a-(p:Int)*16)=true:=gTg d;go_enter func43,ntmps43
   go_wp2_with fail
   go_ret
   refine⟨bP ?_,e.out⟩;unfold iO;rw[Int.mul_comm 16 (p:Int)];symm;exact gV (λh=>absurd h.2.1 (Int.not_lt.2 g))
 ·have i:decide (0<=a-(p:Int)*16)=false:=gV d;go_enter func43,ntmps43
  go_wp2_with fail
  go_ret
  refine⟨bP ?_,e.out⟩;unfold iO;rw[Int.mul_comm 16 (p:Int)];symm;exact gV (λh=>absurd h.1 (Int.not_le.2 d))
def UN (c:UInt8):List Value:=[.int .u8 (c.toNat:Int)]
theorem wI (c:UInt8):(UN c).length=1:=rfl
theorem QB {r:UInt8}(hc:∀i v,(UN r)[i]? =aK v->w.cell? ⟨g,o+i,aJ⟩=aK v):w.cell? ⟨g,o,aJ⟩=aK (.int .u8 (r.toNat:Int)):=hc 0 _ rfl
theorem QC (a:Option Addr)(n cap:Nat)(l:List UInt8)(g:Nat)(lb:Array Value)(p:UInt8->Bool)(w:World)(hn:l.length=n)(hl:n<=9223372036854775807)(hr:Row w a (flat UN l))(eg:∀args w,(callFunc g args).run prog w= .ok (.enter g args) w)
 (hp:∀W,Below w.heap.size w W->∀x∈l,Calls prog g (#[.int .u8 (x.toNat:Int)]++lb) W λe w'=>e=aN (.bool (p x))/\Below W.heap.size W w'):
 Calls prog 121 #[aA a n cap,.func (.func g) #[] lb] w λe w'=>e=aN (aB aI (dV p l))/\Below w.heap.size w w':=by
 subst hn;go_enter func121,ntmps121
 go_wp2
 go_loopw [5,8] (λ_ j wr=>∃k:Nat,k<=l.length/\j=aB aI k/\Hid (∀x∈l.take k,p x=false)/\Below w.heap.size w wr) (λ_ j _=>l.length-(intOf j).toNat)
 case atStart=>exact⟨0,gU _,rfl,by simp[Hid],gX _ _⟩
 case round=>
  obtain⟨k,r,rfl,d,c⟩:=hrel;by_cases f:k<l.length
  ·obtain⟨b,off,rfl,hb,q⟩:=aZ wI (by decide) (hr.below c) f;obtain m:=QB q;rw[Nat.mul_one]at m;have hcall:=hp wr c l[k] (gL f);clear hr hp q;cases hv:p l[k]with
   | true=>
    have o:=gO (oL f hv d.out);rw[hv]at hcall;generalize l[k]=y at*;go_wp2_with (go_at_fn g;refine hcall.mono ?_;rintro e w' ⟨rfl,h⟩)
    go_ret
    exact⟨fC o.out.symm,gW c h⟩
   | false=>
    rw[hv]at hcall;have o:Hid (∀x∈l.take (k+1),p x=false):=λx i=>by
     rw[List.take_succ_eq_append_getElem f,gZ,gTa]at i;rcases i with i | rfl
     ·exact d.out x i
     ·exact hv
    generalize l[k]=y at*;go_wp2_with (go_at_fn g;refine hcall.mono ?_;rintro e w' ⟨rfl,h⟩)
    go_roundw
    case rel=>exact⟨k+1,by omega,by go_num,o.out,gW c h⟩
    case measure=>simp[intOf];omega
  ·obtain rfl:k=l.length:=by omega
   go_wp2
   go_ret
   exact⟨fC (mZ (by simpa[Hid]using d)).symm,c⟩
theorem GR (a:Option Addr)(n cap:Nat)(l:List UInt8)(g:Nat)(lb:Array Value)(p:UInt8->Bool)(w:World)(hn:l.length=n)(hl:n<=9223372036854775807)(hr:Row w a (flat UN l))(eg:∀args w,(callFunc g args).run prog w= .ok (.enter g args) w)
 (hp:∀W,Below w.heap.size w W->∀x∈l,Calls prog g (#[.int .u8 (x.toNat:Int)]++lb) W λe w'=>e=aN (.bool (p x))/\Below W.heap.size W w'):
 Calls prog 73 #[aA a n cap,.func (.func g) #[] lb] w λe w'=>e=aN (.bool (l.any p))/\Below w.heap.size w w':=by
 go_enter func73,ntmps73
 go_wp2_with (go_at_call 121;refine(QC _ _ _ l _ _ p _ hn hl hr eg hp).mono ?_;rintro e w' ⟨rfl,b⟩)
 go_ret
 exact⟨bP (jI p l),b⟩
def UO (c:UInt8):Bool:= !(decide ((97<=c/\c<=122)∨(48<=c/\c<=57)))
theorem XQ (c:UInt8):UO c= !(decide ((97<=c.toNat/\c.toNat<=122)∨(48<=c.toNat/\c.toNat<=57))):=by
 unfold UO;simp only[UInt8.le_iff_toNat_le];rfl
theorem UQ (l:List UInt8):nameB l=(decide (0<l.length/\l.length<=8)&& !(l.any UO)):=by
 unfold nameB UO;rw[List.not_any_eq_all_not];simp
theorem XR (c:UInt8)(w:World):
 Calls prog 74 (#[.int .u8 (c.toNat:Int)]++#[]) w λev w'=>ev=aN (.bool (UO c))/\Below w.heap.size w w':=by
 show Calls prog 74 #[.int .u8 (c.toNat:Int)] w _;rw[XQ];generalize c.toNat=n;by_cases e:n<97
 ·by_cases b:n<48
  ·go_enter func74,ntmps74
   go_wp2
   go_ret
   exact⟨bP (by rw[Bool.eq_iff_iff];simp <;> omega),gX _ _⟩
  ·by_cases g:57<n
   ·go_enter func74,ntmps74
    go_wp2
    go_ret
    exact⟨bP (by rw[Bool.eq_iff_iff];simp <;> omega),gX _ _⟩
   ·go_enter func74,ntmps74
    go_wp2
    go_ret
    exact⟨bP (by rw[Bool.eq_iff_iff];simp <;> omega),gX _ _⟩
 ·by_cases d:122<n
  ·have f:57<n:=by omega
   have a:¬n<48:=by omega
   go_enter func74,ntmps74
   go_wp2
   go_ret
   exact⟨bP (by rw[Bool.eq_iff_iff];simp <;> omega),gX _ _⟩
  ·go_enter func74,ntmps74
   go_wp2
   go_ret
   exact⟨bP (by rw[Bool.eq_iff_iff];simp <;> omega),gX _ _⟩
theorem Ny (l:List UInt8)(w:World)(hl:l.length<=1000000):
 Calls prog 34 #[sV l] w λev w'=>ev=aN (.bool (nameB l))/\Below w.heap.size w w':=by
 rw[UQ];unfold sV;have e:(ByteArray.mk l.toArray).size=l.length:=by simp[ByteArray.size]
 by_cases d:l=[]
 ·subst d;go_enter func34,ntmps34
  go_wp2
  go_ret
  exact⟨rfl,gX _ _⟩
 ·have k:0<l.length:=List.length_pos_iff.2 d;have i:l.isEmpty=false:=by rw[List.isEmpty_eq_false_iff];exact d
  by_cases u:8<l.length
  ·have h:(8:Int)<l.length:=by omega
   go_enter func34,ntmps34
   go_wp2
   go_ret
   exact⟨bP (by rw[gV (by omega)];rfl),gX _ _⟩
  ·have h:¬(8:Int)<l.length:=by omega
   have s:=fun(W:World)=>Lib.run_convert_string_bytes (P:=prog) W 9 155 5 ⟨l.toArray⟩ underlying9 underlying155 underlying5
   have hb:Below w.heap.size w (Lib.bytesWorld w 5 ⟨l.toArray⟩):=⟨rfl,rfl,rfl,by rw[Lib.bytesWorld_size];omega,λj c=>Lib.bytesWorld_at_old w 5 ⟨l.toArray⟩ j c⟩
   have b:Row (Lib.bytesWorld w 5 ⟨l.toArray⟩) (aK ⟨w.heap.size,0,aJ⟩) (flat UN l):=by
    intro j v c;have p:j<l.length*1:=by have:=(gK.1 c).1;rwa [flat_length wI]at this
    refine⟨w.heap.size,0,rfl,by rw[Lib.bytesWorld_size];omega,?_⟩;have m:=flat_get wI l j (by omega) 0 (by decide);rw[Nat.mul_one,Nat.add_zero,c]at m;have o:v= .int .u8 ((l[j]'(by omega)).toNat:Int):=by simpa[UN]using m
    rw[Nat.zero_add,Lib.bytesWorld_cell w 5 ⟨l.toArray⟩ j (by rw[e];omega),o];simp[List.getD,show j<l.length by omega]
   have n:∀a w,(callFunc 74 a).run prog w= .ok (.enter 74 a) w:=enters_of func74 (by kernel_rfl) rfl;have r:=gO (GR (aK ⟨w.heap.size,0,aJ⟩) l.length (grownCap w l.length 0 5) l 74 #[] UO (Lib.bytesWorld w 5 ⟨l.toArray⟩) rfl (by omega) b n (λW t x y=>XR x W));have q:=gO hb;clear b n hb;go_enter func34,ntmps34
   go_wp2_with fail
   refine r.out.mono ?_;rintro ev z ⟨rfl,g⟩;have f:=gO (gW q.out g);go_wp2
   go_ret
   refine⟨bP ?_,f.out⟩;rw[gTg (by omega)];rfl
theorem bytes_eq (v y:List UInt8):((ByteArray.mk v.toArray) == (ByteArray.mk y.toArray))=(v == y):=by
 show(v.toArray == y.toArray)=_;simp
theorem UR (a:Option Addr)(n cap:Nat)(l:List (List UInt8))(v:List UInt8)(w:World)(hn:l.length=n)(hl:n<=1000000)(hr:Row w a (flat encS l)):
 Calls prog 46 #[aA a n cap,sV v] w λe w'=>e=aN (aB aI (dV (v == ·) l))/\w=w':=by
 subst hn;unfold sV;go_enter func46,ntmps46
 go_wp2
 go_loop [5,8] (λ_ j=>∃k:Nat,k<=l.length/\j=aB aI k/\Hid (∀x∈l.take k,(v == x)=false)) (λ_ j=>l.length-(intOf j).toNat)
 case atStart=>exact⟨0,gU _,rfl,by simp[Hid]⟩
 case round=>
  obtain⟨k,o,rfl,c⟩:=hrel;by_cases d:k<l.length
  ·obtain⟨b,off,rfl,hb,m⟩:=aZ bW (by decide) hr d;have i:=qO m;rw[Nat.mul_one]at i;clear hr m;have f:((ByteArray.mk v.toArray) == (ByteArray.mk (l[k]).toArray))=(v == l[k]):=(bytes_eq _ _)
   cases hv:v == l[k]with
   | true=>
    rw[hv]at f;have h:=gO (oL (p:=λx=>v == x) d hv c.out);generalize l[k]=y at*;go_wp2
    go_ret
    exact⟨fC h.out.symm,rfl⟩
   | false=>
    rw[hv]at f;have h:Hid (∀x∈l.take (k+1),(v == x)=false):=λx g=>by
     rw[List.take_succ_eq_append_getElem d,gZ,gTa]at g;rcases g with g | rfl
     ·exact c.out x g
     ·exact hv
    generalize l[k]=y at*;go_wp2
    go_round
    case rel=>exact⟨k+1,by omega,by go_num,h⟩
    case measure=>simp[intOf];omega
  ·obtain rfl:k=l.length:=by omega
   go_wp2
   go_ret
   exact⟨fC (mZ (by simpa[Hid]using c)).symm,rfl⟩
theorem zX (a:Option Addr)(n cap:Nat)(l:List (List UInt8))(v:List UInt8)(w:World)(hn:l.length=n)(hl:n<=1000000)(hr:Row w a (flat encS l)):
 Calls prog 19 #[aA a n cap,sV v] w λe w'=>e=aN (.bool (l.contains v))/\w=w':=by
 have b:=gO (fun(W:World) (h:W=w)=>UR a n cap l v W hn hl (h▸hr));unfold sV at*;go_enter func19,ntmps19
 go_wp2_with (go_at_call 46;refine(b.out _ rfl).mono ?_;rintro e w' ⟨rfl,rfl⟩)
 go_ret
 exact⟨bP (by rw[jI,List.contains_eq_any_beq]),rfl⟩
theorem UU (y:Cc)(v:List UInt8)(B:Nat)(W:World)(hy:JW W y)(hn:y.n1<=1000000)(hB:B<W.heap.size)(hc:W.cell? ⟨B,0,aJ⟩=aK (sV v)):
 Calls prog 129 (#[.agg (fD y).toArray]++#[aH (aK ⟨B,0,aJ⟩)]) W λev w'=>ev=aN (.bool (y.c.ns.contains v))/\Below W.heap.size W w':=by
 show Calls prog 129 #[aC #[aA y.a1 y.n1 y.c1,aB aI y.c.z,aB aI y.c.r,aB aI y.c.o,aA y.a2 y.n2 y.c2,aA y.a3 y.n3 y.c3],aH (aK ⟨B,0,aJ⟩)] W _;have hb:=aT W (aO #[aA y.a1 y.n1 y.c1,aB aI (y.c.z:Int),aB aI (y.c.r:Int),aB aI (y.c.o:Int),aA y.a2 y.n2 y.c2,aA y.a3 y.n3 y.c3] 67);have K:=bI W #[aA y.a1 y.n1 y.c1,aB aI (y.c.z:Int),aB aI (y.c.r:Int),aB aI (y.c.o:Int),aA y.a2 y.n2 y.c2,aA y.a3 y.n3 y.c3] 67;have d:=K 0;simp only[gB,gC,gD]at d;have f:=(hb.cell (p:=⟨B,0,aJ⟩) hB).trans hc;have g:=gO (zX y.a1 y.n1 y.c1 y.c.ns v _ hy.l1 hn (hy.r1.below hb));have b:=gO hb;have a:B≠W.heap.size:=by omega
 clear hb K hc hy;unfold sV at*;go_enter func129,ntmps129
 go_wp2_with (go_at_call 19;refine g.out.mono ?_;rintro e w' ⟨rfl,rfl⟩)
 go_ret
 exact⟨bP (by rw[Bool.eq_iff_iff];simp),b.out⟩
theorem wJ (a:Option Addr)(n cap:Nat)(l:List Cc)(g:Nat)(lb:Array Value)(p:Cc->Bool)(w:World)(hn:l.length=n)(hl:n<=9223372036854775807)(hr:Row w a (flat fD l))(eg:∀args w,(callFunc g args).run prog w= .ok (.enter g args) w)
 (hp:∀W,Below w.heap.size w W->∀x∈l,Calls prog g (#[.agg (fD x).toArray]++lb) W λe w'=>e=aN (.bool (p x))/\Below W.heap.size W w'):
 Calls prog 72 #[aA a n cap,.func (.func g) #[] lb] w λe w'=>e=aN (aB aI (dV p l))/\Below w.heap.size w w':=by
 subst hn;go_enter func72,ntmps72
 go_wp2
 go_loopw [5,8] (λ_ j wr=>∃k:Nat,k<=l.length/\j=aB aI k/\Hid (∀x∈l.take k,p x=false)/\Below w.heap.size w wr) (λ_ j _=>l.length-(intOf j).toNat)
 case atStart=>exact⟨0,gU _,rfl,by simp[Hid],gX _ _⟩
 case round=>
  obtain⟨k,z,rfl,d,c⟩:=hrel;by_cases f:k<l.length
  ·obtain⟨b,off,rfl,hb,o⟩:=aZ eY (by decide) (hr.below c) f;obtain⟨q,v,t,u,s,r⟩:=kM o
   skip
   have hcall:=hp wr c l[k] (gL f);clear hr hp o;cases hv:p l[k]with
   | true=>
    have m:=gO (oL f hv d.out);rw[hv]at hcall;generalize l[k]=y at*;go_wp2_with (go_at_fn g;refine hcall.mono ?_;rintro e w' ⟨rfl,h⟩)
    go_ret
    exact⟨fC m.out.symm,gW c h⟩
   | false=>
    rw[hv]at hcall;have m:Hid (∀x∈l.take (k+1),p x=false):=λx i=>by
     rw[List.take_succ_eq_append_getElem f,gZ,gTa]at i;rcases i with i | rfl
     ·exact d.out x i
     ·exact hv
    generalize l[k]=y at*;go_wp2_with (go_at_fn g;refine hcall.mono ?_;rintro e w' ⟨rfl,h⟩)
    go_roundw
    case rel=>exact⟨k+1,by omega,by go_num,m.out,gW c h⟩
    case measure=>simp[intOf];omega
  ·obtain rfl:k=l.length:=by omega
   go_wp2
   go_ret
   exact⟨fC (mZ (by simpa[Hid]using d)).symm,c⟩
theorem wK (a:Option Addr)(n cap:Nat)(l:List Cc)(g:Nat)(lb:Array Value)(p:Cc->Bool)(w:World)(hn:l.length=n)(hl:n<=9223372036854775807)(hr:Row w a (flat fD l))(eg:∀args w,(callFunc g args).run prog w= .ok (.enter g args) w)
 (hp:∀W,Below w.heap.size w W->∀x∈l,Calls prog g (#[.agg (fD x).toArray]++lb) W λe w'=>e=aN (.bool (p x))/\Below W.heap.size W w'):
 Calls prog 32 #[aA a n cap,.func (.func g) #[] lb] w λe w'=>e=aN (.bool (l.any p))/\Below w.heap.size w w':=by
 go_enter func32,ntmps32
 go_wp2_with (go_at_call 72;refine(wJ _ _ _ l _ _ p _ hn hl hr eg hp).mono ?_;rintro e w' ⟨rfl,b⟩)
 go_ret
 exact⟨bP (jI p l),b⟩
theorem wL (a:Option Addr)(n cap:Nat)(l:List Sl)(g:Nat)(lb:Array Value)(p:Sl->Bool)(w:World)(hn:l.length=n)(hl:n<=9223372036854775807)(hr:Row w a (flat bQ l))(eg:∀args w,(callFunc g args).run prog w= .ok (.enter g args) w)
 (hp:∀W,Below w.heap.size w W->∀x∈l,Calls prog g (#[.agg (bQ x).toArray]++lb) W λe w'=>e=aN (.bool (p x))/\Below W.heap.size W w'):
 Calls prog 119 #[aA a n cap,.func (.func g) #[] lb] w λe w'=>e=aN (aB aI (dV p l))/\Below w.heap.size w w':=by
 subst hn;go_enter func119,ntmps119
 go_wp2
 go_loopw [5,8] (λ_ j wr=>∃k:Nat,k<=l.length/\j=aB aI k/\Hid (∀x∈l.take k,p x=false)/\Below w.heap.size w wr) (λ_ j _=>l.length-(intOf j).toNat)
 case atStart=>exact⟨0,gU _,rfl,by simp[Hid],gX _ _⟩
 case round=>
  obtain⟨k,t,rfl,d,c⟩:=hrel;by_cases f:k<l.length
  ·obtain⟨b,off,rfl,hb,o⟩:=aZ aY (by decide) (hr.below c) f;obtain⟨q,s,r⟩:=iK o
   skip
   have hcall:=hp wr c l[k] (gL f);clear hr hp o;cases hv:p l[k]with
   | true=>
    have m:=gO (oL f hv d.out);rw[hv]at hcall;generalize l[k]=y at*;go_wp2_with (go_at_fn g;refine hcall.mono ?_;rintro e w' ⟨rfl,h⟩)
    go_ret
    exact⟨fC m.out.symm,gW c h⟩
   | false=>
    rw[hv]at hcall;have m:Hid (∀x∈l.take (k+1),p x=false):=λx i=>by
     rw[List.take_succ_eq_append_getElem f,gZ,gTa]at i;rcases i with i | rfl
     ·exact d.out x i
     ·exact hv
    generalize l[k]=y at*;go_wp2_with (go_at_fn g;refine hcall.mono ?_;rintro e w' ⟨rfl,h⟩)
    go_roundw
    case rel=>exact⟨k+1,by omega,by go_num,m.out,gW c h⟩
    case measure=>simp[intOf];omega
  ·obtain rfl:k=l.length:=by omega
   go_wp2
   go_ret
   exact⟨fC (mZ (by simpa[Hid]using d)).symm,c⟩
theorem EO (a:Option Addr)(n cap:Nat)(l:List Sl)(g:Nat)(lb:Array Value)(p:Sl->Bool)(w:World)(hn:l.length=n)(hl:n<=9223372036854775807)(hr:Row w a (flat bQ l))(eg:∀args w,(callFunc g args).run prog w= .ok (.enter g args) w)
 (hp:∀W,Below w.heap.size w W->∀x∈l,Calls prog g (#[.agg (bQ x).toArray]++lb) W λe w'=>e=aN (.bool (p x))/\Below W.heap.size W w'):
 Calls prog 81 #[aA a n cap,.func (.func g) #[] lb] w λe w'=>e=aN (.bool (l.any p))/\Below w.heap.size w w':=by
 go_enter func81,ntmps81
 go_wp2_with (go_at_call 119;refine(wL _ _ _ l _ _ p _ hn hl hr eg hp).mono ?_;rintro e w' ⟨rfl,b⟩)
 go_ret
 exact⟨bP (jI p l),b⟩
theorem XT (x:Sl)(p:Int)(C:Nat)(W:World)(hx:x.p<=1000000)(hp: -1000000<=p/\p<=1000000)(hC:C<W.heap.size)(hc:W.cell? ⟨C,0,aJ⟩=aK (aB aI p)):
 Calls prog 120 (#[.agg (bQ x).toArray]++#[aH (aK ⟨C,0,aJ⟩)]) W λev w'=>ev=aN (.bool (decide ((x.p:Int)=p)))/\Below W.heap.size W w':=by
 have a:C≠W.heap.size:=by omega
 show Calls prog 120 #[aC #[aB aI x.p,aB aI x.n,aB aI x.h],aH (aK ⟨C,0,aJ⟩)] W _;go_enter func120,ntmps120
 go_wp2
 go_ret
 exact⟨bP (by rw[Bool.eq_iff_iff];simp only[beq_iff_eq,decide_eq_true_eq]),aT _ _⟩
def encI (t:Int):List Value:=[vI t]
theorem wM (t:Int):(encI t).length=1:=rfl
theorem QD {r:Int}(hc:∀i v,(encI r)[i]? =aK v->w.cell? ⟨g,o+i,aJ⟩=aK v):w.cell? ⟨g,o,aJ⟩=aK (aB aI r):=hc 0 _ rfl
theorem oM (l:List Int):flat encI l=l.map vI:=by
 induction l with
 | nil=>rfl
 | cons x l ih=>rw[eX,ih];rfl
theorem QE (a:Option Addr)(n cap:Nat)(l:List Int)(g:Nat)(lb:Array Value)(p:Int->Bool)(w:World)(hn:l.length=n)(hl:n<=9223372036854775807)(hr:Row w a (flat encI l))(eg:∀args w,(callFunc g args).run prog w= .ok (.enter g args) w)
 (hp:∀W,Below w.heap.size w W->∀x∈l,Calls prog g (#[aB aI x]++lb) W λe w'=>e=aN (.bool (p x))/\Below W.heap.size W w'):
 Calls prog 117 #[aA a n cap,.func (.func g) #[] lb] w λe w'=>e=aN (aB aI (dV p l))/\Below w.heap.size w w':=by
 subst hn;go_enter func117,ntmps117
 go_wp2
 go_loopw [5,8] (λ_ j wr=>∃k:Nat,k<=l.length/\j=aB aI k/\Hid (∀x∈l.take k,p x=false)/\Below w.heap.size w wr) (λ_ j _=>l.length-(intOf j).toNat)
 case atStart=>exact⟨0,gU _,rfl,by simp[Hid],gX _ _⟩
 case round=>
  obtain⟨k,r,rfl,d,c⟩:=hrel;by_cases f:k<l.length
  ·obtain⟨b,off,rfl,hb,q⟩:=aZ wM (by decide) (hr.below c) f;obtain m:=QD q;rw[Nat.mul_one]at m;have hcall:=hp wr c l[k] (gL f);clear hr hp q;cases hv:p l[k]with
   | true=>
    have o:=gO (oL f hv d.out);rw[hv]at hcall;generalize l[k]=y at*;go_wp2_with (go_at_fn g;refine hcall.mono ?_;rintro e w' ⟨rfl,h⟩)
    go_ret
    exact⟨fC o.out.symm,gW c h⟩
   | false=>
    rw[hv]at hcall;have o:Hid (∀x∈l.take (k+1),p x=false):=λx i=>by
     rw[List.take_succ_eq_append_getElem f,gZ,gTa]at i;rcases i with i | rfl
     ·exact d.out x i
     ·exact hv
    generalize l[k]=y at*;go_wp2_with (go_at_fn g;refine hcall.mono ?_;rintro e w' ⟨rfl,h⟩)
    go_roundw
    case rel=>exact⟨k+1,by omega,by go_num,o.out,gW c h⟩
    case measure=>simp[intOf];omega
  ·obtain rfl:k=l.length:=by omega
   go_wp2
   go_ret
   exact⟨fC (mZ (by simpa[Hid]using d)).symm,c⟩
theorem GU (a:Option Addr)(n cap:Nat)(l:List Int)(g:Nat)(lb:Array Value)(p:Int->Bool)(w:World)(hn:l.length=n)(hl:n<=9223372036854775807)(hr:Row w a (flat encI l))(eg:∀args w,(callFunc g args).run prog w= .ok (.enter g args) w)
 (hp:∀W,Below w.heap.size w W->∀x∈l,Calls prog g (#[aB aI x]++lb) W λe w'=>e=aN (.bool (p x))/\Below W.heap.size W w'):
 Calls prog 64 #[aA a n cap,.func (.func g) #[] lb] w λe w'=>e=aN (.bool (l.any p))/\Below w.heap.size w w':=by
 go_enter func64,ntmps64
 go_wp2_with (go_at_call 117;refine(QE _ _ _ l _ _ p _ hn hl hr eg hp).mono ?_;rintro e w' ⟨rfl,b⟩)
 go_ret
 exact⟨bP (jI p l),b⟩
theorem Tm (y:Cc)(p:Int)(w:World)(hy:JW w y)(hn:y.n2<=1000000)(hs:∀x∈y.c.sl,x.p<=1000000)(hp: -1000000<=p/\p<=1000000):
 Calls prog 71 #[aC #[aA y.a1 y.n1 y.c1,aB aI y.c.z,aB aI y.c.r,aB aI y.c.o,aA y.a2 y.n2 y.c2,aA y.a3 y.n3 y.c3],aB aI p] w λev w'=>ev=aN (aB aI (dV (λx=>decide ((x.p:Int)=p)) y.c.sl))/\Below w.heap.size w w':=by
 have k:∀a w,(callFunc 120 a).run prog w= .ok (.enter 120 a) w:=enters_of func120 (by kernel_rfl) rfl;have g:=aT w (aO #[aA y.a1 y.n1 y.c1,aB aI (y.c.z:Int),aB aI (y.c.r:Int),aB aI (y.c.o:Int),aA y.a2 y.n2 y.c2,aA y.a3 y.n3 y.c3] 67);obtain⟨j,h,s,m,d,b⟩:=boxes2 w #[aA y.a1 y.n1 y.c1,aB aI (y.c.z:Int),aB aI (y.c.r:Int),aB aI (y.c.o:Int),aA y.a2 y.n2 y.c2,aA y.a3 y.n3 y.c3] 67 #[aB aI p] 3;have u:=j 4;have l:=h 0;simp only[gB,gC,gD]at u l;have q:=gO (wL y.a2 y.n2 y.c2 y.c.sl 120 #[aH (aK ⟨w.heap.size+1,0,aJ⟩)] (λx=>decide ((x.p:Int)=p)) _ hy.l2 (by omega) (hy.r2.below b) k (λW i x t=>XT x p (w.heap.size+1) W (hs x t) hp (gI d i.size) ((i.cell (p:=⟨w.heap.size+1,0,aJ⟩) d).trans l)));have n:=gO b;clear k g j h s m b hy hs;go_enter func71,ntmps71
 go_wp2_with (go_at_call 119;refine q.out.mono ?_;rintro e w' ⟨rfl,f⟩)
 go_ret
 exact⟨rfl,gW n.out f⟩
theorem UW (y:Cc)(x:Sl)(a:Int)(B C:Nat)(W:World)(hz:1<=y.c.z)(hrz:y.c.r*y.c.z<=100000)(hp:x.p<=1000)(ha1: -1000000000000<=a)(ha2:a<=1000000000000)
 (hB:B<W.heap.size) (hC:C<W.heap.size) (kB:∀o,W.cell? ⟨B,o,aJ⟩=(#[aA y.a1 y.n1 y.c1,aB aI (y.c.z:Int),aB aI (y.c.r:Int),aB aI (y.c.o:Int),aA y.a2 y.n2 y.c2,aA y.a3 y.n3 y.c3]:Array Value)[o]?) (kC:∀o,W.cell? ⟨C,o,aJ⟩=(#[aB aI (x.p:Int),aB aI (x.n:Int),aB aI x.h]:Array Value)[o]?):
 Calls prog 92 (#[aB aI a]++#[aH (aK ⟨B,0,aJ⟩),aH (aK ⟨C,0,aJ⟩)]) W λev w'=>ev=aN (.bool (!iO y.c x.p a))/\Below W.heap.size W w':=by
 show Calls prog 92 #[aB aI a,aH (aK ⟨B,0,aJ⟩),aH (aK ⟨C,0,aJ⟩)] W _;have g:=kB 0;have d:=kB 1;have j:=kB 2;have k:=kB 3;have i:=kB 4;have f:=kB 5;have l:=kC 0;simp only[gB,gC,gD]at g d j k i f l;have m:=gO (yT y.c y.a1 y.a2 y.a3 y.n1 y.c1 y.n2 y.c2 y.n3 y.c3 x.p a W hz hrz hp ha1 ha2);clear kB kC;go_enter func92,ntmps92
 go_wp2_with (go_at_call 43;refine m.out.mono ?_;rintro e w' ⟨rfl,b⟩)
 go_ret
 exact⟨rfl,b⟩
structure Sc where
 a1:Option Addr
 n1:Nat
 c1:Nat
 hc:Hc
 a2:Option Addr
 c2:Nat
 ys:List Cc
structure nO (w:World)(v:Sc)(s:Sy):Prop where
 lw:s.w.length=v.n1
 rw:Row w v.a1 (s.w.map vI)
 hh:HAt w v.hc.az v.hc.am v.hc.al v.hc.av v.hc.lc.length s.h.live.length v.hc.y0 v.hc.y1 v.hc.lc s.h
 rc:Row w v.a2 (flat fD v.ys)
 cy:v.ys.map (·.c)=s.cs
 ca:∀y∈v.ys,JW w y
 kw:v.n1<=v.c1
 kc:v.ys.length<=v.c2
theorem nO.below {v:Sc}{s:Sy}(h:nO w v s)(hb:Below w.heap.size w w'):nO w' v s:=⟨h.lw,h.rw.below hb,h.hh.below hb,h.rc.below hb,h.cy,λy a=>(h.ca y a).below hb,h.kw,h.kc⟩
def Sc.vals (v:Sc)(s:Sy):Array Value:=#[aA v.a1 v.n1 v.c1,aA v.hc.az 2 v.hc.cz,aA v.hc.am 2 v.hc.cm,aB aI (s.h.aP:Int),aA v.hc.al v.hc.lc.length v.hc.cl,aA v.hc.av s.h.live.length v.hc.cv,aA v.a2 v.ys.length v.c2]
theorem Ah (a1 az am al av a2:Option Addr)(n1 c1 cz cm nl cl nv cv n2 c2:Nat)(aP:Int)(xs:List Int)(y:Cc)(x:Sl)(l:List Int)(w:World)(hn:xs.length=n1)(hn4:n1<=4096)(hr:Row w a1 (xs.map vI))
 (hz:1<=y.c.z) (hrz:y.c.r*y.c.z<=100000) (hp:x.p<=1000) (hf:follow xs x.h y.c.r=aK l) (hl:l.length=x.n) (ho:∀a∈l,iO y.c x.p a=true) (hlb:∀a∈l,0<=a/\a<=1000000) (hxn:x.n<=1000000):
 Calls prog 44 #[aC #[aA a1 n1 c1,aA az 2 cz,aA am 2 cm,aB aI aP,aA al nl cl,aA av nv cv,aA a2 n2 c2],aC #[aA y.a1 y.n1 y.c1,aB aI y.c.z,aB aI y.c.r,aB aI y.c.o,aA y.a2 y.n2 y.c2,aA y.a3 y.n3 y.c3],aC #[aB aI x.p,aB aI x.n,aB aI x.h]] w λev w'=>∃(a':Option Addr) (c':Nat),ev=aN (aG #[aA a' l.length c',.bool true])/\Row w' a' (l.map vI)/\Below w.heap.size w w':=by
 obtain⟨J,D,v,T,Z,Q,t,i⟩:=boxes3 w #[aA a1 n1 c1,aA az 2 cz,aA am 2 cm,aB aI aP,aA al nl cl,aA av nv cv,aA a2 n2 c2] 42 #[aA y.a1 y.n1 y.c1,aB aI (y.c.z:Int),aB aI (y.c.r:Int),aB aI (y.c.o:Int),aA y.a2 y.n2 y.c2,aA y.a3 y.n3 y.c3] 67 #[aB aI (x.p:Int),aB aI (x.n:Int),aB aI x.h] 99;have M:∀f w,(callFunc 92 f).run prog w= .ok (.enter 92 f) w:=enters_of func92 (by kernel_rfl) rfl;have L:=J 0;have k1:=D 2;have k2:=v 1;have K:=v 2;simp only[gB,gC,gD]at L k1 k2 K;have HR:=gO (hr.below i);have U:=gO i;have C:=gO M;have F:=gO D;have G:=gO v;have Y:=gO ho;have u:=gO hlb;clear hr i M J D v T Z Q ho hlb;go_enter func44,ntmps44
 go_wp2_with fail
 generalize ((w.alloc _).alloc _).alloc _=O at*;refine(MR a1 n1 c1 xs x.h y.c.r O hn (by omega) HR.out l hf).mono ?_;rintro ev N ⟨a',c',rfl,e,d⟩;have k:=gO (bJ e);have m:=aQ F.out (by omega) d;have j:=aQ G.out t d;have I:=gI t d.size;have R:=j 1;simp only[gB,gC,gD]at R;have H:=gO (gW U.out d);have b:=GU a' l.length c' l 92 #[aH (aK ⟨w.heap.size+1,0,aJ⟩),aH (aK ⟨w.heap.size+1+1,0,aJ⟩)] (λa=> !iO y.c x.p a) N rfl (by omega) (by rw[oM];exact k.out) C.out (λW A a B=>UW y x a (w.heap.size+1) (w.heap.size+1+1) W hz hrz hp (by have:=u.out a B;omega) (by have:=u.out a B;omega) (by have:=A.size;omega) (gI I A.size) (aQ m (by omega) A) (aQ j I A));have g:(l.any λa=> !iO y.c x.p a)=false:=by
  rw[List.any_eq_false];intro a B;rw[Y.out a B];decide
 rw[g]at b;have V:=gO b;have X:((l.length:Int) == (x.n:Int))=true:=by rw[beq_iff_eq,hl]
 have S:((l.length:Int) != (x.n:Int))=false:=by rw[hl];simp
 have HL:=gO hl;have P:l.length<=1000000:=by omega
 clear b g m j e L k1 k2 K d hl;go_wp2_with (go_at_call 64;refine V.out.mono ?_;rintro ev w5 ⟨rfl,s⟩)
 have E:=gO (gW H.out s);have q:=gO (k.out.below s)
 go_ret2
 exact⟨a',c',rfl,q.out,E.out⟩
theorem Fh (k:Nat)(w:World)(h1:1<=k)(h2:k<=64):
 Calls prog 68 #[aB aI k] w λe w'=>e=aN (aG #[aB aI (fV k:Nat),aB aI (iR k:Nat),aB aI 0])/\w=w':=by
 have c:((16/k:Nat):Int)=16/(k:Int):=by simp
 have g:((32/k:Nat):Int)=32/(k:Int):=by simp
 have f:((64/k:Nat):Int)=64/(k:Int):=by simp
 by_cases d:4<=16/k
 ·have a:fV k=0:=by unfold fV;rw[if_pos d]
  have b:iR k=16/k:=by unfold iR;rw[a]
  rw[a,b,c];exact Xk k w (by omega) (by omega) (by omega)
 ·by_cases h:4<=32/k
  ·have a:fV k=1:=by unfold fV;rw[if_neg d,if_pos h]
   have b:iR k=32/k:=by unfold iR;rw[a]
   rw[a,b,g];exact Xl k w (by omega) (by omega) (by omega) (by omega)
  ·have a:fV k=2:=by unfold fV;rw[if_neg d,if_neg h]
   have b:iR k=64/k:=by unfold iR;rw[a]
   rw[a,b,f];exact Xm k w (by omega) (by omega) (by omega) (by omega)
theorem IY (b:Bk)(p:Nat)(w:World)(ha:b.a<=1000)(hp:p<=1000):
 Calls prog 70 #[aC #[aB aI b.a,aB aI b.o,aB aI b.t],aB aI p] w λe w'=>e=aN (aB aI ((b.a:Int)-p))/\Below w.heap.size w w':=by
 go_enter func70,ntmps70
 go_wp2
 go_ret
 exact⟨rfl,aT _ _⟩
theorem KI (a:Option Addr)(n cap:Nat)(l:List Bk)(p:Nat)(w:World)(hn:l.length=n)(hl:n<=1000)(hr:Row w a (flat bC l))(hrise:rW l)(ha:∀b∈l,b.a<=1000)(hp:p<=1000):
 Calls prog 69 #[aA a n cap,aB aI p,.func (.func 70) #[] #[]] w λe w'=>e=aN (aG #[aB aI (lb l p:Int),.bool (hasB l p)])/\Below w.heap.size w w':=by
 subst hn;have E:=vH l p;have P:∀k w,(callFunc 70 k).run prog w= .ok (.enter 70 k) w:=enters_of func70 (by kernel_rfl) rfl;go_enter func69,ntmps69
 go_wp2
 go_loopw [9,10,11] (λB s _ wr=>∃i j:Nat,i<=lb l p/\lb l p<=j/\j<=l.length/\B=aB aI i/\s=aB aI j/\Below w.heap.size w wr) (λB s _ _=>(intOf s).toNat-(intOf B).toNat)
 case atStart=>exact⟨0,l.length,gU _,E,gT _,rfl,rfl,gX _ _⟩
 case round=>
  obtain⟨i,j,N,J,O,rfl,rfl,f⟩:=hrel;by_cases I:i<j
  ·have F:(i+j)/2<l.length:=by omega
   have m:=gO (JM hrise (a:=p) F);obtain⟨b,off,rfl,hb,x⟩:=aZ aX (by decide) (hr.below f) F;obtain⟨q,v,r⟩:=bZ x;have t:=ha _ (gL F);clear hr x;generalize l[(i+j)/2]=y at*;go_wp2_with fail
   refine(IY y p _ t hp).mono ?_;rintro e H ⟨rfl,u⟩;have d:=gW f u;clear q v r;by_cases o:y.a<p
   ·have M:=m.out.2 o;have D:(y.a:Int)-p<0:=by omega
    go_wp2
    go_roundw
    case rel=>exact⟨(i+j)/2+1,j,by omega,J,O,by go_num,rfl,d⟩
    case measure=>simp[intOf];omega
   ·have M:¬(i+j)/2<lb l p:=λh=>o (m.out.1 h)
    have D:¬(y.a:Int)-p<0:=by omega
    go_wp2
    go_roundw
    case rel=>exact⟨i,(i+j)/2,N,by omega,by omega,rfl,by go_num,d⟩
    case measure=>simp[intOf];omega
  ·obtain rfl:i=lb l p:=by omega
   have L:(lb l p:Int)<=l.length:=by omega
   by_cases C:lb l p<l.length
   ·obtain⟨b,off,rfl,hb,x⟩:=aZ aX (by decide) (hr.below f) C;obtain⟨q,v,r⟩:=bZ x;have t:=ha _ (gL C);have g:=gO (xW hrise (a:=p) C);have A:(lb l p:Int)<l.length:=by omega
    clear hr x;generalize l[lb l p]=y at*;generalize c:lb l p=K at*;have z:=gO c;clear c;go_wp2_with fail
    refine(IY y p _ t hp).mono ?_;rintro e H ⟨rfl,u⟩;have d:=gW f u;clear q v r;by_cases G:y.a=p
    ·have D:((y.a:Int)-p == 0)=true:=by rw[beq_iff_eq];omega
     go_wp2
     go_ret2
     refine⟨?_,d⟩;rw[g.out,z.out,gTg G];rfl
    ·have D:((y.a:Int)-p == 0)=false:=by rw[beq_eq_false_iff_ne];omega
     go_wp2
     go_ret2
     refine⟨?_,d⟩;rw[g.out,z.out,gV G];rfl
   ·have g:=gO (wG hrise (a:=p) (by omega));have A:¬(lb l p:Int)<l.length:=by omega
    clear hr;generalize c:lb l p=K at*;have z:=gO c;clear c;go_wp2
    go_ret2
    refine⟨?_,f⟩;rw[g.out,z.out];rfl
end Go.Proofs.YtjaogfhcnmjkiaaGreatDoor
