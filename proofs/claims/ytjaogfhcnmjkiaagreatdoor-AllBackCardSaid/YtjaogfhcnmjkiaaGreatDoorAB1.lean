/- joined. -/
import Derived.Test.YtjaogfhcnmjkiaaGreatDoorAB0
import Derived.Test.YtjaogfhcnmjkiaaGreatDoorRows
import Derived.WalkKit
import Derived.LoopTactic
import Derived.Laws.CopyRow
import Derived.Deep.QuietTactic
import Derived.BigQuiet
import Derived.WalkSmall
import Derived.Lib.AppendZerosOnto
import Derived.Lib.SliceRun
import Derived.Shelf.Abstract
import Derived.Deep.RegionWith
import Derived.Deep.RegionHeld3
import Derived.Deep.DeepCutAuto
set_option linter.all false
set_option maxRecDepth 100000
set_option maxHeartbeats 0
namespace Go.Proofs.YtjaogfhcnmjkiaaGreatDoor
open Go.RowKit
open Go.Value renaming slice->aA,int->aB,agg->aC,string->aF,tuple->aG,pointer->aH,ownBlock->gTh
open Go.IntKind renaming i64->aI
open Option renaming none->aJ,some->aK
open Go.Ending renaming returned->aN
open Go.Obj renaming cells->aO
open Go.Proofs.Tryz
variable {A args vs:Array Value}{B b c f g i j k n o order size t:Nat}{W w w' w1 w2:World}{a:Option Addr}{cs xs:List Value}{e:TypeId}{v:Value}{y:List Nat}
def Row (w:World)(a:Option Addr)(cs:List Value):Prop:=
 ∀j v,cs[j]? =aK v->∃b off,a=aK ⟨b,off,aJ⟩/\b<w.heap.size/\w.cell? ⟨b,off+j,aJ⟩=aK v
theorem Row.nil (w:World)(a:Option Addr):Row w a []:=λj v h=>by simp at h
theorem Row.mono (h:Row w a cs)(hb:Below B w w')(hB:w.heap.size<=B):Row w' a cs:=by
 intro j v c;obtain⟨b,off,e,f,d⟩:=h j v c;exact⟨b,off,e,gI f hb.size,by rw[hb.cell (p:=⟨b,off+j,aJ⟩) (by simp;omega)];exact d⟩
theorem Row.below (h:Row w a cs)(hb:Below w.heap.size w w'):Row w' a cs:=h.mono hb (gT _)
theorem Row.take (h:Row w a cs)(k:Nat):Row w a (cs.take k):=by
 intro j v b;rw[List.getElem?_take]at b;split at b
 ·exact h j v b
 ·cases b
theorem Xi (w:World)(v:Value)(t:TypeId):Row (w.alloc (aO #[v] t)) (aK ⟨w.heap.size,0,aJ⟩) [v]:=by
 intro j u a;have b:j=0:=by
  rcases j with _ | j
  ·rfl
  ·simp at a
 subst b;obtain rfl:v=u:=by simpa using a
 exact⟨w.heap.size,0,rfl,by simp,by rw[cell_of_row _ _ _ _ _ _ (heap_alloc_new w _)];rfl⟩
theorem fC {k:IntKind}{a b:Int}(h:a=b):aN (.int k a)=aN (.int k b):=by rw[h]
theorem bP {a b:Bool}(h:a=b):aN (.bool a)=aN (.bool b):=by rw[h]
def vI (x:Int):Value:=aB aI x
theorem Uo {base:Nat}(h:w.ownsRow base e size v n xs):∃a c,v=aA a n c:=by
 rcases h.2 with ⟨h,d⟩ | ⟨g,f,b,h,_⟩
 ·exact⟨aJ,0,by rw[h,d]⟩
 ·exact⟨_,_,h⟩
theorem bJ {base:Nat}(h:w.ownsRow base e size (aA a n c) n xs):Row w a xs:=by
 intro j v b;rcases h.2 with ⟨f,l⟩ | ⟨g,d,i,f,hb,m,_⟩
 ·have:xs=[]:=List.eq_nil_of_length_eq_zero (by rw[h.1,l,Nat.zero_mul]);simp[this]at b
 ·obtain⟨rfl,rfl⟩:a=aK ⟨g,0,aJ⟩/\c=d:=by simpa using f
  refine⟨g,0,rfl,(Array.getElem?_eq_some_iff.1 m).1,?_⟩;have k:j<n*size:=by rw[<- h.1];exact(gK.1 b).1
  rw[Nat.zero_add,World.ownsRow.cellAt h j k];exact b
theorem oI {base:Nat}(h:w.ownsRow base e size (aA a n c) n xs)(k:Nat)(hk:k<xs.length):
 ∃g,a=aK ⟨g,0,aJ⟩/\base<=g/\g<w.heap.size/\w.cell? ⟨g,k,aJ⟩=aK xs[k]/\w.frozen? ⟨g,k,aJ⟩=false:=by
 rcases h.2 with ⟨d,i⟩ | ⟨g,b,f,d,hb,j,_⟩
 ·have:xs=[]:=List.eq_nil_of_length_eq_zero (by rw[h.1,i,Nat.zero_mul]);simp[this]at hk
 ·obtain⟨rfl,rfl⟩:a=aK ⟨g,0,aJ⟩/\c=b:=by simpa using d
  exact⟨g,rfl,hb,(Array.getElem?_eq_some_iff.1 j).1,by rw[World.ownsRow.cellAt h k (by rw[<- h.1];exact hk)];simp[hk],World.ownsRow.frozenAt h k⟩
theorem eU {base:Nat}(h:w.ownsRow base e size (aA a n c) n xs):n<=c:=by
 rcases h.2 with ⟨d,j⟩ | ⟨g,b,f,d,hb,k,i,_⟩
 ·omega
 ·obtain⟨rfl,rfl⟩:a=aK ⟨g,0,aJ⟩/\c=b:=by simpa using d
  exact i
theorem iJ {base:Nat}(h:w.ownsRow base e size (aA a n c) n xs)(k:Nat)(hk:k<xs.length):
 ∃g v,a=aK ⟨g,0,aJ⟩/\base<=g/\g<w.heap.size/\w.cell? ⟨g,k,aJ⟩=aK v/\w.frozen? ⟨g,k,aJ⟩=false:=by
 obtain⟨g,f,b,j,d,i⟩:=oI h k hk;exact⟨g,_,f,b,j,d,i⟩
theorem own_below {base:Nat}(h:w.ownsRow base e size v n xs)(hb:Below B w w')(hB:w.heap.size<=B):w'.ownsRow base e size v n xs:=by
 refine⟨h.1,?_⟩;rcases h.2 with f | ⟨g,c,b,j,i,d,a⟩
 ·exact .inl f
 ·refine .inr ⟨g,c,b,j,i,?_,a⟩;rw[hb.block g (gI (Array.getElem?_eq_some_iff.1 d).1 hB)];exact d
theorem own_base {b':Nat}(h:w.ownsRow b e size v n xs)(hb:b'<=b):w.ownsRow b' e size v n xs:=by
 refine⟨h.1,?_⟩;rcases h.2 with f | ⟨g,d,c,i,j,a⟩
 ·exact .inl f
 ·exact .inr ⟨g,d,c,i,by omega,a⟩
theorem jO {P:Program}{w:World}{ops:Array Oper}{rest:List Oper}{o:Oper}{a:Act}{Q:Exit->Act->World->Prop}(hgd:o.guard=aJ)(s x:Operand)(t:TypeId)
 (ho:o.op= .call {callee:= .builtin .append,args:=#[s,x],argTypes:=#[t,t]})
 (base:Nat) (e:TypeId) (z:Value) (size bytes:Nat) (ht:P.underlying t=aK (.slice e)) (hinfo:(P.info? e).map (λi=>(i.zero,i.size,i.bytes))=aK (aK z,size,bytes))
 (hzs:z.cells.size=size) (hsz:0<size) (hbp:0<bytes)
 (as_:Option Addr) (n cs:Nat) (xs:List Value) (hs:a.eval s=aA as_ n cs) (hown:w.ownsRow base e size (aA as_ n cs) n xs)
 (ax:Option Addr) (m cx:Nat) (news:List Value) (hx:a.eval x=aA ax m cx) (hl:news.length=m*size) (hnews:Row w ax news) (h1:∀u∈news,u.oneCell'=true)
 (hbytes:(n+m)*bytes<=140737488355328) (hbase:base<=w.heap.size)
 (h:∀a' c' w',w'.ownsRow base e size (aA a' (n+m) c') (n+m) (xs++news)->w.grownBy w' (gTh (aA as_ n cs))->wpList P ops Q rest (a.put o.dst (aA a' (n+m) c')) w'):
 wpList P ops Q (o::rest) a w:=by
 obtain⟨i,p,D,c,f⟩:=info_parts hinfo;have d:n+m<=maxLen:=by
  have:n+m<=(n+m)*bytes:=Nat.le_mul_of_pos_right _ hbp;simp only[maxLen];omega
 cases ax with
 | some ad=>
  refine wpList_append_own w hgd s x t ho base e i z size bytes ht p D c f hzs hsz _ n xs hs hown ad m cx news hx hl ?_ h1 d hbytes hbase λJ w' y G _=> ?_
  ·intro j u I;obtain⟨b,off,q,_,C⟩:=hnews j u I;obtain rfl:ad=⟨b,off,aJ⟩:=by simpa using q
   rw[Addr.add_lit];exact C
  ·obtain⟨a',c',rfl⟩:=Uo y;exact h a' c' w' y G
 | none=>
  have v:news=[]:=by
   cases news with
   | nil=>rfl
   | cons u l=>obtain⟨b,off,q,_⟩:=hnews 0 u rfl;cases q
  subst v;have H:m=0:=by
   rcases Nat.eq_zero_or_pos m with h | h
   ·exact h
   ·have:=Nat.mul_pos h hsz;simp only[List.length_nil]at hl;omega
  subst H;refine wpList_plain hgd λK A=> ?_
  have F:(Builtin.append_ #[t,t] o.type #[aA as_ n cs,aA aJ 0 cx]).run P w= .ok (aA as_ n cs) w:=by
   rcases hown.2 with ⟨r,rfl⟩ | ⟨g,B,E,r,_,L,k,_⟩
   ·rw[r];simp[Builtin.append_,run_underlying ht,sizeOf,typeInfo,p,Builtin.lenOf,Builtin.firstCells]
   ·rw[r];simp[Builtin.append_,run_underlying ht,sizeOf,typeInfo,p,Builtin.lenOf,Builtin.firstCells,k,storeCells]
  unfold Oper.wp execOp;simp only[ho,resolve,invoke,builtin,Sem.run_bind,Sem.run_pure,Result.andThen_ok,List.map_toArray,List.map_cons,List.map_nil,hs,hx,F];exact A _ _ (h as_ cs w (by simpa using hown) ⟨rfl,rfl,rfl,gT _,λ_ _ _=>rfl⟩)
theorem below_grown {a:World}{base:Nat}(h:Below B a w)(hown:w.ownsRow base e size v n xs)(hg:w.grownBy w' v.ownBlock)(hB:B<=base)(hs:B<=w.heap.size):Below B a w':=
 h.grown hg hs λk b=>by have:=(hown.lt k b).1;omega
def dJ (a:Option Addr)(l m s:Nat):Option Addr:=if m=l then a else a.map (·.add (l*s))
theorem jP (a:Option Addr)(l h m s:Nat):sliced a l h m s=aA (dJ a l m s) (h-l) (m-l):=rfl
@[simp] theorem aEM (a:Option Addr) (m s:Nat):dJ a 0 m s=a:=by
 unfold dJ;split
 ·rfl
 ·cases a <;> simp[Addr.add]
theorem Row.cut (h:Row w a xs)(l m s j:Nat)(hj:j<=(m-l)*s):Row w (dJ a l m s) ((xs.drop (l*s)).take j):=by
 intro k v c;rw[List.getElem?_take]at c;split at c
 ·rename_i hkj;rw[List.getElem?_drop]at c;obtain⟨b,off,rfl,g,f⟩:=h _ v c;have d:¬m=l:=by
   intro e;subst e;simp at hj;omega
  refine⟨b,off+l*s,?_,g,by rw[Nat.add_assoc];exact f⟩;unfold dJ;rw[if_neg d];show aK (Addr.add ⟨b,off,aJ⟩ (l*s))=_;rw[Addr.add_lit]
 ·cases c
def pk (n many:Int):Int:=(if n<0 then-(n+1)else n)%many
theorem Bh (n many:Int)(h:1<=many):0<=pk n many:=Int.emod_nonneg _ (by omega)
theorem Xj (n many:Int)(h:1<=many):pk n many<many:=Int.emod_lt_of_pos _ (by omega)
theorem Eu (n many:Int)(w:World)(hn1: -9223372036854775808<=n)(hn2:n<=9223372036854775807)(h1:1<=many)(h2:many<=1000000):
 Calls prog 13 #[aB aI n,aB aI many] w λe w'=>e=aN (aB aI (pk n many))/\w=w':=by
 by_cases a:n<0
 ·go_enter func13,ntmps13
  go_wp2
  go_ret
  refine⟨fC ?_,rfl⟩;show-(n+1).tmod many=_;rw[pk,if_pos a,<- Int.neg_tmod,Int.tmod_eq_emod_of_nonneg (by omega)]
 ·go_enter func13,ntmps13
  go_wp2
  go_ret
  refine⟨fC ?_,rfl⟩;show n%many=_;rw[pk,if_neg (by omega)]
theorem nR {P:Program}(size n:Nat)(sp:Option Addr)(len cap:Nat)(cs:List Value)(hl:cs.length=n*size)(hr:Row w sp cs):
 (Builtin.firstCells size n (aA sp len cap)).run P w= .ok cs.toArray w:=by
 cases sp with
 | some b=>
  refine run_firstCells_some w size n b len cap cs hl λj v c=> ?_
  obtain⟨d,off,e,_,h⟩:=hr j v c;obtain rfl:b=⟨d,off,aJ⟩:=by simpa using e
  rw[Addr.add_lit];exact h
 | none=>
  have:cs=[]:=by
   cases cs with
   | nil=>rfl
   | cons u l=>obtain⟨b,off,a,_⟩:=hr 0 u rfl;cases a
  subst this;simp[Builtin.firstCells]
theorem CV (cur xs cs:List Value)(o N:Nat)(h:cur.take N=xs)(hN:N<=cur.length)(hf:o+cs.length<=N):
 (cur.take o++cs++cur.drop (o+cs.length)).take N=xs.take o++cs++xs.drop (o+cs.length):=by
 subst h;have a:(cur.take o++cs).length=o+cs.length:=by rw[gTb,gTc];omega
 rw[List.take_append,gTf (by omega),a,List.take_take,Nat.min_eq_left (by omega),List.drop_take]
theorem Ut {P:Program}{w:World}{ops:Array Oper}{rest:List Oper}{o:Oper}{a:Act}{Q:Exit->Act->World->Prop}(hgd:o.guard=aJ)(d s:Operand)(dT sT:TypeId)
 (ho:o.op= .call {callee:= .builtin .copy,args:=#[d,s],argTypes:=#[dT,sT]}) (e:TypeId) (hu:P.underlying dT=aK (.slice e)) (size:Nat) (hsz:(P.info? e).map (·.size)=aK size)
 (dp sp:Option Addr) (dLen dCap sLen sCap:Nat) (hd:a.eval d=aA dp dLen dCap) (hs:a.eval s=aA sp sLen sCap)
 (cs:List Value) (hn:cs.length=Nat.min sLen dLen*size) (hcs:Row w sp cs) (h1:∀u∈cs,u.oneCell'=true)
 (base N co p:Nat) (ao:Option Addr) (xs:List Value) (hown:w.ownsRow base e size (aA ao N co) N xs) (hp:0<cs.length->dp=ao.map (·.add (p*size))) (hdn:dp=aJ->cs=[]) (hfit:p*size+cs.length<=N*size)
 (h:∀w',w'.ownsRow base e size (aA ao N co) N (xs.take (p*size)++cs++xs.drop (p*size+cs.length))->w.grownBy w' (gTh (aA ao N co))->wpList P ops Q rest (a.put o.dst (goInt (Nat.min sLen dLen:Nat))) w'):
 wpList P ops Q (o::rest) a w:=by
 refine wpList_plain hgd λK D=> ?_
 have key:∃w',(Builtin.copy_ #[dT,sT] o.type #[aA dp dLen dCap,aA sp sLen sCap]).run P w= .ok (goInt (Nat.min sLen dLen:Nat)) w'/\w'.ownsRow base e size (aA ao N co) N (xs.take (p*size)++cs++xs.drop (p*size+cs.length))/\w.grownBy w' (gTh (aA ao N co)):=by
  cases hq:P.info? e with
  | none=>simp[hq]at hsz
  | some i=>
   have x:i.size=size:=by simpa[hq]using hsz
   have t:=nR (P:=P) size (Nat.min sLen dLen) sp sLen sCap cs hn hcs;by_cases n:0<cs.length
   ·obtain⟨g,c,b,G,v,z,l,q,m,r⟩:∃g c b,aA ao N co=aA (aK ⟨g,0,aJ⟩) N c/\base<=g/\w.heap[g]? =aK (.cells b e (0,0))/\N<=c/\c<=maxLen/\b.size=c*size/\b.toList.take (N*size)=xs:=by
     rcases hown.2 with ⟨_,B⟩ | h
     ·rw[B,Nat.zero_mul]at hfit;omega
     ·exact h
    obtain⟨rfl,rfl⟩:ao=aK ⟨g,0,aJ⟩/\co=c:=by simpa using G
    have f:=hp n;simp only[Option.map_some,Addr.add_lit,Nat.zero_add]at f;subst f;have y:N*size<=b.size:=by rw[m];exact Nat.mul_le_mul_right _ l
    have j:=run_storeCells_at P g (p*size) e cs 0 b w z (by omega) h1;refine⟨w.setRow g (b.toList.take (p*size)++cs++b.toList.drop (p*size+cs.length)).toArray,?_,?_,?_⟩
    ·simp only[Nat.add_zero]at j;simp[Builtin.copy_,run_underlying hu,Builtin.lenOf,sizeOf,typeInfo,hq,x,t,j]
    ·refine⟨?_,.inr ⟨g,co,_,rfl,v,setRow_heap w g b _ e _ z,l,q,?_,?_⟩⟩
     ·have:=hown.1;simp only[gTb,gTc,gTd];omega
     ·simp only[List.size_toArray,gTb,gTc,gTd,Array.length_toList];omega
     ·exact CV _ _ _ _ _ r (by simpa using y) hfit
    ·exact⟨rfl,rfl,rfl,by simp[World.setRow],λk _ C=>setRow_other w g k _ (λe=>C (by simp[gTh,e]))⟩
   ·have H:cs=[]:=List.eq_nil_of_length_eq_zero (by omega);subst H;refine⟨w,?_,by simpa using hown,⟨rfl,rfl,rfl,gT _,λ_ _ _=>rfl⟩⟩;cases dp with
    | none=>simp[Builtin.copy_,run_underlying hu,Builtin.lenOf,sizeOf,typeInfo,hq,x,t]
    | some ad=>simp[Builtin.copy_,run_underlying hu,Builtin.lenOf,sizeOf,typeInfo,hq,x,t,storeCells]
 obtain⟨w',E,A,F⟩:=key;unfold Oper.wp execOp;simp only[ho,resolve,invoke,builtin,Sem.run_bind,Sem.run_pure,Result.andThen_ok,List.map_toArray,List.map_cons,List.map_nil,hd,hs,E];exact D _ _ (h w' A F)
structure Bk where
 a:Nat
 o:Nat
 t:Nat
deriving DecidableEq
def Bk.fin (b:Bk):Nat:=b.a+2^b.o
def nG (a o:Nat):Nat:=if a/2^o%2=0 then a+2^o else a-2^o
structure Zn where
 f:Nat
 e:Nat
 l:List Bk
 y:List Nat
deriving DecidableEq
def dM (f e a o:Nat):Prop:=o<=4/\f<=a/\a<e/\a%2^o=0
structure sQ (f e:Nat)(l:List Bk):Prop where
 fit:∀b∈l,dM f e b.a b.o/\b.t<3
 sep:l.Pairwise λx y=>x.fin<=y.a
 nob:∀x∈l,∀y∈l,x.o=y.o->x.o<4->y.a≠nG x.a x.o
structure OkZ (f e:Nat)(y:List Nat):Prop where
 fe:f<=e
 e2:e<=256
 f16:f%16=0
 e16:e%16=0
 len:y.length=(e-f)/8
 typ:∀t∈y,t<3
def Zn.ok (z:Zn):Prop:=OkZ z.f z.e z.y/\sQ z.f z.e z.l
theorem aAG (f e:Nat)(l:List Bk):sQ f e l↔(∀b∈l,dM f e b.a b.o/\b.t<3)/\(l.Pairwise λx y=>x.fin<=y.a)/\∀x∈l,∀y∈l,x.o=y.o->x.o<4->y.a≠nG x.a x.o:=
 ⟨λh=>⟨h.fit,h.sep,h.nob⟩,λh=>⟨h.1,h.2.1,h.2.2⟩⟩
theorem aAH (f e:Nat)(y:List Nat):OkZ f e y↔(f<=e/\e<=256/\f%16=0/\e%16=0/\y.length=(e-f)/8/\∀t∈y,t<3):=
 ⟨λh=>⟨h.fe,h.e2,h.f16,h.e16,h.len,h.typ⟩,λh=>⟨h.1,h.2.1,h.2.2.1,h.2.2.2.1,h.2.2.2.2.1,h.2.2.2.2.2⟩⟩
def apartB (a o:Nat)(x:Bk):Prop:=x.fin<=a∨a+2^o<=x.a
def lb (l:List Bk)(a:Nat):Nat:=(l.takeWhile λb=>decide (b.a<a)).length
def jW (l:List Bk)(a:Nat):Nat->Nat->List Bk×Nat×Nat
 | 0,o=>(l,a,o)
 | n+1,o=>match l[lb l (nG a o)]? with
  | some x=>if x.a=nG a o/\x.o=o then jW (l.eraseIdx (lb l (nG a o))) (min a x.a) n (o+1)else(l,a,o)
  | none=>(l,a,o)
def dG (l:List Bk)(b:Bk):List Bk:=l.take (lb l b.a)++b::l.drop (lb l b.a)
def Zn.back (z:Zn)(a o:Nat):Zn:=
 let r:=jW z.l a (4-o) o
 {z with l:=dG r.1 ⟨r.2.1,r.2.2,z.y.getD ((r.2.1-z.f)/8) 0⟩}
theorem JD (h:o<=4):2^o=1∨2^o=2∨2^o=4∨2^o=8∨2^o=16:=by
 obtain rfl | rfl | rfl | rfl | rfl:o=0∨o=1∨o=2∨o=3∨o=4:=by omega
 all_goals simp
theorem dN (o:Nat):0<2^o:=Nat.two_pow_pos o
theorem Bl {a:Nat}(ho:o<=4)(h:a%2^o=0):(nG a o=a+2^o/\a%2^(o+1)=0)∨(nG a o+2^o=a/\nG a o%2^(o+1)=0):=by
 unfold nG;obtain rfl | rfl | rfl | rfl | rfl:o=0∨o=1∨o=2∨o=3∨o=4:=by omega
 all_goals simp only[Nat.reducePow,Nat.reduceAdd]at*
 all_goals split <;> omega
theorem aAI {a:Nat}(ho:o<=4)(h:a%2^o=0):nG (nG a o) o=a:=by
 unfold nG;obtain rfl | rfl | rfl | rfl | rfl:o=0∨o=1∨o=2∨o=3∨o=4:=by omega
 all_goals simp only[Nat.reducePow]at*
 all_goals (split <;> split <;> omega)
theorem SI {e a:Nat}(hf:f%16=0)(he:e%16=0)(ho:o<4)(h:dM f e a o):dM f e (min a (nG a o)) (o+1):=by
 obtain⟨b,c,g,d⟩:=h;unfold dM nG;obtain rfl | rfl | rfl | rfl:o=0∨o=1∨o=2∨o=3:=by omega
 all_goals simp only[Nat.reducePow,Nat.reduceAdd]at*
 all_goals (split <;> omega)
theorem vY {e a:Nat}(he:e%16=0)(h:dM f e a o):a+2^o<=e:=by
 obtain⟨b,c,g,d⟩:=h;obtain rfl | rfl | rfl | rfl | rfl:o=0∨o=1∨o=2∨o=3∨o=4:=by omega
 all_goals simp only[Nat.reducePow]at*
 all_goals omega
theorem Bo {e a:Nat}(he:e%16=0)(h:dM f e a (o+1)):dM f e a o/\dM f e (a+2^o) o/\nG (a+2^o) o=a:=by
 have g:=vY he h;obtain⟨d,b,i,c⟩:=h;unfold dM nG;obtain rfl | rfl | rfl | rfl:o=0∨o=1∨o=2∨o=3:=by omega
 all_goals simp only[Nat.reducePow,Nat.reduceAdd]at*
 all_goals (refine⟨⟨by omega,by omega,by omega,by omega⟩,⟨by omega,by omega,by omega,by omega⟩,?_⟩;split <;> omega)
theorem Ef {α:Type}(p:α->Bool):∀l:List α,l.take (l.takeWhile p).length=l.takeWhile p
 | []=>rfl
 | x::l=>by
  rw[List.takeWhile_cons];split
  ·rw[List.length_cons,List.take_succ_cons,Ef p l]
  ·rfl
theorem drop_tw {α:Type}(p:α->Bool):∀l:List α,l.drop (l.takeWhile p).length=l.dropWhile p
 | []=>rfl
 | x::l=>by
  rw[List.takeWhile_cons,List.dropWhile_cons];split
  ·rw[List.length_cons,List.drop_succ_cons,drop_tw p l]
  ·rfl
theorem vH (l:List Bk)(a:Nat):lb l a<=l.length:=by
 have:=congrArg List.length (Ef (λb:Bk=>decide (b.a<a)) l);rw[gTc]at this;unfold lb;omega
def rW (l:List Bk):Prop:=l.Pairwise λx y=>x.a<y.a
theorem sQ.rise {e:Nat}{l:List Bk}(h:sQ f e l):rW l:=h.sep.imp fun{x y} a=>by
 have:=dN x.o;unfold Bk.fin at a;omega
theorem Qm {α:Type}{p:α->Bool}:∀{l:List α} {x:α},x∈l.takeWhile p->p x=true
 | [],x,h=>by simp at h
 | y::l,x,h=>by
  rw[List.takeWhile_cons]at h;split at h
  ·rcases gY.1 h with rfl | h
   ·assumption
   ·exact Qm h
  ·simp at h
theorem zO {l:List Bk}{a:Nat}:∀x∈l.take (lb l a),x.a<a:=by
 intro x b;unfold lb at b;rw[Ef]at b;have:=Qm b;simpa using this
theorem vZ {l:List Bk}(h:rW l){a:Nat}:∀x∈l.drop (lb l a),a<=x.a:=by
 unfold lb;rw[drop_tw]
 induction l with
 | nil=>intro x b;simp at b
 | cons y l ih=>
  intro x b;rw[List.dropWhile_cons]at b;have c:=List.pairwise_cons.1 h;split at b
  ·exact ih c.2 x b
  ·rename_i hc;have d:a<=y.a:=by simpa using hc
   rcases gY.1 b with rfl | b
   ·exact d
   ·have:=c.1 x b;omega
theorem lZ {l:List Bk}(h:rW l){x:Bk}(hx:x∈l):l[lb l x.a]? =aK x:=by
 have b:x∈l.drop (lb l x.a):=by
  rw[<- List.take_append_drop (lb l x.a) l,gZ]at hx;rcases hx with hx | hx
  ·have:=zO x hx;omega
  ·exact hx
 rw[<- List.head?_drop];have d:rW (l.drop (lb l x.a)):=h.sublist (List.drop_sublist _ _);have c:=vZ h (a:=x.a);cases hl:l.drop (lb l x.a)with
 | nil=>rw[hl]at b;simp at b
 | cons y m=>
  rw[hl]at b d c;rcases gY.1 b with rfl | b
  ·rfl
  ·have f:=(List.pairwise_cons.1 d).1 x b;have e:=c y (by simp);omega
def inB (a o p:Nat):Prop:=a<=p/\p<a+2^o
def fJ (l:List Bk)(p:Nat):Prop:=∃b∈l,inB b.a b.o p
theorem sQ.sublist {e:Nat}{l m:List Bk}(h:sQ f e l)(hs:m.Sublist l):sQ f e m:=
 ⟨λb hb=>h.fit b (hs.subset hb),h.sep.sublist hs,λx c y a=>h.nob x (hs.subset c) y (hs.subset a)⟩
theorem xP {l:List Bk}(h:l.Pairwise λx y=>x.fin<=y.a)(hi:i<l.length)(hj:j<l.length)(hne:i≠j):l[i].fin<=l[j].a∨l[j].fin<=l[i].a:=by
 rcases Nat.lt_or_ge i j with b | c
 ·exact .inl (gN.1 h i j hi hj b)
 ·exact .inr (gN.1 h j i hj hi (by omega))
theorem sQ.put {e:Nat}{l:List Bk}(h:sQ f e l){b:Bk}(hb:dM f e b.a b.o)(ht:b.t<3)(hd:∀x∈l,apartB b.a b.o x)(hn:b.o<4->∀x∈l,x.o=b.o->x.a≠nG b.a b.o):sQ f e (dG l b):=by
 have c:∀x,x∈dG l b↔x=b∨x∈l:=λx=>by
  unfold dG;rw[gZ,gY]
  conv=>rhs;rw[<- List.take_append_drop (lb l b.a) l,gZ]
  constructor
  ·rintro(h | h | h)
   ·exact .inr (.inl h)
   ·exact .inl h
   ·exact .inr (.inr h)
  ·rintro(h | h | h)
   ·exact .inr (.inl h)
   ·exact .inl h
   ·exact .inr (.inr h)
 refine⟨λx g=> ?_,?_,λx g y d p u=> ?_⟩
 ·rcases(c x).1 g with rfl | g
  ·exact⟨hb,ht⟩
  ·exact h.fit x g
 ·unfold dG;rw[List.pairwise_append];refine⟨h.sep.sublist (List.take_sublist _ _),?_,λx g y d=> ?_⟩
  ·rw[List.pairwise_cons];refine⟨λy d=> ?_,h.sep.sublist (List.drop_sublist _ _)⟩;have s:=vZ h.rise y d;have r:=hd y (List.mem_of_mem_drop d);have z:=dN y.o;unfold apartB Bk.fin at r;unfold Bk.fin;omega
  ·have s:=zO x g;have r:=hd x (List.mem_of_mem_take g);have z:=dN b.o;rcases gY.1 d with rfl | d
   ·unfold apartB Bk.fin at r;unfold Bk.fin;omega
   ·have v:=h.sep;rw[<- List.take_append_drop (lb l b.a) l,List.pairwise_append]at v;exact v.2.2 x g y d
 ·have k:b.o<4->b.a≠nG b.a b.o:=λ_ e=>by
   have A:=dN b.o;rcases Bl hb.1 hb.2.2.2 with ⟨s,_⟩ | ⟨s,_⟩ <;> omega
  rcases(c x).1 g with q | i
  ·subst q;rcases(c y).1 d with m | j
   ·subst m;exact k u
   ·exact hn u y j p.symm
  ·rcases(c y).1 d with m | j
   ·subst m;intro w;have n:=(h.fit x i).1;have:=hn (by omega) x i p;rw[w,<- p,aAI n.1 n.2.2.2]at this;exact this rfl
   ·exact h.nob x i y j p u
theorem MS {l:List Bk}{b:Bk}(p:Nat):fJ (dG l b) p↔fJ l p∨inB b.a b.o p:=by
 unfold fJ dG;constructor
 ·rintro⟨x,c,d⟩;rw[gZ,gY]at c;rcases c with c | rfl | c
  ·exact .inl ⟨x,List.mem_of_mem_take c,d⟩
  ·exact .inr d
  ·exact .inl ⟨x,List.mem_of_mem_drop c,d⟩
 ·rintro(⟨x,c,d⟩ | d)
  ·rw[<- List.take_append_drop (lb l b.a) l,gZ]at c;refine⟨x,?_,d⟩;rw[gZ,gY];rcases c with c | c
   ·exact .inl c
   ·exact .inr (.inr c)
  ·exact⟨b,by simp,d⟩
structure Joined (f e:Nat)(l:List Bk)(a o:Nat)(l':List Bk)(a' o':Nat):Prop where
 ok:sQ f e l'
 fit:dM f e a' o'
 apart:∀x∈l',apartB a' o' x
 last:o'<4->∀x∈l',x.o=o'->x.a≠nG a' o'
 Xq:∀p,(fJ l' p∨inB a' o' p)↔(fJ l p∨inB a o p)
theorem Io {e:Nat}(hf:f%16=0)(he:e%16=0):∀(n o:Nat) (l:List Bk) (a:Nat),n+o=4->sQ f e l->dM f e a o->(∀x∈l,apartB a o x)->Joined f e l a o (jW l a n o).1 (jW l a n o).2.1 (jW l a n o).2.2
 | 0,o,l,a,hn,hl,hb,hd=>⟨hl,hb,hd,λh=>by simp only[jW]at h;omega,λp=>Iff.rfl⟩
 | n+1,o,l,a,hn,hl,hb,hd=>by
  have hstop:(∀x∈l,x.o=o->x.a≠nG a o)->Joined f e l a o l a o:=λh=>⟨hl,hb,hd,λ_=>h,λp=>Iff.rfl⟩
  unfold jW;cases hx:l[lb l (nG a o)]? with
  | none=>
   simp only;refine hstop λx w F u=> ?_
   have:=lZ hl.rise w;rw[u,hx]at this;cases this
  | some x=>
   simp only;by_cases g:x.a=nG a o/\x.o=o
   ·rw[if_pos g];obtain⟨G,m⟩:=gK.1 hx;have E:x∈l:=by rw[<- m];exact gL G
    have d:∀y,y∈l.eraseIdx (lb l (nG a o))->y∈l/\(y.fin<=x.a∨x.fin<=y.a):=λy k=>by
     obtain⟨j,v,z,rfl⟩:=List.mem_eraseIdx_iff_getElem.1 k;refine⟨gL v,?_⟩;rw[<- m];exact xP hl.sep v G z
    have C:o<4:=by omega
    have J:=dN o;have s:2^(o+1)=2^o+2^o:=by rw[Nat.pow_succ];omega
    have q:=Bl hb.1 hb.2.2.2;have c:min a x.a=min a (nG a o):=by rw[g.1]
    have b:∀y∈l.eraseIdx (lb l (nG a o)),apartB (min a x.a) (o+1) y:=λy k=>by
     obtain⟨i,A⟩:=d y k;have H:=hd y i;have I:=dN y.o;unfold apartB Bk.fin at*;rw[g.2,g.1]at A;rw[c,s];rcases q with ⟨B,_⟩ | ⟨B,_⟩ <;> omega
    have t:=Io hf he n (o+1) (l.eraseIdx (lb l (nG a o))) (min a x.a) (by omega) (hl.sublist (List.eraseIdx_sublist _ _)) (by rw[c];exact SI hf he C hb) b;refine⟨t.ok,t.fit,t.apart,t.last,λp=>(t.Xq p).trans ?_⟩;have D:inB (min a x.a) (o+1) p↔(inB a o p∨inB x.a x.o p):=by
     unfold inB;rw[g.2,g.1,s];rcases q with ⟨B,_⟩ | ⟨B,_⟩ <;> omega
    rw[D];constructor
    ·rintro(⟨y,k,h⟩ | h | h)
     ·exact .inl ⟨y,(d y k).1,h⟩
     ·exact .inr h
     ·exact .inl ⟨x,E,h⟩
    ·rintro(⟨y,k,h⟩ | h)
     ·obtain⟨j,v,rfl⟩:=List.getElem_of_mem k;by_cases r:j=lb l (nG a o)
      ·subst r;rw[m]at h;exact .inr (.inr h)
      ·exact .inl ⟨_,List.mem_eraseIdx_iff_getElem.2 ⟨j,v,r,rfl⟩,h⟩
     ·exact .inr (.inl h)
   ·rw[if_neg g];refine hstop λy i F u=> ?_
    have:=lZ hl.rise i;rw[u,hx]at this;obtain rfl:x=y:=by simpa using this
    exact g ⟨u,F⟩
theorem Zn.uM {z:Zn}(h:z.ok){a:Nat}(hb:dM z.f z.e a o)(hd:∀x∈z.l,apartB a o x):(z.back a o).ok/\∀p,fJ (z.back a o).l p↔(fJ z.l p∨inB a o p):=by
 obtain⟨c,g⟩:=h;have b:=Io c.f16 c.e16 (4-o) o z.l a (by have:=hb.1;omega) g hb hd;unfold Zn.back Zn.ok;simp only;generalize (jW z.l a (4-o) o).1=k at*;generalize (jW z.l a (4-o) o).2.1=i at*;generalize (jW z.l a (4-o) o).2.2=n at*;refine⟨⟨c,b.ok.put b.fit ?_ b.apart b.last⟩,λp=>(MS p).trans (b.Xq p)⟩;have m:=b.fit.2.1;have j:=b.fit.2.2.1;have d:(i-z.f)/8<z.y.length:=by rw[c.len];have:=c.f16;have:=c.e16;omega
 rw[List.getD_eq_getElem?_getD,gJ d];exact c.typ _ (gL d)
def pW (l:List Bk)(o t:Nat):Option Nat:=l.findIdx? λb=>decide (b.o=o/\b.t=t)
def l7 (l:List Bk)(t:Nat):Nat->Nat->Option Nat
 | 0,_=>aJ
 | n+1,o=>match pW l o t with
  | some i=>aK i
  | none=>l7 l t n (o+1)
def oth1 (t:Nat):Nat:=if t=2 then 0 else 2
def oth2 (t:Nat):Nat:=if t=1 then 0 else 1
def fB (l:List Bk)(t order:Nat):Nat->Option Nat
 | 0=>aJ
 | n+1=>if n<order then aJ else match pW l n (oth1 t)with
  | some i=>aK i
  | none=>match pW l n (oth2 t)with
   | some i=>aK i
   | none=>fB l t order n
def sS (y:List Nat)(f a t:Nat):Nat->List Nat
 | 0=>y
 | n+1=>(sS y f a t n).set ((a+n-f)/8) t
def qJ (fr up t:Nat)(x:Bk):Bk:=if fr<=x.a/\x.fin<=up then{x with t:=t}else x
def Zn.steal (z:Zn)(b:Bk)(t:Nat):Zn:=
 if b.o<2 then z else{z with l:=z.l.map (qJ (b.a/8*8) (max b.fin (b.a/8*8+8)) t),y:=sS z.y z.f b.a t (2^b.o)}
def iD (l:List Bk)(a t order:Nat):Nat->List Bk
 | 0=>l
 | o+1=>if order<=o then iD (dG l ⟨a+2^o,o,t⟩) a t order o else l
def Zn.cut (z:Zn)(i order:Nat):Option (Zn×Nat):=match z.l[i]? with
 | some b=>aK ({z with l:=iD (z.l.eraseIdx i) b.a b.t order b.o},b.a)
 | none=>aJ
def Zn.take (z:Zn)(order t:Nat):Option (Zn×Nat):=match l7 z.l t (5-order) order with
 | some i=>z.cut i order
 | none=>match fB z.l t order 5 with
  | some i=>match z.l[i]? with
   | some b=>(z.steal b t).cut i order
   | none=>aJ
  | none=>aJ
theorem sU {l:List Bk}(h:pW l o t=aK i):∃b,l[i]? =aK b/\b.o=o/\b.t=t:=by
 unfold pW at h;rw[List.findIdx?_eq_some_iff_getElem]at h;obtain⟨d,c,_⟩:=h;have a:=of_decide_eq_true c;exact⟨l[i],gJ d,a.1,a.2⟩
theorem Bq {l:List Bk}(h:pW l o t=aJ):∀b∈l,¬(b.o=o/\b.t=t):=by
 unfold pW at h;rw[List.findIdx?_eq_none_iff]at h;intro b hb;exact of_decide_eq_false (h b hb)
theorem rD {l:List Bk}:∀{n o i:Nat},l7 l t n o=aK i->∃b,l[i]? =aK b/\o<=b.o/\b.t=t
 | 0,_,_,h=>by cases h
 | n+1,o,i,h=>by
  unfold l7 at h;cases hl:pW l o t with
  | some j=>
   rw[hl]at h;obtain rfl:j=i:=by simpa using h
   obtain⟨b,a,d,c⟩:=sU hl;exact⟨b,a,by omega,c⟩
  | none=>
   rw[hl]at h;obtain⟨b,a,d,c⟩:=rD (n:=n) (o:=o+1) (i:=i) h;exact⟨b,a,by omega,c⟩
theorem CX {l:List Bk}:∀{n o:Nat},l7 l t n o=aJ->∀b∈l,¬(o<=b.o/\b.o<o+n/\b.t=t)
 | 0,o,_,b,_,hc=>by omega
 | n+1,o,h,b,hb,hc=>by
  unfold l7 at h;cases hl:pW l o t with
  | some j=>rw[hl]at h;cases h
  | none=>
   rw[hl]at h;have h1:=Bq hl b hb;have c:=CX (n:=n) (o:=o+1) h b hb;by_cases a:b.o=o
   ·exact h1 ⟨a,hc.2.2⟩
   ·exact c ⟨by omega,by omega,hc.2.2⟩
theorem oV {l:List Bk}:∀{n i:Nat},fB l t order n=aK i->∃b,l[i]? =aK b/\order<=b.o
 | 0,_,h=>by cases h
 | n+1,i,h=>by
  unfold fB at h;by_cases hc:n<order
  ·rw[if_pos hc]at h;cases h
  ·rw[if_neg hc]at h;cases h1:pW l n (oth1 t)with
   | some j=>
    rw[h1]at h;obtain rfl:j=i:=by simpa using h
    obtain⟨b,a,c,_⟩:=sU h1;exact⟨b,a,by omega⟩
   | none=>
    rw[h1]at h;cases h2:pW l n (oth2 t)with
    | some j=>
     rw[h2]at h;obtain rfl:j=i:=by simpa using h
     obtain⟨b,a,c,_⟩:=sU h2;exact⟨b,a,by omega⟩
    | none=>
     rw[h2]at h;exact oV (n:=n) h
theorem yL {l:List Bk}:∀{n:Nat},fB l t order n=aJ->∀b∈l,¬(order<=b.o/\b.o<n/\(b.t=oth1 t∨b.t=oth2 t))
 | 0,_,b,_,hc=>by omega
 | n+1,h,b,hb,hc=>by
  unfold fB at h;by_cases hn:n<order
  ·omega
  ·rw[if_neg hn]at h;cases h1:pW l n (oth1 t)with
   | some j=>rw[h1]at h;cases h
   | none=>
    rw[h1]at h;cases h2:pW l n (oth2 t)with
    | some j=>rw[h2]at h;cases h
    | none=>
     rw[h2]at h;have g1:=Bq h1 b hb;have c:=Bq h2 b hb;have d:=yL (n:=n) h b hb;by_cases a:b.o=n
     ·rcases hc.2.2 with h | h
      ·exact g1 ⟨a,h⟩
      ·exact c ⟨a,h⟩
     ·exact d ⟨hc.1,by omega,hc.2.2⟩
theorem rE (y:List Nat)(f a t:Nat):∀n,(sS y f a t n).length=y.length
 | 0=>rfl
 | n+1=>by simp[sS,rE y f a t n]
theorem MV {a:Nat}(ht:t<3)(h:∀u∈y,u<3):∀n,∀u∈sS y f a t n,u<3
 | 0=>h
 | n+1=>λu hu=>by
  unfold sS at hu;rcases List.mem_or_eq_of_mem_set hu with hu | rfl
  ·exact MV ht h n u hu
  ·exact ht
theorem sQ.map {e:Nat}{l:List Bk}(h:sQ f e l){g:Bk->Bk}(ha:∀x,(g x).a=x.a)(ho:∀x,(g x).o=x.o)(ht:∀x,x.t<3->(g x).t<3):sQ f e (l.map g):=by
 refine⟨λb hb=> ?_,?_,λx k y p m c=> ?_⟩
 ·obtain⟨x,k,rfl⟩:=List.mem_map.1 hb;obtain⟨j,n⟩:=h.fit x k;rw[ha,ho];exact⟨j,ht x n⟩
 ·rw[List.pairwise_map];refine h.sep.imp fun{x y} j=> ?_
  unfold Bk.fin at*;rw[ha,ha,ho];exact j
 ·obtain⟨r,d,rfl⟩:=List.mem_map.1 k;obtain⟨q,i,rfl⟩:=List.mem_map.1 p;rw[ho,ho]at m;rw[ho]at c;rw[ha,ha,ho];exact h.nob r d q i m c
theorem Xr {l:List Bk}{g:Bk->Bk}(ha:∀x,(g x).a=x.a)(ho:∀x,(g x).o=x.o)(p:Nat):fJ (l.map g) p↔fJ l p:=by
 unfold fJ;constructor
 ·rintro⟨b,hb,c⟩;obtain⟨x,d,rfl⟩:=List.mem_map.1 hb;rw[ha,ho]at c;exact⟨x,d,c⟩
 ·rintro⟨x,d,c⟩;exact⟨g x,List.mem_map_of_mem d,by rw[ha,ho];exact c⟩
theorem JE (fr up t:Nat)(x:Bk):(qJ fr up t x).a=x.a:=by unfold qJ;split <;> rfl
theorem JF (fr up t:Nat)(x:Bk):(qJ fr up t x).o=x.o:=by unfold qJ;split <;> rfl
theorem aAJ {fr up:Nat}(ht:t<3)(x:Bk)(h:x.t<3):(qJ fr up t x).t<3:=by unfold qJ;split <;> simp[ht,h]
theorem Zn.qK {z:Zn}(h:z.ok){b:Bk}(ht:t<3):(z.steal b t).ok/\(∀p,fJ (z.steal b t).l p↔fJ z.l p)/\(z.steal b t).f=z.f/\(z.steal b t).e=z.e/\∀(i:Nat) (x:Bk),z.l[i]? =aK x->∃y:Bk,(z.steal b t).l[i]? =aK y/\y.a=x.a/\y.o=x.o:=by
 unfold Zn.steal;split
 ·exact⟨h,λ_=>Iff.rfl,rfl,rfl,λi x c=>⟨x,c,rfl,rfl⟩⟩
 ·refine⟨⟨⟨h.1.fe,h.1.e2,h.1.f16,h.1.e16,by simp only[rE];exact h.1.len,MV ht h.1.typ _⟩,h.2.map (JE _ _ _) (JF _ _ _) (aAJ ht)⟩,λp=>Xr (JE _ _ _) (JF _ _ _) p,rfl,rfl,λi x c=>⟨qJ (b.a/8*8) (max b.fin (b.a/8*8+8)) t x,by simp only[List.getElem?_map,c,Option.map_some],JE _ _ _ _,JF _ _ _ _⟩⟩
theorem split_ok {e a:Nat}(he:e%16=0)(ht:t<3):∀(o:Nat) (l:List Bk),order<=o->sQ f e l->dM f e a o->(∀x∈l,apartB a o x)->
 sQ f e (iD l a t order o)/\dM f e a order/\(∀x∈iD l a t order o,apartB a order x)/\∀p,(fJ (iD l a t order o) p∨inB a order p)↔(fJ l p∨inB a o p)
 | 0,l,ho,hl,hb,hd=>by
  obtain rfl:order=0:=by omega
  exact⟨hl,hb,hd,λp=>Iff.rfl⟩
 | o+1,l,ho,hl,hb,hd=>by
  unfold iD;by_cases j:order<=o
  ·rw[if_pos j];obtain⟨q,m,u⟩:=Bo he hb;have y:=dN o;have c:2^(o+1)=2^o+2^o:=by rw[Nat.pow_succ];omega
   have d:sQ f e (dG l ⟨a+2^o,o,t⟩):=hl.put m ht (λx b=>by
    have:=hd x b;unfold apartB Bk.fin at*;rw[c]at this;simp only;omega) (λ_ x b g=>by
    simp only at g ⊢;rw[u];have:=hd x b;have k:=dN x.o;unfold apartB Bk.fin at this;omega)
   have i:∀x∈dG l ⟨a+2^o,o,t⟩,apartB a o x:=λx b=>by
    unfold dG at b;rw[gZ,gY]at b;rcases b with b | rfl | b
    ·have:=hd x (List.mem_of_mem_take b);unfold apartB at*;omega
    ·unfold apartB;simp only;omega
    ·have:=hd x (List.mem_of_mem_drop b);unfold apartB at*;omega
   obtain⟨s,n,w,r⟩:=split_ok he ht o _ j d q i;refine⟨s,n,w,λp=>(r p).trans ?_⟩;rw[MS];simp only;unfold inB;rw[c];constructor
   ·rintro((h | h) | h)
    ·exact .inl h
    ·exact .inr (by omega)
    ·exact .inr (by omega)
   ·rintro(h | h)
    ·exact .inl (.inl h)
    ·by_cases v:p<a+2^o
     ·exact .inr (by omega)
     ·exact .inl (.inr (by omega))
  ·rw[if_neg j];obtain rfl:order=o+1:=by omega
   exact⟨hl,hb,hd,λp=>Iff.rfl⟩
structure Taken (z:Zn)(order:Nat)(z':Zn)(at_:Nat):Prop where
 ok:z'.ok
 f:z'.f=z.f
 e:z'.e=z.e
 fit:dM z.f z.e at_ order
 apart:∀x∈z'.l,apartB at_ order x
 Xq:∀p,(fJ z'.l p∨inB at_ order p)↔fJ z.l p
 inside:∃b∈z.l,b.a=at_/\order<=b.o
theorem Zn.Xt {z:Zn}(h:z.ok){b:Bk}(hb:z.l[i]? =aK b)(ho:order<=b.o):∃z' at_,z.cut i order=aK (z',at_)/\Taken z order z' at_:=by
 obtain⟨r,g⟩:=gK.1 hb;have k:b∈z.l:=by rw[<- g];exact gL r
 have c:=h.2.fit b k;have d:∀y,y∈z.l.eraseIdx i->y∈z.l/\(y.fin<=b.a∨b.fin<=y.a):=λy f=>by
  obtain⟨j,n,q,rfl⟩:=List.mem_eraseIdx_iff_getElem.1 f;refine⟨gL n,?_⟩;rw[<- g];exact xP h.2.sep n r q
 obtain⟨v,u,w,s⟩:=split_ok (t:=b.t) h.1.e16 c.2 b.o (z.l.eraseIdx i) ho (h.2.sublist (List.eraseIdx_sublist _ _)) c.1 (λy f=>(d y f).2);refine⟨{z with l:=iD (z.l.eraseIdx i) b.a b.t order b.o},b.a,by unfold Zn.cut;rw[hb],⟨h.1,v⟩,rfl,rfl,u,w,λp=>(s p).trans ?_,b,k,rfl,ho⟩;constructor
 ·rintro(⟨y,f,e⟩ | e)
  ·exact⟨y,(d y f).1,e⟩
  ·exact⟨b,k,e⟩
 ·rintro⟨y,f,e⟩;obtain⟨j,n,rfl⟩:=List.getElem_of_mem f;by_cases m:j=i
  ·subst m;rw[g]at e;exact .inr e
  ·exact .inl ⟨_,List.mem_eraseIdx_iff_getElem.2 ⟨j,n,m,rfl⟩,e⟩
theorem Zn.Ip {z:Zn}(h:z.ok)(ho:order<=4)(ht:t<3)(hb:∃b∈z.l,order<=b.o):∃z' at_,z.take order t=aK (z',at_)/\Taken z order z' at_:=by
 unfold Zn.take;cases hu:l7 z.l t (5-order) order with
 | some i=>
  obtain⟨b,g,j,_⟩:=rD hu;exact z.Xt h g j
 | none=>
  simp only;cases hd:fB z.l t order 5 with
  | some i=>
   obtain⟨b,g,j⟩:=oV hd;simp only[g];obtain⟨B,w,v,q,G⟩:=Zn.qK h (b:=b) ht;obtain⟨y,s,n,E⟩:=G i b g;obtain⟨z',at_,k,d⟩:=Zn.Xt B s (order:=order) (by omega);refine⟨z',at_,k,d.ok,d.f.trans v,d.e.trans q,by have:=d.fit;rwa [v,q]at this,d.apart,λp=>(d.Xq p).trans (w p),?_⟩;obtain⟨c,x,A,F⟩:=d.inside;have hcut:at_=y.a:=by
    unfold Zn.cut at k;rw[s]at k;simp only[Option.some.injEq,Prod.mk.injEq]at k;exact k.2.symm
   obtain⟨C,m⟩:=gK.1 g;exact⟨b,by rw[<- m];exact gL C,by rw[hcut,n],j⟩
  | none=>
   exfalso;obtain⟨b,hb,r⟩:=hb;have g:=CX hu b hb;have j:=yL hd b hb;have u:=h.2.fit b hb;have H:=u.1.1;by_cases D:b.t=t
   ·exact g ⟨r,by omega,D⟩
   ·refine j ⟨r,by omega,?_⟩;unfold oth1 oth2;have I:=u.2;obtain rfl | rfl | rfl:t=0∨t=1∨t=2:=by omega
    all_goals simp only[Nat.reduceEqDiff,if_true,if_false]
    all_goals omega
theorem Zn.Iq {z:Zn}(h:¬∃b∈z.l,order<=b.o):z.take order t=aJ:=by
 unfold Zn.take;cases hu:l7 z.l t (5-order) order with
 | some i=>
  obtain⟨b,d,c,_⟩:=rD hu;obtain⟨e,a⟩:=gK.1 d;exact absurd ⟨b,by rw[<- a];exact gL e,c⟩ h
 | none=>
  simp only;cases hd:fB z.l t order 5 with
  | some i=>
   obtain⟨b,d,c⟩:=oV hd;obtain⟨e,a⟩:=gK.1 d;exact absurd ⟨b,by rw[<- a];exact gL e,c⟩ h
  | none=>rfl
theorem dU {a:Nat}{x:Bk}(h:∀p,inB a o p->¬inB x.a x.o p):apartB a o x:=by
 have c:=dN o;have d:=dN x.o;unfold apartB Bk.fin;have b:=h (max a x.a);unfold inB at b;omega
theorem kW {a:Nat}{x:Bk}(h:apartB a o x)(p:Nat)(hp:inB a o p):¬inB x.a x.o p:=by
 unfold apartB Bk.fin at h;unfold inB at*;omega
structure Ux (lo hi:Nat)(z:Zn)(away:List Bk):Prop where
 ok:z.ok
 fits:∀b∈away,dM z.f z.e b.a b.o
 apart:∀b∈away,∀x∈z.l,apartB b.a b.o x
 each:away.Pairwise λb c=>apartB b.a b.o c
 Xq:∀p,(fJ z.l p∨fJ away p)↔(lo<=p/\p<hi)
theorem Qn {b c:Bk}(h:apartB b.a b.o c):apartB c.a c.o b:=by
 unfold apartB Bk.fin at*;omega
theorem Ux.take {lo hi:Nat}{z:Zn}{away:List Bk}(h:Ux lo hi z away){at_:Nat}{z':Zn}(ht:Taken z order z' at_)(t:Nat):Ux lo hi z' (away++[⟨at_,order,t⟩]):=by
 obtain⟨c,u,w,y⟩:=ht.inside;have i:∀p,inB at_ order p->fJ z.l p:=λp d=>(ht.Xq p).1 (.inr d)
 have r:∀p,fJ z'.l p->fJ z.l p:=λp d=>(ht.Xq p).1 (.inl d)
 have v:∀b∈away,∀p,inB b.a b.o p->¬fJ z.l p:=λb hb p d ⟨x,k,g⟩=>kW (h.apart b hb x k) p d g
 have s:z'.f=z.f:=ht.f;have q:z'.e=z.e:=ht.e;refine⟨ht.ok,λb hb=> ?_,λb hb x k=> ?_,?_,λp=> ?_⟩
 ·rw[s,q];rw[gZ,gTa]at hb;rcases hb with hb | rfl
  ·exact h.fits b hb
  ·exact ht.fit
 ·rw[gZ,gTa]at hb;rcases hb with hb | rfl
  ·exact dU λp d g=>v b hb p d (r p ⟨x,k,g⟩)
  ·exact ht.apart x k
 ·rw[List.pairwise_append];refine⟨h.each,by simp,λb hb c u=> ?_⟩;rw[gTa]at u;subst u;exact dU λp d m=>v b hb p d (i p m)
 ·have j:=h.Xq p;have n:=ht.Xq p;have A:fJ (away++[⟨at_,order,t⟩]) p↔(fJ away p∨inB at_ order p):=by
   unfold fJ;constructor
   ·rintro⟨b,hb,d⟩;rw[gZ,gTa]at hb;rcases hb with hb | rfl
    ·exact .inl ⟨b,hb,d⟩
    ·exact .inr d
   ·rintro(⟨b,hb,d⟩ | d)
    ·exact⟨b,by simp[hb],d⟩
    ·exact⟨⟨at_,order,t⟩,by simp,d⟩
  rw[A];constructor
  ·rintro(h | h | h)
   ·exact j.1 (.inl (n.1 (.inl h)))
   ·exact j.1 (.inr h)
   ·exact j.1 (.inl (n.1 (.inr h)))
  ·intro h;rcases j.2 h with h | h
   ·rcases n.2 h with h | h
    ·exact .inl h
    ·exact .inr (.inr h)
   ·exact .inr (.inl h)
theorem Ux.back {lo hi:Nat}{z:Zn}{away:List Bk}(h:Ux lo hi z away)(hk:k<away.length):Ux lo hi (z.back away[k].a away[k].o) (away.eraseIdx k):=by
 have m:away[k]∈away:=gL hk;obtain⟨s,n⟩:=z.uM h.ok (h.fits _ m) (h.apart _ m);have c:∀y,y∈away.eraseIdx k->y∈away/\apartB y.a y.o away[k]:=λy i=>by
  obtain⟨j,f,r,rfl⟩:=List.mem_eraseIdx_iff_getElem.1 i;refine⟨gL f,?_⟩;rcases Nat.lt_or_ge j k with g | q
  ·exact gN.1 h.each j k f hk g
  ·exact Qn (gN.1 h.each k j hk f (by omega))
 refine⟨s,λb hb=>h.fits b (c b hb).1,λb hb x t=> ?_,h.each.sublist (List.eraseIdx_sublist _ _),λp=> ?_⟩
 ·refine dU λp d l=> ?_
  rcases(n p).1 ⟨x,t,l⟩with ⟨y,i,hyp⟩ | hyp
  ·exact kW (h.apart b (c b hb).1 y i) p d hyp
  ·exact kW (c b hb).2 p d hyp
 ·rw[n p,<- h.Xq p];constructor
  ·rintro((h | h) | ⟨b,hb,d⟩)
   ·exact .inl h
   ·exact .inr ⟨_,m,h⟩
   ·exact .inr ⟨b,(c b hb).1,d⟩
  ·rintro(h | ⟨b,hb,d⟩)
   ·exact .inl (.inl h)
   ·obtain⟨j,f,rfl⟩:=List.getElem_of_mem hb;by_cases e:j=k
    ·subst e;exact .inl (.inr d)
    ·exact .inr ⟨_,List.mem_eraseIdx_iff_getElem.2 ⟨j,f,e,rfl⟩,d⟩
def fH (z:Zn)(p:Nat):Nat->Zn
 | 0=>z
 | n+1=>(fH z p n).back (p+n) 0
theorem sQ.length_le {e:Nat}:∀{l:List Bk},sQ f e l->(∀b∈l,b.a<e)->l.length<=e
 | l,h,hb=>by
  have hr:=h.rise;have:∀(l:List Bk) (n:Nat),rW l->(∀b∈l,n<=b.a/\b.a<e)->n<=e->l.length+n<=e:=by
   intro l
   induction l with
   | nil=>intro n _ _ g;simp;exact g
   | cons x l ih=>
    intro n hr hb g;have i:=hb x (by simp);have c:=List.pairwise_cons.1 hr;have:=ih (x.a+1) c.2 (λy d=>⟨c.1 y d,(hb y (by simp[d])).2⟩) (by omega);simp only[List.length_cons];omega
  have:=this l 0 hr (λb h=>⟨by omega,hb b h⟩) (by omega);omega
theorem jQ {base:Nat}(h:w.ownsRow base e size (aA a n c) n xs)(hi:i<=n):w.ownsRow base e size (aA a i c) i (xs.take (i*size)):=by
 have j:i*size<=n*size:=Nat.mul_le_mul_right _ hi;refine⟨by rw[gTc,h.1];omega,?_⟩;rcases h.2 with ⟨b,p⟩ | ⟨g,f,d,b,hb,m,q,o,l,k⟩
 ·obtain⟨rfl,rfl⟩:a=aJ/\c=0:=by simp at b;exact⟨b.1,b.2.2⟩
  obtain rfl:i=0:=by omega
  exact .inl ⟨rfl,rfl⟩
 ·obtain⟨rfl,rfl⟩:a=aK ⟨g,0,aJ⟩/\c=f:=by simpa using b
  exact .inr ⟨g,c,d,rfl,hb,m,by omega,o,l,by rw[<- k,List.take_take,Nat.min_eq_left j]⟩
theorem wC {base:Nat}(h:w.ownsRow base e size (aA a n c) n xs){m:Nat}(hm:n<=m)(hc:m<=c):∃ys:List Value,ys.length=(m-n)*size/\w.ownsRow base e size (aA a m c) m (xs++ys):=by
 rcases h.2 with ⟨d,k⟩ | ⟨g,i,b,d,hb,p,r,f,l,o⟩
 ·obtain⟨rfl,rfl⟩:a=aJ/\c=0:=by simp at d;exact⟨d.1,d.2.2⟩
  obtain rfl:m=0:=by omega
  obtain rfl:n=0:=by omega
  exact⟨[],by simp,by simpa using h⟩
 ·obtain⟨rfl,rfl⟩:a=aK ⟨g,0,aJ⟩/\c=i:=by simpa using d
  have q:m*size<=c*size:=Nat.mul_le_mul_right _ hc;have k:n*size<=m*size:=Nat.mul_le_mul_right _ hm;have j:(b.toList.take (m*size)).length=m*size:=by rw[gTc,Array.length_toList,l];omega
  refine⟨(b.toList.take (m*size)).drop (n*size),by rw[gTd,j,Nat.sub_mul],?_,.inr ⟨g,c,b,rfl,hb,p,hc,f,l,?_⟩⟩
  ·rw[gTb,h.1,gTd,j];omega
  ·rw[<- o];have:b.toList.take (n*size)=(b.toList.take (m*size)).take (n*size):=by rw[List.take_take,Nat.min_eq_left k]
   rw[this,List.take_append_drop]
section
variable {α:Type}
def flat (enc:α->List Value)(l:List α):List Value:=l.flatMap enc
theorem flat_length {enc:α->List Value}(hk:∀x,(enc x).length=k)(l:List α):(flat enc l).length=l.length*k:=by
 unfold flat
 induction l with
 | nil=>simp
 | cons x l ih=>rw[List.flatMap_cons,gTb,hk,ih,List.length_cons,Nat.succ_mul,Nat.add_comm]
theorem bG (enc:α->List Value)(l m:List α):flat enc (l++m)=flat enc l++flat enc m:=by simp[flat]
theorem eX (enc:α->List Value)(x:α)(l:List α):flat enc (x::l)=enc x++flat enc l:=by simp[flat]
theorem iC (enc:α->List Value)(x:α):flat enc [x]=enc x:=by simp[flat]
theorem fQ {enc:α->List Value}(hk:∀x,(enc x).length=k)(l:List α)(n:Nat):(flat enc l).take (n*k)=flat enc (l.take n):=by
 by_cases h:n<=l.length
 ·conv=>lhs;rw[<- List.take_append_drop n l,bG]
  rw[List.take_left' (by rw[flat_length hk,gTc,Nat.min_eq_left h])]
 ·rw[gTf (show l.length<=n by omega),gTf (by rw[flat_length hk];exact Nat.mul_le_mul_right _ (by omega))]
theorem fU {enc:α->List Value}(hk:∀x,(enc x).length=k)(l:List α)(n:Nat):(flat enc l).drop (n*k)=flat enc (l.drop n):=by
 by_cases h:n<=l.length
 ·conv=>lhs;rw[<- List.take_append_drop n l,bG]
  rw[List.drop_left' (by rw[flat_length hk,gTc,Nat.min_eq_left h])]
 ·rw[List.drop_eq_nil_of_le (show l.length<=n by omega),List.drop_eq_nil_of_le (by rw[flat_length hk];exact Nat.mul_le_mul_right _ (by omega))];rfl
theorem flat_get {enc:α->List Value}(hk:∀x,(enc x).length=k)(l:List α)(j:Nat)(hj:j<l.length)(i:Nat)(hi:i<k):(flat enc l)[j*k+i]? =(enc l[j])[i]? :=by
 rw[<- List.getElem?_drop,fU hk,List.drop_eq_getElem_cons hj,eX,List.getElem?_append_left (by rw[hk];exact hi)]
theorem aZ {enc:α->List Value}(hk:∀x,(enc x).length=k)(hk0:0<k){l:List α}(h:Row w a (flat enc l))(hj:j<l.length):
 ∃b off,a=aK ⟨b,off,aJ⟩/\b<w.heap.size/\∀i v,(enc l[j])[i]? =aK v->w.cell? ⟨b,off+j*k+i,aJ⟩=aK v:=by
 have m:(flat enc l)[j*k+0]? =aK ((enc l[j])[0]'(by rw[hk];exact hk0)):=by
  rw[flat_get hk l j hj 0 hk0,gJ]
 obtain⟨b,off,e,hb,_⟩:=h _ _ m;refine⟨b,off,e,hb,λi v g=> ?_⟩;have d:i<k:=by have:=(gK.1 g).1;rw[hk]at this;exact this
 obtain⟨n,c,f,_,o⟩:=h (j*k+i) v (by rw[flat_get hk l j hj i d];exact g);rw[e]at f;obtain⟨rfl,rfl⟩:b=n/\off=c:=by simpa using f
 rw[Nat.add_assoc];exact o
theorem EK {enc:α->List Value}(hk:∀x,(enc x).length=k)(hk0:0<k){base:Nat}{l:List α}(h:w.ownsRow base e k (aA a n c) n (flat enc l))(hj:j<l.length):
 ∃g,a=aK ⟨g,0,aJ⟩/\base<=g/\g<w.heap.size/\(∀i v,(enc l[j])[i]? =aK v->w.cell? ⟨g,j*k+i,aJ⟩=aK v)/\∀i,w.frozen? ⟨g,i,aJ⟩=false:=by
 obtain⟨b,off,p,hb,s⟩:=aZ hk hk0 (bJ h) hj;rcases h.2 with ⟨m,q⟩ | ⟨g,f,o,m,d,u,_⟩
 ·have r:=h.1;rw[q,Nat.zero_mul,flat_length hk]at r;have:0<l.length*k:=Nat.mul_pos (by omega) hk0;omega
 ·obtain⟨rfl,rfl⟩:a=aK ⟨g,0,aJ⟩/\c=f:=by simpa using m
  obtain⟨rfl,rfl⟩:g=b/\0=off:=by simpa using p
  refine⟨g,rfl,d,hb,λi v t=>by have:=s i v t;rw[Nat.zero_add]at this;exact this,λi=>World.ownsRow.frozenAt h i⟩
theorem bT {enc:α->List Value}(hk:∀x,(enc x).length=k)(hk0:0<k){base:Nat}{l:List α}(h:w.ownsRow base e k v n (flat enc l)):l.length=n:=by
 have a:=h.1;rw[flat_length hk]at a;exact Nat.eq_of_mul_eq_mul_right hk0 a
end
section
open Classical in
noncomputable def ext (w x:World):World:=if Below w.heap.size w x then x else w
theorem bD (w x:World):Below w.heap.size w (ext w x):=by
 unfold ext;split
 ·assumption
 ·exact gX _ _
theorem dF {x:World}(h:Below w.heap.size w x):ext w x=x:=by unfold ext;rw[if_pos h]
@[go_sem] theorem aFq {w x:World} {b o:Nat} {s:Option Nat} (h:b<w.heap.size):(ext w x).cell? ⟨b,o,s⟩=w.cell? ⟨b,o,s⟩:=(bD w x).cell (p:=⟨b,o,s⟩) h
@[go_sem] theorem aC4 {w x:World} {b o:Nat} {s:Option Nat} (h:b<w.heap.size):(ext w x).frozen? ⟨b,o,s⟩=w.frozen? ⟨b,o,s⟩:=(bD w x).frozen (p:=⟨b,o,s⟩) h
theorem bH {P:Program}{id:Nat}{Q:Exit->Act->World->Prop}{a:Act}{w:World}{l:List Oper}(hm:P.follows .mixedOrders=true)(hB:Region.lexB .any l.toArray=true)
 (h:wpQuiet P l.toArray (λw'=>∃x,w'=ext w x) (λa'=>∀w',(∃x,w'=ext w x)->Q .normal a' w') l a):(Code.region id l.toArray true).wp P Q a w:=
 wp_region_quiet (C:=λw'=>∃x,w'=ext w x) hm hB ⟨w.drew,(dF (gX _ _).drew).symm⟩ (by simpa using h)
theorem Calls.dF {P:Program}{f:FuncId}{args:Array Value}{w x:World}{v:Value}
 (h:Calls P f args (ext w x) λe w'=>e= .returned v/\Below (ext w x).heap.size (ext w x) w'):Calls P f args (ext w x) λe w''=>e= .returned v/\∃y,w''=ext w y:=
 h.mono λ_ w' ⟨a,hb⟩=>⟨a,w',(Go.Proofs.YtjaogfhcnmjkiaaGreatDoor.dF ((bD w x).trans (hb.mono (bD w x).size))).symm⟩
theorem Dl {a W':World}(h2:Below W.heap.size W W')(h1:Below B a W)(hB:B<=W.heap.size):Below B a W':=h1.trans (h2.mono hB)
theorem gW (h1:Below w.heap.size w w1)(h2:Below w1.heap.size w1 w2):Below w.heap.size w w2:=h1.trans (h2.mono h1.size)
theorem bI (w:World)(vs:Array Value)(t:TypeId)(o:Nat):(w.alloc (.cells vs t)).cell? ⟨w.heap.size,o,aJ⟩=vs[o]? :=cell_of_row _ _ _ _ _ _ (heap_alloc_new w _)
theorem fP (w:World)(vs:Array Value)(t:TypeId)(o:Nat):(w.alloc (.cells vs t)).frozen? ⟨w.heap.size,o,aJ⟩=false:=by
 unfold World.frozen?;rw[heap_alloc_new];simp
theorem XH {t:TypeId}(h:Below (w.alloc (.cells vs t)).heap.size (w.alloc (.cells vs t)) w1)(o:Nat):w1.cell? ⟨w.heap.size,o,aJ⟩=vs[o]? :=by
 rw[h.cell (p:=⟨w.heap.size,o,aJ⟩) (by simp)];exact bI w vs t o
theorem aQ (h:∀o,w1.cell? ⟨b,o,aJ⟩=vs[o]?)(hlt:b<w1.heap.size)(hb:Below w1.heap.size w1 w2)(o:Nat):w2.cell? ⟨b,o,aJ⟩=vs[o]? :=by
 rw[hb.cell (p:=⟨b,o,aJ⟩) hlt];exact h o
theorem aU (h:∀o,w1.frozen? ⟨b,o,aJ⟩=false)(hlt:b<w1.heap.size)(hb:Below w1.heap.size w1 w2)(o:Nat):w2.frozen? ⟨b,o,aJ⟩=false:=by
 rw[hb.frozen (p:=⟨b,o,aJ⟩) hlt];exact h o
theorem aT (w:World)(o:Obj):Below w.heap.size w (w.alloc o):=(gX _ _).alloc (gT _) _
theorem aW (h:∀o,w.cell? ⟨b,o,aJ⟩=vs[o]?)(i:Nat)(u:Value)(o:Nat):(w.setCell ⟨b,i,aJ⟩ u).cell? ⟨b,o,aJ⟩=(vs.setIfInBounds i u)[o]? :=by
 have a:=h o;unfold World.cell? World.setCell at*;simp only[Array.getElem?_modify,if_true]at*;cases hb:w.heap[b]? with
 | none=>
  rw[hb]at a;simp only[Option.map_none]at*;rw[Array.getElem?_setIfInBounds];split
  ·rename_i e;subst e;split
   ·rename_i hlt;rw[Array.getElem?_eq_getElem hlt]at a;cases a
   ·rfl
  ·exact a
 | some ob=>
  rw[hb]at a;cases ob with
  | cells c t fr=>
   simp only[Option.map_some,Option.isSome_none,Bool.false_eq_true,if_false]at*;rw[Array.getElem?_setIfInBounds,Array.getElem?_setIfInBounds,a];have f:i=o->(i<c.size↔i<vs.size):=λe=>by
    subst e;constructor
    ·intro d;rw[Array.getElem?_eq_getElem d]at a;exact(Array.getElem?_eq_some_iff.1 a.symm).1
    ·intro d;rw[Array.getElem?_eq_getElem d]at a;exact(Array.getElem?_eq_some_iff.1 a).1
   by_cases e:i=o
   ·rw[if_pos e,if_pos e];by_cases d:i<c.size
    ·rw[if_pos d,if_pos ((f e).1 d)]
    ·rw[if_neg d,if_neg (λh=>d ((f e).2 h))]
   ·rw[if_neg e,if_neg e]
  | _=>
   simp only[Option.map_some]at*;rw[Array.getElem?_setIfInBounds];split
   ·rename_i e;subst e;split
    ·rename_i hlt;rw[Array.getElem?_eq_getElem hlt]at a;cases a
    ·rfl
   ·exact a
theorem aV (h:∀o,w.frozen? ⟨b,o,aJ⟩=false)(a:Addr)(u:Value)(o:Nat):(w.setCell a u).frozen? ⟨b,o,aJ⟩=false:=by
 rw[World.frozen?_setCell];exact h o
theorem aS (h:∀o,W.cell? ⟨b,o,aJ⟩=A[o]?)(hne:b≠c)(i:Nat)(u:Value)(o:Nat):(W.setCell ⟨c,i,aJ⟩ u).cell? ⟨b,o,aJ⟩=A[o]? :=by
 have a:(⟨c,i,aJ⟩:Addr)≠⟨b,o,aJ⟩:=λe=>hne (by simpa using(congrArg Addr.block e).symm)
 exact(World.cell?_setCell_other _ _ _ _ a).trans (h o)
theorem own_ne {base:Nat}(h:w.ownsRow base e size v n xs)(hb:b<base∨w.heap.size<=b):v.ownBlock≠aK b:=λe=>by
 have:=h.lt b e;omega
theorem bU {base:Nat}(h:w.ownsRow base e size v n xs)(hb:v.ownBlock≠aK b)(u:Value):(w.setCell ⟨b,i,aJ⟩ u).ownsRow base e size v n xs:=
 ownsRow_setCell_other h hb u
theorem boxes1 (w:World)(A:Array Value)(tA:TypeId):
 (∀o,(w.alloc (.cells A tA)).cell? ⟨w.heap.size,o,aJ⟩=A[o]?)/\(∀o,(w.alloc (.cells A tA)).frozen? ⟨w.heap.size,o,aJ⟩=false)/\
 w.heap.size<(w.alloc (.cells A tA)).heap.size/\Below w.heap.size w (w.alloc (.cells A tA)):=
 ⟨bI w A tA,fP w A tA,by simp,aT _ _⟩
theorem boxes2 (w:World)(A:Array Value)(tA:TypeId)(B:Array Value)(tB:TypeId):
 (∀o,((w.alloc (.cells A tA)).alloc (.cells B tB)).cell? ⟨w.heap.size,o,aJ⟩=A[o]?)/\(∀o,((w.alloc (.cells A tA)).alloc (.cells B tB)).cell? ⟨w.heap.size+1,o,aJ⟩=B[o]?)/\
 (∀o,((w.alloc (.cells A tA)).alloc (.cells B tB)).frozen? ⟨w.heap.size,o,aJ⟩=false)/\(∀o,((w.alloc (.cells A tA)).alloc (.cells B tB)).frozen? ⟨w.heap.size+1,o,aJ⟩=false)/\
 w.heap.size+1<((w.alloc (.cells A tA)).alloc (.cells B tB)).heap.size/\Below w.heap.size w ((w.alloc (.cells A tA)).alloc (.cells B tB)):=by
 have h:=boxes1 (w.alloc (.cells A tA)) B tB;have b:(w.alloc (.cells A tA)).heap.size=w.heap.size+1:=by simp
 rw[b]at h;obtain⟨d,c,e,a⟩:=h;rw[<- b]at a;exact⟨aQ (bI w A tA) (by simp) a,d,aU (fP w A tA) (by simp) a,c,e,gW (aT _ _) a⟩
theorem boxes3 (w:World)(A:Array Value)(tA:TypeId)(B:Array Value)(tB:TypeId)(C:Array Value)(tC:TypeId):
 (∀o,(((w.alloc (.cells A tA)).alloc (.cells B tB)).alloc (.cells C tC)).cell? ⟨w.heap.size,o,aJ⟩=A[o]?)/\(∀o,(((w.alloc (.cells A tA)).alloc (.cells B tB)).alloc (.cells C tC)).cell? ⟨w.heap.size+1,o,aJ⟩=B[o]?)/\(∀o,(((w.alloc (.cells A tA)).alloc (.cells B tB)).alloc (.cells C tC)).cell? ⟨w.heap.size+1+1,o,aJ⟩=C[o]?)/\
 (∀o,(((w.alloc (.cells A tA)).alloc (.cells B tB)).alloc (.cells C tC)).frozen? ⟨w.heap.size,o,aJ⟩=false)/\(∀o,(((w.alloc (.cells A tA)).alloc (.cells B tB)).alloc (.cells C tC)).frozen? ⟨w.heap.size+1,o,aJ⟩=false)/\(∀o,(((w.alloc (.cells A tA)).alloc (.cells B tB)).alloc (.cells C tC)).frozen? ⟨w.heap.size+1+1,o,aJ⟩=false)/\
 w.heap.size+2<(((w.alloc (.cells A tA)).alloc (.cells B tB)).alloc (.cells C tC)).heap.size/\Below w.heap.size w (((w.alloc (.cells A tA)).alloc (.cells B tB)).alloc (.cells C tC)):=by
 obtain⟨i,f,j,g,b,d⟩:=boxes2 w A tA B tB;have h:=boxes1 ((w.alloc (.cells A tA)).alloc (.cells B tB)) C tC;have c:((w.alloc (.cells A tA)).alloc (.cells B tB)).heap.size=w.heap.size+1+1:=by simp
 rw[c]at h;obtain⟨k1,k2,e,a⟩:=h;rw[<- c]at a;exact⟨aQ i (by omega) a,aQ f b a,k1,aU j (by omega) a,aU g b a,k2,e,gW d a⟩
end
def bC (b:Bk):List Value:=[vI b.a,vI b.o,vI b.t]
theorem aX (b:Bk):(bC b).length=3:=rfl
theorem bZ {r:Bk}(hc:∀i v,(bC r)[i]? =aK v->w.cell? ⟨g,o+i,aJ⟩=aK v):w.cell? ⟨g,o,aJ⟩=aK (aB aI r.a)/\w.cell? ⟨g,o+1,aJ⟩=aK (aB aI r.o)/\w.cell? ⟨g,o+2,aJ⟩=aK (aB aI r.t):=⟨hc 0 _ rfl,hc 1 _ rfl,hc 2 _ rfl⟩
theorem uN:(prog.info? 82).map (λi=>(i.zero,i.size,i.bytes))=aK (aK (aC #[aB aI 0,aB aI 0,aB aI 0]),3,24):=by kernel_rfl
theorem qE (l:List Bk):∀u∈flat bC l,u.oneCell'=true:=by
 intro u b;obtain⟨r,_,a⟩:=List.mem_flatMap.1 b;simp only[bC,gY,List.not_mem_nil,or_false]at a;rcases a with rfl | rfl | rfl <;> rfl
theorem wE (h:o<=4):wrap64 (2^o)=((2^o:Nat):Int):=by
 obtain rfl | rfl | rfl | rfl | rfl:o=0∨o=1∨o=2∨o=3∨o=4:=by omega
 all_goals decide+kernel
theorem yS (h:o<=4):1<=2^o/\2^o<=16:=by rcases JD h with h | h | h | h | h <;> omega
theorem mD (b:Bk)(w:World)(ho:b.o<=4)(ha:b.a<=1000):
 Calls prog 116 #[aC #[aB aI b.a,aB aI b.o,aB aI b.t]] w λe w'=>e=aN (aB aI (b.fin:Int))/\Below w.heap.size w w':=by
 have c:=wE ho;have d:=yS ho;unfold Bk.fin;generalize 2^b.o=s at*;go_enter func116,ntmps116
 go_wp2_with fail
 go_quiet (fail)
 go_wp2
 go_ret
 refine⟨fC (by simp),gW (aT _ _) (below_drewN (gX _ _) _)⟩
theorem wF (f e:Nat)(a1 a2:Option Addr)(n1 n2 c1 c2:Nat)(b:Bk)(w:World)(h:dM f e b.a b.o)(he:e<=256):
 Calls prog 115 #[aC #[aB aI f,aB aI e,aA a1 n1 c1,aA a2 n2 c2],aC #[aB aI b.a,aB aI b.o,aB aI b.t]] w λe w'=>e=aN (.bool true)/\Below w.heap.size w w':=by
 obtain⟨c,d,i,g⟩:=h;have p:=wE c;have j:=yS c;have k:(b.a:Int)%((2^b.o:Nat):Int)=0:=by rw[<- Int.natCast_emod,g];rfl
 have n:decide ((b.o:Int)<=4)=true:=gTg (by omega);have l:decide (f<=b.a)=true:=gTg d;have m:decide (b.a<e)=true:=gTg i;generalize 2^b.o=s at*;go_enter func115,ntmps115
 go_wp2_with fail
 go_quiet (fail)
 go_wp2
 go_ret
 exact⟨rfl,gW (gW (aT _ _) (aT _ _)) (below_drewN (gX _ _) _)⟩
theorem XI (b:Bk)(p:Nat)(w:World)(ha:b.a<=1000)(hp:p<=1000):
 Calls prog 166 #[aC #[aB aI b.a,aB aI b.o,aB aI b.t],aB aI p] w λe w'=>e=aN (aB aI ((b.a:Int)-p))/\Below w.heap.size w w':=by
 go_enter func166,ntmps166
 go_wp2
 go_ret
 exact⟨rfl,aT _ _⟩
theorem JM {l:List Bk}(h:rW l){a:Nat}(hk:k<l.length):k<lb l a↔l[k].a<a:=by
 constructor
 ·intro b;exact zO _ (List.mem_take_iff_getElem.2 ⟨k,by omega,rfl⟩)
 ·intro b;rcases Nat.lt_or_ge k (lb l a)with h1 | h1
  ·exact h1
  ·have:=vZ h (a:=a) l[k] (List.mem_drop_iff_getElem.2 ⟨k-lb l a,by omega,by congr 1;omega⟩);omega
def hasB (l:List Bk)(a:Nat):Bool:=l.any λb=>decide (b.a=a)
theorem xW {l:List Bk}(h:rW l){a:Nat}(hk:lb l a<l.length):hasB l a=decide (l[lb l a].a=a):=by
 unfold hasB;cases hd:decide (l[lb l a].a=a)with
 | true=>rw[List.any_eq_true];exact⟨_,gL hk,hd⟩
 | false=>
  rw[List.any_eq_false];intro b hb c;have c:=of_decide_eq_true c;have:=lZ h hb;rw[c,gJ hk]at this;have d:l[lb l a]=b:=by simpa using this
  exact of_decide_eq_false hd (by rw[d];exact c)
theorem wG {l:List Bk}(h:rW l){a:Nat}(hk:l.length<=lb l a):hasB l a=false:=by
 unfold hasB;rw[List.any_eq_false];intro b hb c;have c:=of_decide_eq_true c;have:=lZ h hb;rw[c,List.getElem?_eq_none hk]at this;cases this
theorem UJ (a:Option Addr)(n cap:Nat)(l:List Bk)(p:Nat)(w:World)(hn:l.length=n)(hl:n<=1000)(hr:Row w a (flat bC l))(hrise:rW l)(ha:∀b∈l,b.a<=1000)(hp:p<=1000):
 Calls prog 69 #[aA a n cap,aB aI p,.func (.func 166) #[] #[]] w λe w'=>e=aN (aG #[aB aI (lb l p:Int),.bool (hasB l p)])/\Below w.heap.size w w':=by
 subst hn;have E:=vH l p;have P:∀k w,(callFunc 166 k).run prog w= .ok (.enter 166 k) w:=enters_of func166 (by kernel_rfl) rfl;go_enter func69,ntmps69
 go_wp2
 go_loopw [9,10,11] (λB s _ wr=>∃i j:Nat,i<=lb l p/\lb l p<=j/\j<=l.length/\B=aB aI i/\s=aB aI j/\Below w.heap.size w wr) (λB s _ _=>(intOf s).toNat-(intOf B).toNat)
 case atStart=>exact⟨0,l.length,gU _,E,gT _,rfl,rfl,gX _ _⟩
 case round=>
  obtain⟨i,j,N,J,O,rfl,rfl,f⟩:=hrel;by_cases I:i<j
  ·have F:(i+j)/2<l.length:=by omega
   have m:=gO (JM hrise (a:=p) F);obtain⟨b,off,rfl,hb,x⟩:=aZ aX (by decide) (hr.below f) F;obtain⟨q,v,r⟩:=bZ x;have t:=ha _ (gL F);clear hr x;generalize l[(i+j)/2]=y at*;go_wp2_with fail
   refine(XI y p _ t hp).mono ?_;rintro e H ⟨rfl,u⟩;have d:=gW f u;clear q v r;by_cases o:y.a<p
   ·have M:=m.out.2 o;have D:(y.a:Int)-p<0:=by omega
    go_wp2
    go_roundw
    case rel=>exact⟨(i+j)/2+1,j,by omega,J,O,by go_num,rfl,d⟩
    case measure=>simp[intOf];omega
   ·have M:¬(i+j)/2<lb l p:=λh=>o (m.out.1 h)
    have D:¬(y.a:Int)-p<0:=by omega
    go_wp2
    go_roundw
    case rel=>exact⟨i,(i+j)/2,N,by omega,by omega,rfl,by go_num,d⟩
    case measure=>simp[intOf];omega
  ·obtain rfl:i=lb l p:=by omega
   have L:(lb l p:Int)<=l.length:=by omega
   by_cases C:lb l p<l.length
   ·obtain⟨b,off,rfl,hb,x⟩:=aZ aX (by decide) (hr.below f) C;obtain⟨q,v,r⟩:=bZ x;have t:=ha _ (gL C);have g:=gO (xW hrise (a:=p) C);have A:(lb l p:Int)<l.length:=by omega
    clear hr x;generalize l[lb l p]=y at*;generalize c:lb l p=K at*;have z:=gO c;clear c;go_wp2_with fail
    refine(XI y p _ t hp).mono ?_;rintro e H ⟨rfl,u⟩;have d:=gW f u;clear q v r;by_cases G:y.a=p
    ·have D:((y.a:Int)-p == 0)=true:=by rw[beq_iff_eq];omega
     go_wp2
     go_ret2
     refine⟨?_,d⟩;rw[g.out,z.out,gTg G];rfl
    ·have D:((y.a:Int)-p == 0)=false:=by rw[beq_eq_false_iff_ne];omega
     go_wp2
     go_ret2
     refine⟨?_,d⟩;rw[g.out,z.out,gV G];rfl
   ·have g:=gO (wG hrise (a:=p) (by omega));have A:¬(lb l p:Int)<l.length:=by omega
    clear hr;generalize c:lb l p=K at*;have z:=gO c;clear c;go_wp2
    go_ret2
    refine⟨?_,f⟩;rw[g.out,z.out];rfl
def jA (t:Nat):List Value:=[vI t]
theorem dH (t:Nat):(jA t).length=1:=rfl
theorem lI {r:Nat}(hc:∀i v,(jA r)[i]? =aK v->w.cell? ⟨g,o+i,aJ⟩=aK v):w.cell? ⟨g,o,aJ⟩=aK (aB aI r):=hc 0 _ rfl
theorem mO:(prog.info? 3).map (λi=>(i.zero,i.size,i.bytes))=aK (aK (aB aI 0),1,8):=by kernel_rfl
theorem XJ (l:List Nat):∀u∈flat jA l,u.oneCell'=true:=by
 intro u b;obtain⟨r,_,a⟩:=List.mem_flatMap.1 b;simp only[jA,gY,List.not_mem_nil,or_false]at a;subst a;rfl
def dV {α:Type}(p:α->Bool)(xs:List α):Int:=match xs.findIdx? p with | some i=>(i:Int) | none=> -1
theorem oL {α:Type}{p:α->Bool}{xs:List α}(hk:k<xs.length)(h:p xs[k]=true)(hn:∀x∈xs.take k,p x=false):dV p xs=k:=by
 have e:xs.findIdx? p=aK k:=by
  rw[List.findIdx?_eq_some_iff_getElem];refine⟨hk,h,λj a=> ?_⟩;have:=hn (xs[j]'(by omega)) (by rw[List.mem_take_iff_getElem];exact⟨j,by omega,rfl⟩);simp[this]
 simp[dV,e]
theorem mZ {α:Type}{p:α->Bool}{xs:List α}(hn:∀x∈xs,p x=false):dV p xs= -1:=by
 have e:xs.findIdx? p=aJ:=by rw[List.findIdx?_eq_none_iff];exact hn
 simp[dV,e]
theorem jI {α:Type}(p:α->Bool)(xs:List α):decide (0<=dV p xs)=xs.any p:=by
 unfold dV;cases h:xs.findIdx? p with
 | none=>rw[List.findIdx?_eq_none_iff]at h;symm;simpa using h
 | some i=>rw[List.findIdx?_eq_some_iff_getElem]at h;obtain⟨b,a,_⟩:=h;symm;simp only[Int.natCast_nonneg,decide_true,List.any_eq_true];exact⟨_,gL b,a⟩
theorem Tc (a:Option Addr)(n cap:Nat)(xs:List Bk)(w:World)(hn:xs.length=n)(hl:n*24<=140737488355328)(hr:Row w a (flat bC xs)):
 Calls prog 75 #[aA a n cap] w λe w'=>∃a' c',e=aN (aA a' n c')/\w'.ownsRow w.heap.size 82 3 (aA a' n c') n (flat bC xs)/\Below w.heap.size w w':=by
 have m:∀(w:World) (a:Option Addr) (n c g c':Nat),(binOp .eql 37 (aA a n c) (aA aJ g c')).run prog w= .ok (.bool a.isNone) w:=λw a n c g c'=>Lib.run_eql_slice_nil w _ _ a n c g c' underlying37
 subst hn;cases a with
 | none=>
  have o:xs=[]:=by
   cases xs with
   | nil=>rfl
   | cons u l=>obtain⟨b,off,i,_⟩:=aZ aX (by decide) hr (j:=0) (by simp);cases i
  subst o;go_enter func75,ntmps75
  go_wp2
  go_ret
  exact⟨aJ,0,rfl,World.ownsRow_nil _ _ _ _,gX _ _⟩
 | some ad=>
  go_enter func75,ntmps75
  go_wp2_with (at_builtin;refine jO rfl _ _ 37 rfl w.heap.size 82 (aC #[aB aI 0,aB aI 0,aB aI 0]) 3 24 underlying37 uN rfl (by decide) (by decide) _ _ _ _ rfl (World.ownsRow_made w #[] 0 (gT _) (gU _) (by simp)) (aK ad) xs.length cap (flat bC xs) rfl ?q1 ?q2 ?q3 ?q4 ?q5 ?_)
  case q1=>exact flat_length aX xs
  case q2=>exact hr.below (aT _ _)
  case q3=>exact qE xs
  case q4=>rw[Nat.zero_add];exact hl
  case q5=>simp
  intro a' c' p f d;go_wp2
  go_ret
  exact⟨a',c',rfl,f,(aT w _).grown d (by simp) (by intro k h;simp[gTh]at h;omega)⟩
theorem JO (a:Option Addr)(n cap:Nat)(xs:List Nat)(w:World)(hn:xs.length=n)(hl:n*8<=140737488355328)(hr:Row w a (flat jA xs)):
 Calls prog 35 #[aA a n cap] w λe w'=>∃a' c',e=aN (aA a' n c')/\w'.ownsRow w.heap.size 3 1 (aA a' n c') n (flat jA xs)/\Below w.heap.size w w':=by
 have m:∀(w:World) (a:Option Addr) (n c g c':Nat),(binOp .eql 34 (aA a n c) (aA aJ g c')).run prog w= .ok (.bool a.isNone) w:=λw a n c g c'=>Lib.run_eql_slice_nil w _ _ a n c g c' underlying34
 subst hn;cases a with
 | none=>
  have o:xs=[]:=by
   cases xs with
   | nil=>rfl
   | cons u l=>obtain⟨b,off,i,_⟩:=aZ dH (by decide) hr (j:=0) (by simp);cases i
  subst o;go_enter func35,ntmps35
  go_wp2
  go_ret
  exact⟨aJ,0,rfl,World.ownsRow_nil _ _ _ _,gX _ _⟩
 | some ad=>
  go_enter func35,ntmps35
  go_wp2_with (at_builtin;refine jO rfl _ _ 34 rfl w.heap.size 3 (aB aI 0) 1 8 underlying34 mO rfl (by decide) (by decide) _ _ _ _ rfl (World.ownsRow_made w #[] 0 (gT _) (gU _) (by simp)) (aK ad) xs.length cap (flat jA xs) rfl ?q1 ?q2 ?q3 ?q4 ?q5 ?_)
  case q1=>exact flat_length dH xs
  case q2=>exact hr.below (aT _ _)
  case q3=>exact XJ xs
  case q4=>rw[Nat.zero_add];exact hl
  case q5=>simp
  intro a' c' p f d;go_wp2
  go_ret
  exact⟨a',c',rfl,f,(aT w _).grown d (by simp) (by intro k h;simp[gTh]at h;omega)⟩
theorem Dp (a:Option Addr)(n cap:Nat)(l:List Bk)(g:Nat)(lb:Array Value)(p:Bk->Bool)(w:World)(hn:l.length=n)(hl:n<=9223372036854775807)(hr:Row w a (flat bC l))(eg:∀args w,(callFunc g args).run prog w= .ok (.enter g args) w)
 (hp:∀W,Below w.heap.size w W->∀x∈l,Calls prog g (#[.agg (bC x).toArray]++lb) W λe w'=>e=aN (.bool (p x))/\Below W.heap.size W w'):
 Calls prog 165 #[aA a n cap,.func (.func g) #[] lb] w λe w'=>e=aN (aB aI (dV p l))/\Below w.heap.size w w':=by
 subst hn;go_enter func165,ntmps165
 go_wp2
 go_loopw [5,8] (λ_ j wr=>∃k:Nat,k<=l.length/\j=aB aI k/\Hid (∀x∈l.take k,p x=false)/\Below w.heap.size w wr) (λ_ j _=>l.length-(intOf j).toNat)
 case atStart=>exact⟨0,gU _,rfl,by simp[Hid],gX _ _⟩
 case round=>
  obtain⟨k,t,rfl,d,c⟩:=hrel;by_cases f:k<l.length
  ·obtain⟨b,off,rfl,hb,o⟩:=aZ aX (by decide) (hr.below c) f;obtain⟨q,s,r⟩:=bZ o
   skip
   have hcall:=hp wr c l[k] (gL f);clear hr hp o;cases hv:p l[k]with
   | true=>
    have m:=gO (oL f hv d.out);rw[hv]at hcall;generalize l[k]=y at*;go_wp2_with (go_at_fn g;refine hcall.mono ?_;rintro e w' ⟨rfl,h⟩)
    go_ret
    exact⟨fC m.out.symm,gW c h⟩
   | false=>
    rw[hv]at hcall;have m:Hid (∀x∈l.take (k+1),p x=false):=λx i=>by
     rw[List.take_succ_eq_append_getElem f,gZ,gTa]at i;rcases i with i | rfl
     ·exact d.out x i
     ·exact hv
    generalize l[k]=y at*;go_wp2_with (go_at_fn g;refine hcall.mono ?_;rintro e w' ⟨rfl,h⟩)
    go_roundw
    case rel=>exact⟨k+1,by omega,by go_num,m.out,gW c h⟩
    case measure=>simp[intOf];omega
  ·obtain rfl:k=l.length:=by omega
   go_wp2
   go_ret
   exact⟨fC (mZ (by simpa[Hid]using d)).symm,c⟩
theorem EL (a:Option Addr)(n cap:Nat)(l:List Bk)(g:Nat)(lb:Array Value)(p:Bk->Bool)(w:World)(hn:l.length=n)(hl:n<=9223372036854775807)(hr:Row w a (flat bC l))(eg:∀args w,(callFunc g args).run prog w= .ok (.enter g args) w)
 (hp:∀W,Below w.heap.size w W->∀x∈l,Calls prog g (#[.agg (bC x).toArray]++lb) W λe w'=>e=aN (.bool (p x))/\Below W.heap.size W w'):
 Calls prog 144 #[aA a n cap,.func (.func g) #[] lb] w λe w'=>e=aN (.bool (l.any p))/\Below w.heap.size w w':=by
 go_enter func144,ntmps144
 go_wp2_with (go_at_call 165;refine(Dp _ _ _ l _ _ p _ hn hl hr eg hp).mono ?_;rintro e w' ⟨rfl,b⟩)
 go_ret
 exact⟨bP (jI p l),b⟩
theorem Qx (a:Option Addr)(n cap:Nat)(l:List Nat)(g:Nat)(lb:Array Value)(p:Nat->Bool)(w:World)(hn:l.length=n)(hl:n<=9223372036854775807)(hr:Row w a (flat jA l))(eg:∀args w,(callFunc g args).run prog w= .ok (.enter g args) w)
 (hp:∀W,Below w.heap.size w W->∀x∈l,Calls prog g (#[aB aI (x:Int)]++lb) W λe w'=>e=aN (.bool (p x))/\Below W.heap.size W w'):
 Calls prog 117 #[aA a n cap,.func (.func g) #[] lb] w λe w'=>e=aN (aB aI (dV p l))/\Below w.heap.size w w':=by
 subst hn;go_enter func117,ntmps117
 go_wp2
 go_loopw [5,8] (λ_ j wr=>∃k:Nat,k<=l.length/\j=aB aI k/\Hid (∀x∈l.take k,p x=false)/\Below w.heap.size w wr) (λ_ j _=>l.length-(intOf j).toNat)
 case atStart=>exact⟨0,gU _,rfl,by simp[Hid],gX _ _⟩
 case round=>
  obtain⟨k,r,rfl,d,c⟩:=hrel;by_cases f:k<l.length
  ·obtain⟨b,off,rfl,hb,q⟩:=aZ dH (by decide) (hr.below c) f;obtain m:=lI q;rw[Nat.mul_one]at m;have hcall:=hp wr c l[k] (gL f);clear hr hp q;cases hv:p l[k]with
   | true=>
    have o:=gO (oL f hv d.out);rw[hv]at hcall;generalize l[k]=y at*;go_wp2_with (go_at_fn g;refine hcall.mono ?_;rintro e w' ⟨rfl,h⟩)
    go_ret
    exact⟨fC o.out.symm,gW c h⟩
   | false=>
    rw[hv]at hcall;have o:Hid (∀x∈l.take (k+1),p x=false):=λx i=>by
     rw[List.take_succ_eq_append_getElem f,gZ,gTa]at i;rcases i with i | rfl
     ·exact d.out x i
     ·exact hv
    generalize l[k]=y at*;go_wp2_with (go_at_fn g;refine hcall.mono ?_;rintro e w' ⟨rfl,h⟩)
    go_roundw
    case rel=>exact⟨k+1,by omega,by go_num,o.out,gW c h⟩
    case measure=>simp[intOf];omega
  ·obtain rfl:k=l.length:=by omega
   go_wp2
   go_ret
   exact⟨fC (mZ (by simpa[Hid]using d)).symm,c⟩
theorem rX (a:Option Addr)(n cap:Nat)(l:List Nat)(g:Nat)(lb:Array Value)(p:Nat->Bool)(w:World)(hn:l.length=n)(hl:n<=9223372036854775807)(hr:Row w a (flat jA l))(eg:∀args w,(callFunc g args).run prog w= .ok (.enter g args) w)
 (hp:∀W,Below w.heap.size w W->∀x∈l,Calls prog g (#[aB aI (x:Int)]++lb) W λe w'=>e=aN (.bool (p x))/\Below W.heap.size W w'):
 Calls prog 64 #[aA a n cap,.func (.func g) #[] lb] w λe w'=>e=aN (.bool (l.any p))/\Below w.heap.size w w':=by
 go_enter func64,ntmps64
 go_wp2_with (go_at_call 117;refine(Qx _ _ _ l _ _ p _ hn hl hr eg hp).mono ?_;rintro e w' ⟨rfl,b⟩)
 go_ret
 exact⟨bP (jI p l),b⟩
structure IJ (w:World)(a1 a2:Option Addr)(n1 n2:Nat)(z:Zn):Prop where
 l1:z.l.length=n1
 l2:z.y.length=n2
 r1:Row w a1 (flat bC z.l)
 r2:Row w a2 (flat jA z.y)
theorem IJ.below {a1 a2:Option Addr}{n1 n2:Nat}{z:Zn}(h:IJ w a1 a2 n1 n2 z)(hb:Below w.heap.size w w'):IJ w' a1 a2 n1 n2 z:=⟨h.l1,h.l2,h.r1.below hb,h.r2.below hb⟩
structure jC (w:World)(base:Nat)(a1 a2:Option Addr)(n1 n2 c1 c2:Nat)(z:Zn):Prop where
 l1:z.l.length=n1
 l2:z.y.length=n2
 o1:w.ownsRow base 82 3 (aA a1 n1 c1) n1 (flat bC z.l)
 o2:w.ownsRow base 3 1 (aA a2 n2 c2) n2 (flat jA z.y)
section
variable {w:World}{bs:Nat}{a1 a2:Option Addr}{n1 n2 c1 c2:Nat}{z:Zn}
theorem jC.at (h:jC w bs a1 a2 n1 n2 c1 c2 z):IJ w a1 a2 n1 n2 z:=⟨h.l1,h.l2,bJ h.o1,bJ h.o2⟩
theorem jC.below (h:jC w bs a1 a2 n1 n2 c1 c2 z)(hb:Below w.heap.size w w'):jC w' bs a1 a2 n1 n2 c1 c2 z:=⟨h.l1,h.l2,own_below h.o1 hb (gT _),own_below h.o2 hb (gT _)⟩
theorem jC.base {base':Nat}(h:jC w bs a1 a2 n1 n2 c1 c2 z)(hb:base'<=bs):jC w base' a1 a2 n1 n2 c1 c2 z:=⟨h.l1,h.l2,own_base h.o1 hb,own_base h.o2 hb⟩
theorem jC.set (h:jC w bs a1 a2 n1 n2 c1 c2 z)(hg:(aA a1 n1 c1).ownBlock≠aK g/\(aA a2 n2 c2).ownBlock≠aK g)(i:Nat)(u:Value):jC (w.setCell ⟨g,i,aJ⟩ u) bs a1 a2 n1 n2 c1 c2 z:=⟨h.l1,h.l2,bU h.o1 hg.1 u,bU h.o2 hg.2 u⟩
theorem jC.ne (h:jC w bs a1 a2 n1 n2 c1 c2 z)(hg:g<bs∨w.heap.size<=g):(aA a1 n1 c1).ownBlock≠aK g/\(aA a2 n2 c2).ownBlock≠aK g:=⟨own_ne h.o1 hg,own_ne h.o2 hg⟩
end
theorem find_ok (a1 a2:Option Addr)(n1 n2 c1 c2:Nat)(f e:Nat)(z:Zn)(p:Nat)(w:World)(hat:IJ w a1 a2 n1 n2 z)(hl:n1<=1000)(hrise:rW z.l)(ha:∀b∈z.l,b.a<=1000)(hp:p<=1000):
 Calls prog 146 #[aC #[aB aI f,aB aI e,aA a1 n1 c1,aA a2 n2 c2],aB aI p] w λe w'=>e=aN (aG #[aB aI (lb z.l p:Int),.bool (hasB z.l p)])/\Below w.heap.size w w':=by
 have hb:=aT w (aO #[aB aI (f:Int),aB aI (e:Int),aA a1 n1 c1,aA a2 n2 c2] 79);have d:=(hat.below hb).r1;have l1:=hat.l1;clear hat
 go_enter func146,ntmps146
 go_wp2_with fail
 refine(UJ _ _ _ z.l p _ l1 hl d hrise ha hp).mono ?_;rintro e w' ⟨rfl,c⟩;go_wp2
 go_ret2
 exact⟨rfl,gW hb c⟩
theorem Eh (a1 a2:Option Addr)(n1 n2 c1 c2:Nat)(f e:Nat)(z:Zn)(w:World)(hat:IJ w a1 a2 n1 n2 z)(hl1:n1<=1000)(hl2:n2<=1000):
 Calls prog 76 #[aC #[aB aI f,aB aI e,aA a1 n1 c1,aA a2 n2 c2]] w λev w'=>∃a1' a2' c1' c2',ev=aN (aC #[aB aI f,aB aI e,aA a1' n1 c1',aA a2' n2 c2'])/\jC w' w.heap.size a1' a2' n1 n2 c1' c2' z/\Below w.heap.size w w':=by
 obtain⟨P,R,Q,S,O,H⟩:=boxes2 w #[aB aI (f:Int),aB aI (e:Int),aA a1 n1 c1,aA a2 n2 c2] 79 #[aB aI 0,aB aI 0,aA aJ 0 0,aA aJ 0 0] 79;obtain⟨l1,Y,W,q2⟩:=hat.below H;clear hat
 go_enter func76,ntmps76
 go_wp2_with fail
 generalize (w.alloc _).alloc _=h at*
 go_region_with (first | (go_at_call 75;refine(Tc _ _ _ z.l _ l1 (by omega) (W.below (by first | exact Below.drew C | exact C | exact(gX _ _).drew))).mono ?_;rintro ev s ⟨k,m,rfl,F,a⟩;first | (have J:=aQ (w1:=r) K E a;have L:=aU (w1:=r) M E a;have G:w.heap.size<s.heap.size:=gI E a.size;have D:Below h.heap.size h s:=gW C a) | (have J:=aQ (w1:=r.drew) (λo=>K o) E a;have L:=aU (w1:=r.drew) (λo=>M o) E a;have G:w.heap.size<s.heap.size:=gI E a.size;have D:Below h.heap.size h s:=gW (Below.drew C) a) | (have J:=aQ (w1:=h.drew) (λo=>P o) (show w.heap.size<h.heap.size by omega) a;have L:=aU (w1:=h.drew) (λo=>Q o) (show w.heap.size<h.heap.size by omega) a;have G:w.heap.size<s.heap.size:=gI (show w.heap.size<h.heap.size by omega) a.size;have D:Below h.heap.size h s:=gW ((gX _ _).drew) a)) | (go_at_call 35;refine(JO _ _ _ z.y _ Y (by omega) (q2.below (by first | exact Below.drew D | exact D | exact(gX _ _).drew))).mono ?_;rintro ev r ⟨p,n,rfl,q,d⟩;first | (have K:=aQ (w1:=s) J G d;have M:=aU (w1:=s) L G d;have E:w.heap.size<r.heap.size:=gI G d.size;have C:Below h.heap.size h r:=gW D d) | (have K:=aQ (w1:=s.drew) (λo=>J o) G d;have M:=aU (w1:=s.drew) (λo=>L o) G d;have E:w.heap.size<r.heap.size:=gI G d.size;have C:Below h.heap.size h r:=gW (Below.drew D) d) | (have K:=aQ (w1:=h.drew) (λo=>P o) (show w.heap.size<h.heap.size by omega) d;have M:=aU (w1:=h.drew) (λo=>Q o) (show w.heap.size<h.heap.size by omega) d;have E:w.heap.size<r.heap.size:=gI (show w.heap.size<h.heap.size by omega) d.size;have C:Below h.heap.size h r:=gW ((gX _ _).drew) d)))
 all_goals first
  |(
   have N:=own_below F d (gT _);have A:=aQ R (by omega) C;have B:=aU S (by omega) C;have U:w.heap.size+1<h.drew.heap.size:=O;have T:h.drew.heap.size<=s.heap.size:=a.size;have u:=own_ne F (b:=w.heap.size) (.inl (by omega));have j:=own_ne F (b:=w.heap.size+1) (.inl (by omega));have x:=own_ne q (b:=w.heap.size) (.inl (by omega));have i:=own_ne q (b:=w.heap.size+1) (.inl (by omega));have Z:=gO ((show jC r w.heap.size k p n1 n2 m n z from⟨l1,Y,own_base N (by omega),own_base q (by omega)⟩).set (g:=w.heap.size) ⟨u,x⟩ 2 (aA k n1 m) |>.set (g:=w.heap.size) ⟨u,x⟩ 3 (aA p n2 n));have t:=gS (gS (gW H C) w.heap.size 2 (gT _) (aA k n1 m)) w.heap.size 3 (gT _) (aA p n2 n);have V:=aW (aW K 2 (aA k n1 m)) 3 (aA p n2 n);have I:=aS (aS A (c:=w.heap.size) (by omega) 2 (aA k n1 m)) (c:=w.heap.size) (by omega) 3 (aA p n2 n);have X:=aV (aV B ⟨w.heap.size,2,aJ⟩ (aA k n1 m)) ⟨w.heap.size,3,aJ⟩ (aA p n2 n);clear P R Q S J L N F q W q2 K M A B;generalize (r.setCell _ _).setCell _ _=wx at*;change ∀o,wx.cell? ⟨w.heap.size,o,aJ⟩=(#[aB aI (f:Int),aB aI (e:Int),aA k n1 m,aA p n2 n]:Array Value)[o]? at V;go_wp2
   refine bodyPost_ret (v:=aC #[aB aI f,aB aI e,aA k n1 m,aA p n2 n]) (by simp[results,results76,go_sem,I]) rfl ⟨k,p,m,n,rfl,?_,?_⟩
   ·exact(((Z.out.set ⟨j,i⟩ _ _).set ⟨j,i⟩ _ _).set ⟨j,i⟩ _ _).set ⟨j,i⟩ _ _
   ·exact Below.setCell (Below.setCell (Below.setCell (Below.setCell t (by simp only;omega) _) (by simp only;omega) _) (by simp only;omega) _) (by simp only;omega) _
   )
  |(
   have N:=own_below q a (gT _);have A:=aQ R (by omega) D;have B:=aU S (by omega) D;have U:w.heap.size+1<h.drew.heap.size:=O;have T:h.drew.heap.size<=r.heap.size:=d.size;have u:=own_ne F (b:=w.heap.size) (.inl (by omega));have j:=own_ne F (b:=w.heap.size+1) (.inl (by omega));have x:=own_ne q (b:=w.heap.size) (.inl (by omega));have i:=own_ne q (b:=w.heap.size+1) (.inl (by omega));have Z:=gO ((show jC s w.heap.size k p n1 n2 m n z from⟨l1,Y,own_base F (by omega),own_base N (by omega)⟩).set (g:=w.heap.size) ⟨u,x⟩ 2 (aA k n1 m) |>.set (g:=w.heap.size) ⟨u,x⟩ 3 (aA p n2 n));have t:=gS (gS (gW H D) w.heap.size 2 (gT _) (aA k n1 m)) w.heap.size 3 (gT _) (aA p n2 n);have V:=aW (aW J 2 (aA k n1 m)) 3 (aA p n2 n);have I:=aS (aS A (c:=w.heap.size) (by omega) 2 (aA k n1 m)) (c:=w.heap.size) (by omega) 3 (aA p n2 n);have X:=aV (aV B ⟨w.heap.size,2,aJ⟩ (aA k n1 m)) ⟨w.heap.size,3,aJ⟩ (aA p n2 n);clear P R Q S J L N F q W q2 K M A B;generalize (s.setCell _ _).setCell _ _=wx at*;change ∀o,wx.cell? ⟨w.heap.size,o,aJ⟩=(#[aB aI (f:Int),aB aI (e:Int),aA k n1 m,aA p n2 n]:Array Value)[o]? at V;go_wp2
   refine bodyPost_ret (v:=aC #[aB aI f,aB aI e,aA k n1 m,aA p n2 n]) (by simp[results,results76,go_sem,I]) rfl ⟨k,p,m,n,rfl,?_,?_⟩
   ·exact(((Z.out.set ⟨j,i⟩ _ _).set ⟨j,i⟩ _ _).set ⟨j,i⟩ _ _).set ⟨j,i⟩ _ _
   ·exact Below.setCell (Below.setCell (Below.setCell (Below.setCell t (by simp only;omega) _) (by simp only;omega) _) (by simp only;omega) _) (by simp only;omega) _
   )
end Go.Proofs.YtjaogfhcnmjkiaaGreatDoor
