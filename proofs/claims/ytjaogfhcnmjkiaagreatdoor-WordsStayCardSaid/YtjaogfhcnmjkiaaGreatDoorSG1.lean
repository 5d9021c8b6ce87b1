/- joined. -/
import Derived.Test.YtjaogfhcnmjkiaaGreatDoorSG0
import Derived.Test.YtjaogfhcnmjkiaaGreatDoorRows
import Derived.WalkKit
import Derived.LoopTactic
import Derived.Laws.CopyRow
import Derived.Deep.QuietTactic
import Derived.BigQuiet
import Derived.WalkSmall
import Derived.Lib.AppendZerosOnto
import Derived.Lib.SliceRun
import Derived.Shelf.Abstract
import Derived.Deep.RegionWith
import Derived.Deep.RegionHeld3
import Derived.Deep.DeepCutAuto
import Derived.StillTailTactics
import Derived.Lib.Overlaps
import Derived.Laws.Externs
import Derived.ProofKit
import Derived.OpenShut
import Derived.Below
import Derived.ChangeSame
import Derived.Carry
set_option linter.all false
set_option maxRecDepth 100000
set_option maxHeartbeats 0
namespace Go.Proofs.YtjaogfhcnmjkiaaGreatDoor
open Go.RowKit
open Go.Value renaming slice->aA,int->aB,agg->aC,string->aF,tuple->aG,pointer->aH,ownBlock->gTh
open Go.IntKind renaming i64->aI
open Option renaming none->aJ,some->aK
open Go.Ending renaming returned->aN
open Go.Obj renaming cells->aO
open Go.Proofs.Tryz
variable {A args vs:Array Value}{B at_ b c c1' f g i j k n n1' o order p size t:Nat}{W W' w w' w1 w2:World}{a a1':Option Addr}{apart:Bool}{cs xs:List Value}{e:TypeId}{row:Option Nat}{v:Value}{y:List Nat}
def Row (w:World)(a:Option Addr)(cs:List Value):Prop:=
 ∀j v,cs[j]? =aK v->∃b off,a=aK ⟨b,off,aJ⟩/\b<w.heap.size/\w.cell? ⟨b,off+j,aJ⟩=aK v
theorem Row.nil (w:World)(a:Option Addr):Row w a []:=λj v h=>by simp at h
theorem Row.mono (h:Row w a cs)(hb:Below B w w')(hB:w.heap.size<=B):Row w' a cs:=by
 intro j v c;obtain⟨b,off,e,f,d⟩:=h j v c;exact⟨b,off,e,gI f hb.size,by rw[hb.cell (p:=⟨b,off+j,aJ⟩) (by simp;omega)];exact d⟩
theorem Row.below (h:Row w a cs)(hb:Below w.heap.size w w'):Row w' a cs:=h.mono hb (gT _)
theorem Row.take (h:Row w a cs)(k:Nat):Row w a (cs.take k):=by
 intro j v b;rw[List.getElem?_take]at b;split at b
 ·exact h j v b
 ·cases b
theorem Xo (w:World)(v:Value)(t:TypeId):Row (w.alloc (aO #[v] t)) (aK ⟨w.heap.size,0,aJ⟩) [v]:=by
 intro j u a;have b:j=0:=by
  rcases j with _ | j
  ·rfl
  ·simp at a
 subst b;obtain rfl:v=u:=by simpa using a
 exact⟨w.heap.size,0,rfl,by simp,by rw[cell_of_row _ _ _ _ _ _ (heap_alloc_new w _)];rfl⟩
theorem dO {k:IntKind}{a b:Int}(h:a=b):aN (.int k a)=aN (.int k b):=by rw[h]
theorem aX {a b:Bool}(h:a=b):aN (.bool a)=aN (.bool b):=by rw[h]
def vI (x:Int):Value:=aB aI x
theorem UF {base:Nat}(h:w.ownsRow base e size v n xs):∃a c,v=aA a n c:=by
 rcases h.2 with ⟨h,d⟩ | ⟨g,f,b,h,_⟩
 ·exact⟨aJ,0,by rw[h,d]⟩
 ·exact⟨_,_,h⟩
theorem aV {base:Nat}(h:w.ownsRow base e size (aA a n c) n xs):Row w a xs:=by
 intro j v b;rcases h.2 with ⟨f,l⟩ | ⟨g,d,i,f,hb,m,_⟩
 ·have:xs=[]:=List.eq_nil_of_length_eq_zero (by rw[h.1,l,Nat.zero_mul]);simp[this]at b
 ·obtain⟨rfl,rfl⟩:a=aK ⟨g,0,aJ⟩/\c=d:=by simpa using f
  refine⟨g,0,rfl,(Array.getElem?_eq_some_iff.1 m).1,?_⟩;have k:j<n*size:=by rw[<- h.1];exact(gK.1 b).1
  rw[Nat.zero_add,World.ownsRow.cellAt h j k];exact b
theorem mQ {base:Nat}(h:w.ownsRow base e size (aA a n c) n xs)(k:Nat)(hk:k<xs.length):
 ∃g,a=aK ⟨g,0,aJ⟩/\base<=g/\g<w.heap.size/\w.cell? ⟨g,k,aJ⟩=aK xs[k]/\w.frozen? ⟨g,k,aJ⟩=false:=by
 rcases h.2 with ⟨d,i⟩ | ⟨g,b,f,d,hb,j,_⟩
 ·have:xs=[]:=List.eq_nil_of_length_eq_zero (by rw[h.1,i,Nat.zero_mul]);simp[this]at hk
 ·obtain⟨rfl,rfl⟩:a=aK ⟨g,0,aJ⟩/\c=b:=by simpa using d
  exact⟨g,rfl,hb,(Array.getElem?_eq_some_iff.1 j).1,by rw[World.ownsRow.cellAt h k (by rw[<- h.1];exact hk)];simp[hk],World.ownsRow.frozenAt h k⟩
theorem dR {base:Nat}(h:w.ownsRow base e size (aA a n c) n xs):n<=c:=by
 rcases h.2 with ⟨d,j⟩ | ⟨g,b,f,d,hb,k,i,_⟩
 ·omega
 ·obtain⟨rfl,rfl⟩:a=aK ⟨g,0,aJ⟩/\c=b:=by simpa using d
  exact i
theorem fH {base:Nat}(h:w.ownsRow base e size (aA a n c) n xs)(k:Nat)(hk:k<xs.length):
 ∃g v,a=aK ⟨g,0,aJ⟩/\base<=g/\g<w.heap.size/\w.cell? ⟨g,k,aJ⟩=aK v/\w.frozen? ⟨g,k,aJ⟩=false:=by
 obtain⟨g,f,b,j,d,i⟩:=mQ h k hk;exact⟨g,_,f,b,j,d,i⟩
theorem own_below {base:Nat}(h:w.ownsRow base e size v n xs)(hb:Below B w w')(hB:w.heap.size<=B):w'.ownsRow base e size v n xs:=by
 refine⟨h.1,?_⟩;rcases h.2 with f | ⟨g,c,b,j,i,d,a⟩
 ·exact .inl f
 ·refine .inr ⟨g,c,b,j,i,?_,a⟩;rw[hb.block g (gI (Array.getElem?_eq_some_iff.1 d).1 hB)];exact d
theorem own_base {b':Nat}(h:w.ownsRow b e size v n xs)(hb:b'<=b):w.ownsRow b' e size v n xs:=by
 refine⟨h.1,?_⟩;rcases h.2 with f | ⟨g,d,c,i,j,a⟩
 ·exact .inl f
 ·exact .inr ⟨g,d,c,i,by omega,a⟩
theorem iV {P:Program}{w:World}{ops:Array Oper}{rest:List Oper}{o:Oper}{a:Act}{Q:Exit->Act->World->Prop}(hgd:o.guard=aJ)(s x:Operand)(t:TypeId)
 (ho:o.op= .call {callee:= .builtin .append,args:=#[s,x],argTypes:=#[t,t]})
 (base:Nat) (e:TypeId) (z:Value) (size bytes:Nat) (ht:P.underlying t=aK (.slice e)) (hinfo:(P.info? e).map (λi=>(i.zero,i.size,i.bytes))=aK (aK z,size,bytes))
 (hzs:z.cells.size=size) (hsz:0<size) (hbp:0<bytes)
 (as_:Option Addr) (n cs:Nat) (xs:List Value) (hs:a.eval s=aA as_ n cs) (hown:w.ownsRow base e size (aA as_ n cs) n xs)
 (ax:Option Addr) (m cx:Nat) (news:List Value) (hx:a.eval x=aA ax m cx) (hl:news.length=m*size) (hnews:Row w ax news) (h1:∀u∈news,u.oneCell'=true)
 (hbytes:(n+m)*bytes<=140737488355328) (hbase:base<=w.heap.size)
 (h:∀a' c' w',w'.ownsRow base e size (aA a' (n+m) c') (n+m) (xs++news)->w.grownBy w' (gTh (aA as_ n cs))->wpList P ops Q rest (a.put o.dst (aA a' (n+m) c')) w'):
 wpList P ops Q (o::rest) a w:=by
 obtain⟨i,p,D,c,f⟩:=info_parts hinfo;have d:n+m<=maxLen:=by
  have:n+m<=(n+m)*bytes:=Nat.le_mul_of_pos_right _ hbp;simp only[maxLen];omega
 cases ax with
 | some ad=>
  refine wpList_append_own w hgd s x t ho base e i z size bytes ht p D c f hzs hsz _ n xs hs hown ad m cx news hx hl ?_ h1 d hbytes hbase λJ w' y G _=> ?_
  ·intro j u I;obtain⟨b,off,q,_,C⟩:=hnews j u I;obtain rfl:ad=⟨b,off,aJ⟩:=by simpa using q
   rw[Addr.add_lit];exact C
  ·obtain⟨a',c',rfl⟩:=UF y;exact h a' c' w' y G
 | none=>
  have v:news=[]:=by
   cases news with
   | nil=>rfl
   | cons u l=>obtain⟨b,off,q,_⟩:=hnews 0 u rfl;cases q
  subst v;have H:m=0:=by
   rcases Nat.eq_zero_or_pos m with h | h
   ·exact h
   ·have:=Nat.mul_pos h hsz;simp only[List.length_nil]at hl;omega
  subst H;refine wpList_plain hgd λK A=> ?_
  have F:(Builtin.append_ #[t,t] o.type #[aA as_ n cs,aA aJ 0 cx]).run P w= .ok (aA as_ n cs) w:=by
   rcases hown.2 with ⟨r,rfl⟩ | ⟨g,B,E,r,_,L,k,_⟩
   ·rw[r];simp[Builtin.append_,run_underlying ht,sizeOf,typeInfo,p,Builtin.lenOf,Builtin.firstCells]
   ·rw[r];simp[Builtin.append_,run_underlying ht,sizeOf,typeInfo,p,Builtin.lenOf,Builtin.firstCells,k,storeCells]
  unfold Oper.wp execOp;simp only[ho,resolve,invoke,builtin,Sem.run_bind,Sem.run_pure,Result.andThen_ok,List.map_toArray,List.map_cons,List.map_nil,hs,hx,F];exact A _ _ (h as_ cs w (by simpa using hown) ⟨rfl,rfl,rfl,gT _,λ_ _ _=>rfl⟩)
theorem below_grown {a:World}{base:Nat}(h:Below B a w)(hown:w.ownsRow base e size v n xs)(hg:w.grownBy w' v.ownBlock)(hB:B<=base)(hs:B<=w.heap.size):Below B a w':=
 h.grown hg hs λk b=>by have:=(hown.lt k b).1;omega
def bY (a:Option Addr)(l m s:Nat):Option Addr:=if m=l then a else a.map (·.add (l*s))
theorem iW (a:Option Addr)(l h m s:Nat):sliced a l h m s=aA (bY a l m s) (h-l) (m-l):=rfl
@[simp] theorem aEI (a:Option Addr) (m s:Nat):bY a 0 m s=a:=by
 unfold bY;split
 ·rfl
 ·cases a <;> simp[Addr.add]
theorem Row.cut (h:Row w a xs)(l m s j:Nat)(hj:j<=(m-l)*s):Row w (bY a l m s) ((xs.drop (l*s)).take j):=by
 intro k v c;rw[List.getElem?_take]at c;split at c
 ·rename_i hkj;rw[List.getElem?_drop]at c;obtain⟨b,off,rfl,g,f⟩:=h _ v c;have d:¬m=l:=by
   intro e;subst e;simp at hj;omega
  refine⟨b,off+l*s,?_,g,by rw[Nat.add_assoc];exact f⟩;unfold bY;rw[if_neg d];show aK (Addr.add ⟨b,off,aJ⟩ (l*s))=_;rw[Addr.add_lit]
 ·cases c
def pk (n many:Int):Int:=(if n<0 then-(n+1)else n)%many
theorem xU (n many:Int)(h:1<=many):0<=pk n many:=Int.emod_nonneg _ (by omega)
theorem Tj (n many:Int)(h:1<=many):pk n many<many:=Int.emod_lt_of_pos _ (by omega)
theorem yU (n many:Int)(w:World)(hn1: -9223372036854775808<=n)(hn2:n<=9223372036854775807)(h1:1<=many)(h2:many<=1000000):
 Calls prog 13 #[aB aI n,aB aI many] w λe w'=>e=aN (aB aI (pk n many))/\w=w':=by
 by_cases a:n<0
 ·go_enter func13,ntmps13
  go_wp2
  go_ret
  refine⟨dO ?_,rfl⟩;show-(n+1).tmod many=_;rw[pk,if_pos a,<- Int.neg_tmod,Int.tmod_eq_emod_of_nonneg (by omega)]
 ·go_enter func13,ntmps13
  go_wp2
  go_ret
  refine⟨dO ?_,rfl⟩;show n%many=_;rw[pk,if_neg (by omega)]
theorem aCP (k:Int)(w:World)(h1:65<=k)(h2:k<=1000000):
 Calls prog 68 #[aB aI k] w λe w'=>e=aN (aG #[aB aI 0,aB aI 0,aB aI 1])/\w=w':=by
 go_enter func68,ntmps68
 go_wp2
 go_ret3
 exact⟨rfl,rfl⟩
theorem Xp (k:Int)(w:World)(h1:1<=k)(h2:k<=64)(h3:4<=16/k):
 Calls prog 68 #[aB aI k] w λe w'=>e=aN (aG #[aB aI 0,aB aI (16/k),aB aI 0])/\w=w':=by
 go_enter func68,ntmps68
 go_wp2
 refine wp_loop_rounds 1 ?_;rw[rounds_succ];go_wp2
 go_ret3
 exact⟨rfl,rfl⟩
theorem Xq (k:Int)(w:World)(h1:1<=k)(h2:k<=64)(h3:16/k<4)(h4:4<=32/k):
 Calls prog 68 #[aB aI k] w λe w'=>e=aN (aG #[aB aI 1,aB aI (32/k),aB aI 0])/\w=w':=by
 go_enter func68,ntmps68
 go_wp2
 refine wp_loop_rounds 2 ?_;rw[rounds_succ];go_wp2
 rw[rounds_succ];go_wp2
 go_ret3
 exact⟨rfl,rfl⟩
theorem Xr (k:Int)(w:World)(h1:1<=k)(h2:k<=64)(h3:16/k<4)(h4:32/k<4):
 Calls prog 68 #[aB aI k] w λe w'=>e=aN (aG #[aB aI 2,aB aI (64/k),aB aI 0])/\w=w':=by
 go_enter func68,ntmps68
 go_wp2
 refine wp_loop_rounds 3 ?_;rw[rounds_succ];go_wp2
 rw[rounds_succ];go_wp2
 rw[rounds_succ];go_wp2
 all_goals (go_ret3;exact⟨rfl,rfl⟩)
theorem mV {P:Program}(size n:Nat)(sp:Option Addr)(len cap:Nat)(cs:List Value)(hl:cs.length=n*size)(hr:Row w sp cs):
 (Builtin.firstCells size n (aA sp len cap)).run P w= .ok cs.toArray w:=by
 cases sp with
 | some b=>
  refine run_firstCells_some w size n b len cap cs hl λj v c=> ?_
  obtain⟨d,off,e,_,h⟩:=hr j v c;obtain rfl:b=⟨d,off,aJ⟩:=by simpa using e
  rw[Addr.add_lit];exact h
 | none=>
  have:cs=[]:=by
   cases cs with
   | nil=>rfl
   | cons u l=>obtain⟨b,off,a,_⟩:=hr 0 u rfl;cases a
  subst this;simp[Builtin.firstCells]
theorem Dh (cur xs cs:List Value)(o N:Nat)(h:cur.take N=xs)(hN:N<=cur.length)(hf:o+cs.length<=N):
 (cur.take o++cs++cur.drop (o+cs.length)).take N=xs.take o++cs++xs.drop (o+cs.length):=by
 subst h;have a:(cur.take o++cs).length=o+cs.length:=by rw[gTb,gTc];omega
 rw[List.take_append,gTf (by omega),a,List.take_take,Nat.min_eq_left (by omega),List.drop_take]
theorem UJ {P:Program}{w:World}{ops:Array Oper}{rest:List Oper}{o:Oper}{a:Act}{Q:Exit->Act->World->Prop}(hgd:o.guard=aJ)(d s:Operand)(dT sT:TypeId)
 (ho:o.op= .call {callee:= .builtin .copy,args:=#[d,s],argTypes:=#[dT,sT]}) (e:TypeId) (hu:P.underlying dT=aK (.slice e)) (size:Nat) (hsz:(P.info? e).map (·.size)=aK size)
 (dp sp:Option Addr) (dLen dCap sLen sCap:Nat) (hd:a.eval d=aA dp dLen dCap) (hs:a.eval s=aA sp sLen sCap)
 (cs:List Value) (hn:cs.length=Nat.min sLen dLen*size) (hcs:Row w sp cs) (h1:∀u∈cs,u.oneCell'=true)
 (base N co p:Nat) (ao:Option Addr) (xs:List Value) (hown:w.ownsRow base e size (aA ao N co) N xs) (hp:0<cs.length->dp=ao.map (·.add (p*size))) (hdn:dp=aJ->cs=[]) (hfit:p*size+cs.length<=N*size)
 (h:∀w',w'.ownsRow base e size (aA ao N co) N (xs.take (p*size)++cs++xs.drop (p*size+cs.length))->w.grownBy w' (gTh (aA ao N co))->wpList P ops Q rest (a.put o.dst (goInt (Nat.min sLen dLen:Nat))) w'):
 wpList P ops Q (o::rest) a w:=by
 refine wpList_plain hgd λK D=> ?_
 have key:∃w',(Builtin.copy_ #[dT,sT] o.type #[aA dp dLen dCap,aA sp sLen sCap]).run P w= .ok (goInt (Nat.min sLen dLen:Nat)) w'/\w'.ownsRow base e size (aA ao N co) N (xs.take (p*size)++cs++xs.drop (p*size+cs.length))/\w.grownBy w' (gTh (aA ao N co)):=by
  cases hq:P.info? e with
  | none=>simp[hq]at hsz
  | some i=>
   have x:i.size=size:=by simpa[hq]using hsz
   have t:=mV (P:=P) size (Nat.min sLen dLen) sp sLen sCap cs hn hcs;by_cases n:0<cs.length
   ·obtain⟨g,c,b,G,v,z,l,q,m,r⟩:∃g c b,aA ao N co=aA (aK ⟨g,0,aJ⟩) N c/\base<=g/\w.heap[g]? =aK (.cells b e (0,0))/\N<=c/\c<=maxLen/\b.size=c*size/\b.toList.take (N*size)=xs:=by
     rcases hown.2 with ⟨_,B⟩ | h
     ·rw[B,Nat.zero_mul]at hfit;omega
     ·exact h
    obtain⟨rfl,rfl⟩:ao=aK ⟨g,0,aJ⟩/\co=c:=by simpa using G
    have f:=hp n;simp only[Option.map_some,Addr.add_lit,Nat.zero_add]at f;subst f;have y:N*size<=b.size:=by rw[m];exact Nat.mul_le_mul_right _ l
    have j:=run_storeCells_at P g (p*size) e cs 0 b w z (by omega) h1;refine⟨w.setRow g (b.toList.take (p*size)++cs++b.toList.drop (p*size+cs.length)).toArray,?_,?_,?_⟩
    ·simp only[Nat.add_zero]at j;simp[Builtin.copy_,run_underlying hu,Builtin.lenOf,sizeOf,typeInfo,hq,x,t,j]
    ·refine⟨?_,.inr ⟨g,co,_,rfl,v,setRow_heap w g b _ e _ z,l,q,?_,?_⟩⟩
     ·have:=hown.1;simp only[gTb,gTc,gTd];omega
     ·simp only[List.size_toArray,gTb,gTc,gTd,Array.length_toList];omega
     ·exact Dh _ _ _ _ _ r (by simpa using y) hfit
    ·exact⟨rfl,rfl,rfl,by simp[World.setRow],λk _ C=>setRow_other w g k _ (λe=>C (by simp[gTh,e]))⟩
   ·have H:cs=[]:=List.eq_nil_of_length_eq_zero (by omega);subst H;refine⟨w,?_,by simpa using hown,⟨rfl,rfl,rfl,gT _,λ_ _ _=>rfl⟩⟩;cases dp with
    | none=>simp[Builtin.copy_,run_underlying hu,Builtin.lenOf,sizeOf,typeInfo,hq,x,t]
    | some ad=>simp[Builtin.copy_,run_underlying hu,Builtin.lenOf,sizeOf,typeInfo,hq,x,t,storeCells]
 obtain⟨w',E,A,F⟩:=key;unfold Oper.wp execOp;simp only[ho,resolve,invoke,builtin,Sem.run_bind,Sem.run_pure,Result.andThen_ok,List.map_toArray,List.map_cons,List.map_nil,hd,hs,E];exact D _ _ (h w' A F)
structure Bk where
 a:Nat
 o:Nat
 t:Nat
deriving DecidableEq
def Bk.fin (b:Bk):Nat:=b.a+2^b.o
def l9 (a o:Nat):Nat:=if a/2^o%2=0 then a+2^o else a-2^o
structure Zn where
 f:Nat
 e:Nat
 l:List Bk
 y:List Nat
deriving DecidableEq
def cZ (f e a o:Nat):Prop:=o<=4/\f<=a/\a<e/\a%2^o=0
instance (f e a o:Nat):Decidable (cZ f e a o):=by unfold cZ;infer_instance
structure uM (f e:Nat)(l:List Bk):Prop where
 fit:∀b∈l,cZ f e b.a b.o/\b.t<3
 sep:l.Pairwise λx y=>x.fin<=y.a
 nob:∀x∈l,∀y∈l,x.o=y.o->x.o<4->y.a≠l9 x.a x.o
structure OkZ (f e:Nat)(y:List Nat):Prop where
 fe:f<=e
 e2:e<=256
 f16:f%16=0
 e16:e%16=0
 len:y.length=(e-f)/8
 typ:∀t∈y,t<3
def Zn.ok (z:Zn):Prop:=OkZ z.f z.e z.y/\uM z.f z.e z.l
theorem aAD (f e:Nat)(l:List Bk):uM f e l↔(∀b∈l,cZ f e b.a b.o/\b.t<3)/\(l.Pairwise λx y=>x.fin<=y.a)/\∀x∈l,∀y∈l,x.o=y.o->x.o<4->y.a≠l9 x.a x.o:=
 ⟨λh=>⟨h.fit,h.sep,h.nob⟩,λh=>⟨h.1,h.2.1,h.2.2⟩⟩
theorem aAE (f e:Nat)(y:List Nat):OkZ f e y↔(f<=e/\e<=256/\f%16=0/\e%16=0/\y.length=(e-f)/8/\∀t∈y,t<3):=
 ⟨λh=>⟨h.fe,h.e2,h.f16,h.e16,h.len,h.typ⟩,λh=>⟨h.1,h.2.1,h.2.2.1,h.2.2.2.1,h.2.2.2.2.1,h.2.2.2.2.2⟩⟩
instance (f e:Nat) (l:List Bk):Decidable (uM f e l):=decidable_of_iff _ (aAD f e l).symm
instance (f e:Nat) (y:List Nat):Decidable (OkZ f e y):=decidable_of_iff _ (aAE f e y).symm
instance (z:Zn):Decidable z.ok:=by unfold Zn.ok;infer_instance
def apartB (a o:Nat)(x:Bk):Prop:=x.fin<=a∨a+2^o<=x.a
instance (a o:Nat) (x:Bk):Decidable (apartB a o x):=by unfold apartB;infer_instance
def lb (l:List Bk)(a:Nat):Nat:=(l.takeWhile λb=>decide (b.a<a)).length
def jG (l:List Bk)(a:Nat):Nat->Nat->List Bk×Nat×Nat
 | 0,o=>(l,a,o)
 | n+1,o=>match l[lb l (l9 a o)]? with
  | some x=>if x.a=l9 a o/\x.o=o then jG (l.eraseIdx (lb l (l9 a o))) (min a x.a) n (o+1)else(l,a,o)
  | none=>(l,a,o)
def bI (l:List Bk)(b:Bk):List Bk:=l.take (lb l b.a)++b::l.drop (lb l b.a)
def Zn.back (z:Zn)(a o:Nat):Zn:=
 let r:=jG z.l a (4-o) o
 {z with l:=bI r.1 ⟨r.2.1,r.2.2,z.y.getD ((r.2.1-z.f)/8) 0⟩}
theorem JK (h:o<=4):2^o=1∨2^o=2∨2^o=4∨2^o=8∨2^o=16:=by
 obtain rfl | rfl | rfl | rfl | rfl:o=0∨o=1∨o=2∨o=3∨o=4:=by omega
 all_goals simp
theorem dZ (o:Nat):0<2^o:=Nat.two_pow_pos o
theorem BH {a:Nat}(ho:o<=4)(h:a%2^o=0):(l9 a o=a+2^o/\a%2^(o+1)=0)∨(l9 a o+2^o=a/\l9 a o%2^(o+1)=0):=by
 unfold l9;obtain rfl | rfl | rfl | rfl | rfl:o=0∨o=1∨o=2∨o=3∨o=4:=by omega
 all_goals simp only[Nat.reducePow,Nat.reduceAdd]at*
 all_goals split <;> omega
theorem aAF {a:Nat}(ho:o<=4)(h:a%2^o=0):l9 (l9 a o) o=a:=by
 unfold l9;obtain rfl | rfl | rfl | rfl | rfl:o=0∨o=1∨o=2∨o=3∨o=4:=by omega
 all_goals simp only[Nat.reducePow]at*
 all_goals (split <;> split <;> omega)
theorem Tm {e a:Nat}(hf:f%16=0)(he:e%16=0)(ho:o<4)(h:cZ f e a o):cZ f e (min a (l9 a o)) (o+1):=by
 obtain⟨b,c,g,d⟩:=h;unfold cZ l9;obtain rfl | rfl | rfl | rfl:o=0∨o=1∨o=2∨o=3:=by omega
 all_goals simp only[Nat.reducePow,Nat.reduceAdd]at*
 all_goals (split <;> omega)
theorem wE {e a:Nat}(he:e%16=0)(h:cZ f e a o):a+2^o<=e:=by
 obtain⟨b,c,g,d⟩:=h;obtain rfl | rfl | rfl | rfl | rfl:o=0∨o=1∨o=2∨o=3∨o=4:=by omega
 all_goals simp only[Nat.reducePow]at*
 all_goals omega
theorem IB {e a:Nat}(he:e%16=0)(h:cZ f e a (o+1)):cZ f e a o/\cZ f e (a+2^o) o/\l9 (a+2^o) o=a:=by
 have g:=wE he h;obtain⟨d,b,i,c⟩:=h;unfold cZ l9;obtain rfl | rfl | rfl | rfl:o=0∨o=1∨o=2∨o=3:=by omega
 all_goals simp only[Nat.reducePow,Nat.reduceAdd]at*
 all_goals (refine⟨⟨by omega,by omega,by omega,by omega⟩,⟨by omega,by omega,by omega,by omega⟩,?_⟩;split <;> omega)
theorem En {α:Type}(p:α->Bool):∀l:List α,l.take (l.takeWhile p).length=l.takeWhile p
 | []=>rfl
 | x::l=>by
  rw[List.takeWhile_cons];split
  ·rw[List.length_cons,List.take_succ_cons,En p l]
  ·rfl
theorem drop_tw {α:Type}(p:α->Bool):∀l:List α,l.drop (l.takeWhile p).length=l.dropWhile p
 | []=>rfl
 | x::l=>by
  rw[List.takeWhile_cons,List.dropWhile_cons];split
  ·rw[List.length_cons,List.drop_succ_cons,drop_tw p l]
  ·rfl
theorem mD (l:List Bk)(a:Nat):lb l a<=l.length:=by
 have:=congrArg List.length (En (λb:Bk=>decide (b.a<a)) l);rw[gTc]at this;unfold lb;omega
def uN (l:List Bk):Prop:=l.Pairwise λx y=>x.a<y.a
theorem uM.rise {e:Nat}{l:List Bk}(h:uM f e l):uN l:=h.sep.imp fun{x y} a=>by
 have:=dZ x.o;unfold Bk.fin at a;omega
theorem Qw {α:Type}{p:α->Bool}:∀{l:List α} {x:α},x∈l.takeWhile p->p x=true
 | [],x,h=>by simp at h
 | y::l,x,h=>by
  rw[List.takeWhile_cons]at h;split at h
  ·rcases gY.1 h with rfl | h
   ·assumption
   ·exact Qw h
  ·simp at h
theorem zV {l:List Bk}{a:Nat}:∀x∈l.take (lb l a),x.a<a:=by
 intro x b;unfold lb at b;rw[En]at b;have:=Qw b;simpa using this
theorem wF {l:List Bk}(h:uN l){a:Nat}:∀x∈l.drop (lb l a),a<=x.a:=by
 unfold lb;rw[drop_tw]
 induction l with
 | nil=>intro x b;simp at b
 | cons y l ih=>
  intro x b;rw[List.dropWhile_cons]at b;have c:=List.pairwise_cons.1 h;split at b
  ·exact ih c.2 x b
  ·rename_i hc;have d:a<=y.a:=by simpa using hc
   rcases gY.1 b with rfl | b
   ·exact d
   ·have:=c.1 x b;omega
theorem lX {l:List Bk}(h:uN l){x:Bk}(hx:x∈l):l[lb l x.a]? =aK x:=by
 have b:x∈l.drop (lb l x.a):=by
  rw[<- List.take_append_drop (lb l x.a) l,gZ]at hx;rcases hx with hx | hx
  ·have:=zV x hx;omega
  ·exact hx
 rw[<- List.head?_drop];have d:uN (l.drop (lb l x.a)):=h.sublist (List.drop_sublist _ _);have c:=wF h (a:=x.a);cases hl:l.drop (lb l x.a)with
 | nil=>rw[hl]at b;simp at b
 | cons y m=>
  rw[hl]at b d c;rcases gY.1 b with rfl | b
  ·rfl
  ·have f:=(List.pairwise_cons.1 d).1 x b;have e:=c y (by simp);omega
def inB (a o p:Nat):Prop:=a<=p/\p<a+2^o
def aAA (l:List Bk)(p:Nat):Prop:=∃b∈l,inB b.a b.o p
theorem uM.sublist {e:Nat}{l m:List Bk}(h:uM f e l)(hs:m.Sublist l):uM f e m:=
 ⟨λb hb=>h.fit b (hs.subset hb),h.sep.sublist hs,λx c y a=>h.nob x (hs.subset c) y (hs.subset a)⟩
theorem zW {l:List Bk}(h:l.Pairwise λx y=>x.fin<=y.a)(hi:i<l.length)(hj:j<l.length)(hne:i≠j):l[i].fin<=l[j].a∨l[j].fin<=l[i].a:=by
 rcases Nat.lt_or_ge i j with b | c
 ·exact .inl (gN.1 h i j hi hj b)
 ·exact .inr (gN.1 h j i hj hi (by omega))
theorem uM.put {e:Nat}{l:List Bk}(h:uM f e l){b:Bk}(hb:cZ f e b.a b.o)(ht:b.t<3)(hd:∀x∈l,apartB b.a b.o x)(hn:b.o<4->∀x∈l,x.o=b.o->x.a≠l9 b.a b.o):uM f e (bI l b):=by
 have c:∀x,x∈bI l b↔x=b∨x∈l:=λx=>by
  unfold bI;rw[gZ,gY]
  conv=>rhs;rw[<- List.take_append_drop (lb l b.a) l,gZ]
  constructor
  ·rintro(h | h | h)
   ·exact .inr (.inl h)
   ·exact .inl h
   ·exact .inr (.inr h)
  ·rintro(h | h | h)
   ·exact .inr (.inl h)
   ·exact .inl h
   ·exact .inr (.inr h)
 refine⟨λx g=> ?_,?_,λx g y d p u=> ?_⟩
 ·rcases(c x).1 g with rfl | g
  ·exact⟨hb,ht⟩
  ·exact h.fit x g
 ·unfold bI;rw[List.pairwise_append];refine⟨h.sep.sublist (List.take_sublist _ _),?_,λx g y d=> ?_⟩
  ·rw[List.pairwise_cons];refine⟨λy d=> ?_,h.sep.sublist (List.drop_sublist _ _)⟩;have s:=wF h.rise y d;have r:=hd y (List.mem_of_mem_drop d);have z:=dZ y.o;unfold apartB Bk.fin at r;unfold Bk.fin;omega
  ·have s:=zV x g;have r:=hd x (List.mem_of_mem_take g);have z:=dZ b.o;rcases gY.1 d with rfl | d
   ·unfold apartB Bk.fin at r;unfold Bk.fin;omega
   ·have v:=h.sep;rw[<- List.take_append_drop (lb l b.a) l,List.pairwise_append]at v;exact v.2.2 x g y d
 ·have k:b.o<4->b.a≠l9 b.a b.o:=λ_ e=>by
   have A:=dZ b.o;rcases BH hb.1 hb.2.2.2 with ⟨s,_⟩ | ⟨s,_⟩ <;> omega
  rcases(c x).1 g with q | i
  ·subst q;rcases(c y).1 d with m | j
   ·subst m;exact k u
   ·exact hn u y j p.symm
  ·rcases(c y).1 d with m | j
   ·subst m;intro w;have n:=(h.fit x i).1;have:=hn (by omega) x i p;rw[w,<- p,aAF n.1 n.2.2.2]at this;exact this rfl
   ·exact h.nob x i y j p u
theorem Nk {l:List Bk}{b:Bk}(p:Nat):aAA (bI l b) p↔aAA l p∨inB b.a b.o p:=by
 unfold aAA bI;constructor
 ·rintro⟨x,c,d⟩;rw[gZ,gY]at c;rcases c with c | rfl | c
  ·exact .inl ⟨x,List.mem_of_mem_take c,d⟩
  ·exact .inr d
  ·exact .inl ⟨x,List.mem_of_mem_drop c,d⟩
 ·rintro(⟨x,c,d⟩ | d)
  ·rw[<- List.take_append_drop (lb l b.a) l,gZ]at c;refine⟨x,?_,d⟩;rw[gZ,gY];rcases c with c | c
   ·exact .inl c
   ·exact .inr (.inr c)
  ·exact⟨b,by simp,d⟩
structure Joined (f e:Nat)(l:List Bk)(a o:Nat)(l':List Bk)(a' o':Nat):Prop where
 ok:uM f e l'
 fit:cZ f e a' o'
 apart:∀x∈l',apartB a' o' x
 last:o'<4->∀x∈l',x.o=o'->x.a≠l9 a' o'
 Xw:∀p,(aAA l' p∨inB a' o' p)↔(aAA l p∨inB a o p)
theorem IC {e:Nat}(hf:f%16=0)(he:e%16=0):∀(n o:Nat) (l:List Bk) (a:Nat),n+o=4->uM f e l->cZ f e a o->(∀x∈l,apartB a o x)->Joined f e l a o (jG l a n o).1 (jG l a n o).2.1 (jG l a n o).2.2
 | 0,o,l,a,hn,hl,hb,hd=>⟨hl,hb,hd,λh=>by simp only[jG]at h;omega,λp=>Iff.rfl⟩
 | n+1,o,l,a,hn,hl,hb,hd=>by
  have hstop:(∀x∈l,x.o=o->x.a≠l9 a o)->Joined f e l a o l a o:=λh=>⟨hl,hb,hd,λ_=>h,λp=>Iff.rfl⟩
  unfold jG;cases hx:l[lb l (l9 a o)]? with
  | none=>
   simp only;refine hstop λx w F u=> ?_
   have:=lX hl.rise w;rw[u,hx]at this;cases this
  | some x=>
   simp only;by_cases g:x.a=l9 a o/\x.o=o
   ·rw[if_pos g];obtain⟨G,m⟩:=gK.1 hx;have E:x∈l:=by rw[<- m];exact gL G
    have d:∀y,y∈l.eraseIdx (lb l (l9 a o))->y∈l/\(y.fin<=x.a∨x.fin<=y.a):=λy k=>by
     obtain⟨j,v,z,rfl⟩:=List.mem_eraseIdx_iff_getElem.1 k;refine⟨gL v,?_⟩;rw[<- m];exact zW hl.sep v G z
    have D:o<4:=by omega
    have J:=dZ o;have s:2^(o+1)=2^o+2^o:=by rw[Nat.pow_succ];omega
    have q:=BH hb.1 hb.2.2.2;have c:min a x.a=min a (l9 a o):=by rw[g.1]
    have b:∀y∈l.eraseIdx (lb l (l9 a o)),apartB (min a x.a) (o+1) y:=λy k=>by
     obtain⟨i,B⟩:=d y k;have H:=hd y i;have I:=dZ y.o;unfold apartB Bk.fin at*;rw[g.2,g.1]at B;rw[c,s];rcases q with ⟨C,_⟩ | ⟨C,_⟩ <;> omega
    have t:=IC hf he n (o+1) (l.eraseIdx (lb l (l9 a o))) (min a x.a) (by omega) (hl.sublist (List.eraseIdx_sublist _ _)) (by rw[c];exact Tm hf he D hb) b;refine⟨t.ok,t.fit,t.apart,t.last,λp=>(t.Xw p).trans ?_⟩;have A:inB (min a x.a) (o+1) p↔(inB a o p∨inB x.a x.o p):=by
     unfold inB;rw[g.2,g.1,s];rcases q with ⟨C,_⟩ | ⟨C,_⟩ <;> omega
    rw[A];constructor
    ·rintro(⟨y,k,h⟩ | h | h)
     ·exact .inl ⟨y,(d y k).1,h⟩
     ·exact .inr h
     ·exact .inl ⟨x,E,h⟩
    ·rintro(⟨y,k,h⟩ | h)
     ·obtain⟨j,v,rfl⟩:=List.getElem_of_mem k;by_cases r:j=lb l (l9 a o)
      ·subst r;rw[m]at h;exact .inr (.inr h)
      ·exact .inl ⟨_,List.mem_eraseIdx_iff_getElem.2 ⟨j,v,r,rfl⟩,h⟩
     ·exact .inr (.inl h)
   ·rw[if_neg g];refine hstop λy i F u=> ?_
    have:=lX hl.rise i;rw[u,hx]at this;obtain rfl:x=y:=by simpa using this
    exact g ⟨u,F⟩
theorem Zn.uO {z:Zn}(h:z.ok){a:Nat}(hb:cZ z.f z.e a o)(hd:∀x∈z.l,apartB a o x):(z.back a o).ok/\∀p,aAA (z.back a o).l p↔(aAA z.l p∨inB a o p):=by
 obtain⟨c,g⟩:=h;have b:=IC c.f16 c.e16 (4-o) o z.l a (by have:=hb.1;omega) g hb hd;unfold Zn.back Zn.ok;simp only;generalize (jG z.l a (4-o) o).1=k at*;generalize (jG z.l a (4-o) o).2.1=i at*;generalize (jG z.l a (4-o) o).2.2=n at*;refine⟨⟨c,b.ok.put b.fit ?_ b.apart b.last⟩,λp=>(Nk p).trans (b.Xw p)⟩;have m:=b.fit.2.1;have j:=b.fit.2.2.1;have d:(i-z.f)/8<z.y.length:=by rw[c.len];have:=c.f16;have:=c.e16;omega
 rw[List.getD_eq_getElem?_getD,gJ d];exact c.typ _ (gL d)
def oZ (l:List Bk)(o t:Nat):Option Nat:=l.findIdx? λb=>decide (b.o=o/\b.t=t)
def lG (l:List Bk)(t:Nat):Nat->Nat->Option Nat
 | 0,_=>aJ
 | n+1,o=>match oZ l o t with
  | some i=>aK i
  | none=>lG l t n (o+1)
def oth1 (t:Nat):Nat:=if t=2 then 0 else 2
def oth2 (t:Nat):Nat:=if t=1 then 0 else 1
def dW (l:List Bk)(t order:Nat):Nat->Option Nat
 | 0=>aJ
 | n+1=>if n<order then aJ else match oZ l n (oth1 t)with
  | some i=>aK i
  | none=>match oZ l n (oth2 t)with
   | some i=>aK i
   | none=>dW l t order n
def rY (y:List Nat)(f a t:Nat):Nat->List Nat
 | 0=>y
 | n+1=>(rY y f a t n).set ((a+n-f)/8) t
def pU (fr up t:Nat)(x:Bk):Bk:=if fr<=x.a/\x.fin<=up then{x with t:=t}else x
def Zn.steal (z:Zn)(b:Bk)(t:Nat):Zn:=
 if b.o<2 then z else{z with l:=z.l.map (pU (b.a/8*8) (max b.fin (b.a/8*8+8)) t),y:=rY z.y z.f b.a t (2^b.o)}
def bZ (l:List Bk)(a t order:Nat):Nat->List Bk
 | 0=>l
 | o+1=>if order<=o then bZ (bI l ⟨a+2^o,o,t⟩) a t order o else l
def Zn.cut (z:Zn)(i order:Nat):Option (Zn×Nat):=match z.l[i]? with
 | some b=>aK ({z with l:=bZ (z.l.eraseIdx i) b.a b.t order b.o},b.a)
 | none=>aJ
def Zn.take (z:Zn)(order t:Nat):Option (Zn×Nat):=match lG z.l t (5-order) order with
 | some i=>z.cut i order
 | none=>match dW z.l t order 5 with
  | some i=>match z.l[i]? with
   | some b=>(z.steal b t).cut i order
   | none=>aJ
  | none=>aJ
theorem sD {l:List Bk}(h:oZ l o t=aK i):∃b,l[i]? =aK b/\b.o=o/\b.t=t:=by
 unfold oZ at h;rw[List.findIdx?_eq_some_iff_getElem]at h;obtain⟨d,c,_⟩:=h;have a:=of_decide_eq_true c;exact⟨l[i],gJ d,a.1,a.2⟩
theorem BI {l:List Bk}(h:oZ l o t=aJ):∀b∈l,¬(b.o=o/\b.t=t):=by
 unfold oZ at h;rw[List.findIdx?_eq_none_iff]at h;intro b hb;exact of_decide_eq_false (h b hb)
theorem qN {l:List Bk}:∀{n o i:Nat},lG l t n o=aK i->∃b,l[i]? =aK b/\o<=b.o/\b.t=t
 | 0,_,_,h=>by cases h
 | n+1,o,i,h=>by
  unfold lG at h;cases hl:oZ l o t with
  | some j=>
   rw[hl]at h;obtain rfl:j=i:=by simpa using h
   obtain⟨b,a,d,c⟩:=sD hl;exact⟨b,a,by omega,c⟩
  | none=>
   rw[hl]at h;obtain⟨b,a,d,c⟩:=qN (n:=n) (o:=o+1) (i:=i) h;exact⟨b,a,by omega,c⟩
theorem Dj {l:List Bk}:∀{n o:Nat},lG l t n o=aJ->∀b∈l,¬(o<=b.o/\b.o<o+n/\b.t=t)
 | 0,o,_,b,_,hc=>by omega
 | n+1,o,h,b,hb,hc=>by
  unfold lG at h;cases hl:oZ l o t with
  | some j=>rw[hl]at h;cases h
  | none=>
   rw[hl]at h;have h1:=BI hl b hb;have c:=Dj (n:=n) (o:=o+1) h b hb;by_cases a:b.o=o
   ·exact h1 ⟨a,hc.2.2⟩
   ·exact c ⟨by omega,by omega,hc.2.2⟩
theorem nZ {l:List Bk}:∀{n i:Nat},dW l t order n=aK i->∃b,l[i]? =aK b/\order<=b.o
 | 0,_,h=>by cases h
 | n+1,i,h=>by
  unfold dW at h;by_cases hc:n<order
  ·rw[if_pos hc]at h;cases h
  ·rw[if_neg hc]at h;cases h1:oZ l n (oth1 t)with
   | some j=>
    rw[h1]at h;obtain rfl:j=i:=by simpa using h
    obtain⟨b,a,c,_⟩:=sD h1;exact⟨b,a,by omega⟩
   | none=>
    rw[h1]at h;cases h2:oZ l n (oth2 t)with
    | some j=>
     rw[h2]at h;obtain rfl:j=i:=by simpa using h
     obtain⟨b,a,c,_⟩:=sD h2;exact⟨b,a,by omega⟩
    | none=>
     rw[h2]at h;exact nZ (n:=n) h
theorem yP {l:List Bk}:∀{n:Nat},dW l t order n=aJ->∀b∈l,¬(order<=b.o/\b.o<n/\(b.t=oth1 t∨b.t=oth2 t))
 | 0,_,b,_,hc=>by omega
 | n+1,h,b,hb,hc=>by
  unfold dW at h;by_cases hn:n<order
  ·omega
  ·rw[if_neg hn]at h;cases h1:oZ l n (oth1 t)with
   | some j=>rw[h1]at h;cases h
   | none=>
    rw[h1]at h;cases h2:oZ l n (oth2 t)with
    | some j=>rw[h2]at h;cases h
    | none=>
     rw[h2]at h;have g1:=BI h1 b hb;have c:=BI h2 b hb;have d:=yP (n:=n) h b hb;by_cases a:b.o=n
     ·rcases hc.2.2 with h | h
      ·exact g1 ⟨a,h⟩
      ·exact c ⟨a,h⟩
     ·exact d ⟨hc.1,by omega,hc.2.2⟩
theorem qO (y:List Nat)(f a t:Nat):∀n,(rY y f a t n).length=y.length
 | 0=>rfl
 | n+1=>by simp[rY,qO y f a t n]
theorem Nl {a:Nat}(ht:t<3)(h:∀u∈y,u<3):∀n,∀u∈rY y f a t n,u<3
 | 0=>h
 | n+1=>λu hu=>by
  unfold rY at hu;rcases List.mem_or_eq_of_mem_set hu with hu | rfl
  ·exact Nl ht h n u hu
  ·exact ht
theorem uM.map {e:Nat}{l:List Bk}(h:uM f e l){g:Bk->Bk}(ha:∀x,(g x).a=x.a)(ho:∀x,(g x).o=x.o)(ht:∀x,x.t<3->(g x).t<3):uM f e (l.map g):=by
 refine⟨λb hb=> ?_,?_,λx k y p m c=> ?_⟩
 ·obtain⟨x,k,rfl⟩:=List.mem_map.1 hb;obtain⟨j,n⟩:=h.fit x k;rw[ha,ho];exact⟨j,ht x n⟩
 ·rw[List.pairwise_map];refine h.sep.imp fun{x y} j=> ?_
  unfold Bk.fin at*;rw[ha,ha,ho];exact j
 ·obtain⟨r,d,rfl⟩:=List.mem_map.1 k;obtain⟨q,i,rfl⟩:=List.mem_map.1 p;rw[ho,ho]at m;rw[ho]at c;rw[ha,ha,ho];exact h.nob r d q i m c
theorem Xx {l:List Bk}{g:Bk->Bk}(ha:∀x,(g x).a=x.a)(ho:∀x,(g x).o=x.o)(p:Nat):aAA (l.map g) p↔aAA l p:=by
 unfold aAA;constructor
 ·rintro⟨b,hb,c⟩;obtain⟨x,d,rfl⟩:=List.mem_map.1 hb;rw[ha,ho]at c;exact⟨x,d,c⟩
 ·rintro⟨x,d,c⟩;exact⟨g x,List.mem_map_of_mem d,by rw[ha,ho];exact c⟩
theorem JL (fr up t:Nat)(x:Bk):(pU fr up t x).a=x.a:=by unfold pU;split <;> rfl
theorem JM (fr up t:Nat)(x:Bk):(pU fr up t x).o=x.o:=by unfold pU;split <;> rfl
theorem aAG {fr up:Nat}(ht:t<3)(x:Bk)(h:x.t<3):(pU fr up t x).t<3:=by unfold pU;split <;> simp[ht,h]
theorem Zn.pV {z:Zn}(h:z.ok){b:Bk}(ht:t<3):(z.steal b t).ok/\(∀p,aAA (z.steal b t).l p↔aAA z.l p)/\(z.steal b t).f=z.f/\(z.steal b t).e=z.e/\∀(i:Nat) (x:Bk),z.l[i]? =aK x->∃y:Bk,(z.steal b t).l[i]? =aK y/\y.a=x.a/\y.o=x.o:=by
 unfold Zn.steal;split
 ·exact⟨h,λ_=>Iff.rfl,rfl,rfl,λi x c=>⟨x,c,rfl,rfl⟩⟩
 ·refine⟨⟨⟨h.1.fe,h.1.e2,h.1.f16,h.1.e16,by simp only[qO];exact h.1.len,Nl ht h.1.typ _⟩,h.2.map (JL _ _ _) (JM _ _ _) (aAG ht)⟩,λp=>Xx (JL _ _ _) (JM _ _ _) p,rfl,rfl,λi x c=>⟨pU (b.a/8*8) (max b.fin (b.a/8*8+8)) t x,by simp only[List.getElem?_map,c,Option.map_some],JL _ _ _ _,JM _ _ _ _⟩⟩
theorem split_ok {e a:Nat}(he:e%16=0)(ht:t<3):∀(o:Nat) (l:List Bk),order<=o->uM f e l->cZ f e a o->(∀x∈l,apartB a o x)->
 uM f e (bZ l a t order o)/\cZ f e a order/\(∀x∈bZ l a t order o,apartB a order x)/\∀p,(aAA (bZ l a t order o) p∨inB a order p)↔(aAA l p∨inB a o p)
 | 0,l,ho,hl,hb,hd=>by
  obtain rfl:order=0:=by omega
  exact⟨hl,hb,hd,λp=>Iff.rfl⟩
 | o+1,l,ho,hl,hb,hd=>by
  unfold bZ;by_cases j:order<=o
  ·rw[if_pos j];obtain⟨q,m,u⟩:=IB he hb;have y:=dZ o;have c:2^(o+1)=2^o+2^o:=by rw[Nat.pow_succ];omega
   have d:uM f e (bI l ⟨a+2^o,o,t⟩):=hl.put m ht (λx b=>by
    have:=hd x b;unfold apartB Bk.fin at*;rw[c]at this;simp only;omega) (λ_ x b g=>by
    simp only at g ⊢;rw[u];have:=hd x b;have k:=dZ x.o;unfold apartB Bk.fin at this;omega)
   have i:∀x∈bI l ⟨a+2^o,o,t⟩,apartB a o x:=λx b=>by
    unfold bI at b;rw[gZ,gY]at b;rcases b with b | rfl | b
    ·have:=hd x (List.mem_of_mem_take b);unfold apartB at*;omega
    ·unfold apartB;simp only;omega
    ·have:=hd x (List.mem_of_mem_drop b);unfold apartB at*;omega
   obtain⟨s,n,w,r⟩:=split_ok he ht o _ j d q i;refine⟨s,n,w,λp=>(r p).trans ?_⟩;rw[Nk];simp only;unfold inB;rw[c];constructor
   ·rintro((h | h) | h)
    ·exact .inl h
    ·exact .inr (by omega)
    ·exact .inr (by omega)
   ·rintro(h | h)
    ·exact .inl (.inl h)
    ·by_cases v:p<a+2^o
     ·exact .inr (by omega)
     ·exact .inl (.inr (by omega))
  ·rw[if_neg j];obtain rfl:order=o+1:=by omega
   exact⟨hl,hb,hd,λp=>Iff.rfl⟩
structure Taken (z:Zn)(order:Nat)(z':Zn)(at_:Nat):Prop where
 ok:z'.ok
 f:z'.f=z.f
 e:z'.e=z.e
 fit:cZ z.f z.e at_ order
 apart:∀x∈z'.l,apartB at_ order x
 Xw:∀p,(aAA z'.l p∨inB at_ order p)↔aAA z.l p
 inside:∃b∈z.l,b.a=at_/\order<=b.o
theorem Zn.Xy {z:Zn}(h:z.ok){b:Bk}(hb:z.l[i]? =aK b)(ho:order<=b.o):∃z' at_,z.cut i order=aK (z',at_)/\Taken z order z' at_:=by
 obtain⟨r,g⟩:=gK.1 hb;have k:b∈z.l:=by rw[<- g];exact gL r
 have c:=h.2.fit b k;have d:∀y,y∈z.l.eraseIdx i->y∈z.l/\(y.fin<=b.a∨b.fin<=y.a):=λy f=>by
  obtain⟨j,n,q,rfl⟩:=List.mem_eraseIdx_iff_getElem.1 f;refine⟨gL n,?_⟩;rw[<- g];exact zW h.2.sep n r q
 obtain⟨v,u,w,s⟩:=split_ok (t:=b.t) h.1.e16 c.2 b.o (z.l.eraseIdx i) ho (h.2.sublist (List.eraseIdx_sublist _ _)) c.1 (λy f=>(d y f).2);refine⟨{z with l:=bZ (z.l.eraseIdx i) b.a b.t order b.o},b.a,by unfold Zn.cut;rw[hb],⟨h.1,v⟩,rfl,rfl,u,w,λp=>(s p).trans ?_,b,k,rfl,ho⟩;constructor
 ·rintro(⟨y,f,e⟩ | e)
  ·exact⟨y,(d y f).1,e⟩
  ·exact⟨b,k,e⟩
 ·rintro⟨y,f,e⟩;obtain⟨j,n,rfl⟩:=List.getElem_of_mem f;by_cases m:j=i
  ·subst m;rw[g]at e;exact .inr e
  ·exact .inl ⟨_,List.mem_eraseIdx_iff_getElem.2 ⟨j,n,m,rfl⟩,e⟩
theorem Zn.IE {z:Zn}(h:z.ok)(ho:order<=4)(ht:t<3)(hb:∃b∈z.l,order<=b.o):∃z' at_,z.take order t=aK (z',at_)/\Taken z order z' at_:=by
 unfold Zn.take;cases hu:lG z.l t (5-order) order with
 | some i=>
  obtain⟨b,g,j,_⟩:=qN hu;exact z.Xy h g j
 | none=>
  simp only;cases hd:dW z.l t order 5 with
  | some i=>
   obtain⟨b,g,j⟩:=nZ hd;simp only[g];obtain⟨B,w,v,q,G⟩:=Zn.pV h (b:=b) ht;obtain⟨y,s,n,E⟩:=G i b g;obtain⟨z',at_,k,d⟩:=Zn.Xy B s (order:=order) (by omega);refine⟨z',at_,k,d.ok,d.f.trans v,d.e.trans q,by have:=d.fit;rwa [v,q]at this,d.apart,λp=>(d.Xw p).trans (w p),?_⟩;obtain⟨c,x,A,F⟩:=d.inside;have hcut:at_=y.a:=by
    unfold Zn.cut at k;rw[s]at k;simp only[Option.some.injEq,Prod.mk.injEq]at k;exact k.2.symm
   obtain⟨C,m⟩:=gK.1 g;exact⟨b,by rw[<- m];exact gL C,by rw[hcut,n],j⟩
  | none=>
   exfalso;obtain⟨b,hb,r⟩:=hb;have g:=Dj hu b hb;have j:=yP hd b hb;have u:=h.2.fit b hb;have H:=u.1.1;by_cases D:b.t=t
   ·exact g ⟨r,by omega,D⟩
   ·refine j ⟨r,by omega,?_⟩;unfold oth1 oth2;have I:=u.2;obtain rfl | rfl | rfl:t=0∨t=1∨t=2:=by omega
    all_goals simp only[Nat.reduceEqDiff,if_true,if_false]
    all_goals omega
theorem Zn.IG {z:Zn}(h:¬∃b∈z.l,order<=b.o):z.take order t=aJ:=by
 unfold Zn.take;cases hu:lG z.l t (5-order) order with
 | some i=>
  obtain⟨b,d,c,_⟩:=qN hu;obtain⟨e,a⟩:=gK.1 d;exact absurd ⟨b,by rw[<- a];exact gL e,c⟩ h
 | none=>
  simp only;cases hd:dW z.l t order 5 with
  | some i=>
   obtain⟨b,d,c⟩:=nZ hd;obtain⟨e,a⟩:=gK.1 d;exact absurd ⟨b,by rw[<- a];exact gL e,c⟩ h
  | none=>rfl
theorem dH {a:Nat}{x:Bk}(h:∀p,inB a o p->¬inB x.a x.o p):apartB a o x:=by
 have c:=dZ o;have d:=dZ x.o;unfold apartB Bk.fin;have b:=h (max a x.a);unfold inB at b;omega
theorem kD {a:Nat}{x:Bk}(h:apartB a o x)(p:Nat)(hp:inB a o p):¬inB x.a x.o p:=by
 unfold apartB Bk.fin at h;unfold inB at*;omega
structure UL (lo hi:Nat)(z:Zn)(away:List Bk):Prop where
 ok:z.ok
 fits:∀b∈away,cZ z.f z.e b.a b.o
 apart:∀b∈away,∀x∈z.l,apartB b.a b.o x
 each:away.Pairwise λb c=>apartB b.a b.o c
 Xw:∀p,(aAA z.l p∨aAA away p)↔(lo<=p/\p<hi)
theorem UL.take {lo hi:Nat}{z:Zn}{away:List Bk}(h:UL lo hi z away){z':Zn}(ht:Taken z order z' at_)(t:Nat):UL lo hi z' (away++[⟨at_,order,t⟩]):=by
 obtain⟨c,u,w,y⟩:=ht.inside;have i:∀p,inB at_ order p->aAA z.l p:=λp d=>(ht.Xw p).1 (.inr d)
 have q:∀p,aAA z'.l p->aAA z.l p:=λp d=>(ht.Xw p).1 (.inl d)
 have v:∀b∈away,∀p,inB b.a b.o p->¬aAA z.l p:=λb hb p d ⟨x,k,g⟩=>kD (h.apart b hb x k) p d g
 have s:z'.f=z.f:=ht.f;have r:z'.e=z.e:=ht.e;refine⟨ht.ok,λb hb=> ?_,λb hb x k=> ?_,?_,λp=> ?_⟩
 ·rw[s,r];rw[gZ,gTa]at hb;rcases hb with hb | rfl
  ·exact h.fits b hb
  ·exact ht.fit
 ·rw[gZ,gTa]at hb;rcases hb with hb | rfl
  ·exact dH λp d g=>v b hb p d (q p ⟨x,k,g⟩)
  ·exact ht.apart x k
 ·rw[List.pairwise_append];refine⟨h.each,by simp,λb hb c u=> ?_⟩;rw[gTa]at u;subst u;exact dH λp d m=>v b hb p d (i p m)
 ·have j:=h.Xw p;have n:=ht.Xw p;have A:aAA (away++[⟨at_,order,t⟩]) p↔(aAA away p∨inB at_ order p):=by
   unfold aAA;constructor
   ·rintro⟨b,hb,d⟩;rw[gZ,gTa]at hb;rcases hb with hb | rfl
    ·exact .inl ⟨b,hb,d⟩
    ·exact .inr d
   ·rintro(⟨b,hb,d⟩ | d)
    ·exact⟨b,by simp[hb],d⟩
    ·exact⟨⟨at_,order,t⟩,by simp,d⟩
  rw[A];constructor
  ·rintro(h | h | h)
   ·exact j.1 (.inl (n.1 (.inl h)))
   ·exact j.1 (.inr h)
   ·exact j.1 (.inl (n.1 (.inr h)))
  ·intro h;rcases j.2 h with h | h
   ·rcases n.2 h with h | h
    ·exact .inl h
    ·exact .inr (.inr h)
   ·exact .inr (.inl h)
def eX (z:Zn)(p:Nat):Nat->Zn
 | 0=>z
 | n+1=>(eX z p n).back (p+n) 0
theorem uM.length_le {e:Nat}:∀{l:List Bk},uM f e l->(∀b∈l,b.a<e)->l.length<=e
 | l,h,hb=>by
  have hr:=h.rise;have:∀(l:List Bk) (n:Nat),uN l->(∀b∈l,n<=b.a/\b.a<e)->n<=e->l.length+n<=e:=by
   intro l
   induction l with
   | nil=>intro n _ _ g;simp;exact g
   | cons x l ih=>
    intro n hr hb g;have i:=hb x (by simp);have c:=List.pairwise_cons.1 hr;have:=ih (x.a+1) c.2 (λy d=>⟨c.1 y d,(hb y (by simp[d])).2⟩) (by omega);simp only[List.length_cons];omega
  have:=this l 0 hr (λb h=>⟨by omega,hb b h⟩) (by omega);omega
def yJ (b:Bk):Nat×Nat:=(b.a,b.o)
def hit (b:Bk)(p:Nat):Nat:=if b.a<=p/\p<b.fin then 1 else 0
def cnt:List Bk->Nat->Nat
 | [],_=>0
 | b::l,p=>hit b p+cnt l p
theorem bT (l m:List Bk)(p:Nat):cnt (l++m) p=cnt l p+cnt m p:=by
 induction l with
 | nil=>simp[cnt]
 | cons b l ih=>rw[List.cons_append,cnt,cnt,ih];omega
theorem jT {b:Bk}:hit b p=1↔inB b.a b.o p:=by
 unfold hit inB Bk.fin;split <;> simp_all
theorem JO (b:Bk)(p:Nat):hit b p<=1:=by unfold hit;split <;> omega
theorem jC {l:List Bk}{p:Nat}:0<cnt l p↔aAA l p:=by
 induction l with
 | nil=>simp[cnt,aAA]
 | cons b l ih=>
  rw[cnt];constructor
  ·intro h;by_cases hb:hit b p=1
   ·exact⟨b,by simp,jT.1 hb⟩
   ·have e:=JO b p;obtain⟨c,a,d⟩:=ih.1 (by omega);exact⟨c,by simp[a],d⟩
  ·rintro⟨c,a,d⟩;rw[gY]at a;rcases a with rfl | a
   ·have:=jT.2 d;omega
   ·have:=ih.2 ⟨c,a,d⟩;omega
theorem nN {l:List Bk}(hd:l.Pairwise λb c=>apartB b.a b.o c)(p:Nat):cnt l p<=1:=by
 induction l with
 | nil=>simp[cnt]
 | cons b l ih=>
  obtain⟨f,e⟩:=List.pairwise_cons.1 hd;rw[cnt];have j:=JO b p;have i:=ih e;by_cases hb:hit b p=1
  ·have k:¬0<cnt l p:=λh=>by
    obtain⟨c,g,d⟩:=jC.1 h;exact kD (f c g) p (jT.1 hb) d
   omega
  ·omega
theorem nO {l:List Bk}(h:l.Pairwise λx y=>x.fin<=y.a):l.Pairwise λb c=>apartB b.a b.o c:=h.imp fun{x y} h=>by unfold apartB Bk.fin at*;omega
theorem Xz {z z':Zn}(hz:z.ok)(ht:Taken z order z' at_)(t:Nat)(p:Nat):cnt z'.l p+hit ⟨at_,order,t⟩ p=cnt z.l p:=by
 have q:=nN (nO hz.2.sep) p;have n:=nN (nO ht.ok.2.sep) p;have f:=ht.Xw p;have o:=JO ⟨at_,order,t⟩ p;have i:hit ⟨at_,order,t⟩ p=1↔inB at_ order p:=jT;have g:=@jC z.l p;have d:=@jC z'.l p;by_cases b:inB at_ order p
 ·have k:=i.2 b;have j:¬0<cnt z'.l p:=λh=>by
   obtain⟨c,a,e⟩:=d.1 h;exact kD (ht.apart c a) p b e
  have m:=g.2 (f.1 (.inr b));omega
 ·have k:hit ⟨at_,order,t⟩ p=0:=by
   have:¬hit ⟨at_,order,t⟩ p=1:=λh=>b (i.1 h)
   omega
  by_cases a:aAA z.l p
  ·have j:=g.2 a;rcases f.2 a with h | h
   ·have:=d.2 h;omega
   ·exact absurd h b
  ·have j:¬0<cnt z.l p:=λh=>a (g.1 h)
   have m:¬0<cnt z'.l p:=λh=>a (f.1 (.inl (d.1 h)))
   omega
theorem XA {z:Zn}(hz:z.ok){a:Nat}(hb:cZ z.f z.e a o)(hd:∀x∈z.l,apartB a o x)(t p:Nat):cnt (z.back a o).l p=cnt z.l p+hit ⟨a,o,t⟩ p:=by
 obtain⟨u,r⟩:=Zn.uO hz hb hd;have y:=nN (nO hz.2.sep) p;have v:=nN (nO u.2.sep) p;have j:=r p;have w:=JO ⟨a,o,t⟩ p;have n:hit ⟨a,o,t⟩ p=1↔inB a o p:=jT;have k:=@jC z.l p;have g:=@jC (z.back a o).l p;by_cases d:inB a o p
 ·have s:=n.2 d;have q:¬0<cnt z.l p:=λh=>by
   obtain⟨c,b,i⟩:=k.1 h;exact kD (hd c b) p d i
  have m:=g.2 (j.2 (.inr d));omega
 ·have s:hit ⟨a,o,t⟩ p=0:=by
   have:¬hit ⟨a,o,t⟩ p=1:=λh=>d (n.1 h)
   omega
  by_cases b:aAA z.l p
  ·have q:=k.2 b;have m:=g.2 (j.2 (.inl b));omega
  ·have q:¬0<cnt z.l p:=λh=>b (k.1 h)
   have m:¬0<cnt (z.back a o).l p:=λh=>by
    rcases j.1 (g.1 h)with h' | h'
    ·exact b h'
    ·exact d h'
   omega
def sumTo (f:Nat->Nat):Nat->Nat
 | 0=>0
 | n+1=>sumTo f n+f n
theorem II (f g:Nat->Nat):∀n,sumTo (λp=>f p+g p) n=sumTo f n+sumTo g n
 | 0=>rfl
 | n+1=>by rw[sumTo,sumTo,sumTo,II f g n];omega
theorem IJ (b:Bk):∀n,sumTo (hit b) n=min n b.fin-min n b.a
 | 0=>by simp[sumTo]
 | n+1=>by
  rw[sumTo,IJ b n];unfold hit;have h1:b.a<b.fin:=by unfold Bk.fin;have:=dZ b.o;omega
  split <;> omega
def szB:List Bk->Nat
 | []=>0
 | b::l=>2^b.o+szB l
theorem UM {l:List Bk}{N:Nat}(h:∀b∈l,b.fin<=N):sumTo (cnt l) N=szB l:=by
 induction l with
 | nil=>
  have:∀n,sumTo (cnt []) n=0:=λn=>by
   induction n with
   | zero=>rfl
   | succ n ih=>rw[sumTo,ih];rfl
  rw[this];rfl
 | cons b l ih=>
  have d:cnt (b::l)=λp=>hit b p+cnt l p:=rfl
  rw[d,II,IJ,ih (λc e=>h c (by simp[e])),szB];have a:=h b (by simp);unfold Bk.fin at*;generalize 2^b.o=q at*;rw[Nat.min_eq_right a,Nat.min_eq_right (by omega)];omega
structure Ls where
 c:Nat
 z:Nat
 t:Nat
 p:List Nat
deriving DecidableEq
def Ls.key (l:Ls):Nat:=(l.c*2+l.z)*3+l.t
def lI (l:List Nat):List Bk:=l.map λp=>⟨p,0,0⟩
def lsB:List Ls->List Bk
 | []=>[]
 | l::r=>lI l.p++lsB r
structure Hp where
 z0:Zn
 z1:Zn
 m0:Nat
 m1:Nat
 aAh:Nat
 ls:List Ls
 live:List Bk
deriving DecidableEq
def Hp.all (h:Hp):List Bk:=h.z0.l++(h.z1.l++(lsB h.ls++h.live))
def aIF (aAh split:Nat)(l:Ls):Prop:=l.c<aAh/\l.z<2/\l.t<3/\0<l.p.length/\l.p.length<=8/\∀p∈l.p,p<256/\(p<split↔l.z=0)
structure eY (h:Hp):Prop where
 o0:h.z0.ok
 o1:h.z1.ok
 f0:h.z0.f=0
 e0:h.z0.e=h.z1.f
 e1:h.z1.e=256
 m0:h.m0<=256
 m1:h.m1<=256
 cp:1<=h.aAh/\h.aAh<=4
 lk:h.ls.Pairwise λa b=>a.key<b.key
 lr:∀l∈h.ls,aIF h.aAh h.z0.e l
 lv:∀b∈h.live,cZ 0 256 b.a b.o/\b.t<3
 vs:h.live.Pairwise λx y=>x.a<y.a
 one:∀p,cnt h.all p<=1
def Hp.zone (h:Hp)(i:Nat):Zn:=if i=0 then h.z0 else h.z1
def Hp.jQ (h:Hp)(i:Nat)(z:Zn):Hp:=if i=0 then{h with z0:=z}else{h with z1:=z}
def Hp.jH (h:Hp)(p:Nat):Nat:=if p<h.z0.e then 0 else 1
def Hp.min (h:Hp)(i:Nat):Nat:=if i=0 then h.m0 else h.m1
def Hp.jI (h:Hp)(a o:Nat):Hp:=h.jQ (h.jH a) ((h.zone (h.jH a)).back a o)
def Hp.held (h:Hp)(i:Nat)(urgent low:Bool):Nat:=(if urgent then h.min i/2 else h.min i)+(if i=0/\low=false then(h.z1.e-h.z1.f)/32 else 0)
def Hp.mF (h:Hp)(i order t hd:Nat):Option (Hp×Nat):=if szB (h.zone i).l<hd+2^order then aJ else match (h.zone i).take order t with
 | some (z',a)=>aK (h.jQ i z',a)
 | none=>aJ
def jU (ls:List Ls)(k:Nat):Nat:=(ls.takeWhile λl=>decide (l.key<k)).length
def sG (ls:List Ls)(k:Nat):Bool:=match ls[jU ls k]? with
 | some l=>decide (l.key=k)
 | none=>false
def bK (ls:List Ls)(l:Ls)(p:Nat):List Ls:=match ls[jU ls l.key]? with
 | some x=>if x.key=l.key then ls.set (jU ls l.key) {x with p:=x.p++[p]}else ls.take (jU ls l.key)++{l with p:=[p]}::ls.drop (jU ls l.key)
 | none=>ls.take (jU ls l.key)++{l with p:=[p]}::ls.drop (jU ls l.key)
def Hp.fill (h:Hp)(l:Ls)(hd:Nat):Nat->Hp
 | 0=>h
 | n+1=>match h.mF l.z 0 l.t hd with
  | some (h',q)=>Hp.fill {h' with ls:=bK h'.ls l q} l hd n
  | none=>h
def Hp.single (h:Hp)(l:Ls)(hd:Nat):Option (Hp×Nat):=match h.ls[jU h.ls l.key]? with
 | some x=>if x.key=l.key then aK ({h with ls:=if x.p.length=1 then h.ls.eraseIdx (jU h.ls l.key)else h.ls.set (jU h.ls l.key) {x with p:=x.p.dropLast}},x.p.getLastD 0)else(h.mF l.z 0 l.t hd).map λr=>(r.1.fill l hd 3,r.2)
 | none=>(h.mF l.z 0 l.t hd).map λr=>(r.1.fill l hd 3,r.2)
def Hp.ask (h:Hp)(cpu i order t:Nat)(urgent low:Bool):Option (Hp×Nat):=if order=0 then h.single ⟨cpu,i,t,[]⟩ (h.held i urgent low)else h.mF i order t (h.held i urgent low)
def Hp.attempt (h:Hp)(cpu order t:Nat)(urgent low:Bool):Option (Hp×Nat):=
 if low then h.ask cpu 0 order t urgent low else match h.ask cpu 1 order t urgent low with
  | some r=>aK r
  | none=>h.ask cpu 0 order t urgent low
def aW (h:Hp):List Nat->Hp
 | []=>h
 | p::l=>aW (h.jI p 0) l
def bW (h:Hp):List Ls->Hp
 | []=>h
 | l::r=>bW (aW h l.p) r
def Hp.drain (h:Hp):Hp:={bW h h.ls with ls:=[]}
def Hp.alloc (h:Hp)(cpu order t:Nat)(urgent low:Bool):Option (Hp×Nat):=
 match (match h.attempt cpu order t urgent low with
  | some r=>aK r
  | none=>h.drain.attempt cpu order t urgent low)with
 | some (h',a)=>aK ({h' with live:=bI h'.live ⟨a,order,t⟩},a)
 | none=>aJ
def Hp.give (h:Hp)(cpu p:Nat):Hp:=
 let l:Ls:=⟨cpu,h.jH p,(h.zone (h.jH p)).y.getD ((p-(h.zone (h.jH p)).f)/8) 0,[]⟩
 let h1:={h with ls:=bK h.ls l p}
 match h1.ls[jU h1.ls l.key]? with
 | some x=>if 8<x.p.length then{aW h1 (x.p.take 4)with ls:=h1.ls.set (jU h1.ls l.key) {x with p:=x.p.drop 4}}else h1
 | none=>h1
def Hp.iD (h:Hp)(cpu i:Nat)(b:Bk):Hp:=
 let h1:={h with live:=h.live.eraseIdx i}
 if 0<b.o then h1.jI b.a b.o else h1.give cpu b.a
theorem dJ (h:Hp)(p:Nat):cnt h.all p=cnt h.z0.l p+cnt h.z1.l p+cnt (lsB h.ls) p+cnt h.live p:=by
 unfold Hp.all;rw[bT,bT,bT];omega
theorem EK (h:Hp)(i p:Nat):cnt (h.zone i).l p<=cnt h.all p:=by
 rw[dJ];unfold Hp.zone;split <;> omega
theorem Np (h:Hp)(i:Nat)(z:Zn)(p:Nat):cnt (h.jQ i z).all p+cnt (h.zone i).l p=cnt h.all p+cnt z.l p:=by
 rw[dJ,dJ];unfold Hp.jQ Hp.zone;split <;> simp only <;> omega
theorem eY.zone {h:Hp}(hk:eY h)(i:Nat):(h.zone i).ok:=by
 unfold Hp.zone;split
 ·exact hk.o0
 ·exact hk.o1
theorem eY.jQ {h:Hp}(hk:eY h)(i:Nat){z:Zn}(hz:z.ok)(hf:z.f=(h.zone i).f)(he:z.e=(h.zone i).e)(h1:∀p,cnt (h.jQ i z).all p<=1):eY (h.jQ i z):=by
 by_cases b:i=0
 ·subst b;have e:h.jQ 0 z={h with z0:=z}:=if_pos rfl;have a:h.zone 0=h.z0:=if_pos rfl;rw[a]at hf he;rw[e]at h1 ⊢;exact⟨hz,hk.o1,hf.trans hk.f0,he.trans hk.e0,hk.e1,hk.m0,hk.m1,hk.cp,hk.lk,λl c=>by simp only;rw[he];exact hk.lr l c,hk.lv,hk.vs,h1⟩
 ·have e:h.jQ i z={h with z1:=z}:=if_neg b;have a:h.zone i=h.z1:=if_neg b;rw[a]at hf he;rw[e]at h1 ⊢;exact⟨hk.o0,hz,hk.f0,hk.e0.trans hf.symm,he.trans hk.e1,hk.m0,hk.m1,hk.cp,hk.lk,hk.lr,hk.lv,hk.vs,h1⟩
structure Same (h g:Hp):Prop where
 m0:g.m0=h.m0
 m1:g.m1=h.m1
 aAh:g.aAh=h.aAh
 split:g.z0.e=h.z0.e
theorem Same.refl (h:Hp):Same h h:=⟨rfl,rfl,rfl,rfl⟩
theorem Same.trans {a b c:Hp}(h1:Same a b)(h2:Same b c):Same a c:=⟨h2.m0.trans h1.m0,h2.m1.trans h1.m1,h2.aAh.trans h1.aAh,h2.split.trans h1.split⟩
theorem IK {h:Hp}{z:Zn}(he:z.e=(h.zone i).e):Same h (h.jQ i z)/\(h.jQ i z).ls=h.ls/\(h.jQ i z).live=h.live:=by
 unfold Hp.jQ;unfold Hp.zone at he;split
 ·rename_i hi;rw[if_pos hi]at he;exact⟨⟨rfl,rfl,rfl,he⟩,rfl,rfl⟩
 ·exact⟨⟨rfl,rfl,rfl,rfl⟩,rfl,rfl⟩
theorem eY.fits {h:Hp}(hk:eY h){a:Nat}(hb:cZ 0 256 a o):cZ (h.zone (h.jH a)).f (h.zone (h.jH a)).e a o:=by
 obtain⟨d,i,g,c⟩:=hb;unfold Hp.jH;by_cases b:a<h.z0.e
 ·rw[if_pos b];have e:h.zone 0=h.z0:=if_pos rfl;rw[e,hk.f0];exact⟨d,by omega,b,c⟩
 ·rw[if_neg b];have e:h.zone 1=h.z1:=if_neg (by omega);rw[e,hk.e1,<- hk.e0];exact⟨d,by omega,g,c⟩
theorem eY.jI {h:Hp}(hk:eY h){a:Nat}(hb:cZ 0 256 a o)(hd:∀p,cnt h.all p+hit ⟨a,o,0⟩ p<=1):
 eY (h.jI a o)/\(∀p,cnt (h.jI a o).all p=cnt h.all p+hit ⟨a,o,0⟩ p)/\Same h (h.jI a o)/\(h.jI a o).ls=h.ls/\(h.jI a o).live=h.live:=by
 have f:=hk.zone (h.jH a);have b:=hk.fits hb;have c:∀x∈(h.zone (h.jH a)).l,apartB a o x:=λx n=>dH λp m k=>by
  have j:=hd p;have g:=EK h (h.jH a) p;have r:=jC.2 (show aAA (h.zone (h.jH a)).l p from⟨x,n,k⟩);have q:hit ⟨a,o,0⟩ p=1:=jT.2 m;omega
 have e:∀p,cnt (h.jI a o).all p=cnt h.all p+hit ⟨a,o,0⟩ p:=λp=>by
  have j:=Np h (h.jH a) ((h.zone (h.jH a)).back a o) p;have g:=XA f b c 0 p;unfold Hp.jI;omega
 have d:=IK (h:=h) (i:=h.jH a) (z:=(h.zone (h.jH a)).back a o) rfl;exact⟨hk.jQ _ (Zn.uO f b c).1 rfl rfl (λp=>by have:=e p;unfold Hp.jI at this;rw[this];exact hd p),e,d.1,d.2.1,d.2.2⟩
theorem XB {z:Zn}(hz:z.ok):szB z.l<=256:=by
 have c:∀b∈z.l,b.fin<=256:=λb hb=>by
  have a:=(hz.2.fit b hb).1;have f:=wE hz.1.e16 a;have e:=hz.1.e2;unfold Bk.fin;omega
 rw[<- UM c];have d:∀n,sumTo (cnt z.l) n<=n:=λn=>by
  induction n with
  | zero=>exact gT _
  | succ n ih=>
   have:=nN (nO hz.2.sep) n;rw[sumTo];omega
 exact d 256
structure UN (h:Hp)(order:Nat)(h':Hp)(a:Nat):Prop where
 ok:eY h'
 fit:cZ 0 256 a order
 c:∀t p,cnt h'.all p+hit ⟨a,order,t⟩ p=cnt h.all p
 same:Same h h'
 live:h'.live=h.live
theorem eY.mF {h h':Hp}(hk:eY h){hd a:Nat}(ho:order<=4)(ht:t<3)(hi:i<2)(he:h.mF i order t hd=aK (h',a)):
 UN h order h' a/\h'.ls=h.ls/\(a<h.z0.e↔i=0):=by
 unfold Hp.mF at he;split at he
 ·cases he
 ·cases hz:(h.zone i).take order t with
  | none=>rw[hz]at he;cases he
  | some r=>
   obtain⟨n,q⟩:=r;rw[hz]at he;simp only[Option.some.injEq,Prod.mk.injEq]at he;obtain⟨rfl,rfl⟩:=he;have x:=hk.zone i;have w:∃b∈(h.zone i).l,order<=b.o:=Classical.byContradiction λB=>by
    rw[Zn.IG B]at hz;cases hz
   obtain⟨C,D,s,g⟩:=Zn.IE x ho ht w;rw[hz]at s;simp only[Option.some.injEq,Prod.mk.injEq]at s;obtain⟨rfl,rfl⟩:=s;have y:∀t p,cnt (h.jQ i n).all p+hit ⟨q,order,t⟩ p=cnt h.all p:=λt p=>by
    have u:=Np h i n p;have k:=Xz x g t p;omega
   have v:=IK (h:=h) (i:=i) (z:=n) g.e;have j:=g.fit;have c:cZ 0 256 q order/\(q<h.z0.e↔i=0):=by
    obtain⟨u,k,m,A⟩:=j;unfold Hp.zone at k m;by_cases d:i=0
    ·rw[if_pos d]at k m;have:=hk.o0.1.e2;exact⟨⟨u,by omega,by omega,A⟩,λ_=>d,λ_=>m⟩
    ·rw[if_neg d]at k m;have:=hk.e1;have:=hk.e0;exact⟨⟨u,by omega,by omega,A⟩,λh=>by omega,λh=>absurd h d⟩
   exact⟨⟨hk.jQ i g.ok g.f g.e (λp=>by have:=y 0 p;have:=hk.one p;omega),c.1,y,v.1,v.2.2⟩,v.2.1,c.2⟩
theorem QA (l m:List Ls):lsB (l++m)=lsB l++lsB m:=by
 induction l with
 | nil=>rfl
 | cons x l ih=>rw[List.cons_append,lsB,lsB,ih,List.append_assoc]
theorem jJ (l m:List Nat)(q:Nat):cnt (lI (l++m)) q=cnt (lI l) q+cnt (lI m) q:=by
 unfold lI;rw[List.map_append,bT]
theorem Dl (p q:Nat):cnt (lI [p]) q=hit ⟨p,0,0⟩ q:=rfl
theorem kH (l m:List Ls)(q:Nat):cnt (lsB (l++m)) q=cnt (lsB l) q+cnt (lsB m) q:=by rw[QA,bT]
theorem iO (x:Ls)(l:List Ls)(q:Nat):cnt (lsB (x::l)) q=cnt (lI x.p) q+cnt (lsB l) q:=by rw[lsB,bT]
theorem EL {l:List Ls}(hi:i<l.length):l=l.take i++l[i]::l.drop (i+1):=by
 rw[<- List.drop_eq_getElem_cons hi,List.take_append_drop]
theorem wG {l:List Ls}(hi:i<l.length)(x:Ls)(q:Nat):cnt (lsB (l.set i x)) q+cnt (lI l[i].p) q=cnt (lsB l) q+cnt (lI x.p) q:=by
 have a:l.set i x=l.take i++x::l.drop (i+1):=by rw[List.set_eq_take_append_cons_drop,if_pos hi]
 conv=>rhs;rw[EL hi]
 rw[a,kH,kH,iO,iO];omega
theorem yQ {l:List Ls}(hi:i<l.length)(q:Nat):cnt (lsB (l.eraseIdx i)) q+cnt (lI l[i].p) q=cnt (lsB l) q:=by
 conv=>rhs;rw[EL hi]
 rw[List.eraseIdx_eq_take_drop_succ,kH,kH,iO];omega
theorem Dp (l:List Ls)(i:Nat)(x:Ls)(q:Nat):cnt (lsB (l.take i++x::l.drop i)) q=cnt (lsB l) q+cnt (lI x.p) q:=by
 conv=>rhs;rw[<- List.take_append_drop i l]
 rw[kH,kH,iO];omega
theorem cnt_push (ls:List Ls)(l:Ls)(p q:Nat):cnt (lsB (bK ls l p)) q=cnt (lsB ls) q+hit ⟨p,0,0⟩ q:=by
 unfold bK;split
 ·rename_i x hx;obtain⟨b,a⟩:=gK.1 hx;split
  ·have h:=wG b {x with p:=x.p++[p]} q;rw[a]at h;simp only[jJ,Dl]at h;omega
  ·rw[Dp];rfl
 ·rw[Dp];rfl
def lJ (ls:List Ls):Prop:=ls.Pairwise λa b=>a.key<b.key
theorem XC (ls:List Ls)(k:Nat):jU ls k<=ls.length:=by
 unfold jU;exact(List.takeWhile_prefix _).length_le
theorem BJ {ls:List Ls}:∀x∈ls.take (jU ls k),x.key<k:=by
 intro x a;unfold jU at a;rw[En]at a;exact of_decide_eq_true (Qw (p:=λl:Ls=>decide (l.key<k)) a)
theorem xW {ls:List Ls}(h:lJ ls):∀x∈ls.drop (jU ls k),k<=x.key:=by
 intro x a;unfold jU at a;rw[drop_tw]at a
 induction ls with
 | nil=>simp at a
 | cons y ls ih=>
  obtain⟨d,c⟩:=List.pairwise_cons.1 h;by_cases b:y.key<k
  ·rw[List.dropWhile_cons_of_pos (by simpa using b)]at a;exact ih c a
  ·rw[List.dropWhile_cons_of_neg (by simpa using b),gY]at a;rcases a with rfl | a
   ·omega
   ·have:=d x a;omega
theorem EM {ls:List Ls}(h:lJ ls)(hi:i<ls.length){x:Ls}(hx:x.key=ls[i].key):lJ (ls.set i x):=by
 unfold lJ at*;rw[gN]at*;intro a b f hb d;rw[List.length_set]at f hb;rw[List.getElem_set,List.getElem_set];have c:=h a b f hb d;by_cases e:i=a
 ·subst e;rw[if_pos rfl,if_neg (by omega),hx];exact c
 ·rw[if_neg e];by_cases g:i=b
  ·subst g;rw[if_pos rfl,hx];exact c
  ·rw[if_neg g];exact c
theorem Nq {ls:List Ls}(h:lJ ls){x:Ls}(hn:∀y∈ls,y.key≠x.key):lJ (ls.take (jU ls x.key)++x::ls.drop (jU ls x.key)):=by
 unfold lJ;rw[List.pairwise_append];refine⟨h.sublist (List.take_sublist _ _),List.pairwise_cons.2 ⟨λy c=> ?_,h.sublist (List.drop_sublist _ _)⟩,λa e b hb=> ?_⟩
 ·have d:=xW h y c;have f:=hn y (List.mem_of_mem_drop c);omega
 ·have d:=BJ a e;rw[gY]at hb;rcases hb with rfl | hb
  ·exact d
  ·have f:=xW h b hb;omega
theorem Tn {ls:List Ls}(h:lJ ls){x:Ls}(hx:x∈ls):ls[jU ls x.key]? =aK x:=by
 have c:x∈ls.drop (jU ls x.key):=by
  have:=hx;rw[<- List.take_append_drop (jU ls x.key) ls,gZ]at this;rcases this with d | d
  ·have:=BJ x d;omega
  ·exact d
 cases hd:ls.drop (jU ls x.key)with
 | nil=>rw[hd]at c;simp at c
 | cons y r=>
  have e:ls[jU ls x.key]? =aK y:=by
   have:=congrArg (·[0]?) hd;simpa[List.getElem?_drop]using this
  rw[hd,gY]at c;rcases c with rfl | c
  ·exact e
  ·have d:(ls.drop (jU ls x.key)).Pairwise λa b=>a.key<b.key:=h.sublist (List.drop_sublist _ _)
   rw[hd]at d;have f:=(List.pairwise_cons.1 d).1 x c;have g:=xW h (k:=x.key) y (by rw[hd];simp);omega
theorem pX {ls:List Ls}(h:lJ ls)(hm:∀y,ls[jU ls k]? =aK y->y.key≠k):∀y∈ls,y.key≠k:=by
 intro y a e;subst e;exact hm y (Tn h a) rfl
theorem key_inj {a b:Ls}(ha:a.z<2/\a.t<3)(hb:b.z<2/\b.t<3)(h:a.key=b.key):a.c=b.c/\a.z=b.z/\a.t=b.t:=by
 unfold Ls.key at h;omega
def Tq (N aAh split:Nat)(l:Ls):Prop:=l.c<aAh/\l.z<2/\l.t<3/\0<l.p.length/\l.p.length<=N/\∀p∈l.p,p<256/\(p<split↔l.z=0)
theorem mG {ls:List Ls}(h:lJ ls)(l:Ls)(p:Nat):lJ (bK ls l p):=by
 unfold bK;split
 ·rename_i x hx;obtain⟨c,b⟩:=gK.1 hx;split
  ·exact EM h c (by rw[b];rfl)
  ·rename_i hne;exact Nq (x:={l with p:=[p]}) h (pX h λy a=>by
    change ls[jU ls l.key]? =aK y at a;rw[hx]at a;obtain rfl:=gP a;exact hne)
 ·rename_i hx;exact Nq (x:={l with p:=[p]}) h (pX h λy a=>by
   change ls[jU ls l.key]? =aK y at a;rw[hx]at a;cases a)
theorem JQ {ls:List Ls}{N M aAh split:Nat}(h:∀x∈ls,Tq N aAh split x){l:Ls}(hl:l.c<aAh/\l.z<2/\l.t<3)(hp:p<256/\(p<split↔l.z=0))(hNM:N<=M)(hM:1<=M)(hx:∀x∈ls,x.key=l.key->x.p.length+1<=M):∀x∈bK ls l p,Tq M aAh split x:=by
 have e:∀x∈ls,Tq M aAh split x:=λx hx=>by
  obtain⟨k,f,g,n,o,i⟩:=h x hx;exact⟨k,f,g,n,by omega,i⟩
 have new:Tq M aAh split {l with p:=[p]}:=⟨hl.1,hl.2.1,hl.2.2,by simp,by simpa using hM,λq b=>by
  obtain rfl:q=p:=by simpa using b
  exact hp⟩
 intro y a;unfold bK at a;split at a
 ·rename_i x hxe;obtain⟨r,j⟩:=gK.1 hxe;have d:x∈ls:=by rw[<- j];exact gL r
  split at a
  ·rename_i hk;rcases List.mem_or_eq_of_mem_set a with a | rfl
   ·exact e y a
   ·obtain⟨k,f,g,n,o,i⟩:=h x d;have m:=key_inj ⟨f,g⟩ ⟨hl.2.1,hl.2.2⟩ hk;refine⟨k,f,g,by simp,by have:=hx x d hk;simpa using this,λq b=> ?_⟩;simp only[gZ,gTa]at b;rcases b with b | rfl
    ·exact i q b
    ·exact⟨hp.1,by rw[m.2.1];exact hp.2⟩
  ·rw[gZ,gY]at a;rcases a with a | rfl | a
   ·exact e y (List.mem_of_mem_take a)
   ·exact new
   ·exact e y (List.mem_of_mem_drop a)
 ·rw[gZ,gY]at a;rcases a with a | rfl | a
  ·exact e y (List.mem_of_mem_take a)
  ·exact new
  ·exact e y (List.mem_of_mem_drop a)
theorem iY {base:Nat}(h:w.ownsRow base e size (aA a n c) n xs)(hi:i<=n):w.ownsRow base e size (aA a i c) i (xs.take (i*size)):=by
 have j:i*size<=n*size:=Nat.mul_le_mul_right _ hi;refine⟨by rw[gTc,h.1];omega,?_⟩;rcases h.2 with ⟨b,p⟩ | ⟨g,f,d,b,hb,m,q,o,l,k⟩
 ·obtain⟨rfl,rfl⟩:a=aJ/\c=0:=by simp at b;exact⟨b.1,b.2.2⟩
  obtain rfl:i=0:=by omega
  exact .inl ⟨rfl,rfl⟩
 ·obtain⟨rfl,rfl⟩:a=aK ⟨g,0,aJ⟩/\c=f:=by simpa using b
  exact .inr ⟨g,c,d,rfl,hb,m,by omega,o,l,by rw[<- k,List.take_take,Nat.min_eq_left j]⟩
theorem wH {base:Nat}(h:w.ownsRow base e size (aA a n c) n xs){m:Nat}(hm:n<=m)(hc:m<=c):∃ys:List Value,ys.length=(m-n)*size/\w.ownsRow base e size (aA a m c) m (xs++ys):=by
 rcases h.2 with ⟨d,k⟩ | ⟨g,i,b,d,hb,p,r,f,l,o⟩
 ·obtain⟨rfl,rfl⟩:a=aJ/\c=0:=by simp at d;exact⟨d.1,d.2.2⟩
  obtain rfl:m=0:=by omega
  obtain rfl:n=0:=by omega
  exact⟨[],by simp,by simpa using h⟩
 ·obtain⟨rfl,rfl⟩:a=aK ⟨g,0,aJ⟩/\c=i:=by simpa using d
  have q:m*size<=c*size:=Nat.mul_le_mul_right _ hc;have k:n*size<=m*size:=Nat.mul_le_mul_right _ hm;have j:(b.toList.take (m*size)).length=m*size:=by rw[gTc,Array.length_toList,l];omega
  refine⟨(b.toList.take (m*size)).drop (n*size),by rw[gTd,j,Nat.sub_mul],?_,.inr ⟨g,c,b,rfl,hb,p,hc,f,l,?_⟩⟩
  ·rw[gTb,h.1,gTd,j];omega
  ·rw[<- o];have:b.toList.take (n*size)=(b.toList.take (m*size)).take (n*size):=by rw[List.take_take,Nat.min_eq_left k]
   rw[this,List.take_append_drop]
section
variable {α:Type}
def flat (enc:α->List Value)(l:List α):List Value:=l.flatMap enc
theorem flat_length {enc:α->List Value}(hk:∀x,(enc x).length=k)(l:List α):(flat enc l).length=l.length*k:=by
 unfold flat
 induction l with
 | nil=>simp
 | cons x l ih=>rw[List.flatMap_cons,gTb,hk,ih,List.length_cons,Nat.succ_mul,Nat.add_comm]
theorem aS (enc:α->List Value)(l m:List α):flat enc (l++m)=flat enc l++flat enc m:=by simp[flat]
theorem dS (enc:α->List Value)(x:α)(l:List α):flat enc (x::l)=enc x++flat enc l:=by simp[flat]
theorem fJ (enc:α->List Value)(x:α):flat enc [x]=enc x:=by simp[flat]
theorem fC {enc:α->List Value}(hk:∀x,(enc x).length=k)(l:List α)(n:Nat):(flat enc l).take (n*k)=flat enc (l.take n):=by
 by_cases h:n<=l.length
 ·conv=>lhs;rw[<- List.take_append_drop n l,aS]
  rw[List.take_left' (by rw[flat_length hk,gTc,Nat.min_eq_left h])]
 ·rw[gTf (show l.length<=n by omega),gTf (by rw[flat_length hk];exact Nat.mul_le_mul_right _ (by omega))]
theorem fD {enc:α->List Value}(hk:∀x,(enc x).length=k)(l:List α)(n:Nat):(flat enc l).drop (n*k)=flat enc (l.drop n):=by
 by_cases h:n<=l.length
 ·conv=>lhs;rw[<- List.take_append_drop n l,aS]
  rw[List.drop_left' (by rw[flat_length hk,gTc,Nat.min_eq_left h])]
 ·rw[List.drop_eq_nil_of_le (show l.length<=n by omega),List.drop_eq_nil_of_le (by rw[flat_length hk];exact Nat.mul_le_mul_right _ (by omega))];rfl
theorem flat_get {enc:α->List Value}(hk:∀x,(enc x).length=k)(l:List α)(j:Nat)(hj:j<l.length)(i:Nat)(hi:i<k):(flat enc l)[j*k+i]? =(enc l[j])[i]? :=by
 rw[<- List.getElem?_drop,fD hk,List.drop_eq_getElem_cons hj,dS,List.getElem?_append_left (by rw[hk];exact hi)]
theorem aAw {enc:α->List Value}(hk:∀x,(enc x).length=k)(hk0:0<k){l:List α}(h:Row w a (flat enc l))(hj:j<l.length):
 ∃b off,a=aK ⟨b,off,aJ⟩/\b<w.heap.size/\∀i v,(enc l[j])[i]? =aK v->w.cell? ⟨b,off+j*k+i,aJ⟩=aK v:=by
 have m:(flat enc l)[j*k+0]? =aK ((enc l[j])[0]'(by rw[hk];exact hk0)):=by
  rw[flat_get hk l j hj 0 hk0,gJ]
 obtain⟨b,off,e,hb,_⟩:=h _ _ m;refine⟨b,off,e,hb,λi v g=> ?_⟩;have d:i<k:=by have:=(gK.1 g).1;rw[hk]at this;exact this
 obtain⟨n,c,f,_,o⟩:=h (j*k+i) v (by rw[flat_get hk l j hj i d];exact g);rw[e]at f;obtain⟨rfl,rfl⟩:b=n/\off=c:=by simpa using f
 rw[Nat.add_assoc];exact o
theorem EP {enc:α->List Value}(hk:∀x,(enc x).length=k)(hk0:0<k){base:Nat}{l:List α}(h:w.ownsRow base e k (aA a n c) n (flat enc l))(hj:j<l.length):
 ∃g,a=aK ⟨g,0,aJ⟩/\base<=g/\g<w.heap.size/\(∀i v,(enc l[j])[i]? =aK v->w.cell? ⟨g,j*k+i,aJ⟩=aK v)/\∀i,w.frozen? ⟨g,i,aJ⟩=false:=by
 obtain⟨b,off,p,hb,s⟩:=aAw hk hk0 (aV h) hj;rcases h.2 with ⟨m,q⟩ | ⟨g,f,o,m,d,u,_⟩
 ·have r:=h.1;rw[q,Nat.zero_mul,flat_length hk]at r;have:0<l.length*k:=Nat.mul_pos (by omega) hk0;omega
 ·obtain⟨rfl,rfl⟩:a=aK ⟨g,0,aJ⟩/\c=f:=by simpa using m
  obtain⟨rfl,rfl⟩:g=b/\0=off:=by simpa using p
  refine⟨g,rfl,d,hb,λi v t=>by have:=s i v t;rw[Nat.zero_add]at this;exact this,λi=>World.ownsRow.frozenAt h i⟩
theorem aZ {enc:α->List Value}(hk:∀x,(enc x).length=k)(hk0:0<k){base:Nat}{l:List α}(h:w.ownsRow base e k v n (flat enc l)):l.length=n:=by
 have a:=h.1;rw[flat_length hk]at a;exact Nat.eq_of_mul_eq_mul_right hk0 a
end
section
open Classical in
noncomputable def ext (w x:World):World:=if Below w.heap.size w x then x else w
theorem aT (w x:World):Below w.heap.size w (ext w x):=by
 unfold ext;split
 ·assumption
 ·exact gX _ _
theorem bV {x:World}(h:Below w.heap.size w x):ext w x=x:=by unfold ext;rw[if_pos h]
@[go_sem] theorem aFf {w x:World} {b o:Nat} {s:Option Nat} (h:b<w.heap.size):(ext w x).cell? ⟨b,o,s⟩=w.cell? ⟨b,o,s⟩:=(aT w x).cell (p:=⟨b,o,s⟩) h
@[go_sem] theorem aCZ {w x:World} {b o:Nat} {s:Option Nat} (h:b<w.heap.size):(ext w x).frozen? ⟨b,o,s⟩=w.frozen? ⟨b,o,s⟩:=(aT w x).frozen (p:=⟨b,o,s⟩) h
theorem aU {P:Program}{id:Nat}{Q:Exit->Act->World->Prop}{a:Act}{w:World}{l:List Oper}(hm:P.follows .mixedOrders=true)(hB:Region.lexB .any l.toArray=true)
 (h:wpQuiet P l.toArray (λw'=>∃x,w'=ext w x) (λa'=>∀w',(∃x,w'=ext w x)->Q .normal a' w') l a):(Code.region id l.toArray true).wp P Q a w:=
 wp_region_quiet (C:=λw'=>∃x,w'=ext w x) hm hB ⟨w.drew,(bV (gX _ _).drew).symm⟩ (by simpa using h)
theorem Calls.bV {P:Program}{f:FuncId}{args:Array Value}{w x:World}{v:Value}
 (h:Calls P f args (ext w x) λe w'=>e= .returned v/\Below (ext w x).heap.size (ext w x) w'):Calls P f args (ext w x) λe w''=>e= .returned v/\∃y,w''=ext w y:=
 h.mono λ_ w' ⟨a,hb⟩=>⟨a,w',(Go.Proofs.YtjaogfhcnmjkiaaGreatDoor.bV ((aT w x).trans (hb.mono (aT w x).size))).symm⟩
theorem Du {a:World}(h2:Below W.heap.size W W')(h1:Below B a W)(hB:B<=W.heap.size):Below B a W':=h1.trans (h2.mono hB)
theorem gW (h1:Below w.heap.size w w1)(h2:Below w1.heap.size w1 w2):Below w.heap.size w w2:=h1.trans (h2.mono h1.size)
theorem aQ (w:World)(vs:Array Value)(t:TypeId)(o:Nat):(w.alloc (.cells vs t)).cell? ⟨w.heap.size,o,aJ⟩=vs[o]? :=cell_of_row _ _ _ _ _ _ (heap_alloc_new w _)
theorem eG (w:World)(vs:Array Value)(t:TypeId)(o:Nat):(w.alloc (.cells vs t)).frozen? ⟨w.heap.size,o,aJ⟩=false:=by
 unfold World.frozen?;rw[heap_alloc_new];simp
theorem XM {t:TypeId}(h:Below (w.alloc (.cells vs t)).heap.size (w.alloc (.cells vs t)) w1)(o:Nat):w1.cell? ⟨w.heap.size,o,aJ⟩=vs[o]? :=by
 rw[h.cell (p:=⟨w.heap.size,o,aJ⟩) (by simp)];exact aQ w vs t o
theorem aAp (h:∀o,w1.cell? ⟨b,o,aJ⟩=vs[o]?)(hlt:b<w1.heap.size)(hb:Below w1.heap.size w1 w2)(o:Nat):w2.cell? ⟨b,o,aJ⟩=vs[o]? :=by
 rw[hb.cell (p:=⟨b,o,aJ⟩) hlt];exact h o
theorem aAt (h:∀o,w1.frozen? ⟨b,o,aJ⟩=false)(hlt:b<w1.heap.size)(hb:Below w1.heap.size w1 w2)(o:Nat):w2.frozen? ⟨b,o,aJ⟩=false:=by
 rw[hb.frozen (p:=⟨b,o,aJ⟩) hlt];exact h o
theorem aAq (w:World)(o:Obj):Below w.heap.size w (w.alloc o):=(gX _ _).alloc (gT _) _
theorem aAr (h:∀o,w.cell? ⟨b,o,aJ⟩=vs[o]?)(i:Nat)(u:Value)(o:Nat):(w.setCell ⟨b,i,aJ⟩ u).cell? ⟨b,o,aJ⟩=(vs.setIfInBounds i u)[o]? :=by
 have a:=h o;unfold World.cell? World.setCell at*;simp only[Array.getElem?_modify,if_true]at*;cases hb:w.heap[b]? with
 | none=>
  rw[hb]at a;simp only[Option.map_none]at*;rw[Array.getElem?_setIfInBounds];split
  ·rename_i e;subst e;split
   ·rename_i hlt;rw[Array.getElem?_eq_getElem hlt]at a;cases a
   ·rfl
  ·exact a
 | some ob=>
  rw[hb]at a;cases ob with
  | cells c t fr=>
   simp only[Option.map_some,Option.isSome_none,Bool.false_eq_true,if_false]at*;rw[Array.getElem?_setIfInBounds,Array.getElem?_setIfInBounds,a];have f:i=o->(i<c.size↔i<vs.size):=λe=>by
    subst e;constructor
    ·intro d;rw[Array.getElem?_eq_getElem d]at a;exact(Array.getElem?_eq_some_iff.1 a.symm).1
    ·intro d;rw[Array.getElem?_eq_getElem d]at a;exact(Array.getElem?_eq_some_iff.1 a).1
   by_cases e:i=o
   ·rw[if_pos e,if_pos e];by_cases d:i<c.size
    ·rw[if_pos d,if_pos ((f e).1 d)]
    ·rw[if_neg d,if_neg (λh=>d ((f e).2 h))]
   ·rw[if_neg e,if_neg e]
  | _=>
   simp only[Option.map_some]at*;rw[Array.getElem?_setIfInBounds];split
   ·rename_i e;subst e;split
    ·rename_i hlt;rw[Array.getElem?_eq_getElem hlt]at a;cases a
    ·rfl
   ·exact a
theorem aAs (h:∀o,w.frozen? ⟨b,o,aJ⟩=false)(a:Addr)(u:Value)(o:Nat):(w.setCell a u).frozen? ⟨b,o,aJ⟩=false:=by
 rw[World.frozen?_setCell];exact h o
theorem aAc (h:∀o,W.cell? ⟨b,o,aJ⟩=A[o]?)(hne:b≠c)(i:Nat)(u:Value)(o:Nat):(W.setCell ⟨c,i,aJ⟩ u).cell? ⟨b,o,aJ⟩=A[o]? :=by
 have a:(⟨c,i,aJ⟩:Addr)≠⟨b,o,aJ⟩:=λe=>hne (by simpa using(congrArg Addr.block e).symm)
 exact(World.cell?_setCell_other _ _ _ _ a).trans (h o)
theorem own_ne {base:Nat}(h:w.ownsRow base e size v n xs)(hb:b<base∨w.heap.size<=b):v.ownBlock≠aK b:=λe=>by
 have:=h.lt b e;omega
theorem bC {base:Nat}(h:w.ownsRow base e size v n xs)(hb:v.ownBlock≠aK b)(u:Value):(w.setCell ⟨b,i,aJ⟩ u).ownsRow base e size v n xs:=
 ownsRow_setCell_other h hb u
theorem boxes1 (w:World)(A:Array Value)(tA:TypeId):
 (∀o,(w.alloc (.cells A tA)).cell? ⟨w.heap.size,o,aJ⟩=A[o]?)/\(∀o,(w.alloc (.cells A tA)).frozen? ⟨w.heap.size,o,aJ⟩=false)/\
 w.heap.size<(w.alloc (.cells A tA)).heap.size/\Below w.heap.size w (w.alloc (.cells A tA)):=
 ⟨aQ w A tA,eG w A tA,by simp,aAq _ _⟩
theorem boxes2 (w:World)(A:Array Value)(tA:TypeId)(B:Array Value)(tB:TypeId):
 (∀o,((w.alloc (.cells A tA)).alloc (.cells B tB)).cell? ⟨w.heap.size,o,aJ⟩=A[o]?)/\(∀o,((w.alloc (.cells A tA)).alloc (.cells B tB)).cell? ⟨w.heap.size+1,o,aJ⟩=B[o]?)/\
 (∀o,((w.alloc (.cells A tA)).alloc (.cells B tB)).frozen? ⟨w.heap.size,o,aJ⟩=false)/\(∀o,((w.alloc (.cells A tA)).alloc (.cells B tB)).frozen? ⟨w.heap.size+1,o,aJ⟩=false)/\
 w.heap.size+1<((w.alloc (.cells A tA)).alloc (.cells B tB)).heap.size/\Below w.heap.size w ((w.alloc (.cells A tA)).alloc (.cells B tB)):=by
 have h:=boxes1 (w.alloc (.cells A tA)) B tB;have b:(w.alloc (.cells A tA)).heap.size=w.heap.size+1:=by simp
 rw[b]at h;obtain⟨d,c,e,a⟩:=h;rw[<- b]at a;exact⟨aAp (aQ w A tA) (by simp) a,d,aAt (eG w A tA) (by simp) a,c,e,gW (aAq _ _) a⟩
theorem boxes3 (w:World)(A:Array Value)(tA:TypeId)(B:Array Value)(tB:TypeId)(C:Array Value)(tC:TypeId):
 (∀o,(((w.alloc (.cells A tA)).alloc (.cells B tB)).alloc (.cells C tC)).cell? ⟨w.heap.size,o,aJ⟩=A[o]?)/\(∀o,(((w.alloc (.cells A tA)).alloc (.cells B tB)).alloc (.cells C tC)).cell? ⟨w.heap.size+1,o,aJ⟩=B[o]?)/\(∀o,(((w.alloc (.cells A tA)).alloc (.cells B tB)).alloc (.cells C tC)).cell? ⟨w.heap.size+1+1,o,aJ⟩=C[o]?)/\
 (∀o,(((w.alloc (.cells A tA)).alloc (.cells B tB)).alloc (.cells C tC)).frozen? ⟨w.heap.size,o,aJ⟩=false)/\(∀o,(((w.alloc (.cells A tA)).alloc (.cells B tB)).alloc (.cells C tC)).frozen? ⟨w.heap.size+1,o,aJ⟩=false)/\(∀o,(((w.alloc (.cells A tA)).alloc (.cells B tB)).alloc (.cells C tC)).frozen? ⟨w.heap.size+1+1,o,aJ⟩=false)/\
 w.heap.size+2<(((w.alloc (.cells A tA)).alloc (.cells B tB)).alloc (.cells C tC)).heap.size/\Below w.heap.size w (((w.alloc (.cells A tA)).alloc (.cells B tB)).alloc (.cells C tC)):=by
 obtain⟨i,f,j,g,b,d⟩:=boxes2 w A tA B tB;have h:=boxes1 ((w.alloc (.cells A tA)).alloc (.cells B tB)) C tC;have c:((w.alloc (.cells A tA)).alloc (.cells B tB)).heap.size=w.heap.size+1+1:=by simp
 rw[c]at h;obtain⟨k1,k2,e,a⟩:=h;rw[<- c]at a;exact⟨aAp i (by omega) a,aAp f b a,k1,aAt j (by omega) a,aAt g b a,k2,e,gW d a⟩
end
def aAx (b:Bk):List Value:=[vI b.a,vI b.o,vI b.t]
theorem aAu (b:Bk):(aAx b).length=3:=rfl
theorem bH {r:Bk}(hc:∀i v,(aAx r)[i]? =aK v->w.cell? ⟨g,o+i,aJ⟩=aK v):w.cell? ⟨g,o,aJ⟩=aK (aB aI r.a)/\w.cell? ⟨g,o+1,aJ⟩=aK (aB aI r.o)/\w.cell? ⟨g,o+2,aJ⟩=aK (aB aI r.t):=⟨hc 0 _ rfl,hc 1 _ rfl,hc 2 _ rfl⟩
theorem uP:(prog.info? 82).map (λi=>(i.zero,i.size,i.bytes))=aK (aK (aC #[aB aI 0,aB aI 0,aB aI 0]),3,24):=by kernel_rfl
theorem pJ (l:List Bk):∀u∈flat aAx l,u.oneCell'=true:=by
 intro u b;obtain⟨r,_,a⟩:=List.mem_flatMap.1 b;simp only[aAx,gY,List.not_mem_nil,or_false]at a;rcases a with rfl | rfl | rfl <;> rfl
theorem wI (h:o<=4):wrap64 (2^o)=((2^o:Nat):Int):=by
 obtain rfl | rfl | rfl | rfl | rfl:o=0∨o=1∨o=2∨o=3∨o=4:=by omega
 all_goals decide+kernel
theorem yX (h:o<=4):1<=2^o/\2^o<=16:=by rcases JK h with h | h | h | h | h <;> omega
theorem kF (b:Bk)(w:World)(ho:b.o<=4)(ha:b.a<=1000):
 Calls prog 116 #[aC #[aB aI b.a,aB aI b.o,aB aI b.t]] w λe w'=>e=aN (aB aI (b.fin:Int))/\Below w.heap.size w w':=by
 have c:=wI ho;have d:=yX ho;unfold Bk.fin;generalize 2^b.o=s at*;go_enter func116,ntmps116
 go_wp2_with fail
 go_quiet (fail)
 go_wp2
 go_ret
 refine⟨dO (by simp),gW (aAq _ _) (below_drewN (gX _ _) _)⟩
theorem wJ (f e:Nat)(a1 a2:Option Addr)(n1 n2 c1 c2:Nat)(b:Bk)(w:World)(h:cZ f e b.a b.o)(he:e<=256):
 Calls prog 115 #[aC #[aB aI f,aB aI e,aA a1 n1 c1,aA a2 n2 c2],aC #[aB aI b.a,aB aI b.o,aB aI b.t]] w λe w'=>e=aN (.bool true)/\Below w.heap.size w w':=by
 obtain⟨c,d,i,g⟩:=h;have p:=wI c;have j:=yX c;have k:(b.a:Int)%((2^b.o:Nat):Int)=0:=by rw[<- Int.natCast_emod,g];rfl
 have n:decide ((b.o:Int)<=4)=true:=gTg (by omega);have l:decide (f<=b.a)=true:=gTg d;have m:decide (b.a<e)=true:=gTg i;generalize 2^b.o=s at*;go_enter func115,ntmps115
 go_wp2_with fail
 go_quiet (fail)
 go_wp2
 go_ret
 exact⟨rfl,gW (gW (aAq _ _) (aAq _ _)) (below_drewN (gX _ _) _)⟩
theorem XO (b:Bk)(p:Nat)(w:World)(ha:b.a<=1000)(hp:p<=1000):
 Calls prog 166 #[aC #[aB aI b.a,aB aI b.o,aB aI b.t],aB aI p] w λe w'=>e=aN (aB aI ((b.a:Int)-p))/\Below w.heap.size w w':=by
 go_enter func166,ntmps166
 go_wp2
 go_ret
 exact⟨rfl,aAq _ _⟩
theorem JW {l:List Bk}(h:uN l){a:Nat}(hk:k<l.length):k<lb l a↔l[k].a<a:=by
 constructor
 ·intro b;exact zV _ (List.mem_take_iff_getElem.2 ⟨k,by omega,rfl⟩)
 ·intro b;rcases Nat.lt_or_ge k (lb l a)with h1 | h1
  ·exact h1
  ·have:=wF h (a:=a) l[k] (List.mem_drop_iff_getElem.2 ⟨k-lb l a,by omega,by congr 1;omega⟩);omega
def hasB (l:List Bk)(a:Nat):Bool:=l.any λb=>decide (b.a=a)
theorem xY {l:List Bk}(h:uN l){a:Nat}(hk:lb l a<l.length):hasB l a=decide (l[lb l a].a=a):=by
 unfold hasB;cases hd:decide (l[lb l a].a=a)with
 | true=>rw[List.any_eq_true];exact⟨_,gL hk,hd⟩
 | false=>
  rw[List.any_eq_false];intro b hb c;have c:=of_decide_eq_true c;have:=lX h hb;rw[c,gJ hk]at this;have d:l[lb l a]=b:=by simpa using this
  exact of_decide_eq_false hd (by rw[d];exact c)
theorem wK {l:List Bk}(h:uN l){a:Nat}(hk:l.length<=lb l a):hasB l a=false:=by
 unfold hasB;rw[List.any_eq_false];intro b hb c;have c:=of_decide_eq_true c;have:=lX h hb;rw[c,List.getElem?_eq_none hk]at this;cases this
theorem Va (a:Option Addr)(n cap:Nat)(l:List Bk)(p:Nat)(w:World)(hn:l.length=n)(hl:n<=1000)(hr:Row w a (flat aAx l))(hrise:uN l)(ha:∀b∈l,b.a<=1000)(hp:p<=1000):
 Calls prog 69 #[aA a n cap,aB aI p,.func (.func 166) #[] #[]] w λe w'=>e=aN (aG #[aB aI (lb l p:Int),.bool (hasB l p)])/\Below w.heap.size w w':=by
 subst hn;have F:=mD l p;have P:∀k w,(callFunc 166 k).run prog w= .ok (.enter 166 k) w:=enters_of func166 (by kernel_rfl) rfl;go_enter func69,ntmps69
 go_wp2
 go_loopw [9,10,11] (λB s _ wr=>∃i j:Nat,i<=lb l p/\lb l p<=j/\j<=l.length/\B=aB aI i/\s=aB aI j/\Below w.heap.size w wr) (λB s _ _=>(intOf s).toNat-(intOf B).toNat)
 case atStart=>exact⟨0,l.length,gU _,F,gT _,rfl,rfl,gX _ _⟩
 case round=>
  obtain⟨i,j,N,J,O,rfl,rfl,f⟩:=hrel;by_cases I:i<j
  ·have E:(i+j)/2<l.length:=by omega
   have m:=gO (JW hrise (a:=p) E);obtain⟨b,off,rfl,hb,x⟩:=aAw aAu (by decide) (hr.below f) E;obtain⟨q,v,r⟩:=bH x;have t:=ha _ (gL E);clear hr x;generalize l[(i+j)/2]=y at*;go_wp2_with fail
   refine(XO y p _ t hp).mono ?_;rintro e H ⟨rfl,u⟩;have d:=gW f u;clear q v r;by_cases o:y.a<p
   ·have M:=m.out.2 o;have D:(y.a:Int)-p<0:=by omega
    go_wp2
    go_roundw
    case rel=>exact⟨(i+j)/2+1,j,by omega,J,O,by go_num,rfl,d⟩
    case measure=>simp[intOf];omega
   ·have M:¬(i+j)/2<lb l p:=λh=>o (m.out.1 h)
    have D:¬(y.a:Int)-p<0:=by omega
    go_wp2
    go_roundw
    case rel=>exact⟨i,(i+j)/2,N,by omega,by omega,rfl,by go_num,d⟩
    case measure=>simp[intOf];omega
  ·obtain rfl:i=lb l p:=by omega
   have L:(lb l p:Int)<=l.length:=by omega
   by_cases C:lb l p<l.length
   ·obtain⟨b,off,rfl,hb,x⟩:=aAw aAu (by decide) (hr.below f) C;obtain⟨q,v,r⟩:=bH x;have t:=ha _ (gL C);have g:=gO (xY hrise (a:=p) C);have A:(lb l p:Int)<l.length:=by omega
    clear hr x;generalize l[lb l p]=y at*;generalize c:lb l p=K at*;have z:=gO c;clear c;go_wp2_with fail
    refine(XO y p _ t hp).mono ?_;rintro e H ⟨rfl,u⟩;have d:=gW f u;clear q v r;by_cases G:y.a=p
    ·have D:((y.a:Int)-p == 0)=true:=by rw[beq_iff_eq];omega
     go_wp2
     go_ret2
     refine⟨?_,d⟩;rw[g.out,z.out,gTg G];rfl
    ·have D:((y.a:Int)-p == 0)=false:=by rw[beq_eq_false_iff_ne];omega
     go_wp2
     go_ret2
     refine⟨?_,d⟩;rw[g.out,z.out,gV G];rfl
   ·have g:=gO (wK hrise (a:=p) (by omega));have A:¬(lb l p:Int)<l.length:=by omega
    clear hr;generalize c:lb l p=K at*;have z:=gO c;clear c;go_wp2
    go_ret2
    refine⟨?_,f⟩;rw[g.out,z.out];rfl
def iF (t:Nat):List Value:=[vI t]
theorem bU (t:Nat):(iF t).length=1:=rfl
theorem iZ {r:Nat}(hc:∀i v,(iF r)[i]? =aK v->w.cell? ⟨g,o+i,aJ⟩=aK v):w.cell? ⟨g,o,aJ⟩=aK (aB aI r):=hc 0 _ rfl
theorem lM:(prog.info? 3).map (λi=>(i.zero,i.size,i.bytes))=aK (aK (aB aI 0),1,8):=by kernel_rfl
theorem XP (l:List Nat):∀u∈flat iF l,u.oneCell'=true:=by
 intro u b;obtain⟨r,_,a⟩:=List.mem_flatMap.1 b;simp only[iF,gY,List.not_mem_nil,or_false]at a;subst a;rfl
def dA {α:Type}(p:α->Bool)(xs:List α):Int:=match xs.findIdx? p with | some i=>(i:Int) | none=> -1
theorem mJ {α:Type}{p:α->Bool}{xs:List α}(hk:k<xs.length)(h:p xs[k]=true)(hn:∀x∈xs.take k,p x=false):dA p xs=k:=by
 have e:xs.findIdx? p=aK k:=by
  rw[List.findIdx?_eq_some_iff_getElem];refine⟨hk,h,λj a=> ?_⟩;have:=hn (xs[j]'(by omega)) (by rw[List.mem_take_iff_getElem];exact⟨j,by omega,rfl⟩);simp[this]
 simp[dA,e]
theorem kL {α:Type}{p:α->Bool}{xs:List α}(hn:∀x∈xs,p x=false):dA p xs= -1:=by
 have e:xs.findIdx? p=aJ:=by rw[List.findIdx?_eq_none_iff];exact hn
 simp[dA,e]
theorem iP {α:Type}(p:α->Bool)(xs:List α):decide (0<=dA p xs)=xs.any p:=by
 unfold dA;cases h:xs.findIdx? p with
 | none=>rw[List.findIdx?_eq_none_iff]at h;symm;simpa using h
 | some i=>rw[List.findIdx?_eq_some_iff_getElem]at h;obtain⟨b,a,_⟩:=h;symm;simp only[Int.natCast_nonneg,decide_true,List.any_eq_true];exact⟨_,gL b,a⟩
theorem TD (a:Option Addr)(n cap:Nat)(xs:List Bk)(w:World)(hn:xs.length=n)(hl:n*24<=140737488355328)(hr:Row w a (flat aAx xs)):
 Calls prog 75 #[aA a n cap] w λe w'=>∃a' c',e=aN (aA a' n c')/\w'.ownsRow w.heap.size 82 3 (aA a' n c') n (flat aAx xs)/\Below w.heap.size w w':=by
 have m:∀(w:World) (a:Option Addr) (n c g c':Nat),(binOp .eql 37 (aA a n c) (aA aJ g c')).run prog w= .ok (.bool a.isNone) w:=λw a n c g c'=>Lib.run_eql_slice_nil w _ _ a n c g c' underlying37
 subst hn;cases a with
 | none=>
  have o:xs=[]:=by
   cases xs with
   | nil=>rfl
   | cons u l=>obtain⟨b,off,i,_⟩:=aAw aAu (by decide) hr (j:=0) (by simp);cases i
  subst o;go_enter func75,ntmps75
  go_wp2
  go_ret
  exact⟨aJ,0,rfl,World.ownsRow_nil _ _ _ _,gX _ _⟩
 | some ad=>
  go_enter func75,ntmps75
  go_wp2_with (at_builtin;refine iV rfl _ _ 37 rfl w.heap.size 82 (aC #[aB aI 0,aB aI 0,aB aI 0]) 3 24 underlying37 uP rfl (by decide) (by decide) _ _ _ _ rfl (World.ownsRow_made w #[] 0 (gT _) (gU _) (by simp)) (aK ad) xs.length cap (flat aAx xs) rfl ?q1 ?q2 ?q3 ?q4 ?q5 ?_)
  case q1=>exact flat_length aAu xs
  case q2=>exact hr.below (aAq _ _)
  case q3=>exact pJ xs
  case q4=>rw[Nat.zero_add];exact hl
  case q5=>simp
  intro a' c' p f d;go_wp2
  go_ret
  exact⟨a',c',rfl,f,(aAq w _).grown d (by simp) (by intro k h;simp[gTh]at h;omega)⟩
theorem JX (a:Option Addr)(n cap:Nat)(xs:List Nat)(w:World)(hn:xs.length=n)(hl:n*8<=140737488355328)(hr:Row w a (flat iF xs)):
 Calls prog 35 #[aA a n cap] w λe w'=>∃a' c',e=aN (aA a' n c')/\w'.ownsRow w.heap.size 3 1 (aA a' n c') n (flat iF xs)/\Below w.heap.size w w':=by
 have m:∀(w:World) (a:Option Addr) (n c g c':Nat),(binOp .eql 34 (aA a n c) (aA aJ g c')).run prog w= .ok (.bool a.isNone) w:=λw a n c g c'=>Lib.run_eql_slice_nil w _ _ a n c g c' underlying34
 subst hn;cases a with
 | none=>
  have o:xs=[]:=by
   cases xs with
   | nil=>rfl
   | cons u l=>obtain⟨b,off,i,_⟩:=aAw bU (by decide) hr (j:=0) (by simp);cases i
  subst o;go_enter func35,ntmps35
  go_wp2
  go_ret
  exact⟨aJ,0,rfl,World.ownsRow_nil _ _ _ _,gX _ _⟩
 | some ad=>
  go_enter func35,ntmps35
  go_wp2_with (at_builtin;refine iV rfl _ _ 34 rfl w.heap.size 3 (aB aI 0) 1 8 underlying34 lM rfl (by decide) (by decide) _ _ _ _ rfl (World.ownsRow_made w #[] 0 (gT _) (gU _) (by simp)) (aK ad) xs.length cap (flat iF xs) rfl ?q1 ?q2 ?q3 ?q4 ?q5 ?_)
  case q1=>exact flat_length bU xs
  case q2=>exact hr.below (aAq _ _)
  case q3=>exact XP xs
  case q4=>rw[Nat.zero_add];exact hl
  case q5=>simp
  intro a' c' p f d;go_wp2
  go_ret
  exact⟨a',c',rfl,f,(aAq w _).grown d (by simp) (by intro k h;simp[gTh]at h;omega)⟩
theorem Dv (a:Option Addr)(n cap:Nat)(l:List Bk)(g:Nat)(lb:Array Value)(p:Bk->Bool)(w:World)(hn:l.length=n)(hl:n<=9223372036854775807)(hr:Row w a (flat aAx l))(eg:∀args w,(callFunc g args).run prog w= .ok (.enter g args) w)
 (hp:∀W,Below w.heap.size w W->∀x∈l,Calls prog g (#[.agg (aAx x).toArray]++lb) W λe w'=>e=aN (.bool (p x))/\Below W.heap.size W w'):
 Calls prog 165 #[aA a n cap,.func (.func g) #[] lb] w λe w'=>e=aN (aB aI (dA p l))/\Below w.heap.size w w':=by
 subst hn;go_enter func165,ntmps165
 go_wp2
 go_loopw [5,8] (λ_ j wr=>∃k:Nat,k<=l.length/\j=aB aI k/\Hid (∀x∈l.take k,p x=false)/\Below w.heap.size w wr) (λ_ j _=>l.length-(intOf j).toNat)
 case atStart=>exact⟨0,gU _,rfl,by simp[Hid],gX _ _⟩
 case round=>
  obtain⟨k,t,rfl,d,c⟩:=hrel;by_cases f:k<l.length
  ·obtain⟨b,off,rfl,hb,o⟩:=aAw aAu (by decide) (hr.below c) f;obtain⟨q,s,r⟩:=bH o
   skip
   have hcall:=hp wr c l[k] (gL f);clear hr hp o;cases hv:p l[k]with
   | true=>
    have m:=gO (mJ f hv d.out);rw[hv]at hcall;generalize l[k]=y at*;go_wp2_with (go_at_fn g;refine hcall.mono ?_;rintro e w' ⟨rfl,h⟩)
    go_ret
    exact⟨dO m.out.symm,gW c h⟩
   | false=>
    rw[hv]at hcall;have m:Hid (∀x∈l.take (k+1),p x=false):=λx i=>by
     rw[List.take_succ_eq_append_getElem f,gZ,gTa]at i;rcases i with i | rfl
     ·exact d.out x i
     ·exact hv
    generalize l[k]=y at*;go_wp2_with (go_at_fn g;refine hcall.mono ?_;rintro e w' ⟨rfl,h⟩)
    go_roundw
    case rel=>exact⟨k+1,by omega,by go_num,m.out,gW c h⟩
    case measure=>simp[intOf];omega
  ·obtain rfl:k=l.length:=by omega
   go_wp2
   go_ret
   exact⟨dO (kL (by simpa[Hid]using d)).symm,c⟩
theorem ER (a:Option Addr)(n cap:Nat)(l:List Bk)(g:Nat)(lb:Array Value)(p:Bk->Bool)(w:World)(hn:l.length=n)(hl:n<=9223372036854775807)(hr:Row w a (flat aAx l))(eg:∀args w,(callFunc g args).run prog w= .ok (.enter g args) w)
 (hp:∀W,Below w.heap.size w W->∀x∈l,Calls prog g (#[.agg (aAx x).toArray]++lb) W λe w'=>e=aN (.bool (p x))/\Below W.heap.size W w'):
 Calls prog 144 #[aA a n cap,.func (.func g) #[] lb] w λe w'=>e=aN (.bool (l.any p))/\Below w.heap.size w w':=by
 go_enter func144,ntmps144
 go_wp2_with (go_at_call 165;refine(Dv _ _ _ l _ _ p _ hn hl hr eg hp).mono ?_;rintro e w' ⟨rfl,b⟩)
 go_ret
 exact⟨aX (iP p l),b⟩
theorem QI (a:Option Addr)(n cap:Nat)(l:List Nat)(g:Nat)(lb:Array Value)(p:Nat->Bool)(w:World)(hn:l.length=n)(hl:n<=9223372036854775807)(hr:Row w a (flat iF l))(eg:∀args w,(callFunc g args).run prog w= .ok (.enter g args) w)
 (hp:∀W,Below w.heap.size w W->∀x∈l,Calls prog g (#[aB aI (x:Int)]++lb) W λe w'=>e=aN (.bool (p x))/\Below W.heap.size W w'):
 Calls prog 117 #[aA a n cap,.func (.func g) #[] lb] w λe w'=>e=aN (aB aI (dA p l))/\Below w.heap.size w w':=by
 subst hn;go_enter func117,ntmps117
 go_wp2
 go_loopw [5,8] (λ_ j wr=>∃k:Nat,k<=l.length/\j=aB aI k/\Hid (∀x∈l.take k,p x=false)/\Below w.heap.size w wr) (λ_ j _=>l.length-(intOf j).toNat)
 case atStart=>exact⟨0,gU _,rfl,by simp[Hid],gX _ _⟩
 case round=>
  obtain⟨k,r,rfl,d,c⟩:=hrel;by_cases f:k<l.length
  ·obtain⟨b,off,rfl,hb,q⟩:=aAw bU (by decide) (hr.below c) f;obtain m:=iZ q;rw[Nat.mul_one]at m;have hcall:=hp wr c l[k] (gL f);clear hr hp q;cases hv:p l[k]with
   | true=>
    have o:=gO (mJ f hv d.out);rw[hv]at hcall;generalize l[k]=y at*;go_wp2_with (go_at_fn g;refine hcall.mono ?_;rintro e w' ⟨rfl,h⟩)
    go_ret
    exact⟨dO o.out.symm,gW c h⟩
   | false=>
    rw[hv]at hcall;have o:Hid (∀x∈l.take (k+1),p x=false):=λx i=>by
     rw[List.take_succ_eq_append_getElem f,gZ,gTa]at i;rcases i with i | rfl
     ·exact d.out x i
     ·exact hv
    generalize l[k]=y at*;go_wp2_with (go_at_fn g;refine hcall.mono ?_;rintro e w' ⟨rfl,h⟩)
    go_roundw
    case rel=>exact⟨k+1,by omega,by go_num,o.out,gW c h⟩
    case measure=>simp[intOf];omega
  ·obtain rfl:k=l.length:=by omega
   go_wp2
   go_ret
   exact⟨dO (kL (by simpa[Hid]using d)).symm,c⟩
theorem rH (a:Option Addr)(n cap:Nat)(l:List Nat)(g:Nat)(lb:Array Value)(p:Nat->Bool)(w:World)(hn:l.length=n)(hl:n<=9223372036854775807)(hr:Row w a (flat iF l))(eg:∀args w,(callFunc g args).run prog w= .ok (.enter g args) w)
 (hp:∀W,Below w.heap.size w W->∀x∈l,Calls prog g (#[aB aI (x:Int)]++lb) W λe w'=>e=aN (.bool (p x))/\Below W.heap.size W w'):
 Calls prog 64 #[aA a n cap,.func (.func g) #[] lb] w λe w'=>e=aN (.bool (l.any p))/\Below w.heap.size w w':=by
 go_enter func64,ntmps64
 go_wp2_with (go_at_call 117;refine(QI _ _ _ l _ _ p _ hn hl hr eg hp).mono ?_;rintro e w' ⟨rfl,b⟩)
 go_ret
 exact⟨aX (iP p l),b⟩
structure JY (w:World)(a1 a2:Option Addr)(n1 n2:Nat)(z:Zn):Prop where
 l1:z.l.length=n1
 l2:z.y.length=n2
 r1:Row w a1 (flat aAx z.l)
 r2:Row w a2 (flat iF z.y)
theorem JY.below {a1 a2:Option Addr}{n1 n2:Nat}{z:Zn}(h:JY w a1 a2 n1 n2 z)(hb:Below w.heap.size w w'):JY w' a1 a2 n1 n2 z:=⟨h.l1,h.l2,h.r1.below hb,h.r2.below hb⟩
structure iH (w:World)(base:Nat)(a1 a2:Option Addr)(n1 n2 c1 c2:Nat)(z:Zn):Prop where
 l1:z.l.length=n1
 l2:z.y.length=n2
 o1:w.ownsRow base 82 3 (aA a1 n1 c1) n1 (flat aAx z.l)
 o2:w.ownsRow base 3 1 (aA a2 n2 c2) n2 (flat iF z.y)
section
variable {w:World}{bs:Nat}{a1 a2:Option Addr}{n1 n2 c1 c2:Nat}{z:Zn}
theorem iH.at (h:iH w bs a1 a2 n1 n2 c1 c2 z):JY w a1 a2 n1 n2 z:=⟨h.l1,h.l2,aV h.o1,aV h.o2⟩
theorem iH.below (h:iH w bs a1 a2 n1 n2 c1 c2 z)(hb:Below w.heap.size w w'):iH w' bs a1 a2 n1 n2 c1 c2 z:=⟨h.l1,h.l2,own_below h.o1 hb (gT _),own_below h.o2 hb (gT _)⟩
theorem iH.base {base':Nat}(h:iH w bs a1 a2 n1 n2 c1 c2 z)(hb:base'<=bs):iH w base' a1 a2 n1 n2 c1 c2 z:=⟨h.l1,h.l2,own_base h.o1 hb,own_base h.o2 hb⟩
theorem iH.set (h:iH w bs a1 a2 n1 n2 c1 c2 z)(hg:(aA a1 n1 c1).ownBlock≠aK g/\(aA a2 n2 c2).ownBlock≠aK g)(i:Nat)(u:Value):iH (w.setCell ⟨g,i,aJ⟩ u) bs a1 a2 n1 n2 c1 c2 z:=⟨h.l1,h.l2,bC h.o1 hg.1 u,bC h.o2 hg.2 u⟩
theorem iH.ne (h:iH w bs a1 a2 n1 n2 c1 c2 z)(hg:g<bs∨w.heap.size<=g):(aA a1 n1 c1).ownBlock≠aK g/\(aA a2 n2 c2).ownBlock≠aK g:=⟨own_ne h.o1 hg,own_ne h.o2 hg⟩
end
theorem find_ok (a1 a2:Option Addr)(n1 n2 c1 c2:Nat)(f e:Nat)(z:Zn)(p:Nat)(w:World)(hat:JY w a1 a2 n1 n2 z)(hl:n1<=1000)(hrise:uN z.l)(ha:∀b∈z.l,b.a<=1000)(hp:p<=1000):
 Calls prog 146 #[aC #[aB aI f,aB aI e,aA a1 n1 c1,aA a2 n2 c2],aB aI p] w λe w'=>e=aN (aG #[aB aI (lb z.l p:Int),.bool (hasB z.l p)])/\Below w.heap.size w w':=by
 have hb:=aAq w (aO #[aB aI (f:Int),aB aI (e:Int),aA a1 n1 c1,aA a2 n2 c2] 79);have d:=(hat.below hb).r1;have l1:=hat.l1;clear hat
 go_enter func146,ntmps146
 go_wp2_with fail
 refine(Va _ _ _ z.l p _ l1 hl d hrise ha hp).mono ?_;rintro e w' ⟨rfl,c⟩;go_wp2
 go_ret2
 exact⟨rfl,gW hb c⟩
theorem Eo (a1 a2:Option Addr)(n1 n2 c1 c2:Nat)(f e:Nat)(z:Zn)(w:World)(hat:JY w a1 a2 n1 n2 z)(hl1:n1<=1000)(hl2:n2<=1000):
 Calls prog 76 #[aC #[aB aI f,aB aI e,aA a1 n1 c1,aA a2 n2 c2]] w λev w'=>∃a1' a2' c1' c2',ev=aN (aC #[aB aI f,aB aI e,aA a1' n1 c1',aA a2' n2 c2'])/\iH w' w.heap.size a1' a2' n1 n2 c1' c2' z/\Below w.heap.size w w':=by
 obtain⟨P,R,Q,S,O,H⟩:=boxes2 w #[aB aI (f:Int),aB aI (e:Int),aA a1 n1 c1,aA a2 n2 c2] 79 #[aB aI 0,aB aI 0,aA aJ 0 0,aA aJ 0 0] 79;obtain⟨l1,Y,W,q2⟩:=hat.below H;clear hat
 go_enter func76,ntmps76
 go_wp2_with fail
 generalize (w.alloc _).alloc _=h at*
 go_region_with (first | (go_at_call 75;refine(TD _ _ _ z.l _ l1 (by omega) (W.below (by first | exact Below.drew C | exact C | exact(gX _ _).drew))).mono ?_;rintro ev s ⟨k,m,rfl,G,a⟩;first | (have J:=aAp (w1:=r) K E a;have L:=aAt (w1:=r) M E a;have F:w.heap.size<s.heap.size:=gI E a.size;have D:Below h.heap.size h s:=gW C a) | (have J:=aAp (w1:=r.drew) (λo=>K o) E a;have L:=aAt (w1:=r.drew) (λo=>M o) E a;have F:w.heap.size<s.heap.size:=gI E a.size;have D:Below h.heap.size h s:=gW (Below.drew C) a) | (have J:=aAp (w1:=h.drew) (λo=>P o) (show w.heap.size<h.heap.size by omega) a;have L:=aAt (w1:=h.drew) (λo=>Q o) (show w.heap.size<h.heap.size by omega) a;have F:w.heap.size<s.heap.size:=gI (show w.heap.size<h.heap.size by omega) a.size;have D:Below h.heap.size h s:=gW ((gX _ _).drew) a)) | (go_at_call 35;refine(JX _ _ _ z.y _ Y (by omega) (q2.below (by first | exact Below.drew D | exact D | exact(gX _ _).drew))).mono ?_;rintro ev r ⟨p,n,rfl,q,d⟩;first | (have K:=aAp (w1:=s) J F d;have M:=aAt (w1:=s) L F d;have E:w.heap.size<r.heap.size:=gI F d.size;have C:Below h.heap.size h r:=gW D d) | (have K:=aAp (w1:=s.drew) (λo=>J o) F d;have M:=aAt (w1:=s.drew) (λo=>L o) F d;have E:w.heap.size<r.heap.size:=gI F d.size;have C:Below h.heap.size h r:=gW (Below.drew D) d) | (have K:=aAp (w1:=h.drew) (λo=>P o) (show w.heap.size<h.heap.size by omega) d;have M:=aAt (w1:=h.drew) (λo=>Q o) (show w.heap.size<h.heap.size by omega) d;have E:w.heap.size<r.heap.size:=gI (show w.heap.size<h.heap.size by omega) d.size;have C:Below h.heap.size h r:=gW ((gX _ _).drew) d)))
 all_goals first
  |(
   have N:=own_below G d (gT _);have A:=aAp R (by omega) C;have B:=aAt S (by omega) C;have U:w.heap.size+1<h.drew.heap.size:=O;have T:h.drew.heap.size<=s.heap.size:=a.size;have u:=own_ne G (b:=w.heap.size) (.inl (by omega));have j:=own_ne G (b:=w.heap.size+1) (.inl (by omega));have x:=own_ne q (b:=w.heap.size) (.inl (by omega));have i:=own_ne q (b:=w.heap.size+1) (.inl (by omega));have Z:=gO ((show iH r w.heap.size k p n1 n2 m n z from⟨l1,Y,own_base N (by omega),own_base q (by omega)⟩).set (g:=w.heap.size) ⟨u,x⟩ 2 (aA k n1 m) |>.set (g:=w.heap.size) ⟨u,x⟩ 3 (aA p n2 n));have t:=gS (gS (gW H C) w.heap.size 2 (gT _) (aA k n1 m)) w.heap.size 3 (gT _) (aA p n2 n);have V:=aAr (aAr K 2 (aA k n1 m)) 3 (aA p n2 n);have I:=aAc (aAc A (c:=w.heap.size) (by omega) 2 (aA k n1 m)) (c:=w.heap.size) (by omega) 3 (aA p n2 n);have X:=aAs (aAs B ⟨w.heap.size,2,aJ⟩ (aA k n1 m)) ⟨w.heap.size,3,aJ⟩ (aA p n2 n);clear P R Q S J L N G q W q2 K M A B;generalize (r.setCell _ _).setCell _ _=wx at*;change ∀o,wx.cell? ⟨w.heap.size,o,aJ⟩=(#[aB aI (f:Int),aB aI (e:Int),aA k n1 m,aA p n2 n]:Array Value)[o]? at V;go_wp2
   refine bodyPost_ret (v:=aC #[aB aI f,aB aI e,aA k n1 m,aA p n2 n]) (by simp[results,results76,go_sem,I]) rfl ⟨k,p,m,n,rfl,?_,?_⟩
   ·exact(((Z.out.set ⟨j,i⟩ _ _).set ⟨j,i⟩ _ _).set ⟨j,i⟩ _ _).set ⟨j,i⟩ _ _
   ·exact Below.setCell (Below.setCell (Below.setCell (Below.setCell t (by simp only;omega) _) (by simp only;omega) _) (by simp only;omega) _) (by simp only;omega) _
   )
  |(
   have N:=own_below q a (gT _);have A:=aAp R (by omega) D;have B:=aAt S (by omega) D;have U:w.heap.size+1<h.drew.heap.size:=O;have T:h.drew.heap.size<=r.heap.size:=d.size;have u:=own_ne G (b:=w.heap.size) (.inl (by omega));have j:=own_ne G (b:=w.heap.size+1) (.inl (by omega));have x:=own_ne q (b:=w.heap.size) (.inl (by omega));have i:=own_ne q (b:=w.heap.size+1) (.inl (by omega));have Z:=gO ((show iH s w.heap.size k p n1 n2 m n z from⟨l1,Y,own_base G (by omega),own_base N (by omega)⟩).set (g:=w.heap.size) ⟨u,x⟩ 2 (aA k n1 m) |>.set (g:=w.heap.size) ⟨u,x⟩ 3 (aA p n2 n));have t:=gS (gS (gW H D) w.heap.size 2 (gT _) (aA k n1 m)) w.heap.size 3 (gT _) (aA p n2 n);have V:=aAr (aAr J 2 (aA k n1 m)) 3 (aA p n2 n);have I:=aAc (aAc A (c:=w.heap.size) (by omega) 2 (aA k n1 m)) (c:=w.heap.size) (by omega) 3 (aA p n2 n);have X:=aAs (aAs B ⟨w.heap.size,2,aJ⟩ (aA k n1 m)) ⟨w.heap.size,3,aJ⟩ (aA p n2 n);clear P R Q S J L N G q W q2 K M A B;generalize (s.setCell _ _).setCell _ _=wx at*;change ∀o,wx.cell? ⟨w.heap.size,o,aJ⟩=(#[aB aI (f:Int),aB aI (e:Int),aA k n1 m,aA p n2 n]:Array Value)[o]? at V;go_wp2
   refine bodyPost_ret (v:=aC #[aB aI f,aB aI e,aA k n1 m,aA p n2 n]) (by simp[results,results76,go_sem,I]) rfl ⟨k,p,m,n,rfl,?_,?_⟩
   ·exact(((Z.out.set ⟨j,i⟩ _ _).set ⟨j,i⟩ _ _).set ⟨j,i⟩ _ _).set ⟨j,i⟩ _ _
   ·exact Below.setCell (Below.setCell (Below.setCell (Below.setCell t (by simp only;omega) _) (by simp only;omega) _) (by simp only;omega) _) (by simp only;omega) _
   )
theorem qQ {P:Program}{w:World}{ops:Array Oper}{rest:List Oper}{o:Oper}{a:Act}{Q:Exit->Act->World->Prop}(hgd:o.guard=aJ)(s x:Operand)(t:TypeId)
 (ho:o.op= .call {callee:= .builtin .append,args:=#[s,x],argTypes:=#[t,t]})
 (base:Nat) (e:TypeId) (z:Value) (size bytes:Nat) (ht:P.underlying t=aK (.slice e)) (hinfo:(P.info? e).map (λi=>(i.zero,i.size,i.bytes))=aK (aK z,size,bytes)) (hsz:0<size)
 (as_:Option Addr) (n cs:Nat) (xs:List Value) (hs:a.eval s=aA as_ n cs) (hown:w.ownsRow base e size (aA as_ n cs) n xs)
 (ax:Option Addr) (m cx:Nat) (news:List Value) (hx:a.eval x=aA ax m cx) (hl:news.length=m*size) (hnews:Row w ax news) (h1:∀u∈news,u.oneCell'=true)
 (hroom:n+m<=cs)
 (h:∀w',w'.ownsRow base e size (aA as_ (n+m) cs) (n+m) (xs++news)->w.grownBy w' (gTh (aA as_ n cs))->wpList P ops Q rest (a.put o.dst (aA as_ (n+m) cs)) w'):
 wpList P ops Q (o::rest) a w:=by
 obtain⟨i,E,V,p,N⟩:=info_parts hinfo;subst p;refine wpList_plain hgd λK L=> ?_
 have f:(xs++news).length=(n+m)*i.size:=by rw[gTb,hown.1,hl,Nat.add_mul]
 have key:∃w',(Builtin.append_ #[t,t] o.type #[aA as_ n cs,aA ax m cx]).run P w= .ok (aA as_ (n+m) cs) w'/\w'.ownsRow base e i.size (aA as_ (n+m) cs) (n+m) (xs++news)/\w.grownBy w' (gTh (aA as_ n cs)):=by
  rcases Nat.eq_zero_or_pos m with rfl | T
  ·obtain rfl:news=[]:=List.eq_nil_of_length_eq_zero (by simpa using hl);refine⟨w,?_,by simpa using hown,⟨rfl,rfl,rfl,gT _,λ_ _ _=>rfl⟩⟩;have W:=mV (P:=P) i.size 0 ax 0 cx [] (by simp) (Row.nil w ax);cases as_ with
   | none=>
    rcases hown.2 with ⟨d,rfl⟩ | ⟨g,r,c,d,_⟩
    ·obtain rfl:cs=0:=by simp at d;exact d
     cases ax <;> simp[Builtin.append_,run_underlying ht,sizeOf,typeInfo,E,Builtin.lenOf,Builtin.firstCells,loadCells,loadCellsFrom]
    ·simp at d
   | some v=>
    have S:n<=cs:=by omega
    cases ax <;> simp[Builtin.append_,run_underlying ht,sizeOf,typeInfo,E,Builtin.lenOf,Builtin.firstCells,loadCells,loadCellsFrom,S,storeCells]
  ·have G:news≠[]:=by
    intro e;subst e;have:=Nat.mul_pos T hsz;simp at hl;omega
   obtain⟨v,rfl⟩:∃v,ax=aK v:=by
    cases news with
    | nil=>exact absurd rfl G
    | cons u l=>obtain⟨b,off,F,_⟩:=hnews 0 u rfl;exact⟨_,F⟩
   rcases hown.2 with ⟨d,rfl⟩ | ⟨g,r,c,d,B,H,O,A,D,q⟩
   ·obtain⟨rfl,rfl⟩:as_=aJ/\cs=0:=by simp at d;exact d
    omega
   ·obtain⟨rfl,rfl⟩:as_=aK ⟨g,0,aJ⟩/\cs=r:=by simpa using d
    have y:n*i.size+news.length<=c.size:=by rw[hl,D,<- Nat.add_mul];exact Nat.mul_le_mul_right _ hroom
    have C:=run_append_room (P:=P) w t o.type e i ht E g n cs c H v m cx news hl (λj u U=>by
     obtain⟨b,off,F,_,M⟩:=hnews j u U;obtain rfl:v=⟨b,off,aJ⟩:=by simpa using F
     rw[Addr.add_lit];exact M) h1 hroom y
    refine⟨_,C,⟨f,.inr ⟨g,cs,_,rfl,B,setRow_heap w g c _ e _ H,hroom,A,?_,?_⟩⟩,⟨rfl,rfl,rfl,by simp[World.setRow],λk _ J=>setRow_other w g k _ (λe=>J (by simp[gTh,e]))⟩⟩
    ·simp only[List.size_toArray,gTb,gTc,gTd,Array.length_toList];omega
    ·rw[q,<- f];exact List.take_left
 obtain⟨w',C,I,R⟩:=key;unfold Oper.wp execOp;simp only[ho,resolve,invoke,builtin,Sem.run_bind,Sem.run_pure,Result.andThen_ok,List.map_toArray,List.map_cons,List.map_nil,hs,hx,C];exact L _ _ (h w' I R)
theorem jL {base:Nat}(h:w.ownsRow base e size v n xs)(hg:w.grownBy w' row)(hne:∀k,v.ownBlock=aK k->row≠aK k):w'.ownsRow base e size v n xs:=by
 refine⟨h.1,?_⟩;rcases h.2 with i | ⟨g,d,c,f,j,a,b⟩
 ·exact .inl i
 ·refine .inr ⟨g,d,c,f,j,?_,b⟩;rw[hg.block g (Array.getElem?_eq_some_iff.1 a).1 (λe=>hne g (by rw[f];rfl) e.symm)];exact a
theorem Ep {P:Program}(sT ty:TypeId)(e:TypeId)(hu:P.underlying sT=aK (.slice e))(size:Nat)(z:Value)(hz:∀w,(zeroValue e).run P w= .ok z w)(hzs:z.cells.size=size)(hz1:∀u∈z.cells,u.oneCell'=true)
 (base n k c:Nat) (cc:Nat) (ao:Option Addr) (xs:List Value) (hown:w.ownsRow base e size (aA ao n c) n xs) (hfit:n+k<=c):
 ∃w',(Builtin.clear_ #[sT] ty #[aA (bY ao n c size) k cc]).run P w= .ok (aG #[]) w'/\w'.ownsRow base e size (aA ao n c) n xs/\w.grownBy w' (gTh (aA ao n c)):=by
 rcases Nat.eq_zero_or_pos k with rfl | s
 ·refine⟨w,?_,hown,⟨rfl,rfl,rfl,gT _,λ_ _ _=>rfl⟩⟩;cases bY ao n c size <;> simp[Builtin.clear_,run_underlying hu]
 ·rcases hown.2 with ⟨d,C⟩ | ⟨g,q,a,d,hb,r,B,o,v,t⟩
  ·obtain⟨rfl,rfl⟩:ao=aJ/\c=0:=by simp at d;exact⟨d.1,d.2.2⟩
   omega
  ·obtain⟨rfl,rfl⟩:ao=aK ⟨g,0,aJ⟩/\c=q:=by simpa using d
   have hcut:bY (aK ⟨g,0,aJ⟩) n c size=aK ⟨g,n*size,aJ⟩:=by
    unfold bY;rw[if_neg (by omega)];simp[Addr.add_lit]
   have h:(Builtin.zeroCells z.cells k).toList.length=k*size:=by rw[<- hzs];simp[Builtin.zeroCells]
   have j:∀u∈(Builtin.zeroCells z.cells k).toList,u.oneCell'=true:=by
    intro u hu;simp only[Builtin.zeroCells,Array.toList_map,List.mem_map,Array.toList_range,List.mem_range]at hu;obtain⟨i,A,rfl⟩:=hu;have f:0<z.cells.size:=by
     rcases Nat.eq_zero_or_pos z.cells.size with p | p
     ·rw[p,Nat.mul_zero]at A;omega
     ·exact p
    have l:i%z.cells.size<z.cells.size:=Nat.mod_lt _ f;rw[getElem!_pos z.cells (i%z.cells.size) l];exact hz1 _ (Array.getElem_mem _)
   have y:n*size+k*size<=c*size:=by rw[<- Nat.add_mul];exact Nat.mul_le_mul_right _ hfit
   have b:=run_storeCells_at P g (n*size) e (Builtin.zeroCells z.cells k).toList 0 a w r (by rw[h];omega) j;refine⟨w.setRow g (a.toList.take (n*size)++(Builtin.zeroCells z.cells k).toList++a.toList.drop (n*size+(Builtin.zeroCells z.cells k).toList.length)).toArray,?_,?_,?_⟩
   ·obtain⟨m,rfl⟩:∃m,k=m+1:=⟨k-1,by omega⟩
    simp only[Nat.add_zero]at b;simp[Builtin.clear_,run_underlying hu,hz,hcut,b]
   ·refine⟨hown.1,.inr ⟨g,c,_,rfl,hb,setRow_heap w g a _ e _ r,B,o,?_,?_⟩⟩
    ·simp only[List.size_toArray,gTb,gTc,gTd,Array.length_toList,h];omega
    ·have x:(a.toList.take (n*size)).length=n*size:=by rw[gTc,Array.length_toList];omega
     rw[List.append_assoc];rw[List.take_left' x];exact t
   ·exact⟨rfl,rfl,rfl,by simp[World.setRow],λk _ s=>setRow_other w g k _ (λe=>s (by simp[gTh,e]))⟩
theorem jM {P:Program}{w:World}(dT sT ty:TypeId)(e:TypeId)(hu:P.underlying dT=aK (.slice e))(size:Nat)(hsz:(P.info? e).map (·.size)=aK size)
 (dp sp:Option Addr) (dLen dCap sLen sCap:Nat)
 (cs:List Value) (hn:cs.length=Nat.min sLen dLen*size) (hcs:Row w sp cs) (h1:∀u∈cs,u.oneCell'=true)
 (base N co p:Nat) (ao:Option Addr) (xs:List Value) (hown:w.ownsRow base e size (aA ao N co) N xs) (hp:0<cs.length->dp=ao.map (·.add (p*size))) (hdn:dp=aJ->cs=[]) (hfit:p*size+cs.length<=N*size):
 ∃w',(Builtin.copy_ #[dT,sT] ty #[aA dp dLen dCap,aA sp sLen sCap]).run P w= .ok (goInt (Nat.min sLen dLen:Nat)) w'/\w'.ownsRow base e size (aA ao N co) N (xs.take (p*size)++cs++xs.drop (p*size+cs.length))/\w.grownBy w' (gTh (aA ao N co)):=by
 cases hq:P.info? e with
 | none=>simp[hq]at hsz
 | some i=>
  have r:i.size=size:=by simpa[hq]using hsz
  have o:=mV (P:=P) size (Nat.min sLen dLen) sp sLen sCap cs hn hcs;by_cases l:0<cs.length
  ·obtain⟨g,b,a,y,q,t,f,m,j,n⟩:∃g b a,aA ao N co=aA (aK ⟨g,0,aJ⟩) N b/\base<=g/\w.heap[g]? =aK (.cells a e (0,0))/\N<=b/\b<=maxLen/\a.size=b*size/\a.toList.take (N*size)=xs:=by
    rcases hown.2 with ⟨_,v⟩ | h
    ·rw[v,Nat.zero_mul]at hfit;omega
    ·exact h
   obtain⟨rfl,rfl⟩:ao=aK ⟨g,0,aJ⟩/\co=b:=by simpa using y
   have c:=hp l;simp only[Option.map_some,Addr.add_lit,Nat.zero_add]at c;subst c;have s:N*size<=a.size:=by rw[j];exact Nat.mul_le_mul_right _ f
   have d:=run_storeCells_at P g (p*size) e cs 0 a w t (by omega) h1;refine⟨w.setRow g (a.toList.take (p*size)++cs++a.toList.drop (p*size+cs.length)).toArray,?_,?_,?_⟩
   ·simp only[Nat.add_zero]at d;simp[Builtin.copy_,run_underlying hu,Builtin.lenOf,sizeOf,typeInfo,hq,r,o,d]
   ·refine⟨?_,.inr ⟨g,co,_,rfl,q,setRow_heap w g a _ e _ t,f,m,?_,?_⟩⟩
    ·have:=hown.1;simp only[gTb,gTc,gTd];omega
    ·simp only[List.size_toArray,gTb,gTc,gTd,Array.length_toList];omega
    ·exact Dh _ _ _ _ _ n (by simpa using s) hfit
   ·exact⟨rfl,rfl,rfl,by simp[World.setRow],λk _ x=>setRow_other w g k _ (λe=>x (by simp[gTh,e]))⟩
  ·have z:cs=[]:=List.eq_nil_of_length_eq_zero (by omega);subst z;refine⟨w,?_,by simpa using hown,⟨rfl,rfl,rfl,gT _,λ_ _ _=>rfl⟩⟩;cases dp with
   | none=>simp[Builtin.copy_,run_underlying hu,Builtin.lenOf,sizeOf,typeInfo,hq,r,o]
   | some ad=>simp[Builtin.copy_,run_underlying hu,Builtin.lenOf,sizeOf,typeInfo,hq,r,o,storeCells]
section
attribute [local go_sem ↓] iW
theorem aAJ (w:World):(zeroValue 82).run prog w= .ok (aC #[aB aI 0,aB aI 0,aB aI 0]) w:=by
 obtain⟨i,a,b,c,hb⟩:=info_parts uP;simp[zeroValue,typeInfo,a,b]
theorem sK (base:Nat)(a:Option Addr)(n c:Nat)(l:List Bk)(i:Nat)(w:World)(hown:w.ownsRow base 82 3 (aA a n c) n (flat aAx l))(hi:i<n)(hn:n<=1000)(hbase:base<=w.heap.size):
 Calls prog 85 #[aA a n c,aB aI i,aB aI (i+1)] w λev w'=>ev=aN (aA a (n-1) c)/\w'.ownsRow base 82 3 (aA a (n-1) c) (n-1) (flat aAx (l.eraseIdx i))/\w.grownBy w' (gTh (aA a n c)):=by
 have z:l.length=n:=aZ aAu (by decide) hown;have I:=dR hown;have q:c<=9223372036854775807:=by
  rcases hown.2 with ⟨v,O⟩ | ⟨g,y,H,v,_,_,_,q,_⟩
  ·simp at v;omega
  ·have:c=y:=by simp at v;exact v.2
   unfold maxLen at q;omega
 have C:=gO hown;clear hown;have S:(i:Int)<=n:=by omega
 have M:(i:Int)+1<=n:=by omega
 have V:(i:Int)<=c:=by omega
 have R:(i:Int)+1<=c:=by omega
 have W:(n:Int)<=c:=by omega
 have N:(0:Int)<=(i:Int)+1:=by omega
 have Q:((i:Int)+1).toNat=i+1:=by omega
 go_enter func85,ntmps85
 go_wp2_with fail
 go_still_tail 6,(by kernel_rfl)
 change wpList _ _ _ _ _ w.drew;have p:=own_below C.out ((gX w.heap.size w).drew) (gT _);have m:=(aV p).cut (i+1) c 3 ((n-(i+1))*3) (by omega);have t:=flat_length aAu l;rw[gTf (by rw[gTd,t];omega),fD aAu]at m;have j:=iY p (show i<=n by omega);rw[fC aAu]at j;have G:Hid (∀w',w.drew.grownBy w' (gTh (aA a i c))->w.grownBy w' (gTh (aA a n c))):=λw' h=>⟨h.os,h.tape,h.output,h.size,λk u o=>h.block k u (by cases a with | none=>simp[gTh] | some x=>simpa[gTh]using o)⟩
 have D:w.drew.heap.size=w.heap.size:=rfl;clear p;generalize w.drew=L at*;refine qQ rfl _ _ 37 rfl base 82 (aC #[aB aI 0,aB aI 0,aB aI 0]) 3 24 underlying37 uP (by decide) a i c _ rfl j (bY a (i+1) c 3) (n-(i+1)) (c-(i+1)) (flat aAx (l.drop (i+1))) rfl (by rw[flat_length aAu,gTd,z]) m (pJ _) (by omega) ?_;intro K b s;have d:=G.out K s;rw[<- aS,<- List.eraseIdx_eq_take_drop_succ]at b;have J:i+(n-(i+1))=n-1:=by omega
 rw[J]at b ⊢;have r:=gO b;have U:(n:Int)-1<=n:=by omega
 have X:((n-1:Nat):Int)<=n:=by omega
 have T:n-(n-1)=1:=by omega
 clear b s m j C t;obtain⟨E,F,f,e⟩:=Ep (P:=prog) 37 0 82 underlying37 3 (aC #[aB aI 0,aB aI 0,aB aI 0]) aAJ rfl (by decide) base (n-1) 1 c (c-(n-1)) a _ r.out (by omega);have A:=gO f;have B:Hid (w.grownBy E (gTh (aA a n c))):=⟨e.os.trans d.os,e.tape.trans d.tape,e.output.trans d.output,gQ d.size e.size,λk u o=>(e.block k (gI u d.size) (by cases a with | none=>simp[gTh] | some x=>simpa[gTh]using o)).trans (d.block k u o)⟩
 clear f r d e;go_wp2
 go_ret
 exact⟨rfl,A.out,B.out⟩
end
section
attribute [local go_sem ↓] iW
theorem wL {P:Program}{w:World}(t tn ty e:TypeId)(ht:P.underlying t=aK (.slice e))(htn:P.underlying tn=aK (.int .i64))(z:Value)(size bytes:Nat)(hinfo:(P.info? e).map (λi=>(i.zero,i.size,i.bytes))=aK (aK z,size,bytes))(hzs:z.cells.size=size)(hsz:0<size)
 (as_:Option Addr) (n cs:Nat) (xs:List Value) (base:Nat) (hown:w.ownsRow base e size (aA as_ n cs) n xs) (k:Nat) (hk:0<k) (hg:cs<n+k) (hbytes:(n+k)*bytes<=140737488355328) (hbp:0<bytes):
 ∃G zs w',(Builtin.append_ #[t,tn] ty #[aA as_ n cs,aB aI k]).run P w= .ok (aA (aK ⟨w.heap.size,0,aJ⟩) (n+k) G) w'/\zs.length=k*size/\w'.ownsRow w.heap.size e size (aA (aK ⟨w.heap.size,0,aJ⟩) (n+k) G) (n+k) (xs++zs)/\w.grownBy w' aJ:=by
 obtain⟨i,o,p,a,f⟩:=info_parts hinfo;subst a;subst f;have c:n+k<=maxLen:=by
  have:n+k<=(n+k)*i.bytes:=Nat.le_mul_of_pos_right _ hbp;simp only[maxLen];omega
 have b:(Builtin.firstCells i.size n (aA as_ n cs)).run P w.drew= .ok xs.toArray w.drew:=mV i.size n as_ n cs xs hown.1 (aV (own_below hown ((gX w.heap.size w).drew) (gT _)));have h:=Lib.run_append_grow_zeros (P:=P) w t tn ty e i z .i64 .i64 ht htn o p as_ n cs xs b k hk hsz hg (by unfold maxLen at c;omega) (by have:=Nat.mul_le_mul_right i.bytes (show k<=n+k by omega);omega) (growslice_fits hg hbytes);have d:=grownCap_ge w (n+k) cs e;have g:grownCap w (n+k) cs e<=maxLen:=grownCap_le_maxLen w (n+k) cs e c;refine⟨_,(Builtin.zeroCells z.cells k).toList,_,h,?_,⟨?_,.inr ⟨w.heap.size,_,_,rfl,gT _,heap_alloc_new w.drew _,d,g,?_,?_⟩⟩,⟨rfl,rfl,rfl,by simp,λj m _=>heap_alloc_old w.drew _ m⟩⟩
 ·rw[Array.length_toList,size_zeroCells,hzs]
 ·rw[gTb,hown.1,Array.length_toList,size_zeroCells,hzs,Nat.add_mul]
 ·simp only[Array.size_append,List.size_toArray,size_zeroCells,hzs,hown.1,<- Nat.add_mul];congr 1;omega
 ·have l:(xs++(Builtin.zeroCells z.cells k).toList).length=(n+k)*i.size:=by rw[gTb,hown.1,Array.length_toList,size_zeroCells,hzs,Nat.add_mul]
  simp only[Array.toList_append];rw[<- l];exact List.take_left
theorem kM {P:Program}{w:World}{ops:Array Oper}{rest:List Oper}{o:Oper}{a:Act}{Q:Exit->Act->World->Prop}(hgd:o.guard=aJ)(s x:Operand)(t tn:TypeId)
 (ho:o.op= .call {callee:= .builtin .append,args:=#[s,x],argTypes:=#[t,tn]}) (v u:Value) (hs:a.eval s=v) (hx:a.eval x=u) {v':Value} {w':World}
 (hr:(Builtin.append_ #[t,tn] o.type #[v,u]).run P w= .ok v' w') (h:wpList P ops Q rest (a.put o.dst v') w'):wpList P ops Q (o::rest) a w:=by
 refine wpList_plain hgd λK b=> ?_
 unfold Oper.wp execOp;simp only[ho,resolve,invoke,builtin,Sem.run_bind,Sem.run_pure,Result.andThen_ok,List.map_toArray,List.map_cons,List.map_nil,hs,hx,hr];exact b _ _ h
theorem QJ (base:Nat)(a:Option Addr)(n c g:Nat)(l:List Bk)(b:Bk)(w:World)(hown:w.ownsRow base 82 3 (aA a n c) n (flat aAx l))(hn:n<=1000)(hbase:base<=w.heap.size)(hv:Row w (aK ⟨g,0,aJ⟩) (aAx b)):
 Calls prog 106 #[aA a n c,aB aI n,aA (aK ⟨g,0,aJ⟩) 1 1] w λev w'=>∃a' c',ev=aN (aA a' (n+1) c')/\w'.ownsRow base 82 3 (aA a' (n+1) c') (n+1) (flat aAx (l++[b]))/\w.grownBy w' (gTh (aA a n c)):=by
 have h:=dR hown;have f:=gO hown;clear hown;have k:(n:Int)<=c:=by omega
 go_enter func106,ntmps106
 go_wp2_with (at_builtin;refine iV rfl _ _ 37 rfl base 82 (aC #[aB aI 0,aB aI 0,aB aI 0]) 3 24 underlying37 uP rfl (by decide) (by decide) _ _ _ _ rfl f.out (aK ⟨g,0,aJ⟩) 1 1 (aAx b) rfl rfl hv (by simp[aAx,vI,Value.oneCell']) (by omega) hbase ?_)
 intro a' c' j d i;rw[show flat aAx l++aAx b=flat aAx (l++[b])from by rw[aS,fJ]]at d;have e:=gO d;clear d f;go_wp2
 go_ret
 exact⟨a',c',rfl,e.out,i⟩
theorem Nz (base:Nat)(a:Option Addr)(n c g i:Nat)(l:List Bk)(b:Bk)(w:World)(hown:w.ownsRow base 82 3 (aA a n c) n (flat aAx l))(hi:i<n)(hn:n<=1000)(hc:c<n+1)(hbase:base<=w.heap.size)(hv:Row w (aK ⟨g,0,aJ⟩) (aAx b)):
 Calls prog 106 #[aA a n c,aB aI i,aA (aK ⟨g,0,aJ⟩) 1 1] w λev w'=>∃a' c',ev=aN (aA a' (n+1) c')/\w'.ownsRow base 82 3 (aA a' (n+1) c') (n+1) (flat aAx (l.take i++b::l.drop i))/\w.grownBy w' (gTh (aA a n c)):=by
 have U:=dR hown;have J:l.length=n:=aZ aAu (by decide) hown;have L:=flat_length aAu l;obtain⟨G,zs,X,t,F,d,v⟩:=wL (P:=prog) 37 3 37 82 underlying37 underlying3 (aC #[aB aI 0,aB aI 0,aB aI 0]) 3 24 uP rfl (by decide) a i c _ base (iY hown (show i<=n by omega)) (n+1-i) (by omega) (by omega) (by omega) (by omega);rw[show i+(n+1-i)=n+1 by omega]at t d;rw[show((n+1-i:Nat):Int)=(n:Int)+1-(i:Int)by omega]at t;rw[fC aAu]at d;have HR:=gO (aV hown);have V:=dR d;have B:=gO d;have C:=gO v;have s:=gO ((gX w.heap.size w).grown v (gT _) (by simp));have b0:(i:Int)<=n:=by omega
 have b2:(i:Int)<=c:=by omega
 have b3:¬(i:Int)=n:=by omega
 have b4:(c:Int)<(n:Int)+1:=by omega
 have Y:(i:Int)<=(n:Int)+1:=by omega
 have Z:((n+1:Nat):Int)<=G:=by omega
 have A:(prog.info? 82).map (·.size)=aK 3:=by kernel_rfl
 have y:=hv.mono s.out (gT _);have q:(flat aAx (l.take i)).length=i*3:=by rw[flat_length aAu,gTc];omega
 have E:bY (aK ⟨w.heap.size,0,aJ⟩) i G 3=(aK ⟨w.heap.size,0,aJ⟩:Option Addr).map (·.add (i*3)):=by unfold bY;rw[if_neg (by omega)]
 have K:bY (aK ⟨w.heap.size,0,aJ⟩) (i+1) G 3=(aK ⟨w.heap.size,0,aJ⟩:Option Addr).map (·.add ((i+1)*3)):=by unfold bY;rw[if_neg (by omega)]
 obtain⟨D,N,e,f⟩:=jM (P:=prog) 37 37 3 82 underlying37 3 A (bY (aK ⟨w.heap.size,0,aJ⟩) i G 3) (aK ⟨g,0,aJ⟩) (n+1-i) (G-i) 1 1 (aAx b) (by rw[show Nat.min 1 (n+1-i)=1 from Nat.min_eq_left (by omega)];rfl) y (by simp[aAx,vI,Value.oneCell']) w.heap.size (n+1) G i (aK ⟨w.heap.size,0,aJ⟩) _ B.out (λ_=>E) (λh=>by rw[E]at h;simp at h) (by rw[aAu];omega);rw[aAu,List.take_left' q,<- Nat.succ_mul]at e;have o:(flat aAx (l.take i)++zs).drop ((i+1)*3)=zs.drop 3:=by rw[List.drop_append,List.drop_eq_nil_of_le (by omega),q,List.nil_append];congr 1;omega
 rw[Nat.succ_eq_add_one,o]at e;have r:=(s.out.grown f s.out.size (by intro k z;simp[gTh]at z;omega)).drew;have O:=own_below e ((gX D.heap.size D).drew) (gT _);have p:=((aV hown).mono r (gT _)).cut i c 3 ((n-i)*3) (by omega);rw[gTf (by rw[gTd,L];omega),fD aAu]at p;have x:(flat aAx (l.drop i)).length=(n-i)*3:=by rw[flat_length aAu,gTd,J]
 obtain⟨S,M,j,m⟩:=jM (P:=prog) (w:=D.drew) 37 37 3 82 underlying37 3 A (bY (aK ⟨w.heap.size,0,aJ⟩) (i+1) G 3) (bY a i c 3) (n-i) (G-(i+1)) (n-i) (c-i) (flat aAx (l.drop i)) (by rw[x,show Nat.min (n-i) (n-i)=n-i from Nat.min_self _]) p (pJ _) w.heap.size (n+1) G (i+1) (aK ⟨w.heap.size,0,aJ⟩) _ O (λ_=>K) (λh=>by rw[K]at h;simp at h) (by rw[x];omega);rw[show(flat aAx (l.take i)++aAx b++zs.drop 3).take ((i+1)*3)=flat aAx (l.take i)++aAx b from List.take_left' (by rw[gTb,q,aAu];omega),x,show(flat aAx (l.take i)++aAx b++zs.drop 3).drop ((i+1)*3+(n-i)*3)=[]from List.drop_eq_nil_of_le (by simp only[gTb,q,aAu,gTd,F];omega),List.append_nil,<- fJ aAx b,<- aS,<- aS,List.append_assoc,List.singleton_append]at j;have H:=gO (own_base j hbase);have I:Hid (w.grownBy S (gTh (aA a n c))):=by
  have u:=C.out;refine⟨m.os.trans (f.os.trans u.os),m.tape.trans (f.tape.trans u.tape),m.output.trans (f.output.trans u.output),gQ u.size (gQ f.size m.size),λk z R=> ?_⟩;have Q:aK k≠gTh (aA (aK ⟨w.heap.size,0,aJ⟩) (n+1) G):=by simp[gTh];omega
  exact(m.block k (gI z (gQ u.size f.size)) Q).trans ((f.block k (gI z u.size) Q).trans (u.block k z (by simp)))
 have b7:((i:Int)+1)<=G:=by omega
 have s1:IntKind.i64.wrap ((i:Int)+1)=(i:Int)+1:=IntWalk.i64_in _ (by omega);have b8:0<=(i:Int)+1:=by omega
 have b9:((i:Int)+1).toNat=i+1:=by omega
 have T:(i:Int)+1<=(n:Int)+1:=by omega
 clear hown e O j v f m d p y r B HR C o E K;go_enter func106,ntmps106
 go_wp2_with (at_builtin;refine kM rfl _ _ 37 3 rfl _ _ rfl rfl t ?_)
 go_still_tail 8,(by kernel_rfl)
 change wpList _ _ _ _ _ D.drew;generalize D.drew=W at*;go_wp2
 go_ret
 exact⟨_,_,rfl,H.out,I.out⟩
end
section
attribute [local go_sem ↓] iW
theorem sN {off:Nat}(h:Row w (aK ⟨b,off,aJ⟩) cs)(hg:w.grownBy w' row)(hne:aK b≠row):Row w' (aK ⟨b,off,aJ⟩) cs:=by
 intro j v d;obtain⟨g,a,e,c,f⟩:=h j v d;obtain⟨rfl,rfl⟩:b=g/\off=a:=by simpa using e
 refine⟨b,off,rfl,gI c hg.size,?_⟩;rw[World.cell?_of_block (hg.block b c hne)];exact f
theorem Kr (base:Nat)(a:Option Addr)(n c g i:Nat)(l:List Bk)(b:Bk)(w:World)(hown:w.ownsRow base 82 3 (aA a n c) n (flat aAx l))(hi:i<n)(hn:n<=1000)(hc:n+1<=c)(hbase:base<=w.heap.size)(hgb:w.heap[g]? =aK (.cells (aAx b).toArray 82 (0,0)))(hne:aK g≠gTh (aA a n c))(hv:Row w (aK ⟨g,0,aJ⟩) (aAx b)):
 Calls prog 106 #[aA a n c,aB aI i,aA (aK ⟨g,0,aJ⟩) 1 1] w λev w'=>∃a' c',ev=aN (aA a' (n+1) c')/\w'.ownsRow base 82 3 (aA a' (n+1) c') (n+1) (flat aAx (l.take i++b::l.drop i))/\w.grownBy w' (gTh (aA a n c)):=by
 have K:l.length=n:=aZ aAu (by decide) hown;have u:=flat_length aAu l;obtain⟨d,s,rfl,E,C,v⟩:∃d s,a=aK ⟨d,0,aJ⟩/\w.heap[d]? =aK (.cells s 82 (0,0))/\s.size=c*3/\c<=maxLen:=by
  rcases hown.2 with ⟨S,h2⟩ | ⟨d,H,s,S,_,Y,_,v,hs,_⟩
  ·omega
  ·obtain⟨rfl,rfl⟩:a=aK ⟨d,0,aJ⟩/\c=H:=by simpa using S
   exact⟨d,s,rfl,Y,hs,v⟩
 have L:g≠d:=λe=>hne (by rw[e];rfl)
 have hcut:∀j,j<=n->bY (aK ⟨d,0,aJ⟩) j c 3=(aK ⟨d,0,aJ⟩:Option Addr).map (·.add (j*3)):=λj hj=>by unfold bY;rw[if_neg (by omega)]
 have Q:bY (aK ⟨d,0,aJ⟩) (i+1) c 3=aK ⟨d,(i+1)*3,aJ⟩:=by rw[hcut _ (by omega)];simp[Addr.add_lit]
 have B:(prog.info? 82).map (·.size)=aK 3:=by kernel_rfl
 have F:(callFunc 137 #[aA (aK ⟨g,0,aJ⟩) 1 1,aA (bY (aK ⟨d,0,aJ⟩) (i+1) c 3) (n-i) (c-(i+1))]).run prog w= .ok (.value (.bool false)) w:=by
  rw[Q,run_callFunc_extern func137 (by kernel_rfl) (by kernel_rfl) (by kernel_rfl) (e:=Extern.SlicesOverlaps.overlaps #[37,37] #[4]) (by kernel_rfl),
   Lib.run_overlaps_apart w 37 4 82 underlying37 3 Tryz.sizeOf82 ⟨g,0,aJ⟩ ⟨d,(i+1)*3,aJ⟩ 1 1 _ _ L 82 82 3 (c*3) (by simp[World.shape?,hgb,aAx]) (by simp[World.shape?,E,C]) (by omega) (by simp[World.frozen?,hgb]) (by simp[World.frozen?,hgb])]
  rfl
 obtain⟨y,G,r⟩:=wH hown (show n<=n+1 by omega) hc;rw[show(n+1-n)*3=3 by omega]at G;have x:(flat aAx (l.drop i)).length=(n-i)*3:=by rw[flat_length aAu,gTd,K]
 have Z:(flat aAx (l.take i)).length=i*3:=by rw[flat_length aAu,gTc];omega
 have z:Below w.heap.size w w.drew:=(gX w.heap.size w).drew;have p:=own_below r z (gT _);have t:=((aV hown).below z).cut i c 3 ((n-i)*3) (by omega);rw[gTf (by rw[gTd,u];omega),fD aAu]at t;obtain⟨w2,N,o,f⟩:=jM (P:=prog) (w:=w.drew) 37 37 3 82 underlying37 3 B (bY (aK ⟨d,0,aJ⟩) (i+1) c 3) (bY (aK ⟨d,0,aJ⟩) i c 3) (n-i) (c-(i+1)) (n+1-i) (c-i) (flat aAx (l.drop i)) (by rw[x,show Nat.min (n+1-i) (n-i)=n-i from Nat.min_eq_right (by omega)]) t (pJ _) base (n+1) c (i+1) (aK ⟨d,0,aJ⟩) _ p (λ_=>hcut _ (by omega)) (λh=>by rw[hcut _ (by omega)]at h;simp at h) (by rw[x];omega);have O:((flat aAx l++y).take ((i+1)*3)++flat aAx (l.drop i)++(flat aAx l++y).drop ((i+1)*3+(flat aAx (l.drop i)).length))=(flat aAx l++y).take ((i+1)*3)++flat aAx (l.drop i):=by
  rw[show(flat aAx l++y).drop ((i+1)*3+(flat aAx (l.drop i)).length)=[]from List.drop_eq_nil_of_le (by rw[gTb,u,x];omega),List.append_nil]
 rw[O]at o;have U:((flat aAx l++y).take ((i+1)*3)).length=(i+1)*3:=by rw[gTc,gTb,u];omega
 have A:=sN (hv.below z) f hne;obtain⟨W,M,m,q⟩:=jM (P:=prog) (w:=w2) 37 37 3 82 underlying37 3 B (bY (aK ⟨d,0,aJ⟩) i c 3) (aK ⟨g,0,aJ⟩) (n+1-i) (c-i) 1 1 (aAx b) (by rw[show Nat.min 1 (n+1-i)=1 from Nat.min_eq_left (by omega)];rfl) A (by simp[aAx,vI,Value.oneCell']) base (n+1) c i (aK ⟨d,0,aJ⟩) _ o (λ_=>hcut _ (by omega)) (λh=>by rw[hcut _ (by omega)]at h;simp at h) (by rw[aAu];omega);have T:((flat aAx l++y).take ((i+1)*3)++flat aAx (l.drop i)).take (i*3)++aAx b++((flat aAx l++y).take ((i+1)*3)++flat aAx (l.drop i)).drop (i*3+(aAx b).length)=flat aAx (l.take i++b::l.drop i):=by
  rw[aAu,show i*3+3=(i+1)*3 by omega,List.drop_left' U,List.take_append_of_le_length (by rw[U];omega),List.take_take,show min (i*3) ((i+1)*3)=i*3 by omega,List.take_append_of_le_length (by rw[u];omega),fC aAu,aS,dS,List.append_assoc]
 rw[T]at m;have I:=gO m;have J:Hid (w.grownBy W (gTh (aA (aK ⟨d,0,aJ⟩) n c))):=
  ⟨q.os.trans f.os,q.tape.trans f.tape,q.output.trans f.output,gQ f.size q.size,λk R D=>(q.block k (gI R f.size) D).trans (f.block k R D)⟩
 have b0:(i:Int)<=n:=by omega
 have b2:(i:Int)<=c:=by omega
 have b3:¬(i:Int)=n:=by omega
 have b4:¬(c:Int)<(n:Int)+1:=by omega
 have b5:(i:Int)<=(n:Int)+1:=by omega
 have b6:(n:Int)+1<=c:=by omega
 have b7:((i:Int)+1)<=c:=by omega
 have s1:IntKind.i64.wrap ((i:Int)+1)=(i:Int)+1:=IntWalk.i64_in _ (by omega);have b8:0<=(i:Int)+1:=by omega
 have b9:((i:Int)+1).toNat=i+1:=by omega
 have X:(i:Int)+1<=(n:Int)+1:=by omega
 have V:((n:Int)+1).toNat=n+1:=by omega
 have b12:c<=9223372036854775807:=by unfold maxLen at v;omega
 clear hown r p t o m f q O T hv A hcut Q E hgb C;go_enter func106,ntmps106
 go_wp2_with (simp only[F])
 go_still_tail 8,(by kernel_rfl)
 change wpList _ _ _ _ _ w.drew;go_wp2
 go_ret
 exact⟨_,_,rfl,I.out,J.out⟩
theorem nP (base:Nat)(a:Option Addr)(n c g i:Nat)(l:List Bk)(b:Bk)(w:World)(hown:w.ownsRow base 82 3 (aA a n c) n (flat aAx l))(hi:i<=n)(hn:n<=1000)(hbase:base<=w.heap.size)(hgb:w.heap[g]? =aK (.cells (aAx b).toArray 82 (0,0)))(hne:aK g≠gTh (aA a n c)):
 Calls prog 106 #[aA a n c,aB aI i,aA (aK ⟨g,0,aJ⟩) 1 1] w λev w'=>∃a' c',ev=aN (aA a' (n+1) c')/\w'.ownsRow base 82 3 (aA a' (n+1) c') (n+1) (flat aAx (l.take i++b::l.drop i))/\w.grownBy w' (gTh (aA a n c)):=by
 have d:g<w.heap.size:=(Array.getElem?_eq_some_iff.1 hgb).1;have e:Row w (aK ⟨g,0,aJ⟩) (aAx b):=by
  intro j v k;exact⟨g,0,rfl,d,by rw[Nat.zero_add,cell_of_row _ _ _ _ _ _ hgb];simpa using k⟩
 have f:l.length=n:=aZ aAu (by decide) hown;by_cases h:i=n
 ·subst h;have:=QJ base a i c g l b w hown hn hbase e;rw[gTf (by omega),List.drop_eq_nil_of_le (by omega)];exact this
 ·by_cases m:n+1<=c
  ·exact Kr base a n c g i l b w hown (by omega) hn m hbase hgb hne e
  ·exact Nz base a n c g i l b w hown (by omega) hn (by omega) hbase e
end
theorem XQ (x b:Bk)(B:Nat)(W:World)(hx:x.o<=4)(hxa:x.a<=1000)(hb:b.o<=4)(hba:b.a<=1000)(hB:B<W.heap.size)(h0:W.cell? ⟨B,0,aJ⟩=aK (aB aI b.a))(h1:W.cell? ⟨B,1,aJ⟩=aK (aB aI b.o))(h2:W.cell? ⟨B,2,aJ⟩=aK (aB aI b.t)):
 Calls prog 145 (#[.agg (aAx x).toArray]++#[aH (aK ⟨B,0,aJ⟩)]) W λev w'=>ev=aN (.bool (decide (x.a<b.fin/\b.a<x.fin)))/\Below W.heap.size W w':=by
 show Calls prog 145 #[aC #[aB aI x.a,aB aI x.o,aB aI x.t],aH (aK ⟨B,0,aJ⟩)] W _;have c:=aAq W (aO #[aB aI (x.a:Int),aB aI (x.o:Int),aB aI (x.t:Int)] 82);have K:=aQ W #[aB aI (x.a:Int),aB aI (x.o:Int),aB aI (x.t:Int)] 82;have l:W.heap.size<(W.alloc (aO #[aB aI (x.a:Int),aB aI (x.o:Int),aB aI (x.t:Int)] 82)).heap.size:=by simp
 have g:B<(W.alloc (aO #[aB aI (x.a:Int),aB aI (x.o:Int),aB aI (x.t:Int)] 82)).heap.size:=by omega
 have k:=(c.cell (p:=⟨B,0,aJ⟩) hB).trans h0;have j:=(c.cell (p:=⟨B,1,aJ⟩) hB).trans h1;have i:=(c.cell (p:=⟨B,2,aJ⟩) hB).trans h2;have h:=K 0;have k1:=K 1;have k2:=K 2;simp only[gB,gC,gD]at h k1 k2;have m:((x.a:Int)<(b.fin:Int))↔x.a<b.fin:=by omega
 clear h0 h1 h2 K;cases hd:decide (x.a<b.fin)with
 | true=>
  have e:decide ((x.a:Int)<(b.fin:Int))=true:=gTg (by have:=of_decide_eq_true hd;omega);go_enter func145,ntmps145
  go_wp2_with fail
  generalize W.alloc _=f at*;refine aU (by kernel_rfl) (by kernel_rfl) ?_
  repeat (first | go_big_quiet_step ((go_at_call 116;first | with_reducible exact Calls.bV (kF b _ hb hba) | with_reducible exact Calls.bV (kF x _ hx hxa))) | quiet_step ((go_at_call 116;first | with_reducible exact Calls.bV (kF b _ hb hba) | with_reducible exact Calls.bV (kF x _ hx hxa))))
  refine wpQuiet_nil ?_;rintro _ ⟨wx,rfl⟩;have d:=gW c (aT f wx);go_wp2
  go_ret
  exact⟨aX (by rw[Bool.decide_and,hd,Bool.true_and]),d⟩
 | false=>
  have e:decide ((x.a:Int)<(b.fin:Int))=false:=gV (by have:=of_decide_eq_false hd;omega);go_enter func145,ntmps145
  go_wp2_with fail
  generalize W.alloc _=f at*;refine aU (by kernel_rfl) (by kernel_rfl) ?_
  repeat (first | go_big_quiet_step ((go_at_call 116;first | with_reducible exact Calls.bV (kF b _ hb hba) | with_reducible exact Calls.bV (kF x _ hx hxa))) | quiet_step ((go_at_call 116;first | with_reducible exact Calls.bV (kF b _ hb hba) | with_reducible exact Calls.bV (kF x _ hx hxa))))
  refine wpQuiet_nil ?_;rintro _ ⟨wx,rfl⟩;have d:=gW c (aT f wx);go_wp2
  go_ret
  exact⟨aX (by rw[Bool.decide_and,hd,Bool.false_and]),d⟩
theorem aFi (b:Bk)(o t B C:Nat)(W:World)(hB:B<W.heap.size)(hc:W.cell? ⟨B,0,aJ⟩=aK (aB aI o))(hC:C<W.heap.size)(hc2:W.cell? ⟨C,0,aJ⟩=aK (aB aI t)):
 Calls prog 184 (#[.agg (aAx b).toArray]++#[aH (aK ⟨B,0,aJ⟩),aH (aK ⟨C,0,aJ⟩)]) W λev w'=>ev=aN (.bool (decide (b.o=o/\b.t=t)))/\Below W.heap.size W w':=by
 have f:B≠W.heap.size:=by omega
 have e:C≠W.heap.size:=by omega
 show Calls prog 184 #[aC #[aB aI b.a,aB aI b.o,aB aI b.t],aH (aK ⟨B,0,aJ⟩),aH (aK ⟨C,0,aJ⟩)] W _;by_cases c:b.o=o
 ·by_cases d:b.t=t
  ·subst c d;go_enter func184,ntmps184
   go_wp2
   go_ret
   exact⟨aX (by simp),aAq _ _⟩
  ·have g:((b.t:Int) == (t:Int))=false:=by rw[beq_eq_false_iff_ne];omega
   subst c;go_enter func184,ntmps184
   go_wp2
   go_ret
   exact⟨aX (by symm;exact gV (λh=>d h.2)),aAq _ _⟩
 ·have i:((b.o:Int) == (o:Int))=false:=by rw[beq_eq_false_iff_ne];omega
  go_enter func184,ntmps184
  go_wp2
  go_ret
  exact⟨aX (by symm;exact gV (λh=>c h.1)),aAq _ _⟩
theorem BP (a1 a2:Option Addr)(n1 n2 c1 c2:Nat)(f e:Nat)(z:Zn)(o t:Nat)(w:World)(hat:JY w a1 a2 n1 n2 z)(hl:n1<=1000):
 Calls prog 173 #[aC #[aB aI f,aB aI e,aA a1 n1 c1,aA a2 n2 c2],aB aI o,aB aI t] w λev w'=>ev=aN (aB aI (dA (λb=>decide (b.o=o/\b.t=t)) z.l))/\Below w.heap.size w w':=by
 obtain⟨r,j,h,y,q,n,v,c⟩:=boxes3 w #[aB aI (f:Int),aB aI (e:Int),aA a1 n1 c1,aA a2 n2 c2] 79 #[aB aI (o:Int)] 3 #[aB aI (t:Int)] 3;have u:=hat.below c;have l1:=hat.l1;have m:=j 0;have i:=h 0;simp only[gB,gC]at m i;clear hat r j h y q n;have s:∀a w,(callFunc 184 a).run prog w= .ok (.enter 184 a) w:=enters_of func184 (by kernel_rfl) rfl;go_enter func173,ntmps173
 go_wp2_with fail
 generalize ((w.alloc _).alloc _).alloc _=k at*;refine(Dv _ _ _ z.l _ _ (λb=>decide (b.o=o/\b.t=t)) _ l1 (by omega) u.r1 s (λW d x B=>aFi x o t _ _ W (gI (show w.heap.size+1<k.heap.size by omega) d.size) ((d.cell (p:=⟨w.heap.size+1,0,aJ⟩) (by show w.heap.size+1<_;omega)).trans m) (gI (show w.heap.size+1+1<k.heap.size by omega) d.size) ((d.cell (p:=⟨w.heap.size+1+1,0,aJ⟩) (by show w.heap.size+1+1<_;omega)).trans i))).mono ?_;rintro ev A ⟨rfl,g⟩;go_wp2
 go_ret
 exact⟨dO (by simp only[Bool.decide_and]),gW c g⟩
theorem IZ (y:List Nat)(i t:Nat):(flat iF y).set i (vI t)=flat iF (y.set i t):=by
 have h:∀y:List Nat,flat iF y=y.map fun(t:Nat)=>vI t:=λy=>by
  unfold flat iF
  induction y with
  | nil=>rfl
  | cons x y ih=>rw[List.flatMap_cons,ih];rfl
 rw[h,h,List.map_set]
theorem Vm (k v:Nat):flat iF (List.replicate k v)=List.replicate k (vI v):=by
 unfold flat iF
 induction k with
 | zero=>rfl
 | succ k ih=>rw[List.replicate_succ,List.flatMap_cons,ih];rfl
theorem QT (f e k:Nat)(w:World)(h1:f<=e)(h2:e<=256)(h3:f%16=0)(h4:e%16=0)(hk:k=(e-f)/8):
 Calls prog 97 #[aB aI f,aB aI e] w λev w'=>∃a2 c2,ev=aN (aG #[aC #[aB aI f,aB aI e,aA aJ 0 0,aA a2 k c2],aB aI 0])/\iH w' w.heap.size aJ a2 0 k 0 c2 ⟨f,e,[],List.replicate k 1⟩/\Below w.heap.size w w':=by
 obtain⟨Y,Q,X,q,G⟩:=info_parts lM;have d1:decide ((256:Int)<e)=false:=gV (by omega);have d2:decide (e<f)=false:=gV (by omega);have d3:(f:Int)%16=0:=by omega
 have d4:(e:Int)%16=0:=by omega
 have d5:(f:Int)<=e:=by omega
 have P:((e:Int)-f)/8=(k:Int):=by omega
 have T:k<=32:=by omega
 have W:(k:Int)<=32:=by omega
 clear hk;obtain⟨K,L,O,t⟩:=boxes1 w #[aB aI 0,aB aI 0,aA aJ 0 0,aA aJ 0 0] 79;go_enter func97,ntmps97
 go_wp2_with (at_make;refine wpList_make_full _ rfl _ _ 34 rfl (w.alloc (aO #[aB aI 0,aB aI 0,aA aJ 0 0,aA aJ 0 0] 79)).heap.size 3 Y (aB aI 0) 1 underlying34 Q X q .i64 .i64 _ _ k rfl rfl P P ?q1 ?q2 ?q3 ?_)
 case q1=>rw[G];omega
 case q2=>unfold maxLen;omega
 case q3=>exact gT _
 intro l a b;rw[toList_madeCells_one]at a;have I:=t.grown b (by simp) (by simp);have Z:w.heap.size+1<l.heap.size:=by have:=(a.lt _ rfl).2;simpa using this
 have N:∀o,l.cell? ⟨w.heap.size,o,aJ⟩=(#[aB aI 0,aB aI 0,aA aJ 0 0,aA aJ 0 0]:Array Value)[o]? :=λo=>by rw[World.cell?_of_block (b.block w.heap.size (by simp) (by simp))];exact K o
 have J:∀o,l.frozen? ⟨w.heap.size,o,aJ⟩=false:=λo=>by rw[World.frozen?_of_block (b.block w.heap.size (by simp) (by simp))];exact L o
 have j:=aAq l (aO #[aB aI (f:Int),aB aI (e:Int),aA aJ 0 0,aA (aK ⟨w.heap.size+1,0,aJ⟩) k k] 79);have d:=own_below a j (gT _);have M:=aQ l #[aB aI (f:Int),aB aI (e:Int),aA aJ 0 0,aA (aK ⟨w.heap.size+1,0,aJ⟩) k k] 79;have B:=aAp N (by omega) j;have x:=aAt J (by omega) j;have hs2:l.heap.size<(l.alloc (aO #[aB aI (f:Int),aB aI (e:Int),aA aJ 0 0,aA (aK ⟨w.heap.size+1,0,aJ⟩) k k] 79)).heap.size:=by simp
 have y:=gW I j;rw[show List.replicate k (aB aI 0)=flat iF (List.replicate k 0)from(Vm k 0).symm]at d;have u:=gO d;clear a d b N J I j K L;go_wp2
 generalize l.alloc _=w2 at*;generalize l.heap.size=B6 at*;go_loopw [7,41] (λ_ r wr=>∃i:Nat,i<=k/\r=aB aI i/\Hid (wr.ownsRow (w.heap.size+1) 3 1 (aA (aK ⟨w.heap.size+1,0,aJ⟩) k k) k (flat iF (List.replicate i 1++List.replicate (k-i) 0)))/\Hid (∀o,wr.cell? ⟨B6,o,aJ⟩=(#[aB aI (f:Int),aB aI (e:Int),aA aJ 0 0,aA (aK ⟨w.heap.size+1,0,aJ⟩) k k]:Array Value)[o]?)/\Hid (∀o,wr.cell? ⟨w.heap.size,o,aJ⟩=(#[aB aI 0,aB aI 0,aA aJ 0 0,aA aJ 0 0]:Array Value)[o]?)/\Hid (∀o,wr.frozen? ⟨w.heap.size,o,aJ⟩=false)/\Below w.heap.size w wr) (λ_ r _=>k-(intOf r).toNat)
 case atStart=>exact⟨0,gU _,rfl,by simpa[Hid]using u.out,M,B,x,y⟩
 case round=>
  obtain⟨i,Q,rfl,a,s,m,n,A⟩:=hrel;clear u M B x;by_cases S:i<k
  ·obtain⟨g,v,V,hg,hgs,hc,hf⟩:=fH a.out i (by rw[flat_length bU];simp;omega);obtain rfl:w.heap.size+1=g:=by simpa using V
   have z:=s.out;have h:=(World.ownsRow.stored a.out i (vI 1)).1;have p:(flat iF (List.replicate i 1++List.replicate (k-i) 0)).set i (vI 1)=flat iF (List.replicate (i+1) 1++List.replicate (k-(i+1)) 0):=by
    rw[show(vI 1)=vI ((1:Nat):Int)from rfl,IZ];congr 1;rw[List.set_append_right _ _ (by simp),List.length_replicate,Nat.sub_self,show k-i=(k-(i+1))+1 by omega,List.replicate_succ,gG,List.replicate_succ',List.append_assoc];rfl
   rw[p]at h;have HN:=gO h;have D:=gO (aAc z (c:=w.heap.size+1) (by omega) i (aB aI 1));have H:=gO (aAc m.out (c:=w.heap.size+1) (by omega) i (aB aI 1));have F:=gO (aAs n.out ⟨w.heap.size+1,i,aJ⟩ (aB aI 1));clear h p a m n;go_wp2
   go_roundw
   case rel=>exact⟨i+1,by omega,by go_num,HN.out,D.out,H.out,F.out,A.setCell (by simp only;omega) _⟩
   case measure=>simp[intOf];omega
  ·obtain rfl:i=k:=by omega
   rw[Nat.sub_self,List.replicate_zero,List.append_nil]at a;have z:=s.out;have E:=m.out;have U:=n.out;have R:=gO (show iH wr (w.heap.size+1) aJ (aK ⟨w.heap.size+1,0,aJ⟩) 0 i 0 i ⟨f,e,[],List.replicate i 1⟩from⟨rfl,by simp,World.ownsRow_nil _ _ _ _,a.out⟩);clear a s m n;go_wp2
   have C:=R.out.ne (g:=w.heap.size) (.inl (by omega));refine bodyPost_ret (v:=aG #[aC #[aB aI f,aB aI e,aA aJ 0 0,aA (aK ⟨w.heap.size+1,0,aJ⟩) i i],aB aI 0]) (by simp[results,results97,go_sem,E]) rfl ⟨aK ⟨w.heap.size+1,0,aJ⟩,i,rfl,((((R.out.set C _ _).set C _ _).set C _ _).set C _ _).base (by omega),?_⟩;exact Below.setCell (Below.setCell (Below.setCell (Below.setCell A (by simp only;omega) _) (by simp only;omega) _) (by simp only;omega) _) (by simp only;omega) _
theorem aAM:∀a:Nat,a<256->∀o:Nat,o<5->a%2^o=0->bits .xor .i64 (a:Int) (2^o)=((l9 a o:Nat):Int):=by decide+kernel
theorem Ya {a:Nat}(ha:a<256)(ho:o<=4)(hm:a%2^o=0):bits .xor .i64 (a:Int) (2^o)=((l9 a o:Nat):Int):=aAM a ha o (by omega) hm
theorem TM (t:Nat)(w:World)(ht:t<3):
 Calls prog 114 (#[aB aI (t:Int)]++#[]) w λev w'=>ev=aN (.bool false)/\Below w.heap.size w w':=by
 show Calls prog 114 #[aB aI (t:Int)] w _;go_enter func114,ntmps114
 go_wp2
 go_ret
 refine⟨aX (gV (by omega)),gX _ _⟩
theorem Af (t:Nat)(w:World)(ht:t<3):
 Calls prog 114 #[aB aI (t:Int)] w λev w'=>ev=aN (.bool false)/\Below w.heap.size w w':=TM t w ht
theorem qC (a1 a2:Option Addr)(n1 n2 c1 c2:Nat)(z:Zn)(w:World)(hat:JY w a1 a2 n1 n2 z)(hz:z.ok):
 Calls prog 63 #[aC #[aB aI z.f,aB aI z.e,aA a1 n1 c1,aA a2 n2 c2]] w λev w'=>ev=aN (aB aI 0)/\Below w.heap.size w w':=by
 obtain⟨hZ,L⟩:=hz;obtain⟨z1,N,z3,z4,z5,z6⟩:=hZ;have hlen:z.l.length<=256:=gQ (uM.length_le L (λb hb=>(L.fit b hb).1.2.2.1)) N;obtain⟨K1,F1,T,Q⟩:=boxes1 w #[aB aI (z.f:Int),aB aI (z.e:Int),aA a1 n1 c1,aA a2 n2 c2] 79;have o7:=hat.below Q;have l1:=hat.l1;have l2:=hat.l2;have hn2:n2=(z.e-z.f)/8:=by rw[<- l2,z5]
 clear hat
 have hcall:∀(w:World),Calls prog 97 #[aB aI z.f,aB aI z.e] w λev w'=>∃a2 c2,ev=aN (aG #[aC #[aB aI z.f,aB aI z.e,aA aJ 0 0,aA a2 n2 c2],aB aI 0])/\Below w.heap.size w w':=λw=>(QT z.f z.e n2 w z1 N z3 z4 hn2).mono λ_ _ ⟨a2,c2,h1,_,h3⟩=>⟨a2,c2,h1,h3⟩
 have hN3:((n2:Int) == ((z.e:Int)-z.f)/8)=true:=by rw[beq_iff_eq];omega
 have hN4:((n2:Int) != ((z.e:Int)-z.f)/8)=false:=by simp only[bne,hN3,Bool.not_true]
 clear hn2;go_enter func63,ntmps63
 go_wp2_with fail
 generalize w.alloc _=w0 at*;refine(hcall _).mono ?_;rintro ev w1 ⟨a3,c3,rfl,hb1⟩;have hb2:=aAq w1 (aO #[aB aI (z.f:Int),aB aI (z.e:Int),aA aJ 0 0,aA a3 n2 c3] 79);have Y:=gW hb1 hb2;have Bq:=aAp K1 T Y;have Vo:=o7.below Y;have hbw2:=gW Q Y;have D:w.heap.size<(w1.alloc (aO #[aB aI (z.f:Int),aB aI (z.e:Int),aA aJ 0 0,aA a3 n2 c3] 79)).heap.size:=gI T Y.size;clear K1 F1 hb1 hb2 Y o7 hcall;have B:(z.y.any λt=>decide (3<=t))=false:=by
  rw[List.any_eq_false];intro t ht h;have:=z6 t ht;have:=of_decide_eq_true h;omega
 have eg:∀C w,(callFunc 114 C).run prog w= .ok (.enter 114 C) w:=enters_of func114 (by kernel_rfl) rfl;have hyl:z.y.length<=32:=by omega
 go_wp2_with fail
 generalize w1.alloc _=w2 at*;refine(rH _ _ _ z.y _ _ (λt=>decide (3<=t)) _ l2 (by omega) Vo.r2 eg (λW hW t ht=>(TM t W (z6 t ht)).mono λ_ _ ⟨h1,h2⟩=>⟨h1.trans (aX (gV (by have:=z6 t ht;omega)).symm),h2⟩)).mono ?_;rw[B];rintro ev G ⟨rfl,m⟩;have K1c:=aAp Bq D m;have Vp:=Vo.below m;have P:=gW hbw2 m;have A:w.heap.size<G.heap.size:=gI D m.size;clear Bq Vo m B eg;go_wp2
 go_loopw [6,7,37] (λ_ _ E wr=>∃i:Nat,i<=n1/\E=aB aI i/\Below G.heap.size G wr) (λ_ _ E _=>n1-(intOf E).toNat)
 case atStart=>exact⟨0,gU _,rfl,gX _ _⟩
 case round=>
  obtain⟨i,hi,rfl,k⟩:=hrel;by_cases hlt:i<n1
  ·have d:i<z.l.length:=by omega
   obtain⟨bb,off,ha1,hb,hc⟩:=aAw aAu (by decide) (Vp.r1.below k) d;obtain rfl:=ha1;obtain⟨n,v,I⟩:=bH hc;have c:=L.fit _ (gL d);have U:=aAp K1c A k;have Yb:w.heap.size<wr.heap.size:=gI A k.size;go_wp2_with fail
   have s:=aAq wr (aO #[aB aI (z.l[i].a:Int),aB aI (z.l[i].o:Int),aB aI (z.l[i].t:Int)] 82);have K7:=aQ wr #[aB aI (z.l[i].a:Int),aB aI (z.l[i].o:Int),aB aI (z.l[i].t:Int)] 82;have hs5:wr.heap.size<(wr.alloc (aO #[aB aI (z.l[i].a:Int),aB aI (z.l[i].o:Int),aB aI (z.l[i].t:Int)] 82)).heap.size:=by simp
   have g:=aAp U Yb s;have F:=gW k s;have aIK:=Vp.below F;clear hc n v I U;generalize wr.alloc _=r at*;have R:bb<r.heap.size:=gI hb s.size;have hs6:w.heap.size<r.heap.size:=gI Yb s.size;have S:=g 0;have X:=g 1;have J:=g 2;have Z:=g 3;have H:=K7 0;have K:=K7 1;have V:=K7 2;simp only[gB,gC,gD]at S X J Z H K V;clear K7 g;by_cases hi0:0<i
   ·have d0:decide (0<(i:Int))=true:=gTg (by omega);have u:i-1<z.l.length:=by omega
    obtain⟨b',O,e',hb',hc'⟩:=aAw aAu (by decide) aIK.r1 u;obtain⟨rfl,rfl⟩:bb=b'/\off=O:=by simpa using e'
    obtain⟨n,v,I⟩:=bH hc';have q:=L.fit _ (gL u);have hsep:=gN.1 L.sep (i-1) i u d (by omega);have yK:=L.nob z.l[i] (gL d) z.l[i-1] (gL u);have hi1:0<=(i:Int)-1:=by omega
    have hi2:(i:Int)-1<(n1:Int):=by omega
    have hi3:((i:Int)-1).toNat=i-1:=by omega
    have hi4:IntKind.i64.wrap ((i:Int)-1)=(i:Int)-1:=IntWalk.i64_in _ (by omega);generalize z.l[i]=x at*;generalize z.l[i-1]=y at*;have d1:decide ((x.a:Int)<(y.fin:Int))=false:=gV (by omega);have d2:decide (x.a<y.fin)=false:=gV (by omega);clear hc';refine aU (by kernel_rfl) (by kernel_rfl) ?_
    repeat (first | go_big_quiet_step ((first | (go_at_call 115;exact Calls.bV (wJ z.f z.e _ _ _ _ _ _ x _ c.1 N)) | (go_at_call 114;exact Calls.bV (Af x.t _ c.2)) | (go_at_call 116;exact Calls.bV (kF y _ q.1.1 (by have:=q.1.2.2.1;omega))))) | quiet_step ((first | (go_at_call 115;exact Calls.bV (wJ z.f z.e _ _ _ _ _ _ x _ c.1 N)) | (go_at_call 114;exact Calls.bV (Af x.t _ c.2)) | (go_at_call 116;exact Calls.bV (kF y _ q.1.1 (by have:=q.1.2.2.1;omega))))))
    refine wpQuiet_nil ?_;rintro _ ⟨wx,rfl⟩;have j:Below G.heap.size G (ext r wx):=gW F (aT r wx);have M:=aT r wx;have m12:=(M.cell (p:=⟨w.heap.size,2,aJ⟩) hs6).trans J;have m70:=(M.cell (p:=⟨wr.heap.size,0,aJ⟩) hs5).trans H;have m71:=(M.cell (p:=⟨wr.heap.size,1,aJ⟩) hs5).trans K;have n0:=(M.cell (p:=⟨bb,off+(i-1)*3,aJ⟩) R).trans n;have n1':=(M.cell (p:=⟨bb,off+(i-1)*3+1,aJ⟩) R).trans v;clear S X J Z H K V n v I M;go_wp2_with fail
    generalize ext r wx=w6 at*;by_cases ho4:x.o<4
    ·have d3:decide ((x.o:Int)<4)=true:=gTg (by omega);by_cases hoe:y.o=x.o
     ·have d4:((y.o:Int) == (x.o:Int))=true:=by rw[beq_iff_eq];omega
      have hsh:=wI c.1.1;have d5:((y.a:Int) == bits .xor .i64 (x.a:Int) (2^x.o))=false:=by
       rw[Ya (by have:=c.1.2.2.1;omega) c.1.1 c.1.2.2.2,beq_eq_false_iff_ne];intro e2;exact yK hoe.symm ho4 (by omega)
      go_quiet (fail)
      go_wp2
      go_roundw
      case rel=>exact⟨i+1,by omega,by go_num,below_drewN j _⟩
      case measure=>simp[intOf];omega
     ·have d4:((y.o:Int) == (x.o:Int))=false:=by rw[beq_eq_false_iff_ne];omega
      go_quiet (fail)
      go_wp2
      go_roundw
      case rel=>exact⟨i+1,by omega,by go_num,below_drewN j _⟩
      case measure=>simp[intOf];omega
    ·have d3:decide ((x.o:Int)<4)=false:=gV (by omega)
     go_quiet (fail)
     go_wp2
     go_roundw
     case rel=>exact⟨i+1,by omega,by go_num,below_drewN j _⟩
     case measure=>simp[intOf];omega
   ·have d0:decide (0<(i:Int))=false:=gV (by omega);generalize z.l[i]=x at*;refine aU (by kernel_rfl) (by kernel_rfl) ?_
    repeat (first | go_big_quiet_step ((first | (go_at_call 115;exact Calls.bV (wJ z.f z.e _ _ _ _ _ _ x _ c.1 N)) | (go_at_call 114;exact Calls.bV (Af x.t _ c.2)))) | quiet_step ((first | (go_at_call 115;exact Calls.bV (wJ z.f z.e _ _ _ _ _ _ x _ c.1 N)) | (go_at_call 114;exact Calls.bV (Af x.t _ c.2)))))
    refine wpQuiet_nil ?_;rintro _ ⟨wx,rfl⟩;have j:Below G.heap.size G (ext r wx):=gW F (aT r wx);go_wp2_with fail
    generalize ext r wx=w6 at*
    go_quiet (fail)
    go_wp2
    go_roundw
    case rel=>exact⟨i+1,by omega,by go_num,below_drewN j _⟩
    case measure=>simp[intOf];omega
  ·obtain rfl:i=n1:=by omega
   go_wp2
   go_ret
   exact⟨rfl,gW P k⟩
theorem Ag {b1 b2:Nat}{e1 e2:TypeId}{s1 s2:Nat}{v1 v2:Value}{n1 n2:Nat}{ys:List Value}(h1:w.ownsRow b1 e1 s1 v1 n1 xs)(h2:w.ownsRow b2 e2 s2 v2 n2 ys)(he:e1≠e2)(k:Nat)(hk:v1.ownBlock=aK k):v2.ownBlock≠aK k:=by
 intro a;rcases h1.2 with ⟨d,_⟩ | ⟨g,i,h,d,_,j,_⟩
 ·rw[d]at hk;cases hk
 ·rcases h2.2 with ⟨c,_⟩ | ⟨l,f,e,c,_,b,_⟩
  ·rw[c]at a;cases a
  ·rw[d]at hk;rw[c]at a;simp only[gTh,Option.some.injEq]at hk a;subst hk;subst a;rw[j]at b;simp only[Option.some.injEq,Obj.cells.injEq]at b;exact he b.2.1
theorem bD (h:∀o,w.cell? ⟨b,o,aJ⟩=vs[o]?)(hlt:b<w.heap.size)(hg:w.grownBy w' row)(hne:aK b≠row)(o:Nat):w'.cell? ⟨b,o,aJ⟩=vs[o]? :=by
 rw[World.cell?_of_block (hg.block b hlt hne)];exact h o
theorem bG (h:∀o,w.frozen? ⟨b,o,aJ⟩=false)(hlt:b<w.heap.size)(hg:w.grownBy w' row)(hne:aK b≠row)(o:Nat):w'.frozen? ⟨b,o,aJ⟩=false:=by
 rw[World.frozen?_of_block (hg.block b hlt hne)];exact h o
structure EW (w W:World)(B:Nat)(a1 a2:Option Addr)(n1 n2 c1 c2:Nat)(z:Zn)(a o t:Nat):Prop where
 k3:∀i,W.cell? ⟨w.heap.size,i,aJ⟩=(#[aB aI z.f,aB aI z.e,aA a1 n1 c1,aA a2 n2 c2]:Array Value)[i]?
 f3:∀i,W.frozen? ⟨w.heap.size,i,aJ⟩=false
 k6:∀i,W.cell? ⟨w.heap.size+1,i,aJ⟩=(#[aB aI 0,aB aI 0,aA aJ 0 0,aA aJ 0 0]:Array Value)[i]?
 f6:∀i,W.frozen? ⟨w.heap.size+1,i,aJ⟩=false
 k9:∀i,W.cell? ⟨B,i,aJ⟩=(#[aB aI a,aB aI o,aB aI t]:Array Value)[i]?
 f9:∀i,W.frozen? ⟨B,i,aJ⟩=false
 own:iH W (B+1) a1 a2 n1 n2 c1 c2 z
 lo:w.heap.size+2<=B
 hi:B<W.heap.size
 bw:Below w.heap.size w W
section
variable {w W W':World}{B:Nat}{a1 a2:Option Addr}{n1 n2 c1 c2:Nat}{z:Zn}{a o t:Nat}
theorem EW.below (h:EW w W B a1 a2 n1 n2 c1 c2 z a o t)(hb:Below W.heap.size W W'):EW w W' B a1 a2 n1 n2 c1 c2 z a o t:=by
 have c:=h.lo;have b:=h.hi;exact⟨aAp h.k3 (by omega) hb,aAt h.f3 (by omega) hb,aAp h.k6 (by omega) hb,aAt h.f6 (by omega) hb,aAp h.k9 b hb,aAt h.f9 b hb,h.own.below hb,c,gI b hb.size,gW h.bw hb⟩
theorem EW.put9 (h:EW w W B a1 a2 n1 n2 c1 c2 z a o t)(i:Nat)(u:Int){a' o' t':Nat}(he:(#[aB aI a,aB aI o,aB aI t]:Array Value).setIfInBounds i (aB aI u)=#[aB aI a',aB aI o',aB aI t']):EW w (W.setCell ⟨B,i,aJ⟩ (aB aI u)) B a1 a2 n1 n2 c1 c2 z a' o' t':=by
 have b:=h.lo;have c:=h.hi;exact⟨aAc h.k3 (by omega) _ _,aAs h.f3 _ _,aAc h.k6 (by omega) _ _,aAs h.f6 _ _,he▸aAr h.k9 i _,aAs h.f9 _ _,h.own.set (h.own.ne (.inl (by omega))) _ _,b,by simpa using c,h.bw.setCell (by simp only;omega) _⟩
structure aC4 (w W:World)(B:Nat)(a1 a2:Option Addr)(n1 n2 c1 c2:Nat)(z:Zn)(a o t:Nat)(a1':Option Addr)(n1' c1':Nat)(l':List Bk):Prop where
 k3:∀i,W.cell? ⟨w.heap.size,i,aJ⟩=(#[aB aI z.f,aB aI z.e,aA a1 n1 c1,aA a2 n2 c2]:Array Value)[i]?
 f3:∀i,W.frozen? ⟨w.heap.size,i,aJ⟩=false
 k6:∀i,W.cell? ⟨w.heap.size+1,i,aJ⟩=(#[aB aI 0,aB aI 0,aA aJ 0 0,aA aJ 0 0]:Array Value)[i]?
 f6:∀i,W.frozen? ⟨w.heap.size+1,i,aJ⟩=false
 k9:∀i,W.cell? ⟨B,i,aJ⟩=(#[aB aI a,aB aI o,aB aI t]:Array Value)[i]?
 f9:∀i,W.frozen? ⟨B,i,aJ⟩=false
 own:iH W (B+1) a1' a2 n1' n2 c1' c2 {z with l:=l'}
 lo:w.heap.size+2<=B
 hi:B<W.heap.size
 bw:Below w.heap.size w W
theorem EW.grown (h:EW w W B a1 a2 n1 n2 c1 c2 z a o t)(hg:W.grownBy W' (gTh (aA a1 n1 c1))){l':List Bk}(hl:l'.length=n1')(ho:W'.ownsRow (B+1) 82 3 (aA a1' n1' c1') n1' (flat aAx l')):aC4 w W' B a1 a2 n1 n2 c1 c2 z a o t a1' n1' c1' l':=by
 have j:=h.lo;have c:=h.hi;have i:=(h.own.ne (g:=w.heap.size) (.inl (by omega))).1;have f:=(h.own.ne (g:=w.heap.size+1) (.inl (by omega))).1;have d:=(h.own.ne (g:=B) (.inl (by omega))).1;refine⟨bD h.k3 (by omega) hg (λe=>i e.symm),bG h.f3 (by omega) hg (λe=>i e.symm),bD h.k6 (by omega) hg (λe=>f e.symm),bG h.f6 (by omega) hg (λe=>f e.symm),bD h.k9 c hg (λe=>d e.symm),bG h.f9 c hg (λe=>d e.symm),⟨hl,h.own.l2,ho,jL h.own.o2 hg (λk b e=>Ag h.own.o2 h.own.o1 (by decide) k b e)⟩,j,gI c hg.size,?_⟩;exact h.bw.grown hg h.bw.size (λk b=>by have:=(h.own.o1.lt k b).1;omega)
theorem aC4.put3 {l':List Bk}(h:aC4 w W B a1 a2 n1 n2 c1 c2 z a o t a1' n1' c1' l'):EW w (W.setCell ⟨w.heap.size,2,aJ⟩ (aA a1' n1' c1')) B a1' a2 n1' n2 c1' c2 {z with l:=l'} a o t:=by
 have b:=h.lo;have c:=h.hi;exact⟨aAr h.k3 2 _,aAs h.f3 _ _,aAc h.k6 (by omega) _ _,aAs h.f6 _ _,aAc h.k9 (by omega) _ _,aAs h.f9 _ _,h.own.set (h.own.ne (.inl (by omega))) _ _,b,by simpa using c,h.bw.setCell (gT _) _⟩
end
structure Rw where
 k:Int
 a:Int
 b:Int
 c:Int
def rF (r:Rw):List Value:=[vI r.k,vI r.a,vI r.b,vI r.c]
theorem vN (r:Rw):(rF r).length=4:=rfl
theorem Qi {r:Rw}(hc:∀i v,(rF r)[i]? =aK v->w.cell? ⟨b,o+i,aJ⟩=aK v):w.cell? ⟨b,o,aJ⟩=aK (aB aI r.k)/\w.cell? ⟨b,o+1,aJ⟩=aK (aB aI r.a)/\w.cell? ⟨b,o+2,aJ⟩=aK (aB aI r.b)/\w.cell? ⟨b,o+3,aJ⟩=aK (aB aI r.c):=⟨hc 0 _ rfl,hc 1 _ rfl,hc 2 _ rfl,hc 3 _ rfl⟩
def in64 (x:Int):Prop:= -9223372036854775808<=x/\x<=9223372036854775807
def Rw.wf (r:Rw):Prop:=in64 r.k/\in64 r.a/\in64 r.b/\in64 r.c
section
open Go.RowKit Go.WideShapes Go.ChangeShapes
section
variable {H:Type}{enc:TypeId×Value->H}{P:Program}
theorem Bh (hl:laidOutB P=true)(hb:Below W.heap.size W W'):∀(ts:List TypeId) (vs:List Value) (ds:List (DataW H)) (p:List MemPlace),
 (∀t∈ts,P.readableRec t=true/\t<P.types.size)->(∀x∈p,x.block<W.heap.size)->DataW.TrodAll enc P W 0 (λ_=>true) true ts vs ds p->DataW.TrodAll enc P W' 0 (λb=>decide (b<W.heap.size)) true ts vs ds p
 | [],[],[],p,_,_,h=>h
 | t::ts,v::vs,d::ds,p,hr,hp,h=>by
  obtain⟨p1,p2,h1,h2,rfl⟩:=h;refine⟨p1,p2,?_,Bh hl hb ts vs ds p2 (λt c=>hr t (by simp[c])) (λx a=>hp x (by simp[a])) h2,rfl⟩;have:=hr t (by simp);exact Below.trod hl this.1 this.2 h1 hb λx a=>hp x (by simp[a])
 | [],[],_::_,_,_,_,h=>h.elim
 | [],_::_,_,_,_,_,h=>h.elim
 | _::_,[],_,_,_,_,h=>h.elim
 | _::_,_::_,[],_,_,_,h=>h.elim
theorem xP {f:Func}{s:ChangeSpec}{apart:Bool}{W W':World}{args:Array Value}{ds:List (DataW H)}{before:List MemPlace}
 (hl:laidOutB P=true) (hr:∀t∈f.params.toList,P.readableRec t=true/\t<P.types.size)
 (hW:DataW.Whole enc P f.params.toList s.vars apart W args.toList ds [] before) (hv:s.vars=[]) {tb:TypeId} (hres:f.resultTypes=#[tb]) (htb:P.underlying tb=aK .bool)
 (hf1:(s.fn H (ds++[])).results=[.lit (.bool true)]) (hf2:(s.fn H (ds++[])).args=ds) (hf3:(s.fn H (ds++[])).vars=[]) (hb:Below W.heap.size W W'):
 s.post enc P f apart true false false W args (.bool true) W':=by
 have a:∀p∈before,p.block<W.heap.size:=λp e=>hW.lt p e
 obtain⟨c,l,b,g,d,i,j⟩:=hW;refine⟨ds,[],before,[],c,[],⟨c,l,b,g,d,i,j⟩,?_,?_,?_,World.keptBut_mono (λp f=>f.elim) (hb.frame (λ_=>False)),λh=>by cases h⟩
 ·rw[hres,hf1];exact trodAll_mk1 (shut_bool htb true)
 ·rw[hf2];exact Bh hl hb _ _ _ _ hr (λx k=>a x (by rw[d];simp[k])) b
 ·rw[hv,hf3];rfl
end
section
variable {H:Type}{enc:TypeId×Value->H}{P:Program}
end
theorem Xa {ad:Addr}(h:W.cell? (ad.add 0)=aK v):ad.spot=aJ:=by
 obtain⟨b,off,spot⟩:=ad;have e:(Addr.add ⟨b,off,spot⟩ 0)=⟨b,off,spot⟩:=rfl;rw[e]at h;unfold World.cell? at h;cases spot with
 | none=>rfl
 | some x=>exfalso;simp only at h;split at h <;> simp at h
end
end Go.Proofs.YtjaogfhcnmjkiaaGreatDoor
