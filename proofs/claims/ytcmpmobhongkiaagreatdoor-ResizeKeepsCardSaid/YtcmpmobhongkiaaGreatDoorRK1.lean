/- joined. -/
import Derived.Test.YtcmpmobhongkiaaGreatDoorRK0
import Derived.Test.YtcmpmobhongkiaaGreatDoorRows
import Derived.WalkKit
import Derived.LoopTactic
import Derived.Laws.CopyRow
import Derived.Deep.QuietTactic
import Derived.BigQuiet
import Derived.WalkSmall
import Derived.ProofKit
import Derived.OpenShut
import Derived.Below
import Derived.ChangeSame
import Derived.Carry
import Derived.Lib.AppendZerosOnto
import Derived.Lib.SliceRun
set_option linter.unusedVariables false
set_option linter.unusedSimpArgs false
namespace Go.Proofs.YtcmpmobhongkiaaGreatDoor
section
open Go.RowKit
def Row (w:World)(a:Option Addr)(cs:List Value):Prop:=
 ∀j v,cs[j]? =some v->∃b off,a=some ⟨b,off,none⟩/\b<w.heap.size/\w.cell? ⟨b,off+j,none⟩=some v
theorem Row.nil (w:World)(a:Option Addr):Row w a []:=fun j v h=>by simp at h
theorem Row.mono {w w':World}{B:Nat}{a:Option Addr}{cs:List Value}(h:Row w a cs)(hb:Below B w w')(hB:w.heap.size<=B):Row w' a cs:=by
 intro j v hj;obtain⟨b,off,e,h1,h2⟩:=h j v hj;exact⟨b,off,e,gI h1 hb.size,by rw[hb.cell (p:=⟨b,off+j,none⟩) (by simp;omega)];exact h2⟩
theorem Row.below {w w':World}{a:Option Addr}{cs:List Value}(h:Row w a cs)(hb:Below w.heap.size w w'):Row w' a cs:=h.mono hb (Nat.le_refl _)
theorem Row.take {w:World}{a:Option Addr}{cs:List Value}(h:Row w a cs)(k:Nat):Row w a (cs.take k):=by
 intro j v hj;rw[List.getElem?_take]at hj;split at hj
 ·exact h j v hj
 ·cases hj
theorem Uj (w:World)(v:Value)(t:TypeId):Row (w.alloc (.cells #[v] t)) (some ⟨w.heap.size,0,none⟩) [v]:=by
 intro j u hj;have h0:j=0:=by
  rcases j with _ | j
  ·rfl
  ·simp at hj
 subst h0;obtain rfl:v=u:=by simpa using hj
 exact⟨w.heap.size,0,rfl,by simp,by rw[cell_of_row _ _ _ _ _ _ (heap_alloc_new w _)];rfl⟩
theorem dP {k:IntKind}{a b:Int}(h:a=b):Ending.returned (.int k a)= .returned (.int k b):=by rw[h]
theorem aV {a b:Bool}(h:a=b):Ending.returned (.bool a)= .returned (.bool b):=by rw[h]
def vI (x:Int):Value:= .int .i64 x
theorem QY {w:World}{base:Nat}{e:TypeId}{size:Nat}{v:Value}{n:Nat}{xs:List Value}(h:w.ownsRow base e size v n xs):∃a c,v= .slice a n c:=by
 rcases h.2 with ⟨h,h2⟩ | ⟨g,cap,cur,h,_⟩
 ·exact⟨none,0,by rw[h,h2]⟩
 ·exact⟨_,_,h⟩
theorem aY {w:World}{base:Nat}{e:TypeId}{size:Nat}{a:Option Addr}{c n:Nat}{xs:List Value}(h:w.ownsRow base e size (.slice a n c) n xs):Row w a xs:=by
 intro j v hj;rcases h.2 with ⟨h',h2⟩ | ⟨g,cap,cur,h',hb,hg,_⟩
 ·have:xs=[]:=List.eq_nil_of_length_eq_zero (by rw[h.1,h2,Nat.zero_mul]);simp[this]at hj
 ·obtain⟨rfl,rfl⟩:a=some ⟨g,0,none⟩/\c=cap:=by simpa using h'
  refine⟨g,0,rfl,(Array.getElem?_eq_some_iff.1 hg).1,?_⟩;have hl:j<n*size:=by rw[<- h.1];exact(List.getElem?_eq_some_iff.1 hj).1
  rw[Nat.zero_add,World.ownsRow.cellAt h j hl];exact hj
theorem oI {w:World}{base:Nat}{e:TypeId}{size:Nat}{a:Option Addr}{c n:Nat}{xs:List Value}(h:w.ownsRow base e size (.slice a n c) n xs)(k:Nat)(hk:k<xs.length):
 ∃g,a=some ⟨g,0,none⟩/\base<=g/\g<w.heap.size/\w.cell? ⟨g,k,none⟩=some xs[k]/\w.frozen? ⟨g,k,none⟩=false:=by
 rcases h.2 with ⟨h',h2⟩ | ⟨g,cap,cur,h',hb,hg,_⟩
 ·have:xs=[]:=List.eq_nil_of_length_eq_zero (by rw[h.1,h2,Nat.zero_mul]);simp[this]at hk
 ·obtain⟨rfl,rfl⟩:a=some ⟨g,0,none⟩/\c=cap:=by simpa using h'
  exact⟨g,rfl,hb,(Array.getElem?_eq_some_iff.1 hg).1,by rw[World.ownsRow.cellAt h k (by rw[<- h.1];exact hk)];simp[hk],World.ownsRow.frozenAt h k⟩
theorem dQ {w:World}{base:Nat}{e:TypeId}{size:Nat}{a:Option Addr}{c n:Nat}{xs:List Value}(h:w.ownsRow base e size (.slice a n c) n xs):n<=c:=by
 rcases h.2 with ⟨h',h2⟩ | ⟨g,cap,cur,h',hb,hg,hc,_⟩
 ·omega
 ·obtain⟨rfl,rfl⟩:a=some ⟨g,0,none⟩/\c=cap:=by simpa using h'
  exact hc
theorem fA {w:World}{base:Nat}{e:TypeId}{size:Nat}{a:Option Addr}{c n:Nat}{xs:List Value}(h:w.ownsRow base e size (.slice a n c) n xs)(k:Nat)(hk:k<xs.length):
 ∃g v,a=some ⟨g,0,none⟩/\base<=g/\g<w.heap.size/\w.cell? ⟨g,k,none⟩=some v/\w.frozen? ⟨g,k,none⟩=false:=by
 obtain⟨g,h1,h2,h3,h4,h5⟩:=oI h k hk;exact⟨g,_,h1,h2,h3,h4,h5⟩
theorem own_below {w w':World}{B base:Nat}{e:TypeId}{size:Nat}{v:Value}{n:Nat}{xs:List Value}(h:w.ownsRow base e size v n xs)(hb:Below B w w')(hB:w.heap.size<=B):w'.ownsRow base e size v n xs:=by
 refine⟨h.1,?_⟩;rcases h.2 with h' | ⟨g,cap,cur,h1,h2,hg,rest⟩
 ·exact .inl h'
 ·refine .inr ⟨g,cap,cur,h1,h2,?_,rest⟩;rw[hb.block g (gI (Array.getElem?_eq_some_iff.1 hg).1 hB)];exact hg
theorem own_base {w:World}{b b':Nat}{e:TypeId}{size:Nat}{v:Value}{n:Nat}{xs:List Value}(h:w.ownsRow b e size v n xs)(hb:b'<=b):w.ownsRow b' e size v n xs:=by
 refine⟨h.1,?_⟩;rcases h.2 with h' | ⟨g,cap,cur,h1,h2,rest⟩
 ·exact .inl h'
 ·exact .inr ⟨g,cap,cur,h1,by omega,rest⟩
theorem iI {P:Program}{w:World}{ops:Array Oper}{rest:List Oper}{o:Oper}{a:Act}{Q:Exit->Act->World->Prop}(hgd:o.guard=none)(s x:Operand)(t:TypeId)
 (ho:o.op= .call {callee:= .builtin .append,args:=#[s,x],argTypes:=#[t,t]})
 (base:Nat) (e:TypeId) (z:Value) (size bytes:Nat) (ht:P.underlying t=some (.slice e)) (hinfo:(P.info? e).map (fun i=>(i.zero,i.size,i.bytes))=some (some z,size,bytes))
 (hzs:z.cells.size=size) (hsz:0<size) (hbp:0<bytes)
 (as_:Option Addr) (n cs:Nat) (xs:List Value) (hs:a.eval s= .slice as_ n cs) (hown:w.ownsRow base e size (.slice as_ n cs) n xs)
 (ax:Option Addr) (m cx:Nat) (news:List Value) (hx:a.eval x= .slice ax m cx) (hl:news.length=m*size) (hnews:Row w ax news) (h1:∀u∈news,u.oneCell'=true)
 (hbytes:(n+m)*bytes<=140737488355328) (hbase:base<=w.heap.size)
 (h:∀a' c' w',w'.ownsRow base e size (.slice a' (n+m) c') (n+m) (xs++news)->w.grownBy w' (Value.ownBlock (.slice as_ n cs))->wpList P ops Q rest (a.put o.dst (.slice a' (n+m) c')) w'):
 wpList P ops Q (o::rest) a w:=by
 obtain⟨i,hi,hz,hsize,hby⟩:=info_parts hinfo;have h63:n+m<=maxLen:=by
  have:n+m<=(n+m)*bytes:=Nat.le_mul_of_pos_right _ hbp;simp only[maxLen];omega
 cases ax with
 | some ad=>
  refine wpList_append_own w hgd s x t ho base e i z size bytes ht hi hz hsize hby hzs hsz _ n xs hs hown ad m cx news hx hl ?_ h1 h63 hbytes hbase fun v' w' h2 h3 _=> ?_
  ·intro j u hj;obtain⟨b,off,e1,_,h5⟩:=hnews j u hj;obtain rfl:ad=⟨b,off,none⟩:=by simpa using e1
   rw[Addr.add_lit];exact h5
  ·obtain⟨a',c',rfl⟩:=QY h2;exact h a' c' w' h2 h3
 | none=>
  have hn0:news=[]:=by
   cases news with
   | nil=>rfl
   | cons u l=>obtain⟨b,off,e1,_⟩:=hnews 0 u rfl;cases e1
  subst hn0;have hm:m=0:=by
   rcases Nat.eq_zero_or_pos m with h | h
   ·exact h
   ·have:=Nat.mul_pos h hsz;simp only[List.length_nil]at hl;omega
  subst hm;refine wpList_plain hgd fun K hK=> ?_
  have hr:(Builtin.append_ #[t,t] o.type #[.slice as_ n cs,.slice none 0 cx]).run P w= .ok (.slice as_ n cs) w:=by
   rcases hown.2 with ⟨hv,rfl⟩ | ⟨g,cap,cur,hv,_,hg,hnc,_⟩
   ·rw[hv];simp[Builtin.append_,run_underlying ht,sizeOf,typeInfo,hi,Builtin.lenOf,Builtin.firstCells]
   ·rw[hv];simp[Builtin.append_,run_underlying ht,sizeOf,typeInfo,hi,Builtin.lenOf,Builtin.firstCells,hnc,storeCells]
  unfold Oper.wp execOp;simp only[ho,resolve,invoke,builtin,Sem.run_bind,Sem.run_pure,Result.andThen_ok,List.map_toArray,List.map_cons,List.map_nil,hs,hx,hr];exact hK _ _ (h as_ cs w (by simpa using hown) ⟨rfl,rfl,rfl,Nat.le_refl _,fun _ _ _=>rfl⟩)
theorem below_grown {B:Nat}{a w w':World}{v:Value}{base:Nat}{e:TypeId}{size n:Nat}{xs:List Value}(h:Below B a w)(hown:w.ownsRow base e size v n xs)(hg:w.grownBy w' v.ownBlock)(hB:B<=base)(hs:B<=w.heap.size):Below B a w':=
 h.grown hg hs fun k hk=>by have:=(hown.lt k hk).1;omega
def bY (a:Option Addr)(l m s:Nat):Option Addr:=if m=l then a else a.map (·.add (l*s))
theorem jG (a:Option Addr)(l h m s:Nat):sliced a l h m s= .slice (bY a l m s) (h-l) (m-l):=rfl
@[simp] theorem aB6 (a:Option Addr) (m s:Nat):bY a 0 m s=a:=by
 unfold bY;split
 ·rfl
 ·cases a <;> simp[Addr.add]
theorem Row.cut {w:World}{a:Option Addr}{xs:List Value}(h:Row w a xs)(l m s j:Nat)(hj:j<=(m-l)*s):Row w (bY a l m s) ((xs.drop (l*s)).take j):=by
 intro k v hk;rw[List.getElem?_take]at hk;split at hk
 ·rename_i hkj;rw[List.getElem?_drop]at hk;obtain⟨b,off,rfl,h1,h2⟩:=h _ v hk;have hml:¬m=l:=by
   intro e;subst e;simp at hj;omega
  refine⟨b,off+l*s,?_,h1,by rw[Nat.add_assoc];exact h2⟩;unfold bY;rw[if_neg hml];show some (Addr.add ⟨b,off,none⟩ (l*s))=_;rw[Addr.add_lit]
 ·cases hk
end
section
open Go.RowKit
def pk (n many:Int):Int:=(if n<0 then-(n+1)else n)%many
theorem qN (n many:Int)(h:1<=many):0<=pk n many:=Int.emod_nonneg _ (by omega)
theorem Uk (n many:Int)(h:1<=many):pk n many<many:=Int.emod_lt_of_pos _ (by omega)
theorem wP (n many:Int)(w:World)(hn1: -9223372036854775808<=n)(hn2:n<=9223372036854775807)(h1:1<=many)(h2:many<=1000000):
 Calls Tryz.prog 28 #[.int .i64 n,.int .i64 many] w fun e w'=>e= .returned (.int .i64 (pk n many))/\w=w':=by
 by_cases hneg:n<0
 ·go_enter Tryz.func28,Tryz.ntmps28
  go_wp2
  go_ret
  refine⟨dP ?_,rfl⟩;show-(n+1).tmod many=_;rw[pk,if_pos hneg,<- Int.neg_tmod,Int.tmod_eq_emod_of_nonneg (by omega)]
 ·go_enter Tryz.func28,Tryz.ntmps28
  go_wp2
  go_ret
  refine⟨dP ?_,rfl⟩;show n%many=_;rw[pk,if_neg (by omega)]
end
section
open Go.RowKit
theorem Ul (k:Int)(w:World)(h1:1<=k)(h2:k<=64)(h3:4<=16/k):
 Calls Tryz.prog 70 #[.int .i64 k] w fun e w'=>e= .returned (.tuple #[.int .i64 0,.int .i64 (16/k),.int .i64 0])/\w=w':=by
 go_enter Tryz.func70,Tryz.ntmps70
 go_wp2
 refine wp_loop_rounds 1 ?_;rw[rounds_succ];go_wp2
 go_ret3
 exact⟨rfl,rfl⟩
theorem Um (k:Int)(w:World)(h1:1<=k)(h2:k<=64)(h3:16/k<4)(h4:4<=32/k):
 Calls Tryz.prog 70 #[.int .i64 k] w fun e w'=>e= .returned (.tuple #[.int .i64 1,.int .i64 (32/k),.int .i64 0])/\w=w':=by
 go_enter Tryz.func70,Tryz.ntmps70
 go_wp2
 refine wp_loop_rounds 2 ?_;rw[rounds_succ];go_wp2
 rw[rounds_succ];go_wp2
 go_ret3
 exact⟨rfl,rfl⟩
theorem Un (k:Int)(w:World)(h1:1<=k)(h2:k<=64)(h3:16/k<4)(h4:32/k<4):
 Calls Tryz.prog 70 #[.int .i64 k] w fun e w'=>e= .returned (.tuple #[.int .i64 2,.int .i64 (64/k),.int .i64 0])/\w=w':=by
 go_enter Tryz.func70,Tryz.ntmps70
 go_wp2
 refine wp_loop_rounds 3 ?_;rw[rounds_succ];go_wp2
 rw[rounds_succ];go_wp2
 rw[rounds_succ];go_wp2
 all_goals (go_ret3;exact⟨rfl,rfl⟩)
end
section
open Go.RowKit
theorem lN {P:Program}{w:World}(size n:Nat)(sp:Option Addr)(len cap:Nat)(cs:List Value)(hl:cs.length=n*size)(hr:Row w sp cs):
 (Builtin.firstCells size n (.slice sp len cap)).run P w= .ok cs.toArray w:=by
 cases sp with
 | some b=>
  refine run_firstCells_some w size n b len cap cs hl fun j v hj=> ?_
  obtain⟨b',off,e,_,h⟩:=hr j v hj;obtain rfl:b=⟨b',off,none⟩:=by simpa using e
  rw[Addr.add_lit];exact h
 | none=>
  have:cs=[]:=by
   cases cs with
   | nil=>rfl
   | cons u l=>obtain⟨b,off,e1,_⟩:=hr 0 u rfl;cases e1
  subst this;simp[Builtin.firstCells]
theorem Aw (cur xs cs:List Value)(o N:Nat)(h:cur.take N=xs)(hN:N<=cur.length)(hf:o+cs.length<=N):
 (cur.take o++cs++cur.drop (o+cs.length)).take N=xs.take o++cs++xs.drop (o+cs.length):=by
 subst h;have hl:(cur.take o++cs).length=o+cs.length:=by rw[List.length_append,List.length_take];omega
 rw[List.take_append,List.take_of_length_le (by omega),hl,List.take_take,Nat.min_eq_left (by omega),List.drop_take]
theorem Rh {P:Program}{w:World}{ops:Array Oper}{rest:List Oper}{o:Oper}{a:Act}{Q:Exit->Act->World->Prop}(hgd:o.guard=none)(d s:Operand)(dT sT:TypeId)
 (ho:o.op= .call {callee:= .builtin .copy,args:=#[d,s],argTypes:=#[dT,sT]}) (e:TypeId) (hu:P.underlying dT=some (.slice e)) (size:Nat) (hsz:(P.info? e).map (·.size)=some size)
 (dp sp:Option Addr) (dLen dCap sLen sCap:Nat) (hd:a.eval d= .slice dp dLen dCap) (hs:a.eval s= .slice sp sLen sCap)
 (cs:List Value) (hn:cs.length=Nat.min sLen dLen*size) (hcs:Row w sp cs) (h1:∀u∈cs,u.oneCell'=true)
 (base N co p:Nat) (ao:Option Addr) (xs:List Value) (hown:w.ownsRow base e size (.slice ao N co) N xs) (hp:0<cs.length->dp=ao.map (·.add (p*size))) (hdn:dp=none->cs=[]) (hfit:p*size+cs.length<=N*size)
 (h:∀w',w'.ownsRow base e size (.slice ao N co) N (xs.take (p*size)++cs++xs.drop (p*size+cs.length))->w.grownBy w' (Value.ownBlock (.slice ao N co))->wpList P ops Q rest (a.put o.dst (goInt (Nat.min sLen dLen:Nat))) w'):
 wpList P ops Q (o::rest) a w:=by
 refine wpList_plain hgd fun K hK=> ?_
 have key:∃w',(Builtin.copy_ #[dT,sT] o.type #[.slice dp dLen dCap,.slice sp sLen sCap]).run P w= .ok (goInt (Nat.min sLen dLen:Nat)) w'/\w'.ownsRow base e size (.slice ao N co) N (xs.take (p*size)++cs++xs.drop (p*size+cs.length))/\w.grownBy w' (Value.ownBlock (.slice ao N co)):=by
  cases hq:P.info? e with
  | none=>simp[hq]at hsz
  | some i=>
   have hi:i.size=size:=by simpa[hq]using hsz
   have hf:=lN (P:=P) size (Nat.min sLen dLen) sp sLen sCap cs hn hcs;by_cases hc0:0<cs.length
   ·obtain⟨g,cap,cur,hv,hbg,hg,hnc,hcm,hcsz,htk⟩:∃g cap cur,Value.slice ao N co= .slice (some ⟨g,0,none⟩) N cap/\base<=g/\w.heap[g]? =some (.cells cur e (0,0))/\N<=cap/\cap<=maxLen/\cur.size=cap*size/\cur.toList.take (N*size)=xs:=by
     rcases hown.2 with ⟨_,h0⟩ | h
     ·rw[h0,Nat.zero_mul]at hfit;omega
     ·exact h
    obtain⟨rfl,rfl⟩:ao=some ⟨g,0,none⟩/\co=cap:=by simpa using hv
    have hdp:=hp hc0;simp only[Option.map_some,Addr.add_lit,Nat.zero_add]at hdp;subst hdp;have hNc:N*size<=cur.size:=by rw[hcsz];exact Nat.mul_le_mul_right _ hnc
    have hst:=run_storeCells_at P g (p*size) e cs 0 cur w hg (by omega) h1;refine⟨w.setRow g (cur.toList.take (p*size)++cs++cur.toList.drop (p*size+cs.length)).toArray,?_,?_,?_⟩
    ·simp only[Nat.add_zero]at hst;simp[Builtin.copy_,run_underlying hu,Builtin.lenOf,sizeOf,typeInfo,hq,hi,hf,hst]
    ·refine⟨?_,.inr ⟨g,co,_,rfl,hbg,setRow_heap w g cur _ e _ hg,hnc,hcm,?_,?_⟩⟩
     ·have:=hown.1;simp only[List.length_append,List.length_take,List.length_drop];omega
     ·simp only[List.size_toArray,List.length_append,List.length_take,List.length_drop,Array.length_toList];omega
     ·exact Aw _ _ _ _ _ htk (by simpa using hNc) hfit
    ·exact⟨rfl,rfl,rfl,by simp[World.setRow],fun k _ hk=>setRow_other w g k _ (fun e=>hk (by simp[Value.ownBlock,e]))⟩
   ·have hc:cs=[]:=List.eq_nil_of_length_eq_zero (by omega);subst hc;refine⟨w,?_,by simpa using hown,⟨rfl,rfl,rfl,Nat.le_refl _,fun _ _ _=>rfl⟩⟩;cases dp with
    | none=>simp[Builtin.copy_,run_underlying hu,Builtin.lenOf,sizeOf,typeInfo,hq,hi,hf]
    | some ad=>simp[Builtin.copy_,run_underlying hu,Builtin.lenOf,sizeOf,typeInfo,hq,hi,hf,storeCells]
 obtain⟨w',hr,h2,h3⟩:=key;unfold Oper.wp execOp;simp only[ho,resolve,invoke,builtin,Sem.run_bind,Sem.run_pure,Result.andThen_ok,List.map_toArray,List.map_cons,List.map_nil,hd,hs,hr];exact hK _ _ (h w' h2 h3)
end
section
structure Bk where
 a:Nat
 o:Nat
 t:Nat
deriving DecidableEq
def Bk.fin (b:Bk):Nat:=b.a+2^b.o
def lC (a o:Nat):Nat:=if a/2^o%2=0 then a+2^o else a-2^o
structure Zn where
 f:Nat
 e:Nat
 l:List Bk
 y:List Nat
deriving DecidableEq
def cZ (f e a o:Nat):Prop:=o<=4/\f<=a/\a<e/\a%2^o=0
structure rQ (f e:Nat)(l:List Bk):Prop where
 fit:∀b∈l,cZ f e b.a b.o/\b.t<3
 sep:l.Pairwise fun x y=>x.fin<=y.a
 nob:∀x∈l,∀y∈l,x.o=y.o->x.o<4->y.a≠lC x.a x.o
structure OkZ (f e:Nat)(y:List Nat):Prop where
 fe:f<=e
 e2:e<=256
 f16:f%16=0
 e16:e%16=0
 len:y.length=(e-f)/8
 typ:∀t∈y,t<3
def Zn.ok (z:Zn):Prop:=OkZ z.f z.e z.y/\rQ z.f z.e z.l
theorem XP (f e:Nat)(l:List Bk):rQ f e l↔(∀b∈l,cZ f e b.a b.o/\b.t<3)/\(l.Pairwise fun x y=>x.fin<=y.a)/\∀x∈l,∀y∈l,x.o=y.o->x.o<4->y.a≠lC x.a x.o:=
 ⟨fun h=>⟨h.fit,h.sep,h.nob⟩,fun h=>⟨h.1,h.2.1,h.2.2⟩⟩
theorem XQ (f e:Nat)(y:List Nat):OkZ f e y↔(f<=e/\e<=256/\f%16=0/\e%16=0/\y.length=(e-f)/8/\∀t∈y,t<3):=
 ⟨fun h=>⟨h.fe,h.e2,h.f16,h.e16,h.len,h.typ⟩,fun h=>⟨h.1,h.2.1,h.2.2.1,h.2.2.2.1,h.2.2.2.2.1,h.2.2.2.2.2⟩⟩
def apartB (a o:Nat)(x:Bk):Prop:=x.fin<=a∨a+2^o<=x.a
def lb (l:List Bk)(a:Nat):Nat:=(l.takeWhile fun b=>decide (b.a<a)).length
def iQ (l:List Bk)(a:Nat):Nat->Nat->List Bk×Nat×Nat
 | 0,o=>(l,a,o)
 | n+1,o=>match l[lb l (lC a o)]? with
  | some x=>if x.a=lC a o/\x.o=o then iQ (l.eraseIdx (lb l (lC a o))) (min a x.a) n (o+1)else(l,a,o)
  | none=>(l,a,o)
def bF (l:List Bk)(b:Bk):List Bk:=l.take (lb l b.a)++b::l.drop (lb l b.a)
def Zn.back (z:Zn)(a o:Nat):Zn:=
 let r:=iQ z.l a (4-o) o
 {z with l:=bF r.1 ⟨r.2.1,r.2.2,z.y.getD ((r.2.1-z.f)/8) 0⟩}
theorem GK {o:Nat}(h:o<=4):2^o=1∨2^o=2∨2^o=4∨2^o=8∨2^o=16:=by
 obtain rfl | rfl | rfl | rfl | rfl:o=0∨o=1∨o=2∨o=3∨o=4:=by omega
 all_goals simp
theorem dR (o:Nat):0<2^o:=Nat.two_pow_pos o
theorem zB {a o:Nat}(ho:o<=4)(h:a%2^o=0):(lC a o=a+2^o/\a%2^(o+1)=0)∨(lC a o+2^o=a/\lC a o%2^(o+1)=0):=by
 unfold lC;obtain rfl | rfl | rfl | rfl | rfl:o=0∨o=1∨o=2∨o=3∨o=4:=by omega
 all_goals simp only[Nat.reducePow,Nat.reduceAdd]at*
 all_goals split <;> omega
theorem XR {a o:Nat}(ho:o<=4)(h:a%2^o=0):lC (lC a o) o=a:=by
 unfold lC;obtain rfl | rfl | rfl | rfl | rfl:o=0∨o=1∨o=2∨o=3∨o=4:=by omega
 all_goals simp only[Nat.reducePow]at*
 all_goals (split <;> split <;> omega)
theorem Qb {f e a o:Nat}(hf:f%16=0)(he:e%16=0)(ho:o<4)(h:cZ f e a o):cZ f e (min a (lC a o)) (o+1):=by
 obtain⟨h1,h2,h3,h4⟩:=h;unfold cZ lC;obtain rfl | rfl | rfl | rfl:o=0∨o=1∨o=2∨o=3:=by omega
 all_goals simp only[Nat.reducePow,Nat.reduceAdd]at*
 all_goals (split <;> omega)
theorem uF {f e a o:Nat}(he:e%16=0)(h:cZ f e a o):a+2^o<=e:=by
 obtain⟨h1,h2,h3,h4⟩:=h;obtain rfl | rfl | rfl | rfl | rfl:o=0∨o=1∨o=2∨o=3∨o=4:=by omega
 all_goals simp only[Nat.reducePow]at*
 all_goals omega
theorem EW {f e a o:Nat}(he:e%16=0)(h:cZ f e a (o+1)):cZ f e a o/\cZ f e (a+2^o) o/\lC (a+2^o) o=a:=by
 have h5:=uF he h;obtain⟨h1,h2,h3,h4⟩:=h;unfold cZ lC;obtain rfl | rfl | rfl | rfl:o=0∨o=1∨o=2∨o=3:=by omega
 all_goals simp only[Nat.reducePow,Nat.reduceAdd]at*
 all_goals (refine⟨⟨by omega,by omega,by omega,by omega⟩,⟨by omega,by omega,by omega,by omega⟩,?_⟩;split <;> omega)
theorem BG {α:Type}(p:α->Bool):∀l:List α,l.take (l.takeWhile p).length=l.takeWhile p
 | []=>rfl
 | x::l=>by
  rw[List.takeWhile_cons];split
  ·rw[List.length_cons,List.take_succ_cons,BG p l]
  ·rfl
theorem drop_tw {α:Type}(p:α->Bool):∀l:List α,l.drop (l.takeWhile p).length=l.dropWhile p
 | []=>rfl
 | x::l=>by
  rw[List.takeWhile_cons,List.dropWhile_cons];split
  ·rw[List.length_cons,List.drop_succ_cons,drop_tw p l]
  ·rfl
theorem lD (l:List Bk)(a:Nat):lb l a<=l.length:=by
 have:=congrArg List.length (BG (fun b:Bk=>decide (b.a<a)) l);rw[List.length_take]at this;unfold lb;omega
def rU (l:List Bk):Prop:=l.Pairwise fun x y=>x.a<y.a
theorem rQ.rise {f e:Nat}{l:List Bk}(h:rQ f e l):rU l:=h.sep.imp fun{x y} h1=>by
 have:=dR x.o;unfold Bk.fin at h1;omega
theorem NM {α:Type}{p:α->Bool}:∀{l:List α} {x:α},x∈l.takeWhile p->p x=true
 | [],x,h=>by simp at h
 | y::l,x,h=>by
  rw[List.takeWhile_cons]at h;split at h
  ·rcases List.mem_cons.1 h with rfl | h
   ·assumption
   ·exact NM h
  ·simp at h
theorem xQ {l:List Bk}{a:Nat}:∀x∈l.take (lb l a),x.a<a:=by
 intro x hx;unfold lb at hx;rw[BG]at hx;have:=NM hx;simpa using this
theorem uG {l:List Bk}(h:rU l){a:Nat}:∀x∈l.drop (lb l a),a<=x.a:=by
 unfold lb;rw[drop_tw]
 induction l with
 | nil=>intro x hx;simp at hx
 | cons y l ih=>
  intro x hx;rw[List.dropWhile_cons]at hx;have hp:=List.pairwise_cons.1 h;split at hx
  ·exact ih hp.2 x hx
  ·rename_i hc;have hy:a<=y.a:=by simpa using hc
   rcases List.mem_cons.1 hx with rfl | hx
   ·exact hy
   ·have:=hp.1 x hx;omega
theorem lQ {l:List Bk}(h:rU l){x:Bk}(hx:x∈l):l[lb l x.a]? =some x:=by
 have hd:x∈l.drop (lb l x.a):=by
  rw[<- List.take_append_drop (lb l x.a) l,List.mem_append]at hx;rcases hx with hx | hx
  ·have:=xQ x hx;omega
  ·exact hx
 rw[<- List.head?_drop];have hr:rU (l.drop (lb l x.a)):=h.sublist (List.drop_sublist _ _);have ha:=uG h (a:=x.a);cases hl:l.drop (lb l x.a)with
 | nil=>rw[hl]at hd;simp at hd
 | cons y m=>
  rw[hl]at hd hr ha;rcases List.mem_cons.1 hd with rfl | hd
  ·rfl
  ·have h1:=(List.pairwise_cons.1 hr).1 x hd;have h2:=ha y (by simp);omega
def inB (a o p:Nat):Prop:=a<=p/\p<a+2^o
def fG (l:List Bk)(p:Nat):Prop:=∃b∈l,inB b.a b.o p
theorem rQ.sublist {f e:Nat}{l m:List Bk}(h:rQ f e l)(hs:m.Sublist l):rQ f e m:=
 ⟨fun b hb=>h.fit b (hs.subset hb),h.sep.sublist hs,fun x hx y hy=>h.nob x (hs.subset hx) y (hs.subset hy)⟩
theorem xR {l:List Bk}(h:l.Pairwise fun x y=>x.fin<=y.a){i j:Nat}(hi:i<l.length)(hj:j<l.length)(hne:i≠j):l[i].fin<=l[j].a∨l[j].fin<=l[i].a:=by
 rcases Nat.lt_or_ge i j with hlt | hge
 ·exact .inl (List.pairwise_iff_getElem.1 h i j hi hj hlt)
 ·exact .inr (List.pairwise_iff_getElem.1 h j i hj hi (by omega))
theorem rQ.put {f e:Nat}{l:List Bk}(h:rQ f e l){b:Bk}(hb:cZ f e b.a b.o)(ht:b.t<3)(hd:∀x∈l,apartB b.a b.o x)(hn:b.o<4->∀x∈l,x.o=b.o->x.a≠lC b.a b.o):rQ f e (bF l b):=by
 have hmem:∀x,x∈bF l b↔x=b∨x∈l:=fun x=>by
  unfold bF;rw[List.mem_append,List.mem_cons]
  conv=>rhs;rw[<- List.take_append_drop (lb l b.a) l,List.mem_append]
  constructor
  ·rintro(h | h | h)
   ·exact .inr (.inl h)
   ·exact .inl h
   ·exact .inr (.inr h)
  ·rintro(h | h | h)
   ·exact .inr (.inl h)
   ·exact .inl h
   ·exact .inr (.inr h)
 refine⟨fun x hx=> ?_,?_,fun x hx y hy he ho=> ?_⟩
 ·rcases(hmem x).1 hx with rfl | hx
  ·exact⟨hb,ht⟩
  ·exact h.fit x hx
 ·unfold bF;rw[List.pairwise_append];refine⟨h.sep.sublist (List.take_sublist _ _),?_,fun x hx y hy=> ?_⟩
  ·rw[List.pairwise_cons];refine⟨fun y hy=> ?_,h.sep.sublist (List.drop_sublist _ _)⟩;have h1:=uG h.rise y hy;have h2:=hd y (List.mem_of_mem_drop hy);have h3:=dR y.o;unfold apartB Bk.fin at h2;unfold Bk.fin;omega
  ·have h1:=xQ x hx;have h2:=hd x (List.mem_of_mem_take hx);have h3:=dR b.o;rcases List.mem_cons.1 hy with rfl | hy
   ·unfold apartB Bk.fin at h2;unfold Bk.fin;omega
   ·have hs:=h.sep;rw[<- List.take_append_drop (lb l b.a) l,List.pairwise_append]at hs;exact hs.2.2 x hx y hy
 ·have hself:b.o<4->b.a≠lC b.a b.o:=fun _ e=>by
   have hp:=dR b.o;rcases zB hb.1 hb.2.2.2 with ⟨h1,_⟩ | ⟨h1,_⟩ <;> omega
  rcases(hmem x).1 hx with hxe | hxl
  ·subst hxe;rcases(hmem y).1 hy with hye | hyl
   ·subst hye;exact hself ho
   ·exact hn ho y hyl he.symm
  ·rcases(hmem y).1 hy with hye | hyl
   ·subst hye;intro e2;have hxf:=(h.fit x hxl).1;have:=hn (by omega) x hxl he;rw[e2,<- he,XR hxf.1 hxf.2.2.2]at this;exact this rfl
   ·exact h.nob x hxl y hyl he ho
theorem Jv {l:List Bk}{b:Bk}(p:Nat):fG (bF l b) p↔fG l p∨inB b.a b.o p:=by
 unfold fG bF;constructor
 ·rintro⟨x,hx,hp⟩;rw[List.mem_append,List.mem_cons]at hx;rcases hx with hx | rfl | hx
  ·exact .inl ⟨x,List.mem_of_mem_take hx,hp⟩
  ·exact .inr hp
  ·exact .inl ⟨x,List.mem_of_mem_drop hx,hp⟩
 ·rintro(⟨x,hx,hp⟩ | hp)
  ·rw[<- List.take_append_drop (lb l b.a) l,List.mem_append]at hx;refine⟨x,?_,hp⟩;rw[List.mem_append,List.mem_cons];rcases hx with hx | hx
   ·exact .inl hx
   ·exact .inr (.inr hx)
  ·exact⟨b,by simp,hp⟩
structure Joined (f e:Nat)(l:List Bk)(a o:Nat)(l':List Bk)(a' o':Nat):Prop where
 ok:rQ f e l'
 fit:cZ f e a' o'
 apart:∀x∈l',apartB a' o' x
 last:o'<4->∀x∈l',x.o=o'->x.a≠lC a' o'
 Uu:∀p,(fG l' p∨inB a' o' p)↔(fG l p∨inB a o p)
theorem EX {f e:Nat}(hf:f%16=0)(he:e%16=0):∀(n o:Nat) (l:List Bk) (a:Nat),n+o=4->rQ f e l->cZ f e a o->(∀x∈l,apartB a o x)->Joined f e l a o (iQ l a n o).1 (iQ l a n o).2.1 (iQ l a n o).2.2
 | 0,o,l,a,hn,hl,hb,hd=>⟨hl,hb,hd,fun h=>by simp only[iQ]at h;omega,fun p=>Iff.rfl⟩
 | n+1,o,l,a,hn,hl,hb,hd=>by
  have hstop:(∀x∈l,x.o=o->x.a≠lC a o)->Joined f e l a o l a o:=fun h=>⟨hl,hb,hd,fun _=>h,fun p=>Iff.rfl⟩
  unfold iQ;cases hx:l[lb l (lC a o)]? with
  | none=>
   simp only;refine hstop fun x hxl ho e2=> ?_
   have:=lQ hl.rise hxl;rw[e2,hx]at this;cases this
  | some x=>
   simp only;by_cases hc:x.a=lC a o/\x.o=o
   ·rw[if_pos hc];obtain⟨hi,hxi⟩:=List.getElem?_eq_some_iff.1 hx;have hxm:x∈l:=by rw[<- hxi];exact gL hi
    have hmem:∀y,y∈l.eraseIdx (lb l (lC a o))->y∈l/\(y.fin<=x.a∨x.fin<=y.a):=fun y hy=>by
     obtain⟨j,hj,hne,rfl⟩:=List.mem_eraseIdx_iff_getElem.1 hy;refine⟨gL hj,?_⟩;rw[<- hxi];exact xR hl.sep hj hi hne
    have ho4:o<4:=by omega
    have hp:=dR o;have hps:2^(o+1)=2^o+2^o:=by rw[Nat.pow_succ];omega
    have hbc:=zB hb.1 hb.2.2.2;have hmin:min a x.a=min a (lC a o):=by rw[hc.1]
    have hapart:∀y∈l.eraseIdx (lb l (lC a o)),apartB (min a x.a) (o+1) y:=fun y hy=>by
     obtain⟨hyl,hy2⟩:=hmem y hy;have hy1:=hd y hyl;have hpy:=dR y.o;unfold apartB Bk.fin at*;rw[hc.2,hc.1]at hy2;rw[hmin,hps];rcases hbc with ⟨h1,_⟩ | ⟨h1,_⟩ <;> omega
    have ih:=EX hf he n (o+1) (l.eraseIdx (lb l (lC a o))) (min a x.a) (by omega) (hl.sublist (List.eraseIdx_sublist _ _)) (by rw[hmin];exact Qb hf he ho4 hb) hapart;refine⟨ih.ok,ih.fit,ih.apart,ih.last,fun p=>(ih.Uu p).trans ?_⟩;have aCr:inB (min a x.a) (o+1) p↔(inB a o p∨inB x.a x.o p):=by
     unfold inB;rw[hc.2,hc.1,hps];rcases hbc with ⟨h1,_⟩ | ⟨h1,_⟩ <;> omega
    rw[aCr];constructor
    ·rintro(⟨y,hy,h⟩ | h | h)
     ·exact .inl ⟨y,(hmem y hy).1,h⟩
     ·exact .inr h
     ·exact .inl ⟨x,hxm,h⟩
    ·rintro(⟨y,hy,h⟩ | h)
     ·obtain⟨j,hj,rfl⟩:=List.getElem_of_mem hy;by_cases hje:j=lb l (lC a o)
      ·subst hje;rw[hxi]at h;exact .inr (.inr h)
      ·exact .inl ⟨_,List.mem_eraseIdx_iff_getElem.2 ⟨j,hj,hje,rfl⟩,h⟩
     ·exact .inr (.inl h)
   ·rw[if_neg hc];refine hstop fun y hyl ho e2=> ?_
    have:=lQ hl.rise hyl;rw[e2,hx]at this;obtain rfl:x=y:=by simpa using this
    exact hc ⟨e2,ho⟩
theorem Zn.rV {z:Zn}(h:z.ok){a o:Nat}(hb:cZ z.f z.e a o)(hd:∀x∈z.l,apartB a o x):(z.back a o).ok/\∀p,fG (z.back a o).l p↔(fG z.l p∨inB a o p):=by
 obtain⟨hz,hl⟩:=h;have hj:=EX hz.f16 hz.e16 (4-o) o z.l a (by have:=hb.1;omega) hl hb hd;unfold Zn.back Zn.ok;simp only;generalize (iQ z.l a (4-o) o).1=l' at*;generalize (iQ z.l a (4-o) o).2.1=a' at*;generalize (iQ z.l a (4-o) o).2.2=o' at*;refine⟨⟨hz,hj.ok.put hj.fit ?_ hj.apart hj.last⟩,fun p=>(Jv p).trans (hj.Uu p)⟩;have h1:=hj.fit.2.1;have h2:=hj.fit.2.2.1;have hlt:(a'-z.f)/8<z.y.length:=by rw[hz.len];have:=hz.f16;have:=hz.e16;omega
 rw[List.getD_eq_getElem?_getD,gJ hlt];exact hz.typ _ (gL hlt)
end
section
def nT (l:List Bk)(o t:Nat):Option Nat:=l.findIdx? fun b=>decide (b.o=o/\b.t=t)
def kM (l:List Bk)(t:Nat):Nat->Nat->Option Nat
 | 0,_=>none
 | n+1,o=>match nT l o t with
  | some i=>some i
  | none=>kM l t n (o+1)
def oth1 (t:Nat):Nat:=if t=2 then 0 else 2
def oth2 (t:Nat):Nat:=if t=1 then 0 else 1
def dO (l:List Bk)(t order:Nat):Nat->Option Nat
 | 0=>none
 | n+1=>if n<order then none else match nT l n (oth1 t)with
  | some i=>some i
  | none=>match nT l n (oth2 t)with
   | some i=>some i
   | none=>dO l t order n
def qO (y:List Nat)(f a t:Nat):Nat->List Nat
 | 0=>y
 | n+1=>(qO y f a t n).set ((a+n-f)/8) t
def oJ (fr up t:Nat)(x:Bk):Bk:=if fr<=x.a/\x.fin<=up then{x with t:=t}else x
def Zn.steal (z:Zn)(b:Bk)(t:Nat):Zn:=
 if b.o<2 then z else{z with l:=z.l.map (oJ (b.a/8*8) (max b.fin (b.a/8*8+8)) t),y:=qO z.y z.f b.a t (2^b.o)}
def bZ (l:List Bk)(a t order:Nat):Nat->List Bk
 | 0=>l
 | o+1=>if order<=o then bZ (bF l ⟨a+2^o,o,t⟩) a t order o else l
def Zn.cut (z:Zn)(i order:Nat):Option (Zn×Nat):=match z.l[i]? with
 | some b=>some ({z with l:=bZ (z.l.eraseIdx i) b.a b.t order b.o},b.a)
 | none=>none
def Zn.take (z:Zn)(order t:Nat):Option (Zn×Nat):=match kM z.l t (5-order) order with
 | some i=>z.cut i order
 | none=>match dO z.l t order 5 with
  | some i=>match z.l[i]? with
   | some b=>(z.steal b t).cut i order
   | none=>none
  | none=>none
theorem qP {l:List Bk}{o t i:Nat}(h:nT l o t=some i):∃b,l[i]? =some b/\b.o=o/\b.t=t:=by
 unfold nT at h;rw[List.findIdx?_eq_some_iff_getElem]at h;obtain⟨hi,hp,_⟩:=h;have hp':=of_decide_eq_true hp;exact⟨l[i],gJ hi,hp'.1,hp'.2⟩
theorem zC {l:List Bk}{o t:Nat}(h:nT l o t=none):∀b∈l,¬(b.o=o/\b.t=t):=by
 unfold nT at h;rw[List.findIdx?_eq_none_iff]at h;intro b hb;exact of_decide_eq_false (h b hb)
theorem pG {l:List Bk}{t:Nat}:∀{n o i:Nat},kM l t n o=some i->∃b,l[i]? =some b/\o<=b.o/\b.t=t
 | 0,_,_,h=>by cases h
 | n+1,o,i,h=>by
  unfold kM at h;cases hl:nT l o t with
  | some j=>
   rw[hl]at h;obtain rfl:j=i:=by simpa using h
   obtain⟨b,h1,h2,h3⟩:=qP hl;exact⟨b,h1,by omega,h3⟩
  | none=>
   rw[hl]at h;obtain⟨b,h1,h2,h3⟩:=pG (n:=n) (o:=o+1) (i:=i) h;exact⟨b,h1,by omega,h3⟩
theorem AA {l:List Bk}{t:Nat}:∀{n o:Nat},kM l t n o=none->∀b∈l,¬(o<=b.o/\b.o<o+n/\b.t=t)
 | 0,o,_,b,_,hc=>by omega
 | n+1,o,h,b,hb,hc=>by
  unfold kM at h;cases hl:nT l o t with
  | some j=>rw[hl]at h;cases h
  | none=>
   rw[hl]at h;have h1:=zC hl b hb;have h2:=AA (n:=n) (o:=o+1) h b hb;by_cases he:b.o=o
   ·exact h1 ⟨he,hc.2.2⟩
   ·exact h2 ⟨by omega,by omega,hc.2.2⟩
theorem nG {l:List Bk}{t order:Nat}:∀{n i:Nat},dO l t order n=some i->∃b,l[i]? =some b/\order<=b.o
 | 0,_,h=>by cases h
 | n+1,i,h=>by
  unfold dO at h;by_cases hc:n<order
  ·rw[if_pos hc]at h;cases h
  ·rw[if_neg hc]at h;cases h1:nT l n (oth1 t)with
   | some j=>
    rw[h1]at h;obtain rfl:j=i:=by simpa using h
    obtain⟨b,g1,g2,_⟩:=qP h1;exact⟨b,g1,by omega⟩
   | none=>
    rw[h1]at h;cases h2:nT l n (oth2 t)with
    | some j=>
     rw[h2]at h;obtain rfl:j=i:=by simpa using h
     obtain⟨b,g1,g2,_⟩:=qP h2;exact⟨b,g1,by omega⟩
    | none=>
     rw[h2]at h;exact nG (n:=n) h
theorem wH {l:List Bk}{t order:Nat}:∀{n:Nat},dO l t order n=none->∀b∈l,¬(order<=b.o/\b.o<n/\(b.t=oth1 t∨b.t=oth2 t))
 | 0,_,b,_,hc=>by omega
 | n+1,h,b,hb,hc=>by
  unfold dO at h;by_cases hn:n<order
  ·omega
  ·rw[if_neg hn]at h;cases h1:nT l n (oth1 t)with
   | some j=>rw[h1]at h;cases h
   | none=>
    rw[h1]at h;cases h2:nT l n (oth2 t)with
    | some j=>rw[h2]at h;cases h
    | none=>
     rw[h2]at h;have g1:=zC h1 b hb;have g2:=zC h2 b hb;have g3:=wH (n:=n) h b hb;by_cases he:b.o=n
     ·rcases hc.2.2 with h | h
      ·exact g1 ⟨he,h⟩
      ·exact g2 ⟨he,h⟩
     ·exact g3 ⟨hc.1,by omega,hc.2.2⟩
theorem pI (y:List Nat)(f a t:Nat):∀n,(qO y f a t n).length=y.length
 | 0=>rfl
 | n+1=>by simp[qO,pI y f a t n]
theorem Jw {y:List Nat}{f a t:Nat}(ht:t<3)(h:∀u∈y,u<3):∀n,∀u∈qO y f a t n,u<3
 | 0=>h
 | n+1=>fun u hu=>by
  unfold qO at hu;rcases List.mem_or_eq_of_mem_set hu with hu | rfl
  ·exact Jw ht h n u hu
  ·exact ht
theorem rQ.map {f e:Nat}{l:List Bk}(h:rQ f e l){g:Bk->Bk}(ha:∀x,(g x).a=x.a)(ho:∀x,(g x).o=x.o)(ht:∀x,x.t<3->(g x).t<3):rQ f e (l.map g):=by
 refine⟨fun b hb=> ?_,?_,fun x hx y hy he ho4=> ?_⟩
 ·obtain⟨x,hx,rfl⟩:=List.mem_map.1 hb;obtain⟨h1,h2⟩:=h.fit x hx;rw[ha,ho];exact⟨h1,ht x h2⟩
 ·rw[List.pairwise_map];refine h.sep.imp fun{x y} h1=> ?_
  unfold Bk.fin at*;rw[ha,ha,ho];exact h1
 ·obtain⟨x',hx',rfl⟩:=List.mem_map.1 hx;obtain⟨y',hy',rfl⟩:=List.mem_map.1 hy;rw[ho,ho]at he;rw[ho]at ho4;rw[ha,ha,ho];exact h.nob x' hx' y' hy' he ho4
theorem Uw {l:List Bk}{g:Bk->Bk}(ha:∀x,(g x).a=x.a)(ho:∀x,(g x).o=x.o)(p:Nat):fG (l.map g) p↔fG l p:=by
 unfold fG;constructor
 ·rintro⟨b,hb,hp⟩;obtain⟨x,hx,rfl⟩:=List.mem_map.1 hb;rw[ha,ho]at hp;exact⟨x,hx,hp⟩
 ·rintro⟨x,hx,hp⟩;exact⟨g x,List.mem_map_of_mem hx,by rw[ha,ho];exact hp⟩
theorem GL (fr up t:Nat)(x:Bk):(oJ fr up t x).a=x.a:=by unfold oJ;split <;> rfl
theorem GN (fr up t:Nat)(x:Bk):(oJ fr up t x).o=x.o:=by unfold oJ;split <;> rfl
theorem XT {fr up t:Nat}(ht:t<3)(x:Bk)(h:x.t<3):(oJ fr up t x).t<3:=by unfold oJ;split <;> simp[ht,h]
theorem Zn.oK {z:Zn}(h:z.ok){b:Bk}{t:Nat}(ht:t<3):(z.steal b t).ok/\(∀p,fG (z.steal b t).l p↔fG z.l p)/\(z.steal b t).f=z.f/\(z.steal b t).e=z.e/\∀(i:Nat) (x:Bk),z.l[i]? =some x->∃y:Bk,(z.steal b t).l[i]? =some y/\y.a=x.a/\y.o=x.o:=by
 unfold Zn.steal;split
 ·exact⟨h,fun _=>Iff.rfl,rfl,rfl,fun i x hx=>⟨x,hx,rfl,rfl⟩⟩
 ·refine⟨⟨⟨h.1.fe,h.1.e2,h.1.f16,h.1.e16,by simp only[pI];exact h.1.len,Jw ht h.1.typ _⟩,h.2.map (GL _ _ _) (GN _ _ _) (XT ht)⟩,fun p=>Uw (GL _ _ _) (GN _ _ _) p,rfl,rfl,fun i x hx=>⟨oJ (b.a/8*8) (max b.fin (b.a/8*8+8)) t x,by simp only[List.getElem?_map,hx,Option.map_some],GL _ _ _ _,GN _ _ _ _⟩⟩
theorem split_ok {f e a t order:Nat}(he:e%16=0)(ht:t<3):∀(o:Nat) (l:List Bk),order<=o->rQ f e l->cZ f e a o->(∀x∈l,apartB a o x)->
 rQ f e (bZ l a t order o)/\cZ f e a order/\(∀x∈bZ l a t order o,apartB a order x)/\∀p,(fG (bZ l a t order o) p∨inB a order p)↔(fG l p∨inB a o p)
 | 0,l,ho,hl,hb,hd=>by
  obtain rfl:order=0:=by omega
  exact⟨hl,hb,hd,fun p=>Iff.rfl⟩
 | o+1,l,ho,hl,hb,hd=>by
  unfold bZ;by_cases hc:order<=o
  ·rw[if_pos hc];obtain⟨h1,h2,h3⟩:=EW he hb;have hp:=dR o;have hps:2^(o+1)=2^o+2^o:=by rw[Nat.pow_succ];omega
   have hl':rQ f e (bF l ⟨a+2^o,o,t⟩):=hl.put h2 ht (fun x hx=>by
    have:=hd x hx;unfold apartB Bk.fin at*;rw[hps]at this;simp only;omega) (fun _ x hx hxo=>by
    simp only at hxo ⊢;rw[h3];have:=hd x hx;have hpx:=dR x.o;unfold apartB Bk.fin at this;omega)
   have hd':∀x∈bF l ⟨a+2^o,o,t⟩,apartB a o x:=fun x hx=>by
    unfold bF at hx;rw[List.mem_append,List.mem_cons]at hx;rcases hx with hx | rfl | hx
    ·have:=hd x (List.mem_of_mem_take hx);unfold apartB at*;omega
    ·unfold apartB;simp only;omega
    ·have:=hd x (List.mem_of_mem_drop hx);unfold apartB at*;omega
   obtain⟨g1,g2,g3,g4⟩:=split_ok he ht o _ hc hl' h1 hd';refine⟨g1,g2,g3,fun p=>(g4 p).trans ?_⟩;rw[Jv];simp only;unfold inB;rw[hps];constructor
   ·rintro((h | h) | h)
    ·exact .inl h
    ·exact .inr (by omega)
    ·exact .inr (by omega)
   ·rintro(h | h)
    ·exact .inl (.inl h)
    ·by_cases hpa:p<a+2^o
     ·exact .inr (by omega)
     ·exact .inl (.inr (by omega))
  ·rw[if_neg hc];obtain rfl:order=o+1:=by omega
   exact⟨hl,hb,hd,fun p=>Iff.rfl⟩
structure Taken (z:Zn)(order:Nat)(z':Zn)(at_:Nat):Prop where
 ok:z'.ok
 f:z'.f=z.f
 e:z'.e=z.e
 fit:cZ z.f z.e at_ order
 apart:∀x∈z'.l,apartB at_ order x
 Uu:∀p,(fG z'.l p∨inB at_ order p)↔fG z.l p
 inside:∃b∈z.l,b.a=at_/\order<=b.o
theorem Zn.Ux {z:Zn}(h:z.ok){i order:Nat}{b:Bk}(hb:z.l[i]? =some b)(ho:order<=b.o):∃z' at_,z.cut i order=some (z',at_)/\Taken z order z' at_:=by
 obtain⟨hi,hbi⟩:=List.getElem?_eq_some_iff.1 hb;have hbm:b∈z.l:=by rw[<- hbi];exact gL hi
 have hfit:=h.2.fit b hbm;have hmem:∀y,y∈z.l.eraseIdx i->y∈z.l/\(y.fin<=b.a∨b.fin<=y.a):=fun y hy=>by
  obtain⟨j,hj,hne,rfl⟩:=List.mem_eraseIdx_iff_getElem.1 hy;refine⟨gL hj,?_⟩;rw[<- hbi];exact xR h.2.sep hj hi hne
 obtain⟨g1,g2,g3,g4⟩:=split_ok (t:=b.t) h.1.e16 hfit.2 b.o (z.l.eraseIdx i) ho (h.2.sublist (List.eraseIdx_sublist _ _)) hfit.1 (fun y hy=>(hmem y hy).2);refine⟨{z with l:=bZ (z.l.eraseIdx i) b.a b.t order b.o},b.a,by unfold Zn.cut;rw[hb],⟨h.1,g1⟩,rfl,rfl,g2,g3,fun p=>(g4 p).trans ?_,b,hbm,rfl,ho⟩;constructor
 ·rintro(⟨y,hy,hp⟩ | hp)
  ·exact⟨y,(hmem y hy).1,hp⟩
  ·exact⟨b,hbm,hp⟩
 ·rintro⟨y,hy,hp⟩;obtain⟨j,hj,rfl⟩:=List.getElem_of_mem hy;by_cases hje:j=i
  ·subst hje;rw[hbi]at hp;exact .inr hp
  ·exact .inl ⟨_,List.mem_eraseIdx_iff_getElem.2 ⟨j,hj,hje,rfl⟩,hp⟩
theorem Zn.EY {z:Zn}(h:z.ok){order t:Nat}(ho:order<=4)(ht:t<3)(hb:∃b∈z.l,order<=b.o):∃z' at_,z.take order t=some (z',at_)/\Taken z order z' at_:=by
 unfold Zn.take;cases hu:kM z.l t (5-order) order with
 | some i=>
  obtain⟨b,h1,h2,_⟩:=pG hu;exact z.Ux h h1 h2
 | none=>
  simp only;cases hd:dO z.l t order 5 with
  | some i=>
   obtain⟨b,h1,h2⟩:=nG hd;simp only[h1];obtain⟨s1,s2,s3,s4,s5⟩:=Zn.oK h (b:=b) ht;obtain⟨y,hy,hya,hyo⟩:=s5 i b h1;obtain⟨z',at_,g1,g2⟩:=Zn.Ux s1 hy (order:=order) (by omega);refine⟨z',at_,g1,g2.ok,g2.f.trans s3,g2.e.trans s4,by have:=g2.fit;rwa [s3,s4]at this,g2.apart,fun p=>(g2.Uu p).trans (s2 p),?_⟩;obtain⟨c,hc1,hc2,hc3⟩:=g2.inside;have hcut:at_=y.a:=by
    unfold Zn.cut at g1;rw[hy]at g1;simp only[Option.some.injEq,Prod.mk.injEq]at g1;exact g1.2.symm
   obtain⟨hi,hbi⟩:=List.getElem?_eq_some_iff.1 h1;exact⟨b,by rw[<- hbi];exact gL hi,by rw[hcut,hya],h2⟩
  | none=>
   exfalso;obtain⟨b,hb,NP⟩:=hb;have h1:=AA hu b hb;have h2:=wH hd b hb;have h3:=h.2.fit b hb;have h4:=h3.1.1;by_cases he:b.t=t
   ·exact h1 ⟨NP,by omega,he⟩
   ·refine h2 ⟨NP,by omega,?_⟩;unfold oth1 oth2;have h5:=h3.2;obtain rfl | rfl | rfl:t=0∨t=1∨t=2:=by omega
    all_goals simp only[Nat.reduceEqDiff,if_true,if_false]
    all_goals omega
theorem Zn.EZ {z:Zn}{order t:Nat}(h:¬∃b∈z.l,order<=b.o):z.take order t=none:=by
 unfold Zn.take;cases hu:kM z.l t (5-order) order with
 | some i=>
  obtain⟨b,h1,h2,_⟩:=pG hu;obtain⟨hi,hbi⟩:=List.getElem?_eq_some_iff.1 h1;exact absurd ⟨b,by rw[<- hbi];exact gL hi,h2⟩ h
 | none=>
  simp only;cases hd:dO z.l t order 5 with
  | some i=>
   obtain⟨b,h1,h2⟩:=nG hd;obtain⟨hi,hbi⟩:=List.getElem?_eq_some_iff.1 h1;exact absurd ⟨b,by rw[<- hbi];exact gL hi,h2⟩ h
  | none=>rfl
end
section
theorem dG {a o:Nat}{x:Bk}(h:∀p,inB a o p->¬inB x.a x.o p):apartB a o x:=by
 have h1:=dR o;have h2:=dR x.o;unfold apartB Bk.fin;have h3:=h (max a x.a);unfold inB at h3;omega
theorem jP {a o:Nat}{x:Bk}(h:apartB a o x)(p:Nat)(hp:inB a o p):¬inB x.a x.o p:=by
 unfold apartB Bk.fin at h;unfold inB at*;omega
structure Rj (lo hi:Nat)(z:Zn)(away:List Bk):Prop where
 ok:z.ok
 fits:∀b∈away,cZ z.f z.e b.a b.o
 apart:∀b∈away,∀x∈z.l,apartB b.a b.o x
 each:away.Pairwise fun b c=>apartB b.a b.o c
 Uu:∀p,(fG z.l p∨fG away p)↔(lo<=p/\p<hi)
theorem NQ {b c:Bk}(h:apartB b.a b.o c):apartB c.a c.o b:=by
 unfold apartB Bk.fin at*;omega
theorem Rj.take {lo hi:Nat}{z:Zn}{away:List Bk}(h:Rj lo hi z away){order at_:Nat}{z':Zn}(ht:Taken z order z' at_)(t:Nat):Rj lo hi z' (away++[⟨at_,order,t⟩]):=by
 obtain⟨c,hc,hca,hco⟩:=ht.inside;have hcov:∀p,inB at_ order p->fG z.l p:=fun p hp=>(ht.Uu p).1 (.inr hp)
 have aCs:∀p,fG z'.l p->fG z.l p:=fun p hp=>(ht.Uu p).1 (.inl hp)
 have hd:∀b∈away,∀p,inB b.a b.o p->¬fG z.l p:=fun b hb p hp ⟨x,hx,hxp⟩=>jP (h.apart b hb x hx) p hp hxp
 have hff:z'.f=z.f:=ht.f;have hee:z'.e=z.e:=ht.e;refine⟨ht.ok,fun b hb=> ?_,fun b hb x hx=> ?_,?_,fun p=> ?_⟩
 ·rw[hff,hee];rw[List.mem_append,List.mem_singleton]at hb;rcases hb with hb | rfl
  ·exact h.fits b hb
  ·exact ht.fit
 ·rw[List.mem_append,List.mem_singleton]at hb;rcases hb with hb | rfl
  ·exact dG fun p hp hxp=>hd b hb p hp (aCs p ⟨x,hx,hxp⟩)
  ·exact ht.apart x hx
 ·rw[List.pairwise_append];refine⟨h.each,by simp,fun b hb c hc=> ?_⟩;rw[List.mem_singleton]at hc;subst hc;exact dG fun p hp hcp=>hd b hb p hp (hcov p hcp)
 ·have h1:=h.Uu p;have h2:=ht.Uu p;have h3:fG (away++[⟨at_,order,t⟩]) p↔(fG away p∨inB at_ order p):=by
   unfold fG;constructor
   ·rintro⟨b,hb,hp⟩;rw[List.mem_append,List.mem_singleton]at hb;rcases hb with hb | rfl
    ·exact .inl ⟨b,hb,hp⟩
    ·exact .inr hp
   ·rintro(⟨b,hb,hp⟩ | hp)
    ·exact⟨b,by simp[hb],hp⟩
    ·exact⟨⟨at_,order,t⟩,by simp,hp⟩
  rw[h3];constructor
  ·rintro(h | h | h)
   ·exact h1.1 (.inl (h2.1 (.inl h)))
   ·exact h1.1 (.inr h)
   ·exact h1.1 (.inl (h2.1 (.inr h)))
  ·intro h;rcases h1.2 h with h | h
   ·rcases h2.2 h with h | h
    ·exact .inl h
    ·exact .inr (.inr h)
   ·exact .inr (.inl h)
theorem Rj.back {lo hi:Nat}{z:Zn}{away:List Bk}(h:Rj lo hi z away){k:Nat}(hk:k<away.length):Rj lo hi (z.back away[k].a away[k].o) (away.eraseIdx k):=by
 have hm:away[k]∈away:=gL hk;obtain⟨g1,g2⟩:=z.rV h.ok (h.fits _ hm) (h.apart _ hm);have hmem:∀y,y∈away.eraseIdx k->y∈away/\apartB y.a y.o away[k]:=fun y hy=>by
  obtain⟨j,hj,hne,rfl⟩:=List.mem_eraseIdx_iff_getElem.1 hy;refine⟨gL hj,?_⟩;rcases Nat.lt_or_ge j k with hlt | hge
  ·exact List.pairwise_iff_getElem.1 h.each j k hj hk hlt
  ·exact NQ (List.pairwise_iff_getElem.1 h.each k j hk hj (by omega))
 refine⟨g1,fun b hb=>h.fits b (hmem b hb).1,fun b hb x hx=> ?_,h.each.sublist (List.eraseIdx_sublist _ _),fun p=> ?_⟩
 ·refine dG fun p hp hxp=> ?_
  rcases(g2 p).1 ⟨x,hx,hxp⟩with ⟨y,hy,hyp⟩ | hyp
  ·exact jP (h.apart b (hmem b hb).1 y hy) p hp hyp
  ·exact jP (hmem b hb).2 p hp hyp
 ·rw[g2 p,<- h.Uu p];constructor
  ·rintro((h | h) | ⟨b,hb,hp⟩)
   ·exact .inl h
   ·exact .inr ⟨_,hm,h⟩
   ·exact .inr ⟨b,(hmem b hb).1,hp⟩
  ·rintro(h | ⟨b,hb,hp⟩)
   ·exact .inl (.inl h)
   ·obtain⟨j,hj,rfl⟩:=List.getElem_of_mem hb;by_cases hje:j=k
    ·subst hje;exact .inl (.inr hp)
    ·exact .inr ⟨_,List.mem_eraseIdx_iff_getElem.2 ⟨j,hj,hje,rfl⟩,hp⟩
def dW (z:Zn)(p:Nat):Nat->Zn
 | 0=>z
 | n+1=>(dW z p n).back (p+n) 0
theorem rQ.length_le {f e:Nat}:∀{l:List Bk},rQ f e l->(∀b∈l,b.a<e)->l.length<=e
 | l,h,hb=>by
  have hr:=h.rise;have:∀(l:List Bk) (n:Nat),rU l->(∀b∈l,n<=b.a/\b.a<e)->n<=e->l.length+n<=e:=by
   intro l
   induction l with
   | nil=>intro n _ _ hn;simp;exact hn
   | cons x l ih=>
    intro n hr hb hn;have h1:=hb x (by simp);have hp:=List.pairwise_cons.1 hr;have:=ih (x.a+1) hp.2 (fun y hy=>⟨hp.1 y hy,(hb y (by simp[hy])).2⟩) (by omega);simp only[List.length_cons];omega
  have:=this l 0 hr (fun b h=>⟨by omega,hb b h⟩) (by omega);omega
end
section
open Go.RowKit
theorem jK {w:World}{base:Nat}{e:TypeId}{size:Nat}{a:Option Addr}{n c:Nat}{xs:List Value}(h:w.ownsRow base e size (.slice a n c) n xs){i:Nat}(hi:i<=n):w.ownsRow base e size (.slice a i c) i (xs.take (i*size)):=by
 have hm:i*size<=n*size:=Nat.mul_le_mul_right _ hi;refine⟨by rw[List.length_take,h.1];omega,?_⟩;rcases h.2 with ⟨h',h2⟩ | ⟨g,cap,cur,h',hb,hg,hn,hc,hs,ht⟩
 ·obtain⟨rfl,rfl⟩:a=none/\c=0:=by simp at h';exact⟨h'.1,h'.2.2⟩
  obtain rfl:i=0:=by omega
  exact .inl ⟨rfl,rfl⟩
 ·obtain⟨rfl,rfl⟩:a=some ⟨g,0,none⟩/\c=cap:=by simpa using h'
  exact .inr ⟨g,c,cur,rfl,hb,hg,by omega,hc,hs,by rw[<- ht,List.take_take,Nat.min_eq_left hm]⟩
theorem uI {w:World}{base:Nat}{e:TypeId}{size:Nat}{a:Option Addr}{n c:Nat}{xs:List Value}(h:w.ownsRow base e size (.slice a n c) n xs){m:Nat}(hm:n<=m)(hc:m<=c):∃ys:List Value,ys.length=(m-n)*size/\w.ownsRow base e size (.slice a m c) m (xs++ys):=by
 rcases h.2 with ⟨h',h2⟩ | ⟨g,cap,cur,h',hb,hg,hn,hcm,hs,ht⟩
 ·obtain⟨rfl,rfl⟩:a=none/\c=0:=by simp at h';exact⟨h'.1,h'.2.2⟩
  obtain rfl:m=0:=by omega
  obtain rfl:n=0:=by omega
  exact⟨[],by simp,by simpa using h⟩
 ·obtain⟨rfl,rfl⟩:a=some ⟨g,0,none⟩/\c=cap:=by simpa using h'
  have h1:m*size<=c*size:=Nat.mul_le_mul_right _ hc;have h2:n*size<=m*size:=Nat.mul_le_mul_right _ hm;have hl:(cur.toList.take (m*size)).length=m*size:=by rw[List.length_take,Array.length_toList,hs];omega
  refine⟨(cur.toList.take (m*size)).drop (n*size),by rw[List.length_drop,hl,Nat.sub_mul],?_,.inr ⟨g,c,cur,rfl,hb,hg,hc,hcm,hs,?_⟩⟩
  ·rw[List.length_append,h.1,List.length_drop,hl];omega
  ·rw[<- ht];have:cur.toList.take (n*size)=(cur.toList.take (m*size)).take (n*size):=by rw[List.take_take,Nat.min_eq_left h2]
   rw[this,List.take_append_drop]
end
section
open Go.RowKit
variable {α:Type}
def flat (enc:α->List Value)(l:List α):List Value:=l.flatMap enc
theorem flat_length {enc:α->List Value}{k:Nat}(hk:∀x,(enc x).length=k)(l:List α):(flat enc l).length=l.length*k:=by
 unfold flat
 induction l with
 | nil=>simp
 | cons x l ih=>rw[List.flatMap_cons,List.length_append,hk,ih,List.length_cons,Nat.succ_mul,Nat.add_comm]
theorem aT (enc:α->List Value)(l m:List α):flat enc (l++m)=flat enc l++flat enc m:=by simp[flat]
theorem dM (enc:α->List Value)(x:α)(l:List α):flat enc (x::l)=enc x++flat enc l:=by simp[flat]
theorem gX (enc:α->List Value)(x:α):flat enc [x]=enc x:=by simp[flat]
theorem eH {enc:α->List Value}{k:Nat}(hk:∀x,(enc x).length=k)(l:List α)(n:Nat):(flat enc l).take (n*k)=flat enc (l.take n):=by
 by_cases h:n<=l.length
 ·conv=>lhs;rw[<- List.take_append_drop n l,aT]
  rw[List.take_left' (by rw[flat_length hk,List.length_take,Nat.min_eq_left h])]
 ·rw[List.take_of_length_le (show l.length<=n by omega),List.take_of_length_le (by rw[flat_length hk];exact Nat.mul_le_mul_right _ (by omega))]
theorem eP {enc:α->List Value}{k:Nat}(hk:∀x,(enc x).length=k)(l:List α)(n:Nat):(flat enc l).drop (n*k)=flat enc (l.drop n):=by
 by_cases h:n<=l.length
 ·conv=>lhs;rw[<- List.take_append_drop n l,aT]
  rw[List.drop_left' (by rw[flat_length hk,List.length_take,Nat.min_eq_left h])]
 ·rw[List.drop_eq_nil_of_le (show l.length<=n by omega),List.drop_eq_nil_of_le (by rw[flat_length hk];exact Nat.mul_le_mul_right _ (by omega))];rfl
theorem flat_get {enc:α->List Value}{k:Nat}(hk:∀x,(enc x).length=k)(l:List α)(j:Nat)(hj:j<l.length)(i:Nat)(hi:i<k):(flat enc l)[j*k+i]? =(enc l[j])[i]? :=by
 rw[<- List.getElem?_drop,eP hk,List.drop_eq_getElem_cons hj,dM,List.getElem?_append_left (by rw[hk];exact hi)]
theorem aN {enc:α->List Value}{k:Nat}(hk:∀x,(enc x).length=k)(hk0:0<k){w:World}{a:Option Addr}{l:List α}(h:Row w a (flat enc l)){j:Nat}(hj:j<l.length):
 ∃b off,a=some ⟨b,off,none⟩/\b<w.heap.size/\∀i v,(enc l[j])[i]? =some v->w.cell? ⟨b,off+j*k+i,none⟩=some v:=by
 have h0:(flat enc l)[j*k+0]? =some ((enc l[j])[0]'(by rw[hk];exact hk0)):=by
  rw[flat_get hk l j hj 0 hk0,gJ]
 obtain⟨b,off,e,hb,_⟩:=h _ _ h0;refine⟨b,off,e,hb,fun i v hi=> ?_⟩;have hik:i<k:=by have:=(List.getElem?_eq_some_iff.1 hi).1;rw[hk]at this;exact this
 obtain⟨b',off',e',_,hc⟩:=h (j*k+i) v (by rw[flat_get hk l j hj i hik];exact hi);rw[e]at e';obtain⟨rfl,rfl⟩:b=b'/\off=off':=by simpa using e'
 rw[Nat.add_assoc];exact hc
theorem UM {enc:α->List Value}{k:Nat}(hk:∀x,(enc x).length=k)(hk0:0<k){w:World}{base:Nat}{e:TypeId}{a:Option Addr}{n c:Nat}{l:List α}(h:w.ownsRow base e k (.slice a n c) n (flat enc l)){j:Nat}(hj:j<l.length):
 ∃g,a=some ⟨g,0,none⟩/\base<=g/\g<w.heap.size/\(∀i v,(enc l[j])[i]? =some v->w.cell? ⟨g,j*k+i,none⟩=some v)/\∀i,w.frozen? ⟨g,i,none⟩=false:=by
 obtain⟨b,off,e1,hb,hc⟩:=aN hk hk0 (aY h) hj;rcases h.2 with ⟨h',h2⟩ | ⟨g,cap,cur,h',hbg,hg,_⟩
 ·have h1:=h.1;rw[h2,Nat.zero_mul,flat_length hk]at h1;have:0<l.length*k:=Nat.mul_pos (by omega) hk0;omega
 ·obtain⟨rfl,rfl⟩:a=some ⟨g,0,none⟩/\c=cap:=by simpa using h'
  obtain⟨rfl,rfl⟩:g=b/\0=off:=by simpa using e1
  refine⟨g,rfl,hbg,hb,fun i v hi=>by have:=hc i v hi;rw[Nat.zero_add]at this;exact this,fun i=>World.ownsRow.frozenAt h i⟩
theorem bC {enc:α->List Value}{k:Nat}(hk:∀x,(enc x).length=k)(hk0:0<k){w:World}{base:Nat}{e:TypeId}{v:Value}{n:Nat}{l:List α}(h:w.ownsRow base e k v n (flat enc l)):l.length=n:=by
 have h1:=h.1;rw[flat_length hk]at h1;exact Nat.eq_of_mul_eq_mul_right hk0 h1
end
section
open Go.RowKit
open Classical in
noncomputable def ext (w x:World):World:=if Below w.heap.size w x then x else w
theorem aQ (w x:World):Below w.heap.size w (ext w x):=by
 unfold ext;split
 ·assumption
 ·exact Below.refl _ _
theorem bV {w x:World}(h:Below w.heap.size w x):ext w x=x:=by unfold ext;rw[if_pos h]
@[go_sem] theorem aCu {w x:World} {b o:Nat} {s:Option Nat} (h:b<w.heap.size):(ext w x).cell? ⟨b,o,s⟩=w.cell? ⟨b,o,s⟩:=(aQ w x).cell (p:=⟨b,o,s⟩) h
@[go_sem] theorem aAv {w x:World} {b o:Nat} {s:Option Nat} (h:b<w.heap.size):(ext w x).frozen? ⟨b,o,s⟩=w.frozen? ⟨b,o,s⟩:=(aQ w x).frozen (p:=⟨b,o,s⟩) h
theorem aS {P:Program}{id:Nat}{Q:Exit->Act->World->Prop}{a:Act}{w:World}{l:List Oper}(hm:P.follows .mixedOrders=true)(hB:Region.lexB .any l.toArray=true)
 (h:wpQuiet P l.toArray (fun w'=>∃x,w'=ext w x) (fun a'=>∀w',(∃x,w'=ext w x)->Q .normal a' w') l a):(Code.region id l.toArray true).wp P Q a w:=
 wp_region_quiet (C:=fun w'=>∃x,w'=ext w x) hm hB ⟨w.drew,(bV (Below.refl _ _).drew).symm⟩ (by simpa using h)
theorem Calls.bV {P:Program}{f:FuncId}{args:Array Value}{w x:World}{v:Value}
 (h:Calls P f args (ext w x) fun e w'=>e= .returned v/\Below (ext w x).heap.size (ext w x) w'):Calls P f args (ext w x) fun e w''=>e= .returned v/\∃y,w''=ext w y:=
 h.mono fun _ w' ⟨he,hb⟩=>⟨he,w',(Go.Proofs.YtcmpmobhongkiaaGreatDoor.bV ((aQ w x).trans (hb.mono (aQ w x).size))).symm⟩
theorem AU {B:Nat}{a W W':World}(h2:Below W.heap.size W W')(h1:Below B a W)(hB:B<=W.heap.size):Below B a W':=h1.trans (h2.mono hB)
theorem Below.step {w w1 w2:World}(h1:Below w.heap.size w w1)(h2:Below w1.heap.size w1 w2):Below w.heap.size w w2:=h1.trans (h2.mono h1.size)
theorem aW (w:World)(vs:Array Value)(t:TypeId)(o:Nat):(w.alloc (.cells vs t)).cell? ⟨w.heap.size,o,none⟩=vs[o]? :=cell_of_row _ _ _ _ _ _ (heap_alloc_new w _)
theorem eY (w:World)(vs:Array Value)(t:TypeId)(o:Nat):(w.alloc (.cells vs t)).frozen? ⟨w.heap.size,o,none⟩=false:=by
 unfold World.frozen?;rw[heap_alloc_new];simp
theorem UN {w w1:World}{vs:Array Value}{t:TypeId}(h:Below (w.alloc (.cells vs t)).heap.size (w.alloc (.cells vs t)) w1)(o:Nat):w1.cell? ⟨w.heap.size,o,none⟩=vs[o]? :=by
 rw[h.cell (p:=⟨w.heap.size,o,none⟩) (by simp)];exact aW w vs t o
theorem aB {w1 w2:World}{b:Nat}{vs:Array Value}(h:∀o,w1.cell? ⟨b,o,none⟩=vs[o]?)(hlt:b<w1.heap.size)(hb:Below w1.heap.size w1 w2)(o:Nat):w2.cell? ⟨b,o,none⟩=vs[o]? :=by
 rw[hb.cell (p:=⟨b,o,none⟩) hlt];exact h o
theorem aH {w1 w2:World}{b:Nat}(h:∀o,w1.frozen? ⟨b,o,none⟩=false)(hlt:b<w1.heap.size)(hb:Below w1.heap.size w1 w2)(o:Nat):w2.frozen? ⟨b,o,none⟩=false:=by
 rw[hb.frozen (p:=⟨b,o,none⟩) hlt];exact h o
theorem aF (w:World)(o:Obj):Below w.heap.size w (w.alloc o):=(Below.refl _ _).alloc (Nat.le_refl _) _
theorem aI {w:World}{b:Nat}{vs:Array Value}(h:∀o,w.cell? ⟨b,o,none⟩=vs[o]?)(i:Nat)(u:Value)(o:Nat):(w.setCell ⟨b,i,none⟩ u).cell? ⟨b,o,none⟩=(vs.setIfInBounds i u)[o]? :=by
 have h0:=h o;unfold World.cell? World.setCell at*;simp only[Array.getElem?_modify,if_true]at*;cases hb:w.heap[b]? with
 | none=>
  rw[hb]at h0;simp only[Option.map_none]at*;rw[Array.getElem?_setIfInBounds];split
  ·rename_i e;subst e;split
   ·rename_i hlt;rw[Array.getElem?_eq_getElem hlt]at h0;cases h0
   ·rfl
  ·exact h0
 | some ob=>
  rw[hb]at h0;cases ob with
  | cells c t fr=>
   simp only[Option.map_some,Option.isSome_none,Bool.false_eq_true,if_false]at*;rw[Array.getElem?_setIfInBounds,Array.getElem?_setIfInBounds,h0];have hsz:i=o->(i<c.size↔i<vs.size):=fun e=>by
    subst e;constructor
    ·intro hl;rw[Array.getElem?_eq_getElem hl]at h0;exact(Array.getElem?_eq_some_iff.1 h0.symm).1
    ·intro hl;rw[Array.getElem?_eq_getElem hl]at h0;exact(Array.getElem?_eq_some_iff.1 h0).1
   by_cases e:i=o
   ·rw[if_pos e,if_pos e];by_cases hl:i<c.size
    ·rw[if_pos hl,if_pos ((hsz e).1 hl)]
    ·rw[if_neg hl,if_neg (fun h=>hl ((hsz e).2 h))]
   ·rw[if_neg e,if_neg e]
  | _=>
   simp only[Option.map_some]at*;rw[Array.getElem?_setIfInBounds];split
   ·rename_i e;subst e;split
    ·rename_i hlt;rw[Array.getElem?_eq_getElem hlt]at h0;cases h0
    ·rfl
   ·exact h0
theorem aG {w:World}{b:Nat}(h:∀o,w.frozen? ⟨b,o,none⟩=false)(a:Addr)(u:Value)(o:Nat):(w.setCell a u).frozen? ⟨b,o,none⟩=false:=by
 rw[World.frozen?_setCell];exact h o
theorem aA {W:World}{b c:Nat}{A:Array Value}(h:∀o,W.cell? ⟨b,o,none⟩=A[o]?)(hne:b≠c)(i:Nat)(u:Value)(o:Nat):(W.setCell ⟨c,i,none⟩ u).cell? ⟨b,o,none⟩=A[o]? :=by
 have hx:(⟨c,i,none⟩:Addr)≠⟨b,o,none⟩:=fun e=>hne (by simpa using(congrArg Addr.block e).symm)
 exact(World.cell?_setCell_other _ _ _ _ hx).trans (h o)
theorem own_ne {w:World}{base:Nat}{e:TypeId}{size:Nat}{v:Value}{n:Nat}{xs:List Value}(h:w.ownsRow base e size v n xs){b:Nat}(hb:b<base∨w.heap.size<=b):v.ownBlock≠some b:=fun e=>by
 have:=h.lt b e;omega
theorem bI {w:World}{base:Nat}{e:TypeId}{size:Nat}{v:Value}{n:Nat}{xs:List Value}(h:w.ownsRow base e size v n xs){b i:Nat}(hb:v.ownBlock≠some b)(u:Value):(w.setCell ⟨b,i,none⟩ u).ownsRow base e size v n xs:=
 ownsRow_setCell_other h hb u
theorem boxes1 (w:World)(A:Array Value)(tA:TypeId):
 (∀o,(w.alloc (.cells A tA)).cell? ⟨w.heap.size,o,none⟩=A[o]?)/\(∀o,(w.alloc (.cells A tA)).frozen? ⟨w.heap.size,o,none⟩=false)/\
 w.heap.size<(w.alloc (.cells A tA)).heap.size/\Below w.heap.size w (w.alloc (.cells A tA)):=
 ⟨aW w A tA,eY w A tA,by simp,aF _ _⟩
theorem boxes2 (w:World)(A:Array Value)(tA:TypeId)(B:Array Value)(tB:TypeId):
 (∀o,((w.alloc (.cells A tA)).alloc (.cells B tB)).cell? ⟨w.heap.size,o,none⟩=A[o]?)/\(∀o,((w.alloc (.cells A tA)).alloc (.cells B tB)).cell? ⟨w.heap.size+1,o,none⟩=B[o]?)/\
 (∀o,((w.alloc (.cells A tA)).alloc (.cells B tB)).frozen? ⟨w.heap.size,o,none⟩=false)/\(∀o,((w.alloc (.cells A tA)).alloc (.cells B tB)).frozen? ⟨w.heap.size+1,o,none⟩=false)/\
 w.heap.size+1<((w.alloc (.cells A tA)).alloc (.cells B tB)).heap.size/\Below w.heap.size w ((w.alloc (.cells A tA)).alloc (.cells B tB)):=by
 have h:=boxes1 (w.alloc (.cells A tA)) B tB;have hs:(w.alloc (.cells A tA)).heap.size=w.heap.size+1:=by simp
 rw[hs]at h;obtain⟨h1,h2,h3,h4⟩:=h;rw[<- hs]at h4;exact⟨aB (aW w A tA) (by simp) h4,h1,aH (eY w A tA) (by simp) h4,h2,h3,Below.step (aF _ _) h4⟩
theorem boxes3 (w:World)(A:Array Value)(tA:TypeId)(B:Array Value)(tB:TypeId)(C:Array Value)(tC:TypeId):
 (∀o,(((w.alloc (.cells A tA)).alloc (.cells B tB)).alloc (.cells C tC)).cell? ⟨w.heap.size,o,none⟩=A[o]?)/\(∀o,(((w.alloc (.cells A tA)).alloc (.cells B tB)).alloc (.cells C tC)).cell? ⟨w.heap.size+1,o,none⟩=B[o]?)/\(∀o,(((w.alloc (.cells A tA)).alloc (.cells B tB)).alloc (.cells C tC)).cell? ⟨w.heap.size+1+1,o,none⟩=C[o]?)/\
 (∀o,(((w.alloc (.cells A tA)).alloc (.cells B tB)).alloc (.cells C tC)).frozen? ⟨w.heap.size,o,none⟩=false)/\(∀o,(((w.alloc (.cells A tA)).alloc (.cells B tB)).alloc (.cells C tC)).frozen? ⟨w.heap.size+1,o,none⟩=false)/\(∀o,(((w.alloc (.cells A tA)).alloc (.cells B tB)).alloc (.cells C tC)).frozen? ⟨w.heap.size+1+1,o,none⟩=false)/\
 w.heap.size+2<(((w.alloc (.cells A tA)).alloc (.cells B tB)).alloc (.cells C tC)).heap.size/\Below w.heap.size w (((w.alloc (.cells A tA)).alloc (.cells B tB)).alloc (.cells C tC)):=by
 obtain⟨h1,h2,h3,h4,h5,h6⟩:=boxes2 w A tA B tB;have h:=boxes1 ((w.alloc (.cells A tA)).alloc (.cells B tB)) C tC;have hs:((w.alloc (.cells A tA)).alloc (.cells B tB)).heap.size=w.heap.size+1+1:=by simp
 rw[hs]at h;obtain⟨k1,k2,k3,k4⟩:=h;rw[<- hs]at k4;exact⟨aB h1 (by omega) k4,aB h2 h5 k4,k1,aH h3 (by omega) k4,aH h4 h5 k4,k2,k3,Below.step h6 k4⟩
end
section
open Go.RowKit
theorem uN {P:Program}{w:World}{ops:Array Oper}{rest:List Oper}{o:Oper}{a:Act}{Q:Exit->Act->World->Prop}(hgd:o.guard=none)(s x:Operand)(t:TypeId)
 (ho:o.op= .call {callee:= .builtin .append,args:=#[s,x],argTypes:=#[t,t]})
 (base:Nat) (e:TypeId) (z:Value) (size bytes:Nat) (ht:P.underlying t=some (.slice e)) (hinfo:(P.info? e).map (fun i=>(i.zero,i.size,i.bytes))=some (some z,size,bytes)) (hsz:0<size)
 (as_:Option Addr) (n cs:Nat) (xs:List Value) (hs:a.eval s= .slice as_ n cs) (hown:w.ownsRow base e size (.slice as_ n cs) n xs)
 (ax:Option Addr) (m cx:Nat) (news:List Value) (hx:a.eval x= .slice ax m cx) (hl:news.length=m*size) (hnews:Row w ax news) (h1:∀u∈news,u.oneCell'=true)
 (hroom:n+m<=cs)
 (h:∀w',w'.ownsRow base e size (.slice as_ (n+m) cs) (n+m) (xs++news)->w.grownBy w' (Value.ownBlock (.slice as_ n cs))->wpList P ops Q rest (a.put o.dst (.slice as_ (n+m) cs)) w'):
 wpList P ops Q (o::rest) a w:=by
 obtain⟨i,hi,hz,hsize,hby⟩:=info_parts hinfo;subst hsize;refine wpList_plain hgd fun K hK=> ?_
 have hlen:(xs++news).length=(n+m)*i.size:=by rw[List.length_append,hown.1,hl,Nat.add_mul]
 have key:∃w',(Builtin.append_ #[t,t] o.type #[.slice as_ n cs,.slice ax m cx]).run P w= .ok (.slice as_ (n+m) cs) w'/\w'.ownsRow base e i.size (.slice as_ (n+m) cs) (n+m) (xs++news)/\w.grownBy w' (Value.ownBlock (.slice as_ n cs)):=by
  rcases Nat.eq_zero_or_pos m with rfl | hm
  ·obtain rfl:news=[]:=List.eq_nil_of_length_eq_zero (by simpa using hl);refine⟨w,?_,by simpa using hown,⟨rfl,rfl,rfl,Nat.le_refl _,fun _ _ _=>rfl⟩⟩;have hf:=lN (P:=P) i.size 0 ax 0 cx [] (by simp) (Row.nil w ax);cases as_ with
   | none=>
    rcases hown.2 with ⟨hv,rfl⟩ | ⟨g,cap,cur,hv,_⟩
    ·obtain rfl:cs=0:=by simp at hv;exact hv
     cases ax <;> simp[Builtin.append_,run_underlying ht,sizeOf,typeInfo,hi,Builtin.lenOf,Builtin.firstCells,loadCells,loadCellsFrom]
    ·simp at hv
   | some ad=>
    have hn:n<=cs:=by omega
    cases ax <;> simp[Builtin.append_,run_underlying ht,sizeOf,typeInfo,hi,Builtin.lenOf,Builtin.firstCells,loadCells,loadCellsFrom,hn,storeCells]
  ·have hnz:news≠[]:=by
    intro e;subst e;have:=Nat.mul_pos hm hsz;simp at hl;omega
   obtain⟨ad,rfl⟩:∃ad,ax=some ad:=by
    cases news with
    | nil=>exact absurd rfl hnz
    | cons u l=>obtain⟨b,off,e1,_⟩:=hnews 0 u rfl;exact⟨_,e1⟩
   rcases hown.2 with ⟨hv,rfl⟩ | ⟨g,cap,cur,hv,hbg,hg,hnc,hcm,hcs,htake⟩
   ·obtain⟨rfl,rfl⟩:as_=none/\cs=0:=by simp at hv;exact hv
    omega
   ·obtain⟨rfl,rfl⟩:as_=some ⟨g,0,none⟩/\cs=cap:=by simpa using hv
    have hfit:n*i.size+news.length<=cur.size:=by rw[hl,hcs,<- Nat.add_mul];exact Nat.mul_le_mul_right _ hroom
    have hr:=run_append_room (P:=P) w t o.type e i ht hi g n cs cur hg ad m cx news hl (fun j u hj=>by
     obtain⟨b,off,e1,_,h5⟩:=hnews j u hj;obtain rfl:ad=⟨b,off,none⟩:=by simpa using e1
     rw[Addr.add_lit];exact h5) h1 hroom hfit
    refine⟨_,hr,⟨hlen,.inr ⟨g,cs,_,rfl,hbg,setRow_heap w g cur _ e _ hg,hroom,hcm,?_,?_⟩⟩,⟨rfl,rfl,rfl,by simp[World.setRow],fun k _ hk=>setRow_other w g k _ (fun e=>hk (by simp[Value.ownBlock,e]))⟩⟩
    ·simp only[List.size_toArray,List.length_append,List.length_take,List.length_drop,Array.length_toList];omega
    ·rw[htake,<- hlen];exact List.take_left
 obtain⟨w',hr,h2,h3⟩:=key;unfold Oper.wp execOp;simp only[ho,resolve,invoke,builtin,Sem.run_bind,Sem.run_pure,Result.andThen_ok,List.map_toArray,List.map_cons,List.map_nil,hs,hx,hr];exact hK _ _ (h w' h2 h3)
theorem iW {w w':World}{base:Nat}{e:TypeId}{size:Nat}{v:Value}{n:Nat}{xs:List Value}(h:w.ownsRow base e size v n xs){row:Option Nat}(hg:w.grownBy w' row)(hne:∀k,v.ownBlock=some k->row≠some k):w'.ownsRow base e size v n xs:=by
 refine⟨h.1,?_⟩;rcases h.2 with h' | ⟨g,cap,cur,h1,h2,hgg,rest⟩
 ·exact .inl h'
 ·refine .inr ⟨g,cap,cur,h1,h2,?_,rest⟩;rw[hg.block g (Array.getElem?_eq_some_iff.1 hgg).1 (fun e=>hne g (by rw[h1];rfl) e.symm)];exact hgg
theorem Ho {P:Program}{w:World}(sT ty:TypeId)(e:TypeId)(hu:P.underlying sT=some (.slice e))(size:Nat)(z:Value)(hz:∀w,(zeroValue e).run P w= .ok z w)(hzs:z.cells.size=size)(hz1:∀u∈z.cells,u.oneCell'=true)
 (base n k c:Nat) (cc:Nat) (ao:Option Addr) (xs:List Value) (hown:w.ownsRow base e size (.slice ao n c) n xs) (hfit:n+k<=c):
 ∃w',(Builtin.clear_ #[sT] ty #[.slice (bY ao n c size) k cc]).run P w= .ok (.tuple #[]) w'/\w'.ownsRow base e size (.slice ao n c) n xs/\w.grownBy w' (Value.ownBlock (.slice ao n c)):=by
 rcases Nat.eq_zero_or_pos k with rfl | hk
 ·refine⟨w,?_,hown,⟨rfl,rfl,rfl,Nat.le_refl _,fun _ _ _=>rfl⟩⟩;cases bY ao n c size <;> simp[Builtin.clear_,run_underlying hu]
 ·rcases hown.2 with ⟨h',h2⟩ | ⟨g,cap,cur,h',hb,hg,hn,hcm,hsz,ht⟩
  ·obtain⟨rfl,rfl⟩:ao=none/\c=0:=by simp at h';exact⟨h'.1,h'.2.2⟩
   omega
  ·obtain⟨rfl,rfl⟩:ao=some ⟨g,0,none⟩/\c=cap:=by simpa using h'
   have hcut:bY (some ⟨g,0,none⟩) n c size=some ⟨g,n*size,none⟩:=by
    unfold bY;rw[if_neg (by omega)];simp[Addr.add_lit]
   have hzl:(Builtin.zeroCells z.cells k).toList.length=k*size:=by rw[<- hzs];simp[Builtin.zeroCells]
   have hz1':∀u∈(Builtin.zeroCells z.cells k).toList,u.oneCell'=true:=by
    intro u hu;simp only[Builtin.zeroCells,Array.toList_map,List.mem_map,Array.toList_range,List.mem_range]at hu;obtain⟨i,hi,rfl⟩:=hu;have hpos:0<z.cells.size:=by
     rcases Nat.eq_zero_or_pos z.cells.size with h0 | h0
     ·rw[h0,Nat.mul_zero]at hi;omega
     ·exact h0
    have hlt:i%z.cells.size<z.cells.size:=Nat.mod_lt _ hpos;rw[getElem!_pos z.cells (i%z.cells.size) hlt];exact hz1 _ (Array.getElem_mem _)
   have hnk:n*size+k*size<=c*size:=by rw[<- Nat.add_mul];exact Nat.mul_le_mul_right _ hfit
   have hst:=run_storeCells_at P g (n*size) e (Builtin.zeroCells z.cells k).toList 0 cur w hg (by rw[hzl];omega) hz1';refine⟨w.setRow g (cur.toList.take (n*size)++(Builtin.zeroCells z.cells k).toList++cur.toList.drop (n*size+(Builtin.zeroCells z.cells k).toList.length)).toArray,?_,?_,?_⟩
   ·obtain⟨m,rfl⟩:∃m,k=m+1:=⟨k-1,by omega⟩
    simp only[Nat.add_zero]at hst;simp[Builtin.clear_,run_underlying hu,hz,hcut,hst]
   ·refine⟨hown.1,.inr ⟨g,c,_,rfl,hb,setRow_heap w g cur _ e _ hg,hn,hcm,?_,?_⟩⟩
    ·simp only[List.size_toArray,List.length_append,List.length_take,List.length_drop,Array.length_toList,hzl];omega
    ·have hl:(cur.toList.take (n*size)).length=n*size:=by rw[List.length_take,Array.length_toList];omega
     rw[List.append_assoc];rw[List.take_left' hl];exact ht
   ·exact⟨rfl,rfl,rfl,by simp[World.setRow],fun k _ hk=>setRow_other w g k _ (fun e=>hk (by simp[Value.ownBlock,e]))⟩
theorem iY {P:Program}{w:World}(dT sT ty:TypeId)(e:TypeId)(hu:P.underlying dT=some (.slice e))(size:Nat)(hsz:(P.info? e).map (·.size)=some size)
 (dp sp:Option Addr) (dLen dCap sLen sCap:Nat)
 (cs:List Value) (hn:cs.length=Nat.min sLen dLen*size) (hcs:Row w sp cs) (h1:∀u∈cs,u.oneCell'=true)
 (base N co p:Nat) (ao:Option Addr) (xs:List Value) (hown:w.ownsRow base e size (.slice ao N co) N xs) (hp:0<cs.length->dp=ao.map (·.add (p*size))) (hdn:dp=none->cs=[]) (hfit:p*size+cs.length<=N*size):
 ∃w',(Builtin.copy_ #[dT,sT] ty #[.slice dp dLen dCap,.slice sp sLen sCap]).run P w= .ok (goInt (Nat.min sLen dLen:Nat)) w'/\w'.ownsRow base e size (.slice ao N co) N (xs.take (p*size)++cs++xs.drop (p*size+cs.length))/\w.grownBy w' (Value.ownBlock (.slice ao N co)):=by
 cases hq:P.info? e with
 | none=>simp[hq]at hsz
 | some i=>
  have hi:i.size=size:=by simpa[hq]using hsz
  have hf:=lN (P:=P) size (Nat.min sLen dLen) sp sLen sCap cs hn hcs;by_cases hc0:0<cs.length
  ·obtain⟨g,cap,cur,hv,hbg,hg,hnc,hcm,hcsz,htk⟩:∃g cap cur,Value.slice ao N co= .slice (some ⟨g,0,none⟩) N cap/\base<=g/\w.heap[g]? =some (.cells cur e (0,0))/\N<=cap/\cap<=maxLen/\cur.size=cap*size/\cur.toList.take (N*size)=xs:=by
    rcases hown.2 with ⟨_,h0⟩ | h
    ·rw[h0,Nat.zero_mul]at hfit;omega
    ·exact h
   obtain⟨rfl,rfl⟩:ao=some ⟨g,0,none⟩/\co=cap:=by simpa using hv
   have hdp:=hp hc0;simp only[Option.map_some,Addr.add_lit,Nat.zero_add]at hdp;subst hdp;have hNc:N*size<=cur.size:=by rw[hcsz];exact Nat.mul_le_mul_right _ hnc
   have hst:=run_storeCells_at P g (p*size) e cs 0 cur w hg (by omega) h1;refine⟨w.setRow g (cur.toList.take (p*size)++cs++cur.toList.drop (p*size+cs.length)).toArray,?_,?_,?_⟩
   ·simp only[Nat.add_zero]at hst;simp[Builtin.copy_,run_underlying hu,Builtin.lenOf,sizeOf,typeInfo,hq,hi,hf,hst]
   ·refine⟨?_,.inr ⟨g,co,_,rfl,hbg,setRow_heap w g cur _ e _ hg,hnc,hcm,?_,?_⟩⟩
    ·have:=hown.1;simp only[List.length_append,List.length_take,List.length_drop];omega
    ·simp only[List.size_toArray,List.length_append,List.length_take,List.length_drop,Array.length_toList];omega
    ·exact Aw _ _ _ _ _ htk (by simpa using hNc) hfit
   ·exact⟨rfl,rfl,rfl,by simp[World.setRow],fun k _ hk=>setRow_other w g k _ (fun e=>hk (by simp[Value.ownBlock,e]))⟩
  ·have hc:cs=[]:=List.eq_nil_of_length_eq_zero (by omega);subst hc;refine⟨w,?_,by simpa using hown,⟨rfl,rfl,rfl,Nat.le_refl _,fun _ _ _=>rfl⟩⟩;cases dp with
   | none=>simp[Builtin.copy_,run_underlying hu,Builtin.lenOf,sizeOf,typeInfo,hq,hi,hf]
   | some ad=>simp[Builtin.copy_,run_underlying hu,Builtin.lenOf,sizeOf,typeInfo,hq,hi,hf,storeCells]
end
section
open Go.RowKit
structure Safe (X:Nat->Prop)(w w':World):Prop where
 os:w'.os=w.os
 tape:w'.tape=w.tape
 output:w'.output=w.output
 size:w.heap.size<=w'.heap.size
 block:∀k,k<w.heap.size->X k->w'.heap[k]? =w.heap[k]?
section
variable {X Y:Nat->Prop}{a b c w w':World}{B:Nat}
theorem Safe.refl (X:Nat->Prop)(w:World):Safe X w w:=⟨rfl,rfl,rfl,Nat.le_refl _,fun _ _ _=>rfl⟩
theorem Safe.trans (h:Safe X a b)(k:Safe X b c):Safe X a c:=⟨k.os.trans h.os,k.tape.trans h.tape,k.output.trans h.output,gQ h.size k.size,fun j hj hx=>(k.block j (gI hj h.size) hx).trans (h.block j hj hx)⟩
theorem Safe.sub (h:Safe X a b)(hy:∀k,k<a.heap.size->Y k->X k):Safe Y a b:=⟨h.os,h.tape,h.output,h.size,fun j hj hx=>h.block j hj (hy j hj hx)⟩
theorem Safe.iM (h:Below w.heap.size w w'):Safe X w w':=⟨h.os,h.tape,h.output,h.size,fun k hk _=>h.block k hk⟩
theorem Safe.nI {row:Option Nat}(h:w.grownBy w' row)(hr:∀k,X k->some k≠row):Safe X w w':=⟨h.os,h.tape,h.output,h.size,fun k hk hx=>h.block k hk (hr k hx)⟩
theorem Safe.then (h:Safe X a b)(k:Below b.heap.size b c):Safe X a c:=h.trans (.iM k)
theorem Safe.below (h:Safe X w w')(hX:∀k,k<B->X k)(hB:B<=w.heap.size):Below B w w':=⟨h.os,h.tape,h.output,h.size,fun k hk=>h.block k (gI hk hB) (hX k hk)⟩
theorem Safe.after (h0:Below B a w)(h:Safe X w w')(hX:∀k,k<B->X k)(hB:B<=w.heap.size):Below B a w':=h0.trans (h.below hX hB)
theorem Safe.set (h:Safe X a b){g:Nat}(hg:¬X g)(i:Nat)(u:Value):Safe X a (b.setCell ⟨g,i,none⟩ u):=h.trans ⟨rfl,rfl,rfl,by simp[World.setCell],fun k hk hx=>Below.heap_setCell _ _ _ _ (fun e=>hg (by rw[<- show k=g from e];exact hx))⟩
theorem Safe.cell (h:Safe X w w'){p:Addr}(hp:p.block<w.heap.size)(hx:X p.block):w'.cell? p=w.cell? p:=World.cell?_of_block (w:=w) (h.block p.block hp hx)
theorem Safe.frozen (h:Safe X w w'){p:Addr}(hp:p.block<w.heap.size)(hx:X p.block):w'.frozen? p=w.frozen? p:=World.frozen?_of_block (w:=w) (h.block p.block hp hx)
theorem Safe.box (h:Safe X w w'){g:Nat}{vs:Array Value}(hc:∀o,w.cell? ⟨g,o,none⟩=vs[o]?)(hg:g<w.heap.size)(hx:X g)(o:Nat):w'.cell? ⟨g,o,none⟩=vs[o]? :=(h.cell (p:=⟨g,o,none⟩) hg hx).trans (hc o)
theorem Safe.XC (h:Safe X w w'){g:Nat}(hc:∀o,w.frozen? ⟨g,o,none⟩=false)(hg:g<w.heap.size)(hx:X g)(o:Nat):w'.frozen? ⟨g,o,none⟩=false:=(h.frozen (p:=⟨g,o,none⟩) hg hx).trans (hc o)
end
end
section
open Go.RowKit Go.WideShapes Go.ChangeShapes
section
variable {H:Type}{enc:TypeId×Value->H}{P:Program}
theorem yY (hl:laidOutB P=true){W W':World}(hb:Below W.heap.size W W'):∀(ts:List TypeId) (vs:List Value) (ds:List (DataW H)) (p:List MemPlace),
 (∀t∈ts,P.readableRec t=true/\t<P.types.size)->(∀x∈p,x.block<W.heap.size)->DataW.TrodAll enc P W 0 (fun _=>true) true ts vs ds p->DataW.TrodAll enc P W' 0 (fun b=>decide (b<W.heap.size)) true ts vs ds p
 | [],[],[],p,_,_,h=>h
 | t::ts,v::vs,d::ds,p,hr,hp,h=>by
  obtain⟨p1,p2,h1,h2,rfl⟩:=h;refine⟨p1,p2,?_,yY hl hb ts vs ds p2 (fun t ht=>hr t (by simp[ht])) (fun x hx=>hp x (by simp[hx])) h2,rfl⟩;have:=hr t (by simp);exact Below.trod hl this.1 this.2 h1 hb fun x hx=>hp x (by simp[hx])
 | [],[],_::_,_,_,_,h=>h.elim
 | [],_::_,_,_,_,_,h=>h.elim
 | _::_,[],_,_,_,_,h=>h.elim
 | _::_,_::_,[],_,_,_,h=>h.elim
theorem XB {f:Func}{s:ChangeSpec}{apart:Bool}{W W':World}{args:Array Value}{ds:List (DataW H)}{before:List MemPlace}
 (hl:laidOutB P=true) (hr:∀t∈f.params.toList,P.readableRec t=true/\t<P.types.size)
 (hW:DataW.Whole enc P f.params.toList s.vars apart W args.toList ds [] before) (hv:s.vars=[]) {tb:TypeId} (hres:f.resultTypes=#[tb]) (htb:P.underlying tb=some .bool)
 (hf1:(s.fn H (ds++[])).results=[.lit (.bool true)]) (hf2:(s.fn H (ds++[])).args=ds) (hf3:(s.fn H (ds++[])).vars=[]) (hb:Below W.heap.size W W'):
 s.post enc P f apart true false false W args (.bool true) W':=by
 have hlt:∀p∈before,p.block<W.heap.size:=fun p hp=>hW.lt p hp
 obtain⟨pa,pv,h1,h2,h3,h4,h5⟩:=hW;refine⟨ds,[],before,[],pa,[],⟨pa,pv,h1,h2,h3,h4,h5⟩,?_,?_,?_,World.keptBut_mono (fun p f=>f.elim) (hb.frame (fun _=>False)),fun h=>by cases h⟩
 ·rw[hres,hf1];exact trodAll_mk1 (shut_bool htb true)
 ·rw[hf2];exact yY hl hb _ _ _ _ hr (fun x hx=>hlt x (by rw[h3];simp[hx])) h1
 ·rw[hv,hf3];rfl
end
section
variable {H:Type}{enc:TypeId×Value->H}{P:Program}
end
end
end Go.Proofs.YtcmpmobhongkiaaGreatDoor
