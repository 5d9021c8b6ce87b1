/- joined. -/
import Derived.Test.YtcmpmobhongkiaaGreatDoorRK0
import Derived.Test.YtcmpmobhongkiaaGreatDoorRK1
import Derived.Deep.QuietTactic
import Derived.BigQuiet
import Derived.WalkSmall
import Derived.Shelf.Abstract
import Derived.Lib.SliceRun
set_option linter.unusedVariables false
set_option linter.unusedSimpArgs false
namespace Go.Proofs.YtcmpmobhongkiaaGreatDoor
section
open Go.RowKit
def aO (b:Bk):List Value:=[vI b.a,vI b.o,vI b.t]
theorem aJ (b:Bk):(aO b).length=3:=rfl
theorem bD {w:World}{g o:Nat}{r:Bk}(hc:∀i v,(aO r)[i]? =some v->w.cell? ⟨g,o+i,none⟩=some v):w.cell? ⟨g,o,none⟩=some (.int .i64 r.a)/\w.cell? ⟨g,o+1,none⟩=some (.int .i64 r.o)/\w.cell? ⟨g,o+2,none⟩=some (.int .i64 r.t):=⟨hc 0 _ rfl,hc 1 _ rfl,hc 2 _ rfl⟩
theorem rW:(Tryz.prog.info? 63).map (fun i=>(i.zero,i.size,i.bytes))=some (some (.agg #[.int .i64 0,.int .i64 0,.int .i64 0]),3,24):=by kernel_rfl
theorem oG (l:List Bk):∀u∈flat aO l,u.oneCell'=true:=by
 intro u hu;obtain⟨r,_,hr⟩:=List.mem_flatMap.1 hu;simp only[aO,List.mem_cons,List.not_mem_nil,or_false]at hr;rcases hr with rfl | rfl | rfl <;> rfl
theorem uJ {o:Nat}(h:o<=4):wrap64 (2^o)=((2^o:Nat):Int):=by
 obtain rfl | rfl | rfl | rfl | rfl:o=0∨o=1∨o=2∨o=3∨o=4:=by omega
 all_goals decide+kernel
theorem wR {o:Nat}(h:o<=4):1<=2^o/\2^o<=16:=by rcases GK h with h | h | h | h | h <;> omega
theorem jQ (b:Bk)(w:World)(ho:b.o<=4)(ha:b.a<=1000):
 Calls Tryz.prog 164 #[.agg #[.int .i64 b.a,.int .i64 b.o,.int .i64 b.t]] w fun e w'=>e= .returned (.int .i64 (b.fin:Int))/\Below w.heap.size w w':=by
 have hs:=uJ ho;have hp:=wR ho;unfold Bk.fin;generalize 2^b.o=s at*;go_enter Tryz.func164,Tryz.ntmps164
 go_wp2_with fail
 go_quiet (fail)
 go_wp2
 go_ret
 refine⟨dP (by simp),Below.step (aF _ _) (below_drewN (Below.refl _ _) _)⟩
theorem uK (f e:Nat)(a1 a2:Option Addr)(n1 n2 c1 c2:Nat)(b:Bk)(w:World)(h:cZ f e b.a b.o)(he:e<=256):
 Calls Tryz.prog 163 #[.agg #[.int .i64 f,.int .i64 e,.slice a1 n1 c1,.slice a2 n2 c2],.agg #[.int .i64 b.a,.int .i64 b.o,.int .i64 b.t]] w fun e w'=>e= .returned (.bool true)/\Below w.heap.size w w':=by
 obtain⟨h1,h2,h3,h4⟩:=h;have hs:=uJ h1;have hp:=wR h1;have hm:(b.a:Int)%((2^b.o:Nat):Int)=0:=by rw[<- Int.natCast_emod,h4];rfl
 have d1:decide ((b.o:Int)<=4)=true:=decide_eq_true (by omega);have d2:decide (f<=b.a)=true:=decide_eq_true h2;have d3:decide (b.a<e)=true:=decide_eq_true h3;generalize 2^b.o=s at*;go_enter Tryz.func163,Tryz.ntmps163
 go_wp2_with fail
 go_quiet (fail)
 go_wp2
 go_ret
 exact⟨rfl,Below.step (Below.step (aF _ _) (aF _ _)) (below_drewN (Below.refl _ _) _)⟩
theorem UO (b:Bk)(p:Nat)(w:World)(ha:b.a<=1000)(hp:p<=1000):
 Calls Tryz.prog 186 #[.agg #[.int .i64 b.a,.int .i64 b.o,.int .i64 b.t],.int .i64 p] w fun e w'=>e= .returned (.int .i64 ((b.a:Int)-p))/\Below w.heap.size w w':=by
 go_enter Tryz.func186,Tryz.ntmps186
 go_wp2
 go_ret
 exact⟨rfl,aF _ _⟩
theorem GZ {l:List Bk}(h:rU l){a k:Nat}(hk:k<l.length):k<lb l a↔l[k].a<a:=by
 constructor
 ·intro hlt;exact xQ _ (List.mem_take_iff_getElem.2 ⟨k,by omega,rfl⟩)
 ·intro hlt;rcases Nat.lt_or_ge k (lb l a)with h1 | h1
  ·exact h1
  ·have:=uG h (a:=a) l[k] (List.mem_drop_iff_getElem.2 ⟨k-lb l a,by omega,by congr 1;omega⟩);omega
def hasB (l:List Bk)(a:Nat):Bool:=l.any fun b=>decide (b.a=a)
theorem vS {l:List Bk}(h:rU l){a:Nat}(hk:lb l a<l.length):hasB l a=decide (l[lb l a].a=a):=by
 unfold hasB;cases hd:decide (l[lb l a].a=a)with
 | true=>rw[List.any_eq_true];exact⟨_,gL hk,hd⟩
 | false=>
  rw[List.any_eq_false];intro b hb he;have he:=of_decide_eq_true he;have:=lQ h hb;rw[he,gJ hk]at this;have hbb:l[lb l a]=b:=by simpa using this
  exact of_decide_eq_false hd (by rw[hbb];exact he)
theorem uM {l:List Bk}(h:rU l){a:Nat}(hk:l.length<=lb l a):hasB l a=false:=by
 unfold hasB;rw[List.any_eq_false];intro b hb he;have he:=of_decide_eq_true he;have:=lQ h hb;rw[he,List.getElem?_eq_none hk]at this;cases this
set_option maxRecDepth 100000 in
theorem Rz (a:Option Addr)(n cap:Nat)(l:List Bk)(p:Nat)(w:World)(hn:l.length=n)(hl:n<=1000)(hr:Row w a (flat aO l))(hrise:rU l)(ha:∀b∈l,b.a<=1000)(hp:p<=1000):
 Calls Tryz.prog 114 #[.slice a n cap,.int .i64 p,.func (.func 186) #[] #[]] w fun e w'=>e= .returned (.tuple #[.int .i64 (lb l p:Int),.bool (hasB l p)])/\Below w.heap.size w w':=by
 subst hn;have hle:=lD l p;have eg:∀args w,(callFunc 186 args).run Tryz.prog w= .ok (.enter 186 args) w:=enters_of Tryz.func186 (by kernel_rfl) rfl;go_enter Tryz.func114,Tryz.ntmps114
 go_wp2
 go_loopw [9,10,11] (fun s9 s10 _ wr=>∃i j:Nat,i<=lb l p/\lb l p<=j/\j<=l.length/\s9= .int .i64 i/\s10= .int .i64 j/\Below w.heap.size w wr) (fun s9 s10 _ _=>(intOf s10).toNat-(intOf s9).toNat)
 case atStart=>exact⟨0,l.length,Nat.zero_le _,hle,Nat.le_refl _,rfl,rfl,Below.refl _ _⟩
 case round=>
  obtain⟨i,j,h1,h2,h3,rfl,rfl,hb3⟩:=hrel;by_cases hlt:i<j
  ·have Jj:(i+j)/2<l.length:=by omega
   have hiff:=gO (GZ hrise (a:=p) Jj);obtain⟨b,off,rfl,hb,hc⟩:=aN aJ (by decide) (hr.below hb3) Jj;obtain⟨hc0,hc1,hc2⟩:=bD hc;have hal:=ha _ (gL Jj);clear hr hc;generalize l[(i+j)/2]=y at*;go_wp2_with fail
   refine(UO y p _ hal hp).mono ?_;rintro e w1 ⟨rfl,hb1⟩;have hb4:=Below.step hb3 hb1;clear hc0 hc1 hc2;by_cases hlt2:y.a<p
   ·have h4:=hiff.out.2 hlt2;have h5:(y.a:Int)-p<0:=by omega
    go_wp2
    go_roundw
    case rel=>exact⟨(i+j)/2+1,j,by omega,h2,h3,by go_num,rfl,hb4⟩
    case measure=>simp[intOf];omega
   ·have h4:¬(i+j)/2<lb l p:=fun h=>hlt2 (hiff.out.1 h)
    have h5:¬(y.a:Int)-p<0:=by omega
    go_wp2
    go_roundw
    case rel=>exact⟨i,(i+j)/2,h1,by omega,by omega,rfl,by go_num,hb4⟩
    case measure=>simp[intOf];omega
  ·obtain rfl:i=lb l p:=by omega
   have hkk:(lb l p:Int)<=l.length:=by omega
   by_cases hk:lb l p<l.length
   ·obtain⟨b,off,rfl,hb,hc⟩:=aN aJ (by decide) (hr.below hb3) hk;obtain⟨hc0,hc1,hc2⟩:=bD hc;have hal:=ha _ (gL hk);have hat:=gO (vS hrise (a:=p) hk);have hk2:(lb l p:Int)<l.length:=by omega
    clear hr hc;generalize l[lb l p]=y at*;generalize hK0:lb l p=K at*;have HK:=gO hK0;clear hK0;go_wp2_with fail
    refine(UO y p _ hal hp).mono ?_;rintro e w1 ⟨rfl,hb1⟩;have hb4:=Below.step hb3 hb1;clear hc0 hc1 hc2;by_cases hy:y.a=p
    ·have h5:((y.a:Int)-p == 0)=true:=by rw[beq_iff_eq];omega
     go_wp2
     go_ret2
     refine⟨?_,hb4⟩;rw[hat.out,HK.out,decide_eq_true hy];rfl
    ·have h5:((y.a:Int)-p == 0)=false:=by rw[beq_eq_false_iff_ne];omega
     go_wp2
     go_ret2
     refine⟨?_,hb4⟩;rw[hat.out,HK.out,decide_eq_false hy];rfl
   ·have hat:=gO (uM hrise (a:=p) (by omega));have hk2:¬(lb l p:Int)<l.length:=by omega
    clear hr;generalize hK0:lb l p=K at*;have HK:=gO hK0;clear hK0;go_wp2
    go_ret2
    refine⟨?_,hb3⟩;rw[hat.out,HK.out];rfl
end
section
open Go.RowKit
def gV (t:Nat):List Value:=[vI t]
theorem bQ (t:Nat):(gV t).length=1:=rfl
theorem iJ {w:World}{g o:Nat}{r:Nat}(hc:∀i v,(gV r)[i]? =some v->w.cell? ⟨g,o+i,none⟩=some v):w.cell? ⟨g,o,none⟩=some (.int .i64 r):=hc 0 _ rfl
theorem oN:(Tryz.prog.info? 3).map (fun i=>(i.zero,i.size,i.bytes))=some (some (.int .i64 0),1,8):=by kernel_rfl
theorem UQ (l:List Nat):∀u∈flat gV l,u.oneCell'=true:=by
 intro u hu;obtain⟨r,_,hr⟩:=List.mem_flatMap.1 hu;simp only[gV,List.mem_cons,List.not_mem_nil,or_false]at hr;subst hr;rfl
def dH {α:Type}(p:α->Bool)(xs:List α):Int:=match xs.findIdx? p with | some i=>(i:Int) | none=> -1
theorem mQ {α:Type}{p:α->Bool}{xs:List α}{k:Nat}(hk:k<xs.length)(h:p xs[k]=true)(hn:∀x∈xs.take k,p x=false):dH p xs=k:=by
 have e:xs.findIdx? p=some k:=by
  rw[List.findIdx?_eq_some_iff_getElem];refine⟨hk,h,fun j hj=> ?_⟩;have:=hn (xs[j]'(by omega)) (by rw[List.mem_take_iff_getElem];exact⟨j,by omega,rfl⟩);simp[this]
 simp[dH,e]
theorem kX {α:Type}{p:α->Bool}{xs:List α}(hn:∀x∈xs,p x=false):dH p xs= -1:=by
 have e:xs.findIdx? p=none:=by rw[List.findIdx?_eq_none_iff];exact hn
 simp[dH,e]
theorem iE {α:Type}(p:α->Bool)(xs:List α):decide (0<=dH p xs)=xs.any p:=by
 unfold dH;cases h:xs.findIdx? p with
 | none=>rw[List.findIdx?_eq_none_iff]at h;symm;simpa using h
 | some i=>rw[List.findIdx?_eq_some_iff_getElem]at h;obtain⟨hi,hp,_⟩:=h;symm;simp only[Int.natCast_nonneg,decide_true,List.any_eq_true];exact⟨_,gL hi,hp⟩
theorem Qk (a:Option Addr)(n cap:Nat)(xs:List Bk)(w:World)(hn:xs.length=n)(hl:n*24<=140737488355328)(hr:Row w a (flat aO xs)):
 Calls Tryz.prog 132 #[.slice a n cap] w fun e w'=>∃a' c',e= .returned (.slice a' n c')/\w'.ownsRow w.heap.size 63 3 (.slice a' n c') n (flat aO xs)/\Below w.heap.size w w':=by
 have q22:∀(w:World) (a:Option Addr) (n c n' c':Nat),(binOp .eql 42 (.slice a n c) (.slice none n' c')).run Tryz.prog w= .ok (.bool a.isNone) w:=fun w a n c n' c'=>Lib.run_eql_slice_nil w _ _ a n c n' c' Tryz.underlying42
 subst hn;cases a with
 | none=>
  have hx:xs=[]:=by
   cases xs with
   | nil=>rfl
   | cons u l=>obtain⟨b,off,e1,_⟩:=aN aJ (by decide) hr (j:=0) (by simp);cases e1
  subst hx;go_enter Tryz.func132,Tryz.ntmps132
  go_wp2
  go_ret
  exact⟨none,0,rfl,World.ownsRow_nil _ _ _ _,Below.refl _ _⟩
 | some ad=>
  go_enter Tryz.func132,Tryz.ntmps132
  go_wp2_with (at_builtin;refine iI rfl _ _ 42 rfl w.heap.size 63 (.agg #[.int .i64 0,.int .i64 0,.int .i64 0]) 3 24 Tryz.underlying42 rW rfl (by decide) (by decide) _ _ _ _ rfl (World.ownsRow_made w #[] 0 (Nat.le_refl _) (Nat.zero_le _) (by simp)) (some ad) xs.length cap (flat aO xs) rfl ?q1 ?q2 ?q3 ?q4 ?q5 ?_)
  case q1=>exact flat_length aJ xs
  case q2=>exact hr.below (aF _ _)
  case q3=>exact oG xs
  case q4=>rw[Nat.zero_add];exact hl
  case q5=>simp
  intro a' c' w1 hown hgrow;go_wp2
  go_ret
  exact⟨a',c',rfl,hown,(aF w _).grown hgrow (by simp) (by intro k hk;simp[Value.ownBlock]at hk;omega)⟩
theorem He (a:Option Addr)(n cap:Nat)(xs:List Nat)(w:World)(hn:xs.length=n)(hl:n*8<=140737488355328)(hr:Row w a (flat gV xs)):
 Calls Tryz.prog 85 #[.slice a n cap] w fun e w'=>∃a' c',e= .returned (.slice a' n c')/\w'.ownsRow w.heap.size 3 1 (.slice a' n c') n (flat gV xs)/\Below w.heap.size w w':=by
 have q22:∀(w:World) (a:Option Addr) (n c n' c':Nat),(binOp .eql 39 (.slice a n c) (.slice none n' c')).run Tryz.prog w= .ok (.bool a.isNone) w:=fun w a n c n' c'=>Lib.run_eql_slice_nil w _ _ a n c n' c' Tryz.underlying39
 subst hn;cases a with
 | none=>
  have hx:xs=[]:=by
   cases xs with
   | nil=>rfl
   | cons u l=>obtain⟨b,off,e1,_⟩:=aN bQ (by decide) hr (j:=0) (by simp);cases e1
  subst hx;go_enter Tryz.func85,Tryz.ntmps85
  go_wp2
  go_ret
  exact⟨none,0,rfl,World.ownsRow_nil _ _ _ _,Below.refl _ _⟩
 | some ad=>
  go_enter Tryz.func85,Tryz.ntmps85
  go_wp2_with (at_builtin;refine iI rfl _ _ 39 rfl w.heap.size 3 (.int .i64 0) 1 8 Tryz.underlying39 oN rfl (by decide) (by decide) _ _ _ _ rfl (World.ownsRow_made w #[] 0 (Nat.le_refl _) (Nat.zero_le _) (by simp)) (some ad) xs.length cap (flat gV xs) rfl ?q1 ?q2 ?q3 ?q4 ?q5 ?_)
  case q1=>exact flat_length bQ xs
  case q2=>exact hr.below (aF _ _)
  case q3=>exact UQ xs
  case q4=>rw[Nat.zero_add];exact hl
  case q5=>simp
  intro a' c' w1 hown hgrow;go_wp2
  go_ret
  exact⟨a',c',rfl,hown,(aF w _).grown hgrow (by simp) (by intro k hk;simp[Value.ownBlock]at hk;omega)⟩
theorem AV (a:Option Addr)(n cap:Nat)(l:List Bk)(g:Nat)(lb:Array Value)(p:Bk->Bool)(w:World)(hn:l.length=n)(hl:n<=9223372036854775807)(hr:Row w a (flat aO l))(eg:∀args w,(callFunc g args).run Tryz.prog w= .ok (.enter g args) w)
 (hp:∀W,Below w.heap.size w W->∀x∈l,Calls Tryz.prog g (#[.agg (aO x).toArray]++lb) W fun e w'=>e= .returned (.bool (p x))/\Below W.heap.size W w'):
 Calls Tryz.prog 185 #[.slice a n cap,.func (.func g) #[] lb] w fun e w'=>e= .returned (.int .i64 (dH p l))/\Below w.heap.size w w':=by
 subst hn;go_enter Tryz.func185,Tryz.ntmps185
 go_wp2
 go_loopw [5,8] (fun _ s8 wr=>∃k:Nat,k<=l.length/\s8= .int .i64 k/\Hid (∀x∈l.take k,p x=false)/\Below w.heap.size w wr) (fun _ s8 _=>l.length-(intOf s8).toNat)
 case atStart=>exact⟨0,Nat.zero_le _,rfl,by simp[Hid],Below.refl _ _⟩
 case round=>
  obtain⟨k,hk,rfl,hnot,hbw⟩:=hrel;by_cases hlt:k<l.length
  ·obtain⟨b,off,rfl,hb,hc⟩:=aN aJ (by decide) (hr.below hbw) hlt;obtain⟨hc0,hc1,hc2⟩:=bD hc
   skip
   have hcall:=hp wr hbw l[k] (gL hlt);clear hr hp hc;cases hv:p l[k]with
   | true=>
    have HH:=gO (mQ hlt hv hnot.out);rw[hv]at hcall;generalize l[k]=y at*;go_wp2_with (go_at_fn g;refine hcall.mono ?_;rintro e w' ⟨rfl,hb'⟩)
    go_ret
    exact⟨dP HH.out.symm,Below.step hbw hb'⟩
   | false=>
    rw[hv]at hcall;have HH:Hid (∀x∈l.take (k+1),p x=false):=fun x hx=>by
     rw[List.take_succ_eq_append_getElem hlt,List.mem_append,List.mem_singleton]at hx;rcases hx with hx | rfl
     ·exact hnot.out x hx
     ·exact hv
    generalize l[k]=y at*;go_wp2_with (go_at_fn g;refine hcall.mono ?_;rintro e w' ⟨rfl,hb'⟩)
    go_roundw
    case rel=>exact⟨k+1,by omega,by go_num,HH.out,Below.step hbw hb'⟩
    case measure=>simp[intOf];omega
  ·obtain rfl:k=l.length:=by omega
   go_wp2
   go_ret
   exact⟨dP (kX (by simpa[Hid]using hnot)).symm,hbw⟩
theorem CB (a:Option Addr)(n cap:Nat)(l:List Bk)(g:Nat)(lb:Array Value)(p:Bk->Bool)(w:World)(hn:l.length=n)(hl:n<=9223372036854775807)(hr:Row w a (flat aO l))(eg:∀args w,(callFunc g args).run Tryz.prog w= .ok (.enter g args) w)
 (hp:∀W,Below w.heap.size w W->∀x∈l,Calls Tryz.prog g (#[.agg (aO x).toArray]++lb) W fun e w'=>e= .returned (.bool (p x))/\Below W.heap.size W w'):
 Calls Tryz.prog 169 #[.slice a n cap,.func (.func g) #[] lb] w fun e w'=>e= .returned (.bool (l.any p))/\Below w.heap.size w w':=by
 go_enter Tryz.func169,Tryz.ntmps169
 go_wp2_with (go_at_call 185;refine(AV _ _ _ l _ _ p _ hn hl hr eg hp).mono ?_;rintro e w' ⟨rfl,hb'⟩)
 go_ret
 exact⟨aV (iE p l),hb'⟩
theorem Oa (a:Option Addr)(n cap:Nat)(l:List Nat)(g:Nat)(lb:Array Value)(p:Nat->Bool)(w:World)(hn:l.length=n)(hl:n<=9223372036854775807)(hr:Row w a (flat gV l))(eg:∀args w,(callFunc g args).run Tryz.prog w= .ok (.enter g args) w)
 (hp:∀W,Below w.heap.size w W->∀x∈l,Calls Tryz.prog g (#[.int .i64 (x:Int)]++lb) W fun e w'=>e= .returned (.bool (p x))/\Below W.heap.size W w'):
 Calls Tryz.prog 156 #[.slice a n cap,.func (.func g) #[] lb] w fun e w'=>e= .returned (.int .i64 (dH p l))/\Below w.heap.size w w':=by
 subst hn;go_enter Tryz.func156,Tryz.ntmps156
 go_wp2
 go_loopw [5,8] (fun _ s8 wr=>∃k:Nat,k<=l.length/\s8= .int .i64 k/\Hid (∀x∈l.take k,p x=false)/\Below w.heap.size w wr) (fun _ s8 _=>l.length-(intOf s8).toNat)
 case atStart=>exact⟨0,Nat.zero_le _,rfl,by simp[Hid],Below.refl _ _⟩
 case round=>
  obtain⟨k,hk,rfl,hnot,hbw⟩:=hrel;by_cases hlt:k<l.length
  ·obtain⟨b,off,rfl,hb,hc⟩:=aN bQ (by decide) (hr.below hbw) hlt;obtain hc0:=iJ hc;rw[Nat.mul_one]at hc0;have hcall:=hp wr hbw l[k] (gL hlt);clear hr hp hc;cases hv:p l[k]with
   | true=>
    have HH:=gO (mQ hlt hv hnot.out);rw[hv]at hcall;generalize l[k]=y at*;go_wp2_with (go_at_fn g;refine hcall.mono ?_;rintro e w' ⟨rfl,hb'⟩)
    go_ret
    exact⟨dP HH.out.symm,Below.step hbw hb'⟩
   | false=>
    rw[hv]at hcall;have HH:Hid (∀x∈l.take (k+1),p x=false):=fun x hx=>by
     rw[List.take_succ_eq_append_getElem hlt,List.mem_append,List.mem_singleton]at hx;rcases hx with hx | rfl
     ·exact hnot.out x hx
     ·exact hv
    generalize l[k]=y at*;go_wp2_with (go_at_fn g;refine hcall.mono ?_;rintro e w' ⟨rfl,hb'⟩)
    go_roundw
    case rel=>exact⟨k+1,by omega,by go_num,HH.out,Below.step hbw hb'⟩
    case measure=>simp[intOf];omega
  ·obtain rfl:k=l.length:=by omega
   go_wp2
   go_ret
   exact⟨dP (kX (by simpa[Hid]using hnot)).symm,hbw⟩
theorem qF (a:Option Addr)(n cap:Nat)(l:List Nat)(g:Nat)(lb:Array Value)(p:Nat->Bool)(w:World)(hn:l.length=n)(hl:n<=9223372036854775807)(hr:Row w a (flat gV l))(eg:∀args w,(callFunc g args).run Tryz.prog w= .ok (.enter g args) w)
 (hp:∀W,Below w.heap.size w W->∀x∈l,Calls Tryz.prog g (#[.int .i64 (x:Int)]++lb) W fun e w'=>e= .returned (.bool (p x))/\Below W.heap.size W w'):
 Calls Tryz.prog 110 #[.slice a n cap,.func (.func g) #[] lb] w fun e w'=>e= .returned (.bool (l.any p))/\Below w.heap.size w w':=by
 go_enter Tryz.func110,Tryz.ntmps110
 go_wp2_with (go_at_call 156;refine(Oa _ _ _ l _ _ p _ hn hl hr eg hp).mono ?_;rintro e w' ⟨rfl,hb'⟩)
 go_ret
 exact⟨aV (iE p l),hb'⟩
structure Hf (w:World)(a1 a2:Option Addr)(n1 n2:Nat)(z:Zn):Prop where
 l1:z.l.length=n1
 l2:z.y.length=n2
 r1:Row w a1 (flat aO z.l)
 r2:Row w a2 (flat gV z.y)
theorem Hf.below {w w':World}{a1 a2:Option Addr}{n1 n2:Nat}{z:Zn}(h:Hf w a1 a2 n1 n2 z)(hb:Below w.heap.size w w'):Hf w' a1 a2 n1 n2 z:=⟨h.l1,h.l2,h.r1.below hb,h.r2.below hb⟩
structure gY (w:World)(base:Nat)(a1 a2:Option Addr)(n1 n2 c1 c2:Nat)(z:Zn):Prop where
 l1:z.l.length=n1
 l2:z.y.length=n2
 o1:w.ownsRow base 63 3 (.slice a1 n1 c1) n1 (flat aO z.l)
 o2:w.ownsRow base 3 1 (.slice a2 n2 c2) n2 (flat gV z.y)
section
variable {w:World}{bs:Nat}{a1 a2:Option Addr}{n1 n2 c1 c2:Nat}{z:Zn}
theorem gY.at (h:gY w bs a1 a2 n1 n2 c1 c2 z):Hf w a1 a2 n1 n2 z:=⟨h.l1,h.l2,aY h.o1,aY h.o2⟩
theorem gY.below {w':World}(h:gY w bs a1 a2 n1 n2 c1 c2 z)(hb:Below w.heap.size w w'):gY w' bs a1 a2 n1 n2 c1 c2 z:=⟨h.l1,h.l2,own_below h.o1 hb (Nat.le_refl _),own_below h.o2 hb (Nat.le_refl _)⟩
theorem gY.base {base':Nat}(h:gY w bs a1 a2 n1 n2 c1 c2 z)(hb:base'<=bs):gY w base' a1 a2 n1 n2 c1 c2 z:=⟨h.l1,h.l2,own_base h.o1 hb,own_base h.o2 hb⟩
theorem gY.set (h:gY w bs a1 a2 n1 n2 c1 c2 z){g:Nat}(hg:(Value.slice a1 n1 c1).ownBlock≠some g/\(Value.slice a2 n2 c2).ownBlock≠some g)(i:Nat)(u:Value):gY (w.setCell ⟨g,i,none⟩ u) bs a1 a2 n1 n2 c1 c2 z:=⟨h.l1,h.l2,bI h.o1 hg.1 u,bI h.o2 hg.2 u⟩
theorem gY.ne (h:gY w bs a1 a2 n1 n2 c1 c2 z){g:Nat}(hg:g<bs∨w.heap.size<=g):(Value.slice a1 n1 c1).ownBlock≠some g/\(Value.slice a2 n2 c2).ownBlock≠some g:=⟨own_ne h.o1 hg,own_ne h.o2 hg⟩
end
theorem find_ok (a1 a2:Option Addr)(n1 n2 c1 c2:Nat)(f e:Nat)(z:Zn)(p:Nat)(w:World)(hat:Hf w a1 a2 n1 n2 z)(hl:n1<=1000)(hrise:rU z.l)(ha:∀b∈z.l,b.a<=1000)(hp:p<=1000):
 Calls Tryz.prog 173 #[.agg #[.int .i64 f,.int .i64 e,.slice a1 n1 c1,.slice a2 n2 c2],.int .i64 p] w fun e w'=>e= .returned (.tuple #[.int .i64 (lb z.l p:Int),.bool (hasB z.l p)])/\Below w.heap.size w w':=by
 have hb:=aF w (.cells #[.int .i64 (f:Int),.int .i64 (e:Int),.slice a1 n1 c1,.slice a2 n2 c2] 102);have hr:=(hat.below hb).r1;have l1:=hat.l1;clear hat
 go_enter Tryz.func173,Tryz.ntmps173
 go_wp2_with fail
 refine(Rz _ _ _ z.l p _ l1 hl hr hrise ha hp).mono ?_;rintro e w' ⟨rfl,hb'⟩;go_wp2
 go_ret2
 exact⟨rfl,Below.step hb hb'⟩
end
end Go.Proofs.YtcmpmobhongkiaaGreatDoor
