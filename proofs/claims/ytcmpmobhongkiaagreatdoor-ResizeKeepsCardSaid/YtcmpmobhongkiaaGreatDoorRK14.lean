/- joined. -/
import Derived.Test.YtcmpmobhongkiaaGreatDoorRK0
import Derived.Test.YtcmpmobhongkiaaGreatDoorRK13
import Derived.Test.YtcmpmobhongkiaaGreatDoorRK3
import Derived.Deep.AppendLies
set_option linter.unusedVariables false
set_option linter.unusedSimpArgs false
namespace Go.Proofs.YtcmpmobhongkiaaGreatDoor
section
open Go.RowKit
def RH (c:UInt8):List Value:=[.int .u8 (c.toNat:Int)]
theorem uP (c:UInt8):(RH c).length=1:=rfl
theorem Og {w:World}{g o:Nat}{r:UInt8}(hc:∀i v,(RH r)[i]? =some v->w.cell? ⟨g,o+i,none⟩=some v):w.cell? ⟨g,o,none⟩=some (.int .u8 (r.toNat:Int)):=hc 0 _ rfl
theorem Oh (a:Option Addr)(n cap:Nat)(l:List UInt8)(g:Nat)(lb:Array Value)(p:UInt8->Bool)(w:World)(hn:l.length=n)(hl:n<=9223372036854775807)(hr:Row w a (flat RH l))(eg:∀args w,(callFunc g args).run Tryz.prog w= .ok (.enter g args) w)
 (hp:∀W,Below w.heap.size w W->∀x∈l,Calls Tryz.prog g (#[.int .u8 (x.toNat:Int)]++lb) W fun e w'=>e= .returned (.bool (p x))/\Below W.heap.size W w'):
 Calls Tryz.prog 157 #[.slice a n cap,.func (.func g) #[] lb] w fun e w'=>e= .returned (.int .i64 (dH p l))/\Below w.heap.size w w':=by
 subst hn;go_enter Tryz.func157,Tryz.ntmps157
 go_wp2
 go_loopw [5,8] (fun _ s8 wr=>∃k:Nat,k<=l.length/\s8= .int .i64 k/\Hid (∀x∈l.take k,p x=false)/\Below w.heap.size w wr) (fun _ s8 _=>l.length-(intOf s8).toNat)
 case atStart=>exact⟨0,Nat.zero_le _,rfl,by simp[Hid],Below.refl _ _⟩
 case round=>
  obtain⟨k,hk,rfl,hnot,hbw⟩:=hrel;by_cases hlt:k<l.length
  ·obtain⟨b,off,rfl,hb,hc⟩:=aN uP (by decide) (hr.below hbw) hlt;obtain hc0:=Og hc;rw[Nat.mul_one]at hc0;have hcall:=hp wr hbw l[k] (gL hlt);clear hr hp hc;cases hv:p l[k]with
   | true=>
    have HH:=gO (mQ hlt hv hnot.out);rw[hv]at hcall;generalize l[k]=y at*;go_wp2_with (go_at_fn g;refine hcall.mono ?_;rintro e w' ⟨rfl,hb'⟩)
    go_ret
    exact⟨dP HH.out.symm,Below.step hbw hb'⟩
   | false=>
    rw[hv]at hcall;have HH:Hid (∀x∈l.take (k+1),p x=false):=fun x hx=>by
     rw[List.take_succ_eq_append_getElem hlt,List.mem_append,List.mem_singleton]at hx;rcases hx with hx | rfl
     ·exact hnot.out x hx
     ·exact hv
    generalize l[k]=y at*;go_wp2_with (go_at_fn g;refine hcall.mono ?_;rintro e w' ⟨rfl,hb'⟩)
    go_roundw
    case rel=>exact⟨k+1,by omega,by go_num,HH.out,Below.step hbw hb'⟩
    case measure=>simp[intOf];omega
  ·obtain rfl:k=l.length:=by omega
   go_wp2
   go_ret
   exact⟨dP (kX (by simpa[Hid]using hnot)).symm,hbw⟩
theorem Es (a:Option Addr)(n cap:Nat)(l:List UInt8)(g:Nat)(lb:Array Value)(p:UInt8->Bool)(w:World)(hn:l.length=n)(hl:n<=9223372036854775807)(hr:Row w a (flat RH l))(eg:∀args w,(callFunc g args).run Tryz.prog w= .ok (.enter g args) w)
 (hp:∀W,Below w.heap.size w W->∀x∈l,Calls Tryz.prog g (#[.int .u8 (x.toNat:Int)]++lb) W fun e w'=>e= .returned (.bool (p x))/\Below W.heap.size W w'):
 Calls Tryz.prog 116 #[.slice a n cap,.func (.func g) #[] lb] w fun e w'=>e= .returned (.bool (l.any p))/\Below w.heap.size w w':=by
 go_enter Tryz.func116,Tryz.ntmps116
 go_wp2_with (go_at_call 157;refine(Oh _ _ _ l _ _ p _ hn hl hr eg hp).mono ?_;rintro e w' ⟨rfl,hb'⟩)
 go_ret
 exact⟨aV (iE p l),hb'⟩
def RI (c:UInt8):Bool:= !(decide ((97<=c/\c<=122)∨(48<=c/\c<=57)))
theorem Vb (c:UInt8):RI c= !(decide ((97<=c.toNat/\c.toNat<=122)∨(48<=c.toNat/\c.toNat<=57))):=by
 unfold RI;simp only[UInt8.le_iff_toNat_le];rfl
theorem RJ (l:List UInt8):nameB l=(decide (0<l.length/\l.length<=8)&& !(l.any RI)):=by
 unfold nameB RI;rw[List.not_any_eq_all_not];simp
set_option maxRecDepth 100000 in
theorem Vd (c:UInt8)(w:World):
 Calls Tryz.prog 117 (#[.int .u8 (c.toNat:Int)]++#[]) w fun ev w'=>ev= .returned (.bool (RI c))/\Below w.heap.size w w':=by
 show Calls Tryz.prog 117 #[.int .u8 (c.toNat:Int)] w _;rw[Vb];generalize c.toNat=n;by_cases h1:n<97
 ·by_cases h2:n<48
  ·go_enter Tryz.func117,Tryz.ntmps117
   go_wp2
   go_ret
   exact⟨aV (by rw[Bool.eq_iff_iff];simp <;> omega),Below.refl _ _⟩
  ·by_cases h3:57<n
   ·go_enter Tryz.func117,Tryz.ntmps117
    go_wp2
    go_ret
    exact⟨aV (by rw[Bool.eq_iff_iff];simp <;> omega),Below.refl _ _⟩
   ·go_enter Tryz.func117,Tryz.ntmps117
    go_wp2
    go_ret
    exact⟨aV (by rw[Bool.eq_iff_iff];simp <;> omega),Below.refl _ _⟩
 ·by_cases h4:122<n
  ·have h5:57<n:=by omega
   have h6:¬n<48:=by omega
   go_enter Tryz.func117,Tryz.ntmps117
   go_wp2
   go_ret
   exact⟨aV (by rw[Bool.eq_iff_iff];simp <;> omega),Below.refl _ _⟩
  ·go_enter Tryz.func117,Tryz.ntmps117
   go_wp2
   go_ret
   exact⟨aV (by rw[Bool.eq_iff_iff];simp <;> omega),Below.refl _ _⟩
set_option maxRecDepth 100000 in
theorem JM (l:List UInt8)(w:World)(hl:l.length<=1000000):
 Calls Tryz.prog 64 #[sV l] w fun ev w'=>ev= .returned (.bool (nameB l))/\Below w.heap.size w w':=by
 rw[RJ];unfold sV;have hsz:(ByteArray.mk l.toArray).size=l.length:=by simp[ByteArray.size]
 by_cases h0:l=[]
 ·subst h0;go_enter Tryz.func64,Tryz.ntmps64
  go_wp2
  go_ret
  exact⟨rfl,Below.refl _ _⟩
 ·have hpos:0<l.length:=List.length_pos_iff.2 h0;have hemp:l.isEmpty=false:=by rw[List.isEmpty_eq_false_iff];exact h0
  by_cases h8:8<l.length
  ·have h8i:(8:Int)<l.length:=by omega
   go_enter Tryz.func64,Tryz.ntmps64
   go_wp2
   go_ret
   exact⟨aV (by rw[decide_eq_false (by omega)];rfl),Below.refl _ _⟩
  ·have h8i:¬(8:Int)<l.length:=by omega
   have hcv:=fun(W:World)=>Lib.run_convert_string_bytes (P:=Tryz.prog) W 9 188 5 ⟨l.toArray⟩ Tryz.underlying9 Tryz.underlying188 Tryz.underlying5
   have hb:Below w.heap.size w (Lib.bytesWorld w 5 ⟨l.toArray⟩):=⟨rfl,rfl,rfl,by rw[Lib.bytesWorld_size];omega,fun j hj=>Lib.bytesWorld_at_old w 5 ⟨l.toArray⟩ j hj⟩
   have hrow:Row (Lib.bytesWorld w 5 ⟨l.toArray⟩) (some ⟨w.heap.size,0,none⟩) (flat RH l):=by
    intro j v hj;have hjl:j<l.length*1:=by have:=(List.getElem?_eq_some_iff.1 hj).1;rwa [flat_length uP]at this
    refine⟨w.heap.size,0,rfl,by rw[Lib.bytesWorld_size];omega,?_⟩;have h1:=flat_get uP l j (by omega) 0 (by decide);rw[Nat.mul_one,Nat.add_zero,hj]at h1;have h2:v= .int .u8 ((l[j]'(by omega)).toNat:Int):=by simpa[RH]using h1
    rw[Nat.zero_add,Lib.bytesWorld_cell w 5 ⟨l.toArray⟩ j (by rw[hsz];omega),h2];simp[List.getD,show j<l.length by omega]
   have eg:∀args w,(callFunc 117 args).run Tryz.prog w= .ok (.enter 117 args) w:=enters_of Tryz.func117 (by kernel_rfl) rfl;have HC:=gO (Es (some ⟨w.heap.size,0,none⟩) l.length (grownCap w l.length 0 5) l 117 #[] RI (Lib.bytesWorld w 5 ⟨l.toArray⟩) rfl (by omega) hrow eg (fun W hW x hx=>Vd x W));have HB:=gO hb;clear hrow eg hb;go_enter Tryz.func64,Tryz.ntmps64
   go_wp2_with fail
   refine HC.out.mono ?_;rintro ev w2 ⟨rfl,hb2⟩;have HB2:=gO (Below.step HB.out hb2);go_wp2
   go_ret
   refine⟨aV ?_,HB2.out⟩;rw[decide_eq_true (by omega)];rfl
end
section
open Go.RowKit
theorem bytes_eq (v y:List UInt8):((ByteArray.mk v.toArray) == (ByteArray.mk y.toArray))=(v == y):=by
 show(v.toArray == y.toArray)=_;simp
set_option maxRecDepth 100000 in
theorem RN (a:Option Addr)(n cap:Nat)(l:List (List UInt8))(v:List UInt8)(w:World)(hn:l.length=n)(hl:n<=1000000)(hr:Row w a (flat encS l)):
 Calls Tryz.prog 92 #[.slice a n cap,sV v] w fun e w'=>e= .returned (.int .i64 (dH (v == ·) l))/\w=w':=by
 subst hn;unfold sV;go_enter Tryz.func92,Tryz.ntmps92
 go_wp2
 go_loop [5,8] (fun _ s8=>∃k:Nat,k<=l.length/\s8= .int .i64 k/\Hid (∀x∈l.take k,(v == x)=false)) (fun _ s8=>l.length-(intOf s8).toNat)
 case atStart=>exact⟨0,Nat.zero_le _,rfl,by simp[Hid]⟩
 case round=>
  obtain⟨k,hk,rfl,hnot⟩:=hrel;by_cases hlt:k<l.length
  ·obtain⟨b,off,rfl,hb,hc⟩:=aN aZ (by decide) hr hlt;have hc0:=oO hc;rw[Nat.mul_one]at hc0;clear hr hc;have hvx:((ByteArray.mk v.toArray) == (ByteArray.mk (l[k]).toArray))=(v == l[k]):=(bytes_eq _ _)
   cases hv:v == l[k]with
   | true=>
    rw[hv]at hvx;have HH:=gO (mQ (p:=fun x=>v == x) hlt hv hnot.out);generalize l[k]=y at*;go_wp2
    go_ret
    exact⟨dP HH.out.symm,rfl⟩
   | false=>
    rw[hv]at hvx;have HH:Hid (∀x∈l.take (k+1),(v == x)=false):=fun x hx=>by
     rw[List.take_succ_eq_append_getElem hlt,List.mem_append,List.mem_singleton]at hx;rcases hx with hx | rfl
     ·exact hnot.out x hx
     ·exact hv
    generalize l[k]=y at*;go_wp2
    go_round
    case rel=>exact⟨k+1,by omega,by go_num,HH⟩
    case measure=>simp[intOf];omega
  ·obtain rfl:k=l.length:=by omega
   go_wp2
   go_ret
   exact⟨dP (kX (by simpa[Hid]using hnot)).symm,rfl⟩
set_option maxRecDepth 100000 in
theorem x9 (a:Option Addr)(n cap:Nat)(l:List (List UInt8))(v:List UInt8)(w:World)(hn:l.length=n)(hl:n<=1000000)(hr:Row w a (flat encS l)):
 Calls Tryz.prog 44 #[.slice a n cap,sV v] w fun e w'=>e= .returned (.bool (l.contains v))/\w=w':=by
 have HC:=gO (fun(W:World) (h:W=w)=>RN a n cap l v W hn hl (h▸hr));unfold sV at*;go_enter Tryz.func44,Tryz.ntmps44
 go_wp2_with (go_at_call 92;refine(HC.out _ rfl).mono ?_;rintro e w' ⟨rfl,rfl⟩)
 go_ret
 exact⟨aV (by rw[iE,List.contains_eq_any_beq]),rfl⟩
theorem RP (y:Cc)(v:List UInt8)(B:Nat)(W:World)(hy:Ht W y)(hn:y.n1<=1000000)(hB:B<W.heap.size)(hc:W.cell? ⟨B,0,none⟩=some (sV v)):
 Calls Tryz.prog 118 (#[.agg (dX y).toArray]++#[.pointer (some ⟨B,0,none⟩)]) W fun ev w'=>ev= .returned (.bool (y.c.ns.contains v))/\Below W.heap.size W w':=by
 show Calls Tryz.prog 118 #[.agg #[.slice y.a1 y.n1 y.c1,.int .i64 y.c.z,.int .i64 y.c.r,.int .i64 y.c.o,.slice y.a2 y.n2 y.c2,.slice y.a3 y.n3 y.c3],.pointer (some ⟨B,0,none⟩)] W _;have hb:=aF W (.cells #[.slice y.a1 y.n1 y.c1,.int .i64 (y.c.z:Int),.int .i64 (y.c.r:Int),.int .i64 (y.c.o:Int),.slice y.a2 y.n2 y.c2,.slice y.a3 y.n3 y.c3] 94);have K:=aW W #[.slice y.a1 y.n1 y.c1,.int .i64 (y.c.z:Int),.int .i64 (y.c.r:Int),.int .i64 (y.c.o:Int),.slice y.a2 y.n2 y.c2,.slice y.a3 y.n3 y.c3] 94;have k0:=K 0;simp only[gB,gC,gD]at k0;have hc2:=(hb.cell (p:=⟨B,0,none⟩) hB).trans hc;have HC:=gO (x9 y.a1 y.n1 y.c1 y.c.ns v _ hy.l1 hn (hy.r1.below hb));have HB:=gO hb;have hne:B≠W.heap.size:=by omega
 clear hb K hc hy;unfold sV at*;go_enter Tryz.func118,Tryz.ntmps118
 go_wp2_with (go_at_call 44;refine HC.out.mono ?_;rintro e w' ⟨rfl,rfl⟩)
 go_ret
 exact⟨aV (by rw[Bool.eq_iff_iff];simp),HB.out⟩
theorem uQ (a:Option Addr)(n cap:Nat)(l:List Cc)(g:Nat)(lb:Array Value)(p:Cc->Bool)(w:World)(hn:l.length=n)(hl:n<=9223372036854775807)(hr:Row w a (flat dX l))(eg:∀args w,(callFunc g args).run Tryz.prog w= .ok (.enter g args) w)
 (hp:∀W,Below w.heap.size w W->∀x∈l,Calls Tryz.prog g (#[.agg (dX x).toArray]++lb) W fun e w'=>e= .returned (.bool (p x))/\Below W.heap.size W w'):
 Calls Tryz.prog 66 #[.slice a n cap,.func (.func g) #[] lb] w fun e w'=>e= .returned (.int .i64 (dH p l))/\Below w.heap.size w w':=by
 subst hn;go_enter Tryz.func66,Tryz.ntmps66
 go_wp2
 go_loopw [5,8] (fun _ s8 wr=>∃k:Nat,k<=l.length/\s8= .int .i64 k/\Hid (∀x∈l.take k,p x=false)/\Below w.heap.size w wr) (fun _ s8 _=>l.length-(intOf s8).toNat)
 case atStart=>exact⟨0,Nat.zero_le _,rfl,by simp[Hid],Below.refl _ _⟩
 case round=>
  obtain⟨k,hk,rfl,hnot,hbw⟩:=hrel;by_cases hlt:k<l.length
  ·obtain⟨b,off,rfl,hb,hc⟩:=aN dU (by decide) (hr.below hbw) hlt;obtain⟨hc0,hc1,hc2,hc3,hc4,hc5⟩:=jY hc
   skip
   have hcall:=hp wr hbw l[k] (gL hlt);clear hr hp hc;cases hv:p l[k]with
   | true=>
    have HH:=gO (mQ hlt hv hnot.out);rw[hv]at hcall;generalize l[k]=y at*;go_wp2_with (go_at_fn g;refine hcall.mono ?_;rintro e w' ⟨rfl,hb'⟩)
    go_ret
    exact⟨dP HH.out.symm,Below.step hbw hb'⟩
   | false=>
    rw[hv]at hcall;have HH:Hid (∀x∈l.take (k+1),p x=false):=fun x hx=>by
     rw[List.take_succ_eq_append_getElem hlt,List.mem_append,List.mem_singleton]at hx;rcases hx with hx | rfl
     ·exact hnot.out x hx
     ·exact hv
    generalize l[k]=y at*;go_wp2_with (go_at_fn g;refine hcall.mono ?_;rintro e w' ⟨rfl,hb'⟩)
    go_roundw
    case rel=>exact⟨k+1,by omega,by go_num,HH.out,Below.step hbw hb'⟩
    case measure=>simp[intOf];omega
  ·obtain rfl:k=l.length:=by omega
   go_wp2
   go_ret
   exact⟨dP (kX (by simpa[Hid]using hnot)).symm,hbw⟩
theorem uS (a:Option Addr)(n cap:Nat)(l:List Cc)(g:Nat)(lb:Array Value)(p:Cc->Bool)(w:World)(hn:l.length=n)(hl:n<=9223372036854775807)(hr:Row w a (flat dX l))(eg:∀args w,(callFunc g args).run Tryz.prog w= .ok (.enter g args) w)
 (hp:∀W,Below w.heap.size w W->∀x∈l,Calls Tryz.prog g (#[.agg (dX x).toArray]++lb) W fun e w'=>e= .returned (.bool (p x))/\Below W.heap.size W w'):
 Calls Tryz.prog 83 #[.slice a n cap,.func (.func g) #[] lb] w fun e w'=>e= .returned (.bool (l.any p))/\Below w.heap.size w w':=by
 go_enter Tryz.func83,Tryz.ntmps83
 go_wp2_with (go_at_call 66;refine(uQ _ _ _ l _ _ p _ hn hl hr eg hp).mono ?_;rintro e w' ⟨rfl,hb'⟩)
 go_ret
 exact⟨aV (iE p l),hb'⟩
theorem uT (a:Option Addr)(n cap:Nat)(l:List Sl)(g:Nat)(lb:Array Value)(p:Sl->Bool)(w:World)(hn:l.length=n)(hl:n<=9223372036854775807)(hr:Row w a (flat aX l))(eg:∀args w,(callFunc g args).run Tryz.prog w= .ok (.enter g args) w)
 (hp:∀W,Below w.heap.size w W->∀x∈l,Calls Tryz.prog g (#[.agg (aX x).toArray]++lb) W fun e w'=>e= .returned (.bool (p x))/\Below W.heap.size W w'):
 Calls Tryz.prog 125 #[.slice a n cap,.func (.func g) #[] lb] w fun e w'=>e= .returned (.int .i64 (dH p l))/\Below w.heap.size w w':=by
 subst hn;go_enter Tryz.func125,Tryz.ntmps125
 go_wp2
 go_loopw [5,8] (fun _ s8 wr=>∃k:Nat,k<=l.length/\s8= .int .i64 k/\Hid (∀x∈l.take k,p x=false)/\Below w.heap.size w wr) (fun _ s8 _=>l.length-(intOf s8).toNat)
 case atStart=>exact⟨0,Nat.zero_le _,rfl,by simp[Hid],Below.refl _ _⟩
 case round=>
  obtain⟨k,hk,rfl,hnot,hbw⟩:=hrel;by_cases hlt:k<l.length
  ·obtain⟨b,off,rfl,hb,hc⟩:=aN aK (by decide) (hr.below hbw) hlt;obtain⟨hc0,hc1,hc2⟩:=fC hc
   skip
   have hcall:=hp wr hbw l[k] (gL hlt);clear hr hp hc;cases hv:p l[k]with
   | true=>
    have HH:=gO (mQ hlt hv hnot.out);rw[hv]at hcall;generalize l[k]=y at*;go_wp2_with (go_at_fn g;refine hcall.mono ?_;rintro e w' ⟨rfl,hb'⟩)
    go_ret
    exact⟨dP HH.out.symm,Below.step hbw hb'⟩
   | false=>
    rw[hv]at hcall;have HH:Hid (∀x∈l.take (k+1),p x=false):=fun x hx=>by
     rw[List.take_succ_eq_append_getElem hlt,List.mem_append,List.mem_singleton]at hx;rcases hx with hx | rfl
     ·exact hnot.out x hx
     ·exact hv
    generalize l[k]=y at*;go_wp2_with (go_at_fn g;refine hcall.mono ?_;rintro e w' ⟨rfl,hb'⟩)
    go_roundw
    case rel=>exact⟨k+1,by omega,by go_num,HH.out,Below.step hbw hb'⟩
    case measure=>simp[intOf];omega
  ·obtain rfl:k=l.length:=by omega
   go_wp2
   go_ret
   exact⟨dP (kX (by simpa[Hid]using hnot)).symm,hbw⟩
theorem CO (a:Option Addr)(n cap:Nat)(l:List Sl)(g:Nat)(lb:Array Value)(p:Sl->Bool)(w:World)(hn:l.length=n)(hl:n<=9223372036854775807)(hr:Row w a (flat aX l))(eg:∀args w,(callFunc g args).run Tryz.prog w= .ok (.enter g args) w)
 (hp:∀W,Below w.heap.size w W->∀x∈l,Calls Tryz.prog g (#[.agg (aX x).toArray]++lb) W fun e w'=>e= .returned (.bool (p x))/\Below W.heap.size W w'):
 Calls Tryz.prog 76 #[.slice a n cap,.func (.func g) #[] lb] w fun e w'=>e= .returned (.bool (l.any p))/\Below w.heap.size w w':=by
 go_enter Tryz.func76,Tryz.ntmps76
 go_wp2_with (go_at_call 125;refine(uT _ _ _ l _ _ p _ hn hl hr eg hp).mono ?_;rintro e w' ⟨rfl,hb'⟩)
 go_ret
 exact⟨aV (iE p l),hb'⟩
theorem Ve (x:Sl)(p:Int)(C:Nat)(W:World)(hx:x.p<=1000000)(hp: -1000000<=p/\p<=1000000)(hC:C<W.heap.size)(hc:W.cell? ⟨C,0,none⟩=some (.int .i64 p)):
 Calls Tryz.prog 166 (#[.agg (aX x).toArray]++#[.pointer (some ⟨C,0,none⟩)]) W fun ev w'=>ev= .returned (.bool (decide ((x.p:Int)=p)))/\Below W.heap.size W w':=by
 have hne:C≠W.heap.size:=by omega
 show Calls Tryz.prog 166 #[.agg #[.int .i64 x.p,.int .i64 x.n,.int .i64 x.h],.pointer (some ⟨C,0,none⟩)] W _;go_enter Tryz.func166,Tryz.ntmps166
 go_wp2
 go_ret
 exact⟨aV (by rw[Bool.eq_iff_iff];simp only[beq_iff_eq,decide_eq_true_eq]),aF _ _⟩
end
section
open Go.RowKit
attribute [local go_sem ↓] jG
set_option maxRecDepth 100000 in
theorem KU (base:Nat)(a:Option Addr)(n c g:Nat)(l:List Bk)(b:Bk)(w:World)(hown:w.ownsRow base 63 3 (.slice a n c) n (flat aO l))(hn:n<=1000)(hbase:base<=w.heap.size)(hv:Row w (some ⟨g,0,none⟩) (aO b)):
 Calls Tryz.prog 109 #[.slice a n c,.int .i64 n,.slice (some ⟨g,0,none⟩) 1 1] w fun ev w'=>∃a' c',ev= .returned (.slice a' (n+1) c')/\w'.ownsRow base 63 3 (.slice a' (n+1) c') (n+1) (flat aO (l++[b]))/\w.grownBy w' (Value.ownBlock (.slice a n c))/\(∀k,(Value.slice a' (n+1) c').ownBlock=some k->(Value.slice a n c).ownBlock=some k∨w.heap.size<=k):=by
 have hnc:=dQ hown;have HO:=gO hown;clear hown;have b2:(n:Int)<=c:=by omega
 obtain⟨ti,hti,htz,hts,htb⟩:=info_parts rW;have hnews:∀j u,(aO b)[j]? =some u->w.cell? ((⟨g,0,none⟩:Addr).add j)=some u:=fun j u hj=>by
  obtain⟨b',off,e,_,h2⟩:=hv j u hj;obtain⟨rfl,rfl⟩:g=b'/\0=off:=by simpa using e
  rw[Addr.add_lit];exact h2
 go_enter Tryz.func109,Tryz.ntmps109
 go_wp2_with (at_builtin;refine wpList_append_lies _ rfl _ _ 42 rfl base 63 ti (.agg #[.int .i64 0,.int .i64 0,.int .i64 0]) 3 24 Tryz.underlying42 hti htz hts htb rfl (by decide) _ n _ rfl HO.out ⟨g,0,none⟩ 1 1 (aO b) rfl rfl hnews (by simp[aO,vI,Value.oneCell']) (by decide) (by unfold maxLen;omega) (by omega) hbase _ rfl ?_)
 intro g1 c' w1 hown1 hg hlies hlt1;rw[show flat aO l++aO b=flat aO (l++[b])from by rw[aT,gX]]at hown1;have HO1:=gO hown1;have HL1:=gO hlies;clear hown1 HO hnews hlies;go_wp2
 go_ret
 exact⟨_,c',rfl,HO1.out,hg,fun k hk=>by
  obtain rfl:g1=k:=by simpa[Value.ownBlock]using hk
  rcases HL1.out with h | h
  ·exact .inl h
  ·exact .inr (Nat.le_of_eq h.symm)⟩
set_option maxRecDepth 100000 in
theorem Iw (base:Nat)(a:Option Addr)(n c g i:Nat)(l:List Bk)(b:Bk)(w:World)(hown:w.ownsRow base 63 3 (.slice a n c) n (flat aO l))(hi:i<n)(hn:n<=1000)(hc:c<n+1)(hbase:base<=w.heap.size)(hv:Row w (some ⟨g,0,none⟩) (aO b)):
 Calls Tryz.prog 109 #[.slice a n c,.int .i64 i,.slice (some ⟨g,0,none⟩) 1 1] w fun ev w'=>∃a' c',ev= .returned (.slice a' (n+1) c')/\w'.ownsRow base 63 3 (.slice a' (n+1) c') (n+1) (flat aO (l.take i++b::l.drop i))/\w.grownBy w' (Value.ownBlock (.slice a n c))/\(∀k,(Value.slice a' (n+1) c').ownBlock=some k->(Value.slice a n c).ownBlock=some k∨w.heap.size<=k):=by
 have hnc:=dQ hown;have hln:l.length=n:=bC aJ (by decide) hown;have hfl:=flat_length aJ l;obtain⟨G,zs,w1,hrz,hzl,hown1,hg1⟩:=uO (P:=Tryz.prog) 42 3 42 63 Tryz.underlying42 Tryz.underlying3 (.agg #[.int .i64 0,.int .i64 0,.int .i64 0]) 3 24 rW rfl (by decide) a i c _ base (jK hown (show i<=n by omega)) (n+1-i) (by omega) (by omega) (by omega) (by omega);rw[show i+(n+1-i)=n+1 by omega]at hrz hown1;rw[show((n+1-i:Nat):Int)=(n:Int)+1-(i:Int)by omega]at hrz;rw[eH aJ]at hown1;have HR:=gO (aY hown);have hGn:=dQ hown1;have HO1:=gO hown1;have HG1:=gO hg1;have hbw:=gO ((Below.refl w.heap.size w).grown hg1 (Nat.le_refl _) (by simp));have b0:(i:Int)<=n:=by omega
 have b2:(i:Int)<=c:=by omega
 have b3:¬(i:Int)=n:=by omega
 have b4:(c:Int)<(n:Int)+1:=by omega
 have b5:(i:Int)<=(n:Int)+1:=by omega
 have b6:((n+1:Nat):Int)<=G:=by omega
 have hsz:(Tryz.prog.info? 63).map (·.size)=some 3:=by kernel_rfl
 have hv1:=hv.mono hbw.out (Nat.le_refl _);have htl:(flat aO (l.take i)).length=i*3:=by rw[flat_length aJ,List.length_take];omega
 have lU:bY (some ⟨w.heap.size,0,none⟩) i G 3=(some ⟨w.heap.size,0,none⟩:Option Addr).map (·.add (i*3)):=by unfold bY;rw[if_neg (by omega)]
 have lV:bY (some ⟨w.heap.size,0,none⟩) (i+1) G 3=(some ⟨w.heap.size,0,none⟩:Option Addr).map (·.add ((i+1)*3)):=by unfold bY;rw[if_neg (by omega)]
 obtain⟨w2,hcp1,hown2,hg2⟩:=iY (P:=Tryz.prog) 42 42 3 63 Tryz.underlying42 3 hsz (bY (some ⟨w.heap.size,0,none⟩) i G 3) (some ⟨g,0,none⟩) (n+1-i) (G-i) 1 1 (aO b) (by rw[show Nat.min 1 (n+1-i)=1 from Nat.min_eq_left (by omega)];rfl) hv1 (by simp[aO,vI,Value.oneCell']) w.heap.size (n+1) G i (some ⟨w.heap.size,0,none⟩) _ HO1.out (fun _=>lU) (fun h=>by rw[lU]at h;simp at h) (by rw[aJ];omega);rw[aJ,List.take_left' htl,<- Nat.succ_mul]at hown2;have hdrop:(flat aO (l.take i)++zs).drop ((i+1)*3)=zs.drop 3:=by rw[List.drop_append,List.drop_eq_nil_of_le (by omega),htl,List.nil_append];congr 1;omega
 rw[Nat.succ_eq_add_one,hdrop]at hown2;have hbw2:=(hbw.out.grown hg2 hbw.out.size (by intro k hk;simp[Value.ownBlock]at hk;omega)).drew;have lW:=own_below hown2 ((Below.refl w2.heap.size w2).drew) (Nat.le_refl _);have hrow:=((aY hown).mono hbw2 (Nat.le_refl _)).cut i c 3 ((n-i)*3) (by omega);rw[List.take_of_length_le (by rw[List.length_drop,hfl];omega),eP aJ]at hrow;have hdl:(flat aO (l.drop i)).length=(n-i)*3:=by rw[flat_length aJ,List.length_drop,hln]
 obtain⟨w3,hcp2,hown3,hg3⟩:=iY (P:=Tryz.prog) (w:=w2.drew) 42 42 3 63 Tryz.underlying42 3 hsz (bY (some ⟨w.heap.size,0,none⟩) (i+1) G 3) (bY a i c 3) (n-i) (G-(i+1)) (n-i) (c-i) (flat aO (l.drop i)) (by rw[hdl,show Nat.min (n-i) (n-i)=n-i from Nat.min_self _]) hrow (oG _) w.heap.size (n+1) G (i+1) (some ⟨w.heap.size,0,none⟩) _ lW (fun _=>lV) (fun h=>by rw[lV]at h;simp at h) (by rw[hdl];omega);rw[show(flat aO (l.take i)++aO b++zs.drop 3).take ((i+1)*3)=flat aO (l.take i)++aO b from List.take_left' (by rw[List.length_append,htl,aJ];omega),hdl,show(flat aO (l.take i)++aO b++zs.drop 3).drop ((i+1)*3+(n-i)*3)=[]from List.drop_eq_nil_of_le (by simp only[List.length_append,htl,aJ,List.length_drop,hzl];omega),List.append_nil,<- gX aO b,<- aT,<- aT,List.append_assoc,List.singleton_append]at hown3;have HO3:=gO (own_base hown3 hbase);have HG3:Hid (w.grownBy w3 (Value.ownBlock (.slice a n c))):=by
  have h1:=HG1.out;refine⟨hg3.os.trans (hg2.os.trans h1.os),hg3.tape.trans (hg2.tape.trans h1.tape),hg3.output.trans (hg2.output.trans h1.output),gQ h1.size (gQ hg2.size hg3.size),fun k hk hne=> ?_⟩;have e1:some k≠Value.ownBlock (.slice (some ⟨w.heap.size,0,none⟩) (n+1) G):=by simp[Value.ownBlock];omega
  exact(hg3.block k (gI hk (gQ h1.size hg2.size)) e1).trans ((hg2.block k (gI hk h1.size) e1).trans (h1.block k hk (by simp)))
 have b7:((i:Int)+1)<=G:=by omega
 have s1:IntKind.i64.wrap ((i:Int)+1)=(i:Int)+1:=IntWalk.i64_in _ (by omega);have b8:0<=(i:Int)+1:=by omega
 have b9:((i:Int)+1).toNat=i+1:=by omega
 have b10:(i:Int)+1<=(n:Int)+1:=by omega
 clear hown hown2 lW hown3 hg1 hg2 hg3 hown1 hrow hv1 hbw2 HO1 HR HG1 hdrop lU lV;go_enter Tryz.func109,Tryz.ntmps109
 go_wp2_with (at_builtin;refine jX rfl _ _ 42 3 rfl _ _ rfl rfl hrz ?_)
 go_still_tail 8,(by kernel_rfl)
 change wpList _ _ _ _ _ w2.drew;generalize w2.drew=w2d at*;go_wp2
 go_ret
 exact⟨_,_,rfl,HO3.out,HG3.out,fun k hk=> .inr (by simp[Value.ownBlock]at hk;omega)⟩
set_option maxHeartbeats 1000000 in
set_option maxRecDepth 100000 in
theorem EJ (base:Nat)(a:Option Addr)(n c g i:Nat)(l:List Bk)(b:Bk)(w:World)(hown:w.ownsRow base 63 3 (.slice a n c) n (flat aO l))(hi:i<n)(hn:n<=1000)(hc:n+1<=c)(hbase:base<=w.heap.size)(hgb:w.heap[g]? =some (.cells (aO b).toArray 63 (0,0)))(hne:some g≠Value.ownBlock (.slice a n c))(hv:Row w (some ⟨g,0,none⟩) (aO b)):
 Calls Tryz.prog 109 #[.slice a n c,.int .i64 i,.slice (some ⟨g,0,none⟩) 1 1] w fun ev w'=>∃a' c',ev= .returned (.slice a' (n+1) c')/\w'.ownsRow base 63 3 (.slice a' (n+1) c') (n+1) (flat aO (l.take i++b::l.drop i))/\w.grownBy w' (Value.ownBlock (.slice a n c))/\(∀k,(Value.slice a' (n+1) c').ownBlock=some k->(Value.slice a n c).ownBlock=some k∨w.heap.size<=k):=by
 have hln:l.length=n:=bC aJ (by decide) hown;have hfl:=flat_length aJ l;obtain⟨g0,cur,rfl,hg0,hcs,hcm⟩:∃g0 cur,a=some ⟨g0,0,none⟩/\w.heap[g0]? =some (.cells cur 63 (0,0))/\cur.size=c*3/\c<=maxLen:=by
  rcases hown.2 with ⟨h',h2⟩ | ⟨g0,cap,cur,h',_,hg,_,hcm,hs,_⟩
  ·omega
  ·obtain⟨rfl,rfl⟩:a=some ⟨g0,0,none⟩/\c=cap:=by simpa using h'
   exact⟨g0,cur,rfl,hg,hs,hcm⟩
 have hgg:g≠g0:=fun e=>hne (by rw[e];rfl)
 have hcut:∀j,j<=n->bY (some ⟨g0,0,none⟩) j c 3=(some ⟨g0,0,none⟩:Option Addr).map (·.add (j*3)):=fun j hj=>by unfold bY;rw[if_neg (by omega)]
 have pK:bY (some ⟨g0,0,none⟩) (i+1) c 3=some ⟨g0,(i+1)*3,none⟩:=by rw[hcut _ (by omega)];simp[Addr.add_lit]
 have hsz:(Tryz.prog.info? 63).map (·.size)=some 3:=by kernel_rfl
 have hov:(callFunc 154 #[.slice (some ⟨g,0,none⟩) 1 1,.slice (bY (some ⟨g0,0,none⟩) (i+1) c 3) (n-i) (c-(i+1))]).run Tryz.prog w= .ok (.value (.bool false)) w:=by
  rw[pK,run_callFunc_extern Tryz.func154 (by kernel_rfl) (by kernel_rfl) (by kernel_rfl) (e:=Extern.SlicesOverlaps.overlaps #[42,42] #[4]) (by kernel_rfl),
   Lib.run_overlaps_apart w 42 4 63 Tryz.underlying42 3 Tryz.sizeOf63 ⟨g,0,none⟩ ⟨g0,(i+1)*3,none⟩ 1 1 _ _ hgg 63 63 3 (c*3) (by simp[World.shape?,hgb,aO]) (by simp[World.shape?,hg0,hcs]) (by omega) (by simp[World.frozen?,hgb]) (by simp[World.frozen?,hgb])]
  rfl
 obtain⟨ys,hyl,hroom⟩:=uI hown (show n<=n+1 by omega) hc;rw[show(n+1-n)*3=3 by omega]at hyl;have hdl:(flat aO (l.drop i)).length=(n-i)*3:=by rw[flat_length aJ,List.length_drop,hln]
 have htl:(flat aO (l.take i)).length=i*3:=by rw[flat_length aJ,List.length_take];omega
 have hwd:Below w.heap.size w w.drew:=(Below.refl w.heap.size w).drew;have hroomd:=own_below hroom hwd (Nat.le_refl _);have hrow:=((aY hown).below hwd).cut i c 3 ((n-i)*3) (by omega);rw[List.take_of_length_le (by rw[List.length_drop,hfl];omega),eP aJ]at hrow;obtain⟨w2,hcp1,hown2,hg2⟩:=iY (P:=Tryz.prog) (w:=w.drew) 42 42 3 63 Tryz.underlying42 3 hsz (bY (some ⟨g0,0,none⟩) (i+1) c 3) (bY (some ⟨g0,0,none⟩) i c 3) (n-i) (c-(i+1)) (n+1-i) (c-i) (flat aO (l.drop i)) (by rw[hdl,show Nat.min (n+1-i) (n-i)=n-i from Nat.min_eq_right (by omega)]) hrow (oG _) base (n+1) c (i+1) (some ⟨g0,0,none⟩) _ hroomd (fun _=>hcut _ (by omega)) (fun h=>by rw[hcut _ (by omega)]at h;simp at h) (by rw[hdl];omega);have hX:((flat aO l++ys).take ((i+1)*3)++flat aO (l.drop i)++(flat aO l++ys).drop ((i+1)*3+(flat aO (l.drop i)).length))=(flat aO l++ys).take ((i+1)*3)++flat aO (l.drop i):=by
  rw[show(flat aO l++ys).drop ((i+1)*3+(flat aO (l.drop i)).length)=[]from List.drop_eq_nil_of_le (by rw[List.length_append,hfl,hdl];omega),List.append_nil]
 rw[hX]at hown2;have Hr:((flat aO l++ys).take ((i+1)*3)).length=(i+1)*3:=by rw[List.length_take,List.length_append,hfl];omega
 have hv2:=qW (hv.below hwd) hg2 hne;obtain⟨w3,hcp2,hown3,hg3⟩:=iY (P:=Tryz.prog) (w:=w2) 42 42 3 63 Tryz.underlying42 3 hsz (bY (some ⟨g0,0,none⟩) i c 3) (some ⟨g,0,none⟩) (n+1-i) (c-i) 1 1 (aO b) (by rw[show Nat.min 1 (n+1-i)=1 from Nat.min_eq_left (by omega)];rfl) hv2 (by simp[aO,vI,Value.oneCell']) base (n+1) c i (some ⟨g0,0,none⟩) _ hown2 (fun _=>hcut _ (by omega)) (fun h=>by rw[hcut _ (by omega)]at h;simp at h) (by rw[aJ];omega);have hY:((flat aO l++ys).take ((i+1)*3)++flat aO (l.drop i)).take (i*3)++aO b++((flat aO l++ys).take ((i+1)*3)++flat aO (l.drop i)).drop (i*3+(aO b).length)=flat aO (l.take i++b::l.drop i):=by
  rw[aJ,show i*3+3=(i+1)*3 by omega,List.drop_left' Hr,List.take_append_of_le_length (by rw[Hr];omega),List.take_take,show min (i*3) ((i+1)*3)=i*3 by omega,List.take_append_of_le_length (by rw[hfl];omega),eH aJ,aT,dM,List.append_assoc]
 rw[hY]at hown3;have HO3:=gO hown3;have HG3:Hid (w.grownBy w3 (Value.ownBlock (.slice (some ⟨g0,0,none⟩) n c))):=
  ⟨hg3.os.trans hg2.os,hg3.tape.trans hg2.tape,hg3.output.trans hg2.output,gQ hg2.size hg3.size,fun k hk hnk=>(hg3.block k (gI hk hg2.size) hnk).trans (hg2.block k hk hnk)⟩
 have b0:(i:Int)<=n:=by omega
 have b2:(i:Int)<=c:=by omega
 have b3:¬(i:Int)=n:=by omega
 have b4:¬(c:Int)<(n:Int)+1:=by omega
 have b5:(i:Int)<=(n:Int)+1:=by omega
 have b6:(n:Int)+1<=c:=by omega
 have b7:((i:Int)+1)<=c:=by omega
 have s1:IntKind.i64.wrap ((i:Int)+1)=(i:Int)+1:=IntWalk.i64_in _ (by omega);have b8:0<=(i:Int)+1:=by omega
 have b9:((i:Int)+1).toNat=i+1:=by omega
 have b10:(i:Int)+1<=(n:Int)+1:=by omega
 have b11:((n:Int)+1).toNat=n+1:=by omega
 have b12:c<=9223372036854775807:=by unfold maxLen at hcm;omega
 clear hown hroom hroomd hrow hown2 hown3 hg2 hg3 hX hY hv hv2 hcut pK hg0 hgb hcs;go_enter Tryz.func109,Tryz.ntmps109
 go_wp2_with (simp only[hov])
 go_still_tail 8,(by kernel_rfl)
 change wpList _ _ _ _ _ w.drew;go_wp2
 go_ret
 exact⟨_,_,rfl,HO3.out,HG3.out,fun k hk=> .inl hk⟩
theorem Dy (base:Nat)(a:Option Addr)(n c g i:Nat)(l:List Bk)(b:Bk)(w:World)(hown:w.ownsRow base 63 3 (.slice a n c) n (flat aO l))(hi:i<=n)(hn:n<=1000)(hbase:base<=w.heap.size)(hgb:w.heap[g]? =some (.cells (aO b).toArray 63 (0,0)))(hne:some g≠Value.ownBlock (.slice a n c)):
 Calls Tryz.prog 109 #[.slice a n c,.int .i64 i,.slice (some ⟨g,0,none⟩) 1 1] w fun ev w'=>∃a' c',ev= .returned (.slice a' (n+1) c')/\w'.ownsRow base 63 3 (.slice a' (n+1) c') (n+1) (flat aO (l.take i++b::l.drop i))/\w.grownBy w' (Value.ownBlock (.slice a n c))/\(∀k,(Value.slice a' (n+1) c').ownBlock=some k->(Value.slice a n c).ownBlock=some k∨w.heap.size<=k):=by
 have hlt:g<w.heap.size:=(Array.getElem?_eq_some_iff.1 hgb).1;have hv:Row w (some ⟨g,0,none⟩) (aO b):=by
  intro j v hj;exact⟨g,0,rfl,hlt,by rw[Nat.zero_add,cell_of_row _ _ _ _ _ _ hgb];simpa using hj⟩
 have hln:l.length=n:=bC aJ (by decide) hown;by_cases he:i=n
 ·subst he;have:=KU base a i c g l b w hown hn hbase hv;rw[List.take_of_length_le (by omega),List.drop_eq_nil_of_le (by omega)];exact this
 ·by_cases hc:n+1<=c
  ·exact EJ base a n c g i l b w hown (by omega) hn hc hbase hgb hne hv
  ·exact Iw base a n c g i l b w hown (by omega) hn (by omega) hbase hv
end
end Go.Proofs.YtcmpmobhongkiaaGreatDoor
