/- joined. -/
import Derived.Test.YtcmpmobhongkiaaGreatDoorRK0
import Derived.Test.YtcmpmobhongkiaaGreatDoorRK1
import Derived.Test.YtcmpmobhongkiaaGreatDoorRK3
set_option linter.unusedVariables false
set_option linter.unusedSimpArgs false
namespace Go.Proofs.YtcmpmobhongkiaaGreatDoor
section
open Go.RowKit
set_option maxHeartbeats 2000000 in
theorem UR (x b:Bk)(B:Nat)(W:World)(hx:x.o<=4)(hxa:x.a<=1000)(hb:b.o<=4)(hba:b.a<=1000)(hB:B<W.heap.size)(h0:W.cell? ⟨B,0,none⟩=some (.int .i64 b.a))(h1:W.cell? ⟨B,1,none⟩=some (.int .i64 b.o))(h2:W.cell? ⟨B,2,none⟩=some (.int .i64 b.t)):
 Calls Tryz.prog 172 (#[.agg (aO x).toArray]++#[.pointer (some ⟨B,0,none⟩)]) W fun ev w'=>ev= .returned (.bool (decide (x.a<b.fin/\b.a<x.fin)))/\Below W.heap.size W w':=by
 show Calls Tryz.prog 172 #[.agg #[.int .i64 x.a,.int .i64 x.o,.int .i64 x.t],.pointer (some ⟨B,0,none⟩)] W _;have hb0:=aF W (.cells #[.int .i64 (x.a:Int),.int .i64 (x.o:Int),.int .i64 (x.t:Int)] 63);have K:=aW W #[.int .i64 (x.a:Int),.int .i64 (x.o:Int),.int .i64 (x.t:Int)] 63;have hs:W.heap.size<(W.alloc (.cells #[.int .i64 (x.a:Int),.int .i64 (x.o:Int),.int .i64 (x.t:Int)] 63)).heap.size:=by simp
 have hB2:B<(W.alloc (.cells #[.int .i64 (x.a:Int),.int .i64 (x.o:Int),.int .i64 (x.t:Int)] 63)).heap.size:=by omega
 have g0:=(hb0.cell (p:=⟨B,0,none⟩) hB).trans h0;have g1:=(hb0.cell (p:=⟨B,1,none⟩) hB).trans h1;have g2:=(hb0.cell (p:=⟨B,2,none⟩) hB).trans h2;have k0:=K 0;have k1:=K 1;have k2:=K 2;simp only[gB,gC,gD]at k0 k1 k2;have c1:((x.a:Int)<(b.fin:Int))↔x.a<b.fin:=by omega
 clear h0 h1 h2 K;cases hd:decide (x.a<b.fin)with
 | true=>
  have hd':decide ((x.a:Int)<(b.fin:Int))=true:=decide_eq_true (by have:=of_decide_eq_true hd;omega);go_enter Tryz.func172,Tryz.ntmps172
  go_wp2_with fail
  generalize W.alloc _=w0 at*;refine aS (by kernel_rfl) (by kernel_rfl) ?_
  repeat (first | go_big_quiet_step ((go_at_call 164;first | with_reducible exact Calls.bV (jQ b _ hb hba) | with_reducible exact Calls.bV (jQ x _ hx hxa))) | quiet_step ((go_at_call 164;first | with_reducible exact Calls.bV (jQ b _ hb hba) | with_reducible exact Calls.bV (jQ x _ hx hxa))))
  refine wpQuiet_nil ?_;rintro _ ⟨wx,rfl⟩;have hbx:=Below.step hb0 (aQ w0 wx);go_wp2
  go_ret
  exact⟨aV (by rw[Bool.decide_and,hd,Bool.true_and]),hbx⟩
 | false=>
  have hd':decide ((x.a:Int)<(b.fin:Int))=false:=decide_eq_false (by have:=of_decide_eq_false hd;omega);go_enter Tryz.func172,Tryz.ntmps172
  go_wp2_with fail
  generalize W.alloc _=w0 at*;refine aS (by kernel_rfl) (by kernel_rfl) ?_
  repeat (first | go_big_quiet_step ((go_at_call 164;first | with_reducible exact Calls.bV (jQ b _ hb hba) | with_reducible exact Calls.bV (jQ x _ hx hxa))) | quiet_step ((go_at_call 164;first | with_reducible exact Calls.bV (jQ b _ hb hba) | with_reducible exact Calls.bV (jQ x _ hx hxa))))
  refine wpQuiet_nil ?_;rintro _ ⟨wx,rfl⟩;have hbx:=Below.step hb0 (aQ w0 wx);go_wp2
  go_ret
  exact⟨aV (by rw[Bool.decide_and,hd,Bool.false_and]),hbx⟩
theorem aCy (b:Bk)(o t B C:Nat)(W:World)(hB:B<W.heap.size)(hc:W.cell? ⟨B,0,none⟩=some (.int .i64 o))(hC:C<W.heap.size)(hc2:W.cell? ⟨C,0,none⟩=some (.int .i64 t)):
 Calls Tryz.prog 202 (#[.agg (aO b).toArray]++#[.pointer (some ⟨B,0,none⟩),.pointer (some ⟨C,0,none⟩)]) W fun ev w'=>ev= .returned (.bool (decide (b.o=o/\b.t=t)))/\Below W.heap.size W w':=by
 have hne:B≠W.heap.size:=by omega
 have hne2:C≠W.heap.size:=by omega
 show Calls Tryz.prog 202 #[.agg #[.int .i64 b.a,.int .i64 b.o,.int .i64 b.t],.pointer (some ⟨B,0,none⟩),.pointer (some ⟨C,0,none⟩)] W _;by_cases c1:b.o=o
 ·by_cases c2:b.t=t
  ·subst c1 c2;go_enter Tryz.func202,Tryz.ntmps202
   go_wp2
   go_ret
   exact⟨aV (by simp),aF _ _⟩
  ·have d2:((b.t:Int) == (t:Int))=false:=by rw[beq_eq_false_iff_ne];omega
   subst c1;go_enter Tryz.func202,Tryz.ntmps202
   go_wp2
   go_ret
   exact⟨aV (by symm;exact decide_eq_false (fun h=>c2 h.2)),aF _ _⟩
 ·have d1:((b.o:Int) == (o:Int))=false:=by rw[beq_eq_false_iff_ne];omega
  go_enter Tryz.func202,Tryz.ntmps202
  go_wp2
  go_ret
  exact⟨aV (by symm;exact decide_eq_false (fun h=>c1 h.1)),aF _ _⟩
theorem zJ (a1 a2:Option Addr)(n1 n2 c1 c2:Nat)(f e:Nat)(z:Zn)(o t:Nat)(w:World)(hat:Hf w a1 a2 n1 n2 z)(hl:n1<=1000):
 Calls Tryz.prog 191 #[.agg #[.int .i64 f,.int .i64 e,.slice a1 n1 c1,.slice a2 n2 c2],.int .i64 o,.int .i64 t] w fun ev w'=>ev= .returned (.int .i64 (dH (fun b=>decide (b.o=o/\b.t=t)) z.l))/\Below w.heap.size w w':=by
 obtain⟨K3,K4,K5,F3,F4,F5,hsz,hbw⟩:=boxes3 w #[.int .i64 (f:Int),.int .i64 (e:Int),.slice a1 n1 c1,.slice a2 n2 c2] 102 #[.int .i64 (o:Int)] 3 #[.int .i64 (t:Int)] 3;have nU:=hat.below hbw;have l1:=hat.l1;have k4:=K4 0;have k5:=K5 0;simp only[gB,gC]at k4 k5;clear hat K3 K4 K5 F3 F4 F5;have eg:∀args w,(callFunc 202 args).run Tryz.prog w= .ok (.enter 202 args) w:=enters_of Tryz.func202 (by kernel_rfl) rfl;go_enter Tryz.func191,Tryz.ntmps191
 go_wp2_with fail
 generalize ((w.alloc _).alloc _).alloc _=w0 at*;refine(AV _ _ _ z.l _ _ (fun b=>decide (b.o=o/\b.t=t)) _ l1 (by omega) nU.r1 eg (fun W hW x hx=>aCy x o t _ _ W (gI (show w.heap.size+1<w0.heap.size by omega) hW.size) ((hW.cell (p:=⟨w.heap.size+1,0,none⟩) (by show w.heap.size+1<_;omega)).trans k4) (gI (show w.heap.size+1+1<w0.heap.size by omega) hW.size) ((hW.cell (p:=⟨w.heap.size+1+1,0,none⟩) (by show w.heap.size+1+1<_;omega)).trans k5))).mono ?_;rintro ev w1 ⟨rfl,hb1⟩;go_wp2
 go_ret
 exact⟨dP (by simp only[Bool.decide_and]),Below.step hbw hb1⟩
end
section
open Go.RowKit
structure Rg where
 f:Int
 s:Int
deriving DecidableEq
def gZ (r:Rg):List Value:=[vI r.f,vI r.s]
theorem jO (r:Rg):(gZ r).length=2:=rfl
def Rg.fin (r:Rg):Int:=r.f+r.s
def Rg.small (r:Rg):Prop:= -4611686018427387904<=r.f/\r.f<=4611686018427387903/\ -4611686018427387904<=r.s/\r.s<=4611686018427387903
theorem pU (r:Rg)(w:World)(h:r.small):
 Calls Tryz.prog 148 #[.agg #[.int .i64 r.f,.int .i64 r.s]] w fun e w'=>e= .returned (.int .i64 (r.f+r.s))/\Below w.heap.size w w':=by
 obtain⟨h1,h2,h3,h4⟩:=h;go_enter Tryz.func148,Tryz.ntmps148
 go_wp2
 go_ret
 exact⟨rfl,(Below.refl _ _).alloc (Nat.le_refl _) _⟩
def xH (r:Rg):Bool:=decide (0<=r.f/\1<=r.s/\r.s<=256/\r.f<=256-r.s)
theorem kV {r:Rg}(h:xH r=true):0<=r.f/\1<=r.s/\r.s<=256/\r.f<=256-r.s:=of_decide_eq_true h
theorem jA (r:Rg)(w:World)(h:xH r=true):
 Calls Tryz.prog 171 #[.agg #[.int .i64 r.f,.int .i64 r.s]] w fun e w'=>e= .returned (.int .i64 0)/\Below w.heap.size w w':=by
 obtain⟨h1,h2,h3,h4⟩:=kV h;clear h;go_enter Tryz.func171,Tryz.ntmps171
 go_wp2
 go_ret
 exact⟨rfl,(Below.refl _ _).alloc (Nat.le_refl _) _⟩
theorem sW (r:Rg)(w:World)(h:xH r=false):
 Calls Tryz.prog 171 #[.agg #[.int .i64 r.f,.int .i64 r.s]] w fun e w'=>e= .returned (.int .i64 1)/\Below w.heap.size w w':=by
 obtain⟨f,s⟩:=r;have h':=of_decide_eq_false h;simp only at h' ⊢;clear h;by_cases h1:0<=f
 ·by_cases h2:1<=s
  ·by_cases h3:s<=256
   ·have h4:256-s<f:=by omega
    clear h';go_enter Tryz.func171,Tryz.ntmps171
    go_wp2
    go_ret
    exact⟨rfl,(Below.refl _ _).alloc (Nat.le_refl _) _⟩
   ·clear h';go_enter Tryz.func171,Tryz.ntmps171
    go_wp2
    go_ret
    exact⟨rfl,(Below.refl _ _).alloc (Nat.le_refl _) _⟩
  ·clear h';go_enter Tryz.func171,Tryz.ntmps171
   go_wp2
   go_ret
   exact⟨rfl,(Below.refl _ _).alloc (Nat.le_refl _) _⟩
 ·clear h';go_enter Tryz.func171,Tryz.ntmps171
  go_wp2
  go_ret
  exact⟨rfl,(Below.refl _ _).alloc (Nat.le_refl _) _⟩
def II:Option Rg->Rg->Bool
 | none,_=>true
 | some p,r=>decide (p.f+p.s<r.f)
def dD:Option Rg->List Rg->Bool
 | _,[]=>true
 | p,r::l=>xH r&&II p r&&dD (some r) l
def dF (l:List Rg):Bool:=decide (l.length<=40)&&dD none l
theorem nZ:∀(l:List Rg) (p:Option Rg) (k:Nat),dD p l=(dD p (l.take k)&&dD ((l.take k).getLast?.or p) (l.drop k))
 | [],p,k=>by simp[dD]
 | r::l,p,0=>by simp[dD]
 | r::l,p,k+1=>by
  rw[List.take_succ_cons,List.drop_succ_cons,dD,dD,nZ l (some r) k,<- Bool.and_assoc];congr 2;cases h:l.take k with
  | nil=>simp
  | cons x t=>simp[List.getLast?_cons]
def Pq (l:List Rg)(k:Nat)(r:Rg):Bool:=xH r&&II (l[k-1]?.bind fun p=>if k=0 then none else some p) r
theorem LY (l:List Rg)(k:Nat)(hk:k<l.length):dD none (l.take (k+1))=(dD none (l.take k)&&Pq l k l[k]):=by
 rw[List.take_succ_eq_append_getElem hk,nZ (l.take k++[l[k]]) none k];have hl:(l.take k).length=k:=by rw[List.length_take];omega
 rw[List.take_left' hl,List.drop_left' hl];congr 1;have e:((l.take k).getLast?.or none)=(l[k-1]?.bind fun p=>if k=0 then none else some p):=by
  rcases k with _ | k
  ·simp
  ·rw[List.getLast?_eq_getElem?,hl];simp
 rw[e];simp[dD,Pq]
theorem WV (a:Option Addr)(cap:Nat)(l:List Rg)(w:World)(hl:l.length<=9223372036854775807)(hr:Row w a (flat gZ l))(hs:∀r∈l,r.small):
 Calls Tryz.prog 147 #[.slice a l.length cap] w fun e w'=>e= .returned (.bool (dF l))/\Below w.heap.size w w':=by
 by_cases hlen:l.length<=40
 ·have hb0:decide (40<(l.length:Int))=false:=decide_eq_false (by omega);have hE:dF l=dD none l:=by simp[dF,hlen]
  have HE:=gO hE;clear hE;go_enter Tryz.func147,Tryz.ntmps147
  go_wp2
  go_loopw [3,4,10] (fun _ _ s10 wr=>∃k:Nat,k<=l.length/\s10= .int .i64 k/\Hid (dD none (l.take k)=true)/\Below w.heap.size w wr) (fun _ _ s10 _=>l.length-(intOf s10).toNat)
  case atStart=>exact⟨0,Nat.zero_le _,rfl,by simp[Hid,dD],Below.refl _ _⟩
  case round=>
   obtain⟨k,hk,rfl,hok,hbw⟩:=hrel;by_cases hlt:k<l.length
   ·obtain⟨b,off,rfl,hb,hc⟩:=aN jO (by decide) (hr.below hbw) hlt;have hc0:=hc 0 (vI l[k].f) rfl;have hc1:=hc 1 (vI l[k].s) rfl;simp only[vI,Nat.add_zero]at hc0 hc1;go_wp2_with fail
    have h10:(wr.alloc (.cells #[.int .i64 l[k].f,.int .i64 l[k].s] 55)).cell? ⟨wr.heap.size,0,none⟩=some (.int .i64 l[k].f):=by simp[go_sem]
    have h11:(wr.alloc (.cells #[.int .i64 l[k].f,.int .i64 l[k].s] 55)).cell? ⟨wr.heap.size,1,none⟩=some (.int .i64 l[k].s):=by simp[go_sem]
    have hs1:wr.heap.size<(wr.alloc (.cells #[.int .i64 l[k].f,.int .i64 l[k].s] 55)).heap.size:=by simp
    have hb1:Below w.heap.size w (wr.alloc (.cells #[.int .i64 l[k].f,.int .i64 l[k].s] 55)):=hbw.alloc hbw.size _;clear hc hc0 hc1;generalize wr.alloc _=w1 at*;have hsucc:=LY l k hlt;rw[hok.out,Bool.true_and]at hsucc;have HS:=gO hsucc;clear hsucc;cases hck:xH l[k]with
    | false=>
     have hfalse:Hid (dD none l=false):=by
      rw[Hid,nZ l none (k+1),HS.out];simp[Pq,hck]
     refine aS (by kernel_rfl) (by kernel_rfl) ?_
     repeat (first | go_big_quiet_step ((go_at_call 171;exact Calls.bV (sW l[k] _ hck))) | quiet_step ((go_at_call 171;exact Calls.bV (sW l[k] _ hck))))
     refine wpQuiet_nil ?_;rintro _ ⟨wx,rfl⟩;have hbx:Below w.heap.size w (ext w1 wx):=Below.step hb1 (aQ w1 wx);go_wp2
     go_ret
     exact⟨aV (by rw[HE.out,hfalse.out]),hbx⟩
    | true=>
     by_cases hk0:0<k
     ·have hd:decide (0<(k:Int))=true:=decide_eq_true (by omega);have hkk:k-1<l.length:=by omega
      have hsp:=hs l[k-1] (gL hkk);obtain⟨b',off',e',hb',hc'⟩:=aN jO (by decide) (hr.below hb1) hkk;obtain⟨rfl,rfl⟩:b=b'/\off=off':=by simpa using e'
      have hc0:=hc' 0 (vI l[k-1].f) rfl;have hc1:=hc' 1 (vI l[k-1].s) rfl;simp only[vI,Nat.add_zero]at hc0 hc1;clear hc' e';have hi1:0<=(k:Int)-1:=by omega
      have hi2:(k:Int)-1<(l.length:Int):=by omega
      have hi3:((k:Int)-1).toNat=k-1:=by omega
      have hi4:IntKind.i64.wrap ((k:Int)-1)=(k:Int)-1:=IntWalk.i64_in _ (by omega);cases hp:decide (l[k].f<=l[k-1].f+l[k-1].s)with
      | true=>
       refine aS (by kernel_rfl) (by kernel_rfl) ?_
       repeat (first | go_big_quiet_step ((first | (go_at_call 171;exact Calls.bV (jA l[k] _ hck)) | (go_at_call 148;exact Calls.bV (pU l[k-1] _ hsp)))) | quiet_step ((first | (go_at_call 171;exact Calls.bV (jA l[k] _ hck)) | (go_at_call 148;exact Calls.bV (pU l[k-1] _ hsp)))))
       refine wpQuiet_nil ?_;rintro _ ⟨wx,rfl⟩;have hbx:Below w.heap.size w (ext w1 wx):=Below.step hb1 (aQ w1 wx);have hfalse:Hid (dD none l=false):=by
        have hp':=of_decide_eq_true hp;rw[Hid,nZ l none (k+1),HS.out];have:Pq l k l[k]=false:=by
         unfold Pq;rw[hck,Bool.true_and,gJ hkk,Option.bind_some,if_neg (by omega)];exact decide_eq_false (by omega)
        rw[this,Bool.false_and]
       go_wp2
       go_ret
       exact⟨aV (by rw[HE.out,hfalse.out]),hbx⟩
      | false=>
       have LZ:Hid (dD none (l.take (k+1))=true):=by
        have hp':=of_decide_eq_false hp;rw[Hid,HS.out];unfold Pq;rw[hck,Bool.true_and,gJ hkk,Option.bind_some,if_neg (by omega)];exact decide_eq_true (by omega)
       refine aS (by kernel_rfl) (by kernel_rfl) ?_
       repeat (first | go_big_quiet_step ((first | (go_at_call 171;exact Calls.bV (jA l[k] _ hck)) | (go_at_call 148;exact Calls.bV (pU l[k-1] _ hsp)))) | quiet_step ((first | (go_at_call 171;exact Calls.bV (jA l[k] _ hck)) | (go_at_call 148;exact Calls.bV (pU l[k-1] _ hsp)))))
       refine wpQuiet_nil ?_;rintro _ ⟨wx,rfl⟩;have hbx:Below w.heap.size w (ext w1 wx):=Below.step hb1 (aQ w1 wx);go_wp2
       go_roundw
       case rel=>exact⟨k+1,by omega,by go_num,LZ.out,hbx⟩
       case measure=>simp[intOf];omega
     ·have hd:decide (0<(k:Int))=false:=decide_eq_false (by omega);have LZ:Hid (dD none (l.take (k+1))=true):=by
       obtain rfl:k=0:=by omega
       rw[Hid,HS.out];unfold Pq;rw[hck,Bool.true_and];cases l[0-1]? <;> rfl
      refine aS (by kernel_rfl) (by kernel_rfl) ?_
      repeat (first | go_big_quiet_step ((go_at_call 171;exact Calls.bV (jA l[k] _ hck))) | quiet_step ((go_at_call 171;exact Calls.bV (jA l[k] _ hck))))
      refine wpQuiet_nil ?_;rintro _ ⟨wx,rfl⟩;have hbx:Below w.heap.size w (ext w1 wx):=Below.step hb1 (aQ w1 wx);go_wp2
      go_roundw
      case rel=>exact⟨k+1,by omega,by go_num,LZ.out,hbx⟩
      case measure=>simp[intOf];omega
   ·obtain rfl:k=l.length:=by omega
    have LZ:Hid (dD none l=true):=by rw[List.take_of_length_le (Nat.le_refl _)]at hok;exact hok
    clear hok;go_wp2
    go_ret
    exact⟨aV (by rw[HE.out,LZ.out]),hbw⟩
 ·have hb0:decide (40<(l.length:Int))=true:=decide_eq_true (by omega);have hE:Hid (dF l=false):=by unfold Hid dF;rw[decide_eq_false hlen,Bool.false_and]
  go_enter Tryz.func147,Tryz.ntmps147
  go_wp2
  go_ret
  exact⟨aV hE.out.symm,Below.refl _ _⟩
theorem WW (a:Option Addr)(n cap:Nat)(l:List Rg)(w:World)(hn:l.length=n)(hl:n<=9223372036854775807)(hr:Row w a (flat gZ l))(hs:∀r∈l,r.small)(b:Bool)(hb:dF l=b):
 Calls Tryz.prog 147 #[.slice a n cap] w fun e w'=>e= .returned (.bool b)/\Below w.heap.size w w':=by
 subst hn;subst hb;exact WV a cap l w hl hr hs
theorem yR (a1 a2:Option Addr)(n1 n2 c1 c2:Nat)(m r:List Rg)(w:World)(hn1:m.length=n1)(hn2:r.length=n2)(hl1:n1<=9223372036854775807)(hl2:n2<=9223372036854775807)(hr1:Row w a1 (flat gZ m))(hr2:Row w a2 (flat gZ r))(hs1:∀x∈m,x.small)(hs2:∀x∈r,x.small)(h1:dF m=true)(h2:dF r=true):
 Calls Tryz.prog 100 #[.agg #[.slice a1 n1 c1,.slice a2 n2 c2]] w fun e w'=>e= .returned (.int .i64 0)/\Below w.heap.size w w':=by
 have hal:Below w.heap.size w (w.alloc (.cells #[.slice a1 n1 c1,.slice a2 n2 c2] 27)):=aF _ _;have hr1':=hr1.below hal;have hr2':=hr2.below hal;clear hr1 hr2;go_enter Tryz.func100,Tryz.ntmps100
 go_wp2_with fail
 refine(WW _ _ _ m _ hn1 hl1 hr1' hs1 true h1).mono ?_;rintro e w1 ⟨rfl,hb1⟩;have B1:=UN hb1;go_wp2_with fail
 refine(WW _ _ _ r _ hn2 hl2 (hr2'.below hb1) hs2 true h2).mono ?_;rintro e w2 ⟨rfl,hb2⟩;go_wp2
 go_ret
 exact⟨rfl,Below.step hal (Below.step hb1 hb2)⟩
end
end Go.Proofs.YtcmpmobhongkiaaGreatDoor
