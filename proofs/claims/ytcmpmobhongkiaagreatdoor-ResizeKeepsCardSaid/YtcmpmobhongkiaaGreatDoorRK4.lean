/- joined. -/
import Derived.Test.YtcmpmobhongkiaaGreatDoorRK0
import Derived.Test.YtcmpmobhongkiaaGreatDoorRK3
set_option linter.unusedVariables false
set_option linter.unusedSimpArgs false
namespace Go.Proofs.YtcmpmobhongkiaaGreatDoor
section
open Go.RowKit
theorem Ya:∀a:Nat,a<256->∀o:Nat,o<5->a%2^o=0->bits .xor .i64 (a:Int) (2^o)=((lC a o:Nat):Int):=by decide+kernel
theorem Vf {a o:Nat}(ha:a<256)(ho:o<=4)(hm:a%2^o=0):bits .xor .i64 (a:Int) (2^o)=((lC a o:Nat):Int):=Ya a ha o (by omega) hm
theorem Qq (t:Nat)(w:World)(ht:t<3):
 Calls Tryz.prog 162 (#[.int .i64 (t:Int)]++#[]) w fun ev w'=>ev= .returned (.bool false)/\Below w.heap.size w w':=by
 show Calls Tryz.prog 162 #[.int .i64 (t:Int)] w _;go_enter Tryz.func162,Tryz.ntmps162
 go_wp2
 go_ret
 refine⟨aV (decide_eq_false (by omega)),Below.refl _ _⟩
theorem yA (t:Nat)(w:World)(ht:t<3):
 Calls Tryz.prog 162 #[.int .i64 (t:Int)] w fun ev w'=>ev= .returned (.bool false)/\Below w.heap.size w w':=Qq t w ht
set_option maxHeartbeats 4000000 in
set_option maxRecDepth 100000 in
theorem oP (a1 a2:Option Addr)(n1 n2 c1 c2:Nat)(z:Zn)(w:World)(hat:Hf w a1 a2 n1 n2 z)(hz:z.ok):
 Calls Tryz.prog 126 #[.agg #[.int .i64 z.f,.int .i64 z.e,.slice a1 n1 c1,.slice a2 n2 c2]] w fun ev w'=>ev= .returned (.int .i64 0)/\Below w.heap.size w w':=by
 obtain⟨hZ,hL⟩:=hz;obtain⟨z1,z2,z3,z4,z5,z6⟩:=hZ;have hlen:z.l.length<=256:=gQ (rQ.length_le hL (fun b hb=>(hL.fit b hb).1.2.2.1)) z2;obtain⟨K1,F1,hsz,hbw⟩:=boxes1 w #[.int .i64 (z.f:Int),.int .i64 (z.e:Int),.slice a1 n1 c1,.slice a2 n2 c2] 102;have nU:=hat.below hbw;have l1:=hat.l1;have l2:=hat.l2;have hn2:n2=(z.e-z.f)/8:=by rw[<- l2,z5]
 clear hat
 have hcall:∀(w:World),Calls Tryz.prog 103 #[.int .i64 z.f,.int .i64 z.e] w fun ev w'=>∃a2 c2,ev= .returned (.tuple #[.agg #[.int .i64 z.f,.int .i64 z.e,.slice none 0 0,.slice a2 n2 c2],.int .i64 0])/\Below w.heap.size w w':=fun w=>(Ol z.f z.e n2 w z1 z2 z3 z4 hn2).mono fun _ _ ⟨a2,c2,h1,_,h3⟩=>⟨a2,c2,h1,h3⟩
 have hN3:((n2:Int) == ((z.e:Int)-z.f)/8)=true:=by rw[beq_iff_eq];omega
 have hN4:((n2:Int) != ((z.e:Int)-z.f)/8)=false:=by simp only[bne,hN3,Bool.not_true]
 clear hn2;go_enter Tryz.func126,Tryz.ntmps126
 go_wp2_with fail
 generalize w.alloc _=w0 at*;refine(hcall _).mono ?_;rintro ev w1 ⟨a3,c3,rfl,hb1⟩;have hb2:=aF w1 (.cells #[.int .i64 (z.f:Int),.int .i64 (z.e:Int),.slice none 0 0,.slice a3 n2 c3] 102);have eF:=Below.step hb1 hb2;have yZ:=aB K1 hsz eF;have RU:=nU.below eF;have hbw2:=Below.step hbw eF;have hsz2:w.heap.size<(w1.alloc (.cells #[.int .i64 (z.f:Int),.int .i64 (z.e:Int),.slice none 0 0,.slice a3 n2 c3] 102)).heap.size:=gI hsz eF.size;clear K1 F1 hb1 hb2 eF nU hcall;have hodd:(z.y.any fun t=>decide (3<=t))=false:=by
  rw[List.any_eq_false];intro t ht h;have:=z6 t ht;have:=of_decide_eq_true h;omega
 have eg:∀args w,(callFunc 162 args).run Tryz.prog w= .ok (.enter 162 args) w:=enters_of Tryz.func162 (by kernel_rfl) rfl;have hyl:z.y.length<=32:=by omega
 go_wp2_with fail
 generalize w1.alloc _=w2 at*;refine(qF _ _ _ z.y _ _ (fun t=>decide (3<=t)) _ l2 (by omega) RU.r2 eg (fun W hW t ht=>(Qq t W (z6 t ht)).mono fun _ _ ⟨h1,h2⟩=>⟨h1.trans (aV (decide_eq_false (by have:=z6 t ht;omega)).symm),h2⟩)).mono ?_;rw[hodd];rintro ev w3 ⟨rfl,hb3⟩;have K1c:=aB yZ hsz2 hb3;have RV:=RU.below hb3;have hbw3:=Below.step hbw2 hb3;have hsz3:w.heap.size<w3.heap.size:=gI hsz2 hb3.size;clear yZ RU hb3 hodd eg;go_wp2
 go_loopw [6,7,37] (fun _ _ s37 wr=>∃i:Nat,i<=n1/\s37= .int .i64 i/\Below w3.heap.size w3 wr) (fun _ _ s37 _=>n1-(intOf s37).toNat)
 case atStart=>exact⟨0,Nat.zero_le _,rfl,Below.refl _ _⟩
 case round=>
  obtain⟨i,hi,rfl,hb4⟩:=hrel;by_cases hlt:i<n1
  ·have hlt2:i<z.l.length:=by omega
   obtain⟨bb,off,ha1,hb,hc⟩:=aN aJ (by decide) (RV.r1.below hb4) hlt2;obtain rfl:=ha1;obtain⟨hc0,hc1,hc2⟩:=bD hc;have hfit:=hL.fit _ (gL hlt2);have K1r:=aB K1c hsz3 hb4;have Vg:w.heap.size<wr.heap.size:=gI hsz3 hb4.size;go_wp2_with fail
   have hb5:=aF wr (.cells #[.int .i64 (z.l[i].a:Int),.int .i64 (z.l[i].o:Int),.int .i64 (z.l[i].t:Int)] 63);have K7:=aW wr #[.int .i64 (z.l[i].a:Int),.int .i64 (z.l[i].o:Int),.int .i64 (z.l[i].t:Int)] 63;have hs5:wr.heap.size<(wr.alloc (.cells #[.int .i64 (z.l[i].a:Int),.int .i64 (z.l[i].o:Int),.int .i64 (z.l[i].t:Int)] 63)).heap.size:=by simp
   have K1s:=aB K1r Vg hb5;have aAw:=Below.step hb4 hb5;have aFq:=RV.below aAw;clear hc hc0 hc1 hc2 K1r;generalize wr.alloc _=w5 at*;have hb6:bb<w5.heap.size:=gI hb hb5.size;have hs6:w.heap.size<w5.heap.size:=gI Vg hb5.size;have k10:=K1s 0;have k11:=K1s 1;have k12:=K1s 2;have k13:=K1s 3;have k70:=K7 0;have k71:=K7 1;have k72:=K7 2;simp only[gB,gC,gD]at k10 k11 k12 k13 k70 k71 k72;clear K7 K1s;by_cases hi0:0<i
   ·have d0:decide (0<(i:Int))=true:=decide_eq_true (by omega);have hii:i-1<z.l.length:=by omega
    obtain⟨b',off',e',hb',hc'⟩:=aN aJ (by decide) aFq.r1 hii;obtain⟨rfl,rfl⟩:bb=b'/\off=off':=by simpa using e'
    obtain⟨hc0,hc1,hc2⟩:=bD hc';have hfy:=hL.fit _ (gL hii);have hsep:=List.pairwise_iff_getElem.1 hL.sep (i-1) i hii hlt2 (by omega);have qC:=hL.nob z.l[i] (gL hlt2) z.l[i-1] (gL hii);have hi1:0<=(i:Int)-1:=by omega
    have hi2:(i:Int)-1<(n1:Int):=by omega
    have hi3:((i:Int)-1).toNat=i-1:=by omega
    have hi4:IntKind.i64.wrap ((i:Int)-1)=(i:Int)-1:=IntWalk.i64_in _ (by omega);generalize z.l[i]=x at*;generalize z.l[i-1]=y at*;have d1:decide ((x.a:Int)<(y.fin:Int))=false:=decide_eq_false (by omega);have d2:decide (x.a<y.fin)=false:=decide_eq_false (by omega);clear hc';refine aS (by kernel_rfl) (by kernel_rfl) ?_
    repeat (first | go_big_quiet_step ((first | (go_at_call 163;exact Calls.bV (uK z.f z.e _ _ _ _ _ _ x _ hfit.1 z2)) | (go_at_call 162;exact Calls.bV (yA x.t _ hfit.2)) | (go_at_call 164;exact Calls.bV (jQ y _ hfy.1.1 (by have:=hfy.1.2.2.1;omega))))) | quiet_step ((first | (go_at_call 163;exact Calls.bV (uK z.f z.e _ _ _ _ _ _ x _ hfit.1 z2)) | (go_at_call 162;exact Calls.bV (yA x.t _ hfit.2)) | (go_at_call 164;exact Calls.bV (jQ y _ hfy.1.1 (by have:=hfy.1.2.2.1;omega))))))
    refine wpQuiet_nil ?_;rintro _ ⟨wx,rfl⟩;have hb7:Below w3.heap.size w3 (ext w5 wx):=Below.step aAw (aQ w5 wx);have hx:=aQ w5 wx;have m12:=(hx.cell (p:=⟨w.heap.size,2,none⟩) hs6).trans k12;have m70:=(hx.cell (p:=⟨wr.heap.size,0,none⟩) hs5).trans k70;have m71:=(hx.cell (p:=⟨wr.heap.size,1,none⟩) hs5).trans k71;have n0:=(hx.cell (p:=⟨bb,off+(i-1)*3,none⟩) hb6).trans hc0;have n1':=(hx.cell (p:=⟨bb,off+(i-1)*3+1,none⟩) hb6).trans hc1;clear k10 k11 k12 k13 k70 k71 k72 hc0 hc1 hc2 hx;go_wp2_with fail
    generalize ext w5 wx=w6 at*;by_cases ho4:x.o<4
    ·have d3:decide ((x.o:Int)<4)=true:=decide_eq_true (by omega);by_cases hoe:y.o=x.o
     ·have d4:((y.o:Int) == (x.o:Int))=true:=by rw[beq_iff_eq];omega
      have hsh:=uJ hfit.1.1;have d5:((y.a:Int) == bits .xor .i64 (x.a:Int) (2^x.o))=false:=by
       rw[Vf (by have:=hfit.1.2.2.1;omega) hfit.1.1 hfit.1.2.2.2,beq_eq_false_iff_ne];intro e2;exact qC hoe.symm ho4 (by omega)
      go_quiet (fail)
      go_wp2
      go_roundw
      case rel=>exact⟨i+1,by omega,by go_num,below_drewN hb7 _⟩
      case measure=>simp[intOf];omega
     ·have d4:((y.o:Int) == (x.o:Int))=false:=by rw[beq_eq_false_iff_ne];omega
      go_quiet (fail)
      go_wp2
      go_roundw
      case rel=>exact⟨i+1,by omega,by go_num,below_drewN hb7 _⟩
      case measure=>simp[intOf];omega
    ·have d3:decide ((x.o:Int)<4)=false:=decide_eq_false (by omega)
     go_quiet (fail)
     go_wp2
     go_roundw
     case rel=>exact⟨i+1,by omega,by go_num,below_drewN hb7 _⟩
     case measure=>simp[intOf];omega
   ·have d0:decide (0<(i:Int))=false:=decide_eq_false (by omega);generalize z.l[i]=x at*;refine aS (by kernel_rfl) (by kernel_rfl) ?_
    repeat (first | go_big_quiet_step ((first | (go_at_call 163;exact Calls.bV (uK z.f z.e _ _ _ _ _ _ x _ hfit.1 z2)) | (go_at_call 162;exact Calls.bV (yA x.t _ hfit.2)))) | quiet_step ((first | (go_at_call 163;exact Calls.bV (uK z.f z.e _ _ _ _ _ _ x _ hfit.1 z2)) | (go_at_call 162;exact Calls.bV (yA x.t _ hfit.2)))))
    refine wpQuiet_nil ?_;rintro _ ⟨wx,rfl⟩;have hb7:Below w3.heap.size w3 (ext w5 wx):=Below.step aAw (aQ w5 wx);go_wp2_with fail
    generalize ext w5 wx=w6 at*
    go_quiet (fail)
    go_wp2
    go_roundw
    case rel=>exact⟨i+1,by omega,by go_num,below_drewN hb7 _⟩
    case measure=>simp[intOf];omega
  ·obtain rfl:i=n1:=by omega
   go_wp2
   go_ret
   exact⟨rfl,Below.step hbw3 hb4⟩
end
end Go.Proofs.YtcmpmobhongkiaaGreatDoor
