/- joined. -/
import Derived.Test.YtcmpmobhongkiaaGreatDoorRK0
import Derived.Test.YtcmpmobhongkiaaGreatDoorRK26
import Derived.Test.YtcmpmobhongkiaaGreatDoorRK36
import Derived.Test.YtcmpmobhongkiaaGreatDoorRK37
import Derived.Test.YtcmpmobhongkiaaGreatDoorRK39
set_option linter.unusedVariables false
set_option linter.unusedSimpArgs false
namespace Go.Proofs.YtcmpmobhongkiaaGreatDoor
section
open Go.RowKit
set_option maxHeartbeats 4000000 in
set_option maxRecDepth 100000 in
theorem TL (n:Nat)(w:World)(hsz:Bl w)(h1:1<=n)(h2:n<=32):
 Calls Tryz.prog 60 #[.int .i64 n] w fun ev w'=>ev= .returned (.tuple #[.string ⟨(kN (zz (nY n))).toArray⟩,.bool true])/\w=w':=by
 obtain⟨c1,c2,_,c3⟩:=mY h1 h2;have s0:=hsz.c 0 _ rfl;have s1:=hsz.c 1 _ rfl;have s2:=hsz.c 2 _ rfl;have s3:=hsz.c 3 _ rfl;have s4:=hsz.c 4 _ rfl;have s5:=hsz.c 5 _ rfl;have hsz0:=hsz.sz;obtain⟨J,hJ⟩:∃J,nY n=J:=⟨_,rfl⟩
 rw[hJ]at c1 c2 c3 ⊢;clear hJ;have ND:Hid (∀W,Calls Tryz.prog 59 #[.int .i64 (zz J:Int)] W fun ev w'=>ev= .returned (.string ⟨(kN (zz J)).toArray⟩)/\W=w'):=fun W=>PG c1 W
 have HC3:=gO c3;have HC2:=gO c2;clear hsz c3 c2;go_enter Tryz.func60,Tryz.ntmps60
 go_upto_region 2 with fail
 clear s0 s1 s2 s3 s4 s5;go_loopw [7] (fun s7 wr=>∃(j:Nat),j<=J/\s7= .int .i64 (j:Int)/\wr=w) (fun s7 _=>6-(intOf s7).toNat)
 case atStart=>exact⟨0,Nat.zero_le _,rfl,rfl⟩
 case round=>
  obtain⟨j,hj,rfl,rfl⟩:=hrel;have hji:(j:Int)<6:=by omega
  have hidx:(Instr.index 117 (.agg #[.int .i64 1,.int .i64 2,.int .i64 4,.int .i64 8,.int .i64 16,.int .i64 32]) (.int .i64 (j:Int))).run Tryz.prog wr= .ok (.int .i64 (zz j:Int)) wr:=Xb (by omega) wr;by_cases he:j=J
  ·subst he;have hle:(n:Int)<=(zz j:Int):=by have:=HC2.out;omega
   go_wp2_with (go_at_call 59;refine(ND.out _).mono ?_;rintro ev w' ⟨rfl,rfl⟩)
   exact bodyPost_ret (v:= .tuple #[.string ⟨(kN (zz j)).toArray⟩,.bool true]) (by simp[results,Tryz.results60,go_sem]) rfl ⟨rfl,rfl⟩
  ·have hle:¬(n:Int)<=(zz j:Int):=by have:=HC3.out j (by omega);omega
   generalize zz j=z at*;go_wp2
   go_roundw
   case rel=>exact⟨j+1,by omega,by go_num,by first | rfl | trivial⟩
   case measure=>simp[intOf];omega
set_option maxHeartbeats 4000000 in
set_option maxRecDepth 100000 in
theorem MK (n:Nat)(w:World)(hsz:Bl w)(h1:33<=n):
 Calls Tryz.prog 60 #[.int .i64 n] w fun ev w'=>ev= .returned (.tuple #[.string ⟨#[]⟩,.bool false])/\w=w':=by
 have s0:=hsz.c 0 _ rfl;have s1:=hsz.c 1 _ rfl;have s2:=hsz.c 2 _ rfl;have s3:=hsz.c 3 _ rfl;have s4:=hsz.c 4 _ rfl;have s5:=hsz.c 5 _ rfl;have hsz0:=hsz.sz;clear hsz;go_enter Tryz.func60,Tryz.ntmps60
 go_upto_region 2 with fail
 clear s0 s1 s2 s3 s4 s5;go_loopw [7] (fun s7 wr=>∃(j:Nat),j<=6/\s7= .int .i64 (j:Int)/\wr=w) (fun s7 _=>6-(intOf s7).toNat)
 case atStart=>exact⟨0,Nat.zero_le _,rfl,rfl⟩
 case round=>
  obtain⟨j,hj,rfl,rfl⟩:=hrel;by_cases he:j<6
  ·have hji:(j:Int)<6:=by omega
   have hidx:(Instr.index 117 (.agg #[.int .i64 1,.int .i64 2,.int .i64 4,.int .i64 8,.int .i64 16,.int .i64 32]) (.int .i64 (j:Int))).run Tryz.prog wr= .ok (.int .i64 (zz j:Int)) wr:=Xb he wr;have hle:¬(n:Int)<=(zz j:Int):=by have:=(aDR he).2;omega
   generalize zz j=z at*;go_wp2
   go_roundw
   case rel=>exact⟨j+1,by omega,by go_num,by first | rfl | trivial⟩
   case measure=>simp[intOf];omega
  ·obtain rfl:j=6:=by omega
   go_wp2
   exact bodyPost_ret (v:= .tuple #[.string ⟨#[]⟩,.bool false]) (by simp[results,Tryz.results60,go_sem]) rfl ⟨rfl,rfl⟩
end
end Go.Proofs.YtcmpmobhongkiaaGreatDoor
