/-
  bottomry/bottomrytop.settled says true. Plain theorems; no condition.
-/
import Derived.Test.YtjjjckmpkldgnaaGreatDoorPr0
import Derived.Test.YtjjjckmpkldgnaaGreatDoorPr1
import Derived.Test.YtjjjckmpkldgnaaGreatDoorPr2
import Derived.Test.YtjjjckmpkldgnaaGreatDoorPr3
import Derived.Test.YtjjjckmpkldgnaaGreatDoorPr4
import Derived.Test.YtjjjckmpkldgnaaGreatDoorPr5
import Derived.Test.YtjjjckmpkldgnaaGreatDoorPr6
import Derived.Test.YtjjjckmpkldgnaaGreatDoorPr7
import Derived.Test.YtjjjckmpkldgnaaGreatDoorPr8
import Derived.Test.YtjjjckmpkldgnaaGreatDoorPr9
import Derived.Test.YtjjjckmpkldgnaaGreatDoorPr10
namespace Go.Proofs.YtjjjckmpkldgnaaGreatDoor.Rk.Run
open Go Go.RowKit
set_option maxRecDepth 100000
theorem g40 : Good s39 := last_ok r40
theorem g39 : Good s38 := part_ok r39 g40
theorem g38 : Good s37 := part_ok r38 g39
theorem g37 : Good s36 := part_ok r37 g38
theorem g36 : Good s35 := part_ok r36 g37
theorem g35 : Good s34 := part_ok r35 g36
theorem g34 : Good s33 := part_ok r34 g35
theorem g33 : Good s32 := part_ok r33 g34
theorem g32 : Good s31 := part_ok r32 g33
theorem g31 : Good s30 := part_ok r31 g32
theorem g30 : Good s29 := part_ok r30 g31
theorem g29 : Good s28 := part_ok r29 g30
theorem g28 : Good s27 := part_ok r28 g29
theorem g27 : Good s26 := part_ok r27 g28
theorem g26 : Good s25 := part_ok r26 g27
theorem g25 : Good s24 := part_ok r25 g26
theorem g24 : Good s23 := part_ok r24 g25
theorem g23 : Good s22 := part_ok r23 g24
theorem g22 : Good s21 := part_ok r22 g23
theorem g21 : Good s20 := part_ok r21 g22
theorem g20 : Good s19 := part_ok r20 g21
theorem g19 : Good s18 := part_ok r19 g20
theorem g18 : Good s17 := part_ok r18 g19
theorem g17 : Good s16 := part_ok r17 g18
theorem g16 : Good s15 := part_ok r16 g17
theorem g15 : Good s14 := part_ok r15 g16
theorem g14 : Good s13 := part_ok r14 g15
theorem g13 : Good s12 := part_ok r13 g14
theorem g12 : Good s11 := part_ok r12 g13
theorem g11 : Good s10 := part_ok r11 g12
theorem g10 : Good s9 := part_ok r10 g11
theorem g9 : Good s8 := part_ok r9 g10
theorem g8 : Good s7 := part_ok r8 g9
theorem g7 : Good s6 := part_ok r7 g8
theorem g6 : Good s5 := part_ok r6 g7
theorem g5 : Good s4 := part_ok r5 g6
theorem g4 : Good s3 := part_ok r4 g5
theorem g3 : Good s2 := part_ok r3 g4
theorem g2 : Good s1 := part_ok r2 g3
theorem g1 : Good s0 := part_ok r1 g2
theorem g0 : Good (st0 4) := part_ok r0 g1
end Go.Proofs.YtjjjckmpkldgnaaGreatDoor.Rk.Run
