/- The two numbers that the longest swing has: nought and 2^30, as floats. -/
import Derived.Test.YtkndkeeleaoooaaGreatQPut
namespace Go.Proofs.YtkndkeeleaoooaaGreat
open Go.RowKit
set_option linter.unusedVariables false
set_option linter.unusedSimpArgs false
set_option maxRecDepth 100000
set_option maxHeartbeats 1000000

abbrev fBig : Value := .float .f64 4742290407621132288
theorem arch_big (w : World) : (callFunc 95 #[fBig]).run Tryz.prog w = .ok (.value fBig) w := by kernel_rfl
theorem arch_zero (w : World) : (callFunc 95 #[.float .f64 0]).run Tryz.prog w = .ok (.value (.float .f64 0)) w := by kernel_rfl
theorem trunc_big (w : World) :
    Calls Tryz.prog 87 #[fBig] w fun e w' => e = .returned fBig ∧ w = w' := by
  have h := arch_big
  go_enter Tryz.func87, Tryz.ntmps87
  go_wp2
  go_ret
  exact ⟨rfl, rfl⟩
theorem trunc_zero (w : World) :
    Calls Tryz.prog 87 #[.float .f64 0] w fun e w' => e = .returned (.float .f64 0) ∧ w = w' := by
  have h := arch_zero
  go_enter Tryz.func87, Tryz.ntmps87
  go_wp2
  go_ret
  exact ⟨rfl, rfl⟩
theorem ord_1 : FloatKind.f64.format.order 4742290407621132288 13965662444475908096 = some Ordering.gt := by kernel_rfl
theorem ord_2 : FloatKind.f64.format.order 4742290407621132288 4742290407621132288 = some Ordering.eq := by kernel_rfl
theorem ord_3 : FloatKind.f64.format.order 0 13965662444475908096 = some Ordering.gt := by kernel_rfl
theorem ord_4 : FloatKind.f64.format.order 0 4742290407621132288 = some Ordering.lt := by kernel_rfl
theorem ord_5 : FloatKind.f64.format.order 0 0 = some Ordering.eq := by kernel_rfl
theorem whole_big (w : World) :
    Calls Tryz.prog 77 #[fBig] w fun e w' => e = .returned (.bool true) ∧ w = w' := by
  have o1 := ord_1
  have o2 := ord_2
  go_enter Tryz.func77, Tryz.ntmps77
  go_wp2_with fail
  refine (trunc_big w).mono ?_
  rintro e w1 ⟨rfl, rfl⟩
  go_wp2
  go_ret
  exact ⟨rfl, rfl⟩
theorem whole_zero (w : World) :
    Calls Tryz.prog 77 #[.float .f64 0] w fun e w' => e = .returned (.bool true) ∧ w = w' := by
  have o1 := ord_3
  have o2 := ord_4
  have o3 := ord_5
  go_enter Tryz.func77, Tryz.ntmps77
  go_wp2_with fail
  refine (trunc_zero w).mono ?_
  rintro e w1 ⟨rfl, rfl⟩
  go_wp2
  go_ret
  exact ⟨rfl, rfl⟩
abbrev zBig : Value := .complex .f64 4742290407621132288 4742290407621132288
abbrev zZero : Value := .complex .f64 0 0
theorem gR_big (w : World) : Calls Tryz.prog 64 #[zBig] w fun e w' => e = .returned (.bool true) ∧ w = w' := by
  go_enter Tryz.func64, Tryz.ntmps64
  go_wp2_with fail
  refine (whole_big w).mono ?_
  rintro e w1 ⟨rfl, rfl⟩
  go_wp2_with fail
  refine (whole_big w).mono ?_
  rintro e w1 ⟨rfl, rfl⟩
  go_wp2
  go_ret
  exact ⟨rfl, rfl⟩
theorem gR_zero (w : World) : Calls Tryz.prog 64 #[zZero] w fun e w' => e = .returned (.bool true) ∧ w = w' := by
  go_enter Tryz.func64, Tryz.ntmps64
  go_wp2_with fail
  refine (whole_zero w).mono ?_
  rintro e w1 ⟨rfl, rfl⟩
  go_wp2_with fail
  refine (whole_zero w).mono ?_
  rintro e w1 ⟨rfl, rfl⟩
  go_wp2
  go_ret
  exact ⟨rfl, rfl⟩
theorem conv_big (w : World) : (Go.convert 129 3 fBig).run Tryz.prog w = .ok (.int .i64 1073741824) w := by kernel_rfl
theorem gParts_big (w : World) : Calls Tryz.prog 65 #[zBig] w fun e w' => e = .returned (.tuple #[.int .i64 1073741824, .int .i64 1073741824]) ∧ w = w' := by
  have h := conv_big
  go_enter Tryz.func65, Tryz.ntmps65
  go_wp2_with fail
  refine (gR_big w).mono ?_
  rintro e w1 ⟨rfl, rfl⟩
  go_wp2
  go_ret2
  exact ⟨rfl, rfl⟩
theorem gPut_big (base gp : Nat) (bs : List Int) (w : World) (hp : PenAt w base gp bs) (hl : bs.length ≤ 800000000000) :
    Calls Tryz.prog 50 #[.pointer (some ⟨gp, 0, none⟩), zBig] w fun e w' => e = .returned (.bool true) ∧ PenAt w' base gp (bs ++ varint (zig 1073741824) ++ varint (zig 1073741824)) ∧ PK gp w w' := by
  go_enter Tryz.func50, Tryz.ntmps50
  go_wp2_with fail
  refine (gR_big w).mono ?_
  rintro e w1 ⟨rfl, rfl⟩
  go_wp2_with fail
  refine (gParts_big w).mono ?_
  rintro e w1 ⟨rfl, rfl⟩
  go_wp2_with fail
  refine (pen_Signed base gp 1073741824 bs w hp (by omega) (by omega) (by omega)).mono ?_
  rintro e w2 ⟨rfl, hp2, pk2⟩
  go_wp2_with fail
  refine (pen_Signed base gp 1073741824 _ w2 hp2 (by omega) (by omega) (by have := varint_len (zig 1073741824) (by decide); rw [List.length_append]; omega)).mono ?_
  rintro e w3 ⟨rfl, hp3, pk3⟩
  go_wp2
  go_ret
  exact ⟨rfl, hp3, pk2.trans pk3⟩
