/- What layer 34 answers ahead of everything else. -/
import Derived.Test.YtkndkeeleaoooaaGreatPlan
import Derived.Test.YtkndkeeleaoooaaGreatText
namespace Go.Proofs.YtkndkeeleaoooaaGreat
open Go.RowKit
set_option linter.unusedVariables false
set_option linter.unusedSimpArgs false
set_option maxRecDepth 100000
set_option maxHeartbeats 1000000

abbrev q0 : Qy := ⟨2, 10, 10, 20, 6, 1⟩
abbrev late3 : ByteArray := ⟨#[108, 97, 116, 101, 32, 116, 111, 112, 32, 115, 108, 105, 100, 101]⟩
theorem q0_ok : QOk q0 := by decide
theorem q0_finds : finds q0 = [4, 5, 6] := by decide
theorem q0_better : better q0 = ⟨1, 10, 0, 10, 4, 0⟩ := by
  unfold better
  rw [q0_finds]
  rfl
theorem qC_one (q : Qy) : ∀ u ∈ (qC' q).toList, u.oneCell' = true := by
  intro u hu
  simp at hu
  rcases hu with rfl | rfl | rfl | rfl | rfl | rfl <;> rfl
theorem text_456 (A : Option Addr) (c B : Nat) (w : World) (hr : Rds w B 1 A 3 c (nums [4, 5, 6])) (hB : B ≤ w.heap.size) :
    Calls Tryz.prog 10 #[.slice A 3 c] w fun e w' => e = .returned (.string late3) ∧ Below w.heap.size w w' := by
  refine (lint_Text [4, 5, 6] A 3 c B rfl w hr hB (by decide) (by decide) (by decide +kernel)).mono ?_
  rintro e w' ⟨rfl, hb⟩
  exact ⟨by rw [show (⟨(Lib.join ([4, 5, 6].map fun n => (lwS n).data.toList) [32]).toArray⟩ : ByteArray) = late3 from by decide +kernel], hb⟩
theorem text_9 (A : Option Addr) (c B : Nat) (w : World) (hr : Rds w B 1 A 1 c (nums [9])) (hB : B ≤ w.heap.size) :
    Calls Tryz.prog 10 #[.slice A 1 c] w fun e w' => e = .returned (.string ⟨#[63]⟩) ∧ Below w.heap.size w w' := by
  refine (lint_Text [9] A 1 c B rfl w hr hB (by decide) (by decide) (by decide +kernel)).mono ?_
  rintro e w' ⟨rfl, hb⟩
  exact ⟨by rw [show (⟨(Lib.join ([9].map fun n => (lwS n).data.toList) [32]).toArray⟩ : ByteArray) = ⟨#[63]⟩ from by decide +kernel], hb⟩
theorem law34_first (w : World) :
    Calls Tryz.prog 4 #[] w fun e w' => e = .returned (.bool true) ∧ Below w.heap.size w w' := by
  have B1 := hid (Blk.new w 23 (qC' q0))
  have Q1 := hid ((Below.refl _ w).alloc (Nat.le_refl _) (.cells (qC' q0) 23))
  go_enter Tryz.func4, Tryz.ntmps4
  go_wp2_with fail
  refine (lint_Query q0 _).mono ?_
  rintro e w2 ⟨A2, c2, rfl, ho2, hb2⟩
  rw [q0_finds] at ho2 ⊢
  have B2 := hid (B1.out.below hb2 B1.out.lt)
  have Q2 := hid (Q1.out.trans (hb2.mono Q1.out.size))
  have O2 := hid (show w2.ownsRow (w.heap.size + 1) 3 1 (.slice A2 3 c2) 3 (nums [4, 5, 6]) from own_low ho2 (by simp))
  clear ho2 hb2 B1 Q1
  have b0 : w2.cell? ⟨w.heap.size, 0, none⟩ = some (.int .i64 2) := B2.out.cell 0
  have b1 : w2.cell? ⟨w.heap.size, 1, none⟩ = some (.int .i64 10) := B2.out.cell 1
  have b2 : w2.cell? ⟨w.heap.size, 2, none⟩ = some (.int .i64 10) := B2.out.cell 2
  have b3 : w2.cell? ⟨w.heap.size, 3, none⟩ = some (.int .i64 20) := B2.out.cell 3
  have b4 : w2.cell? ⟨w.heap.size, 4, none⟩ = some (.int .i64 6) := B2.out.cell 4
  have b5 : w2.cell? ⟨w.heap.size, 5, none⟩ = some (.int .i64 1) := B2.out.cell 5
  go_wp2_with fail
  refine (lint_Better q0 _).mono ?_
  rintro e w3 ⟨rfl, hb3⟩
  rw [q0_better]
  have B3 := hid ((B2.out.below hb3 B2.out.lt).alloc (.cells (qC' ⟨0, 0, 0, 0, 0, 0⟩) 23))
  have q3 := Q2.out.trans (hb3.mono Q2.out.size)
  have Q3 := hid (q3.alloc q3.size (.cells (qC' ⟨0, 0, 0, 0, 0, 0⟩) 23))
  have O3 := hid ((own_below O2.out hb3 (own_lt O2.out)).alloc (.cells (qC' ⟨0, 0, 0, 0, 0, 0⟩) 23))
  have V3 := hid (Blk.new w3 23 (qC' ⟨0, 0, 0, 0, 0, 0⟩))
  have L3 := hid (show w.heap.size < w3.heap.size from (B2.out.below hb3 B2.out.lt).lt)
  have F3 := hid (show ∀ j, (Value.slice A2 3 c2).ownBlock = some j → j < w3.heap.size from fun j h => Nat.lt_of_lt_of_le (own_lt O2.out j h) hb3.size)
  clear hb3 q3 b0 b1 b2 b3 b4 b5 B2 Q2 O2
  go_wp2_with (first | (refine storeB (w := w3.alloc (.cells (qC' ⟨0, 0, 0, 0, 0, 0⟩) 23)) (by rfl) 23 _ _ (by rfl) w3.heap.size 0 23 (qC' ⟨0, 0, 0, 0, 0, 0⟩) (qC' ⟨1, 10, 0, 10, 4, 0⟩) (by rfl) (by rfl) V3.out (by simp) (by kernel_rfl) (qC_one ⟨1, 10, 0, 10, 4, 0⟩) ?_))
  intro w4 hk4 hg4
  rw [splice_all _ _ (by simp)] at hk4
  have l3 := L3.out
  have B4 := hid (B3.out.grown hg4 (fun e => by have := Option.some.inj e; omega))
  have Q4 := hid (Q3.out.grown hg4 Q3.out.size (fun j e => by have := Option.some.inj e; omega))
  have O4 := hid (O3.out.kept hg4 (.inr (fun e => by have := F3.out _ e; omega)))
  have V4 := hid hk4
  clear hk4 hg4 l3 B3 Q3 O3 V3 F3
  obtain ⟨gb, hgb⟩ : ∃ gb, gb = w3.heap.size := ⟨_, rfl⟩
  rw [← hgb] at V4 L3 ⊢
  clear hgb
  have b0 : w4.cell? ⟨w.heap.size, 0, none⟩ = some (.int .i64 2) := B4.out.cell 0
  have b1 : w4.cell? ⟨w.heap.size, 1, none⟩ = some (.int .i64 10) := B4.out.cell 1
  have b2 : w4.cell? ⟨w.heap.size, 2, none⟩ = some (.int .i64 10) := B4.out.cell 2
  have b3 : w4.cell? ⟨w.heap.size, 3, none⟩ = some (.int .i64 20) := B4.out.cell 3
  have b4 : w4.cell? ⟨w.heap.size, 4, none⟩ = some (.int .i64 6) := B4.out.cell 4
  have b5 : w4.cell? ⟨w.heap.size, 5, none⟩ = some (.int .i64 1) := B4.out.cell 5
  go_wp2_with fail
  refine (Plan_three q0 q0_ok 5 5 9 (by omega) (by omega) w4).mono ?_
  rintro e w5 ⟨g5, c5, rfl, hc5, hl5, hm5, hb5⟩
  have V5 := hid (V4.out.below hb5 V4.out.lt)
  have Q5 := hid (Q4.out.trans (hb5.mono Q4.out.size))
  have O5 := hid (own_below O4.out hb5 (own_lt O4.out))
  have C5 := hid hc5
  have M5 := hid hm5
  clear hb5 hl5 hc5 hm5 b0 b1 b2 b3 b4 b5 B4 Q4 O4 V4
  obtain ⟨g2, hA2, hg2b, hg2l, _, hcs⟩ := own_at O5.out (by omega)
  subst hA2
  have l0 : w5.cell? ⟨g2, 0, none⟩ = some (.int .i64 4) := hcs 0 _ rfl
  have R5 := hid (Rds.of_own O5.out)
  clear hcs hg2b
  have G2 := hid hg2l
  clear hg2l
  go_wp2_with fail
  refine (text_456 (some ⟨g2, 0, none⟩) c2 _ w5 R5.out (Nat.le_refl _)).mono ?_
  rintro e w6 ⟨rfl, hb6⟩
  have V6 := hid (V5.out.below hb6 V5.out.lt)
  have Q6 := hid (Q5.out.trans (hb6.mono Q5.out.size))
  have C6 := hid (show w6.cell? ⟨g5, 0, none⟩ = some (.int .i64 1) from (hb6.cell (p := ⟨g5, 0, none⟩) M5.out).trans C5.out)
  clear hb6 l0 R5 O5 V5 Q5 C5
  have v0 : w6.cell? ⟨gb, 0, none⟩ = some (.int .i64 1) := V6.out.cell 0
  have v1 : w6.cell? ⟨gb, 1, none⟩ = some (.int .i64 10) := V6.out.cell 1
  have v2 : w6.cell? ⟨gb, 2, none⟩ = some (.int .i64 0) := V6.out.cell 2
  have v3 : w6.cell? ⟨gb, 3, none⟩ = some (.int .i64 10) := V6.out.cell 3
  have v4 : w6.cell? ⟨gb, 4, none⟩ = some (.int .i64 4) := V6.out.cell 4
  have v5 : w6.cell? ⟨gb, 5, none⟩ = some (.int .i64 0) := V6.out.cell 5
  have c60 := C6.out
  go_wp2_with fail
  have R7 := hid (show Rds (w6.alloc (.cells #[.int .i64 9] 3)) (w6.heap.size + 1) 1 (some ⟨w6.heap.size, 0, none⟩) 1 1 (nums [9]) from by
    refine ⟨rfl, Nat.le_refl _, by simp [maxLen], nofun, fun ad e => ?_⟩
    obtain rfl := Option.some.inj e
    refine ⟨Nat.lt_succ_self _, fun j u hu => ?_⟩
    rw [cell_add, (Blk.new w6 3 #[.int .i64 9]).cell j]
    simpa using hu)
  have Q7 := hid (Q6.out.alloc Q6.out.size (.cells #[.int .i64 9] 3))
  clear V6 Q6 C6 c60 v0 v1 v2 v3 v4 v5
  refine (text_9 (some ⟨w6.heap.size, 0, none⟩) 1 _ _ R7.out (by simp)).mono ?_
  rintro e w8 ⟨rfl, hb8⟩
  have Q8 := hid (Q7.out.trans (hb8.mono Q7.out.size))
  clear hb8
  go_wp2
  go_ret
  exact ⟨rfl, Q8.out⟩
