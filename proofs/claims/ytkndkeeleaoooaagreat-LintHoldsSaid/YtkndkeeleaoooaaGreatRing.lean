/- Rings: which are right; do two meet? -/
import Derived.Test.YtkndkeeleaoooaaGreatProg
import Derived.Test.YtkndkeeleaoooaaGreatBase
import Derived.Test.YtkndkeeleaoooaaGreatQuery
namespace Go.Proofs.YtkndkeeleaoooaaGreat
open Go.RowKit
set_option linter.unusedVariables false
set_option linter.unusedSimpArgs false
set_option maxRecDepth 100000
set_option maxHeartbeats 1000000

abbrev rgV (f l : Int) : Value := .agg #[.int .i64 f, .int .i64 l]
def rsB (f l : Int) : Bool := decide (0 ≤ f ∧ f ≤ 4096 ∧ 1 ≤ l ∧ l ≤ 4096)
theorem ring_sound (f l : Int) (w : World) :
    Calls Tryz.prog 45 #[rgV f l] w fun e w' => e = .returned (.bool (rsB f l)) ∧ Below w.heap.size w w' := by
  go_enter Tryz.func45, Tryz.ntmps45
  go_wp2
  all_goals go_ret
  all_goals exact ⟨ret_bool (by unfold rsB; rw [Bool.eq_iff_iff]; simp; omega), (Below.refl _ _).alloc (Nat.le_refl _) _⟩
def rgB (f l b : Int) : Bool := rsB f l && decide (f + l ≤ b)
theorem rsB_true {f l : Int} : rsB f l = true ↔ (0 ≤ f ∧ f ≤ 4096 ∧ 1 ≤ l ∧ l ≤ 4096) := by simp [rsB]
theorem ring_Right (f l b : Int) (w : World) :
    Calls Tryz.prog 30 #[rgV f l, .int .i64 b] w fun e w' => e = .returned (.bool (rgB f l b)) ∧ Below w.heap.size w w' := by
  have B1 := hid (Blk.new w 25 #[.int .i64 f, .int .i64 l])
  have Q1 := hid ((Below.refl _ w).alloc (Nat.le_refl _) (.cells #[.int .i64 f, .int .i64 l] 25))
  cases hs : rsB f l
  · have hr : rgB f l b = false := by unfold rgB; rw [hs]; rfl
    have HR := hid hr
    clear hr
    go_enter Tryz.func30, Tryz.ntmps30
    go_wp2_with fail
    refine (ring_sound f l _).mono ?_
    rintro e w1 ⟨rfl, hb1⟩
    have Q2 := hid (Q1.out.trans (hb1.mono (by simp)))
    clear hb1
    go_wp2
    go_ret
    exact ⟨by rw [HR.out]; rfl, Q2.out⟩
  · have hb := rsB_true.1 hs
    have hr : rgB f l b = decide (f + l ≤ b) := by unfold rgB; rw [hs]; rfl
    have HR := hid hr
    clear hr
    go_enter Tryz.func30, Tryz.ntmps30
    go_wp2_with fail
    refine (ring_sound f l _).mono ?_
    rintro e w1 ⟨rfl, hb1⟩
    have Q2 := hid (Q1.out.trans (hb1.mono (by simp)))
    have B2 := B1.out.below hb1 (by simp)
    have c0 : w1.cell? ⟨w.heap.size, 0, none⟩ = some (.int .i64 f) := B2.cell 0
    have c1 : w1.cell? ⟨w.heap.size, 1, none⟩ = some (.int .i64 l) := B2.cell 1
    clear hb1 B2
    go_wp2
    go_ret
    exact ⟨by rw [HR.out]; rfl, Q2.out⟩

def meetB (f l g m : Int) : Bool := decide (f < g + m) && decide (g < f + l)
theorem lint_meet (f l g m : Int) (w : World) (h1 : 0 ≤ f ∧ f ≤ 100000 ∧ 0 ≤ l ∧ l ≤ 100000) (h2 : 0 ≤ g ∧ g ≤ 100000 ∧ 0 ≤ m ∧ m ≤ 100000) :
    Calls Tryz.prog 33 #[rgV f l, rgV g m] w fun e w' => e = .returned (.bool (meetB f l g m)) ∧ Below w.heap.size w w' := by
  obtain ⟨a1, a2, a3, a4⟩ := h1
  obtain ⟨b1, b2, b3, b4⟩ := h2
  go_enter Tryz.func33, Tryz.ntmps33
  go_wp2
  all_goals go_ret
  all_goals exact ⟨ret_bool (by unfold meetB; simp [*] <;> omega), ((Below.refl _ _).alloc (Nat.le_refl _) _).alloc (by simp) _⟩
