/- The queries: which are right (the program's answer and the document's). -/
import Derived.Test.YtkndkeeleaoooaaGreatProg
import Derived.Test.YtkndkeeleaoooaaGreatBase
namespace Go.Proofs.YtkndkeeleaoooaaGreat
open Go.RowKit
set_option linter.unusedVariables false
set_option maxRecDepth 100000
set_option maxHeartbeats 2000000
set_option linter.unusedSimpArgs false

theorem ret_bool {b c : Bool} (h : b = c) : Ending.returned (.bool b) = .returned (.bool c) := by rw [h]
theorem ret_int {k : IntKind} {b c : Int} (h : b = c) : Ending.returned (.int k b) = .returned (.int k c) := by rw [h]

structure Qy where
  kind : Int
  size : Int
  slide : Int
  late : Int
  agg : Int
  k : Int
abbrev Qy.v (q : Qy) : Value := .agg #[.int .i64 q.kind, .int .i64 q.size, .int .i64 q.slide, .int .i64 q.late, .int .i64 q.agg, .int .i64 q.k]
def QOk (q : Qy) : Prop :=
  1 ≤ q.kind ∧ q.kind ≤ 3 ∧ 1 ≤ q.size ∧ q.size ≤ 1073741824 ∧ (q.kind = 2 → 1 ≤ q.slide ∧ q.slide ≤ q.size ∧ q.size ≤ 16 * q.slide) ∧ (¬ q.kind = 2 → q.slide = 0) ∧ 0 ≤ q.late ∧ q.late ≤ 1073741824 ∧
    1 ≤ q.agg ∧ q.agg ≤ 7 ∧ (q.agg = 6 → 1 ≤ q.k ∧ q.k ≤ 8) ∧ (¬ q.agg = 6 → q.k = 0)
instance (q : Qy) : Decidable (QOk q) := by unfold QOk; infer_instance
def qR (q : Qy) : Bool := decide (QOk q)
theorem qR_true {q : Qy} : qR q = true ↔ QOk q := by simp [qR]
theorem qR_false {q : Qy} : qR q = false ↔ ¬ QOk q := by simp [qR]

def inB (n lo hi : Int) : Bool := decide (lo ≤ n ∧ n ≤ hi)
theorem within_any (n lo hi : Int) (w : World) :
    Calls Tryz.prog 17 #[.int .i64 n, .int .i64 lo, .int .i64 hi] w fun e w' => e = .returned (.bool (inB n lo hi)) ∧ w = w' := by
  go_enter Tryz.func17, Tryz.ntmps17
  go_wp2
  all_goals go_ret
  all_goals exact ⟨ret_bool (by unfold inB; rw [Bool.eq_iff_iff]; simp; omega), rfl⟩

def slB (q : Qy) : Bool := decide ((q.kind = 2 → 1 ≤ q.slide ∧ q.slide ≤ q.size ∧ q.size ≤ 16 * q.slide) ∧ (¬ q.kind = 2 → q.slide = 0))
theorem slides_any (q : Qy) (w : World) (h0 : 0 ≤ q.size) (hs : q.size ≤ 1073741824) :
    Calls Tryz.prog 18 #[q.v] w fun e w' => e = .returned (.bool (slB q)) ∧ Below w.heap.size w w' := by
  by_cases h1 : 1 ≤ q.slide ∧ q.slide ≤ q.size
  · have h2 := h1.1
    have h3 := h1.2
    have hb : inB q.slide 1 q.size = true := by simp [inB, h1]
    go_enter Tryz.func18, Tryz.ntmps18
    go_wp2_with (first | (go_at_call 17; refine (within_any _ _ _ _).mono ?_; rintro e w' ⟨rfl, rfl⟩))
    all_goals go_ret
    all_goals exact ⟨ret_bool (by unfold slB; rw [Bool.eq_iff_iff]; simp at *; omega), (Below.refl _ _).alloc (Nat.le_refl _) _⟩
  · have hb : inB q.slide 1 q.size = false := by simp only [inB, decide_eq_false_iff_not]; exact h1
    go_enter Tryz.func18, Tryz.ntmps18
    go_wp2_with (first | (go_at_call 17; refine (within_any _ _ _ _).mono ?_; rintro e w' ⟨rfl, rfl⟩))
    all_goals go_ret
    all_goals exact ⟨ret_bool (by unfold slB; rw [Bool.eq_iff_iff]; simp at *; omega), (Below.refl _ _).alloc (Nat.le_refl _) _⟩

theorem inB_true {n lo hi : Int} : inB n lo hi = true ↔ lo ≤ n ∧ n ≤ hi := by simp [inB]
theorem inB_false {n lo hi : Int} : inB n lo hi = false ↔ ¬ (lo ≤ n ∧ n ≤ hi) := by simp [inB]
theorem slB_true {q : Qy} : slB q = true ↔ ((q.kind = 2 → 1 ≤ q.slide ∧ q.slide ≤ q.size ∧ q.size ≤ 16 * q.slide) ∧ (¬ q.kind = 2 → q.slide = 0)) := by unfold slB; exact decide_eq_true_iff
theorem slB_false {q : Qy} : slB q = false ↔ ¬ ((q.kind = 2 → 1 ≤ q.slide ∧ q.slide ≤ q.size ∧ q.size ≤ 16 * q.slide) ∧ (¬ q.kind = 2 → q.slide = 0)) := by unfold slB; exact decide_eq_false_iff_not
theorem query_Right (q : Qy) (w : World) :
    Calls Tryz.prog 11 #[q.v] w fun e w' => e = .returned (.bool (qR q)) ∧ Below w.heap.size w w' := by
  have hs : inB q.size 1 1073741824 = true → 0 ≤ q.size ∧ q.size ≤ 1073741824 := fun h => by have := inB_true.1 h; omega
  have HS := hid hs
  clear hs
  cases h1 : inB q.kind 1 3
  · have hq : qR q = false := by simp only [inB_false] at h1; rw [qR_false]; unfold QOk; omega
    rw [hq]
    clear hq
    cases hk : (q.agg == 6)
    all_goals
      go_enter Tryz.func11, Tryz.ntmps11
      go_wp2_with (first
        | (go_at_call 17; refine (within_any _ _ _ _).mono ?_; rintro e w' ⟨rfl, rfl⟩))
      go_ret
      exact ⟨rfl, (Below.refl _ _).alloc (Nat.le_refl _) _⟩
  cases h2 : inB q.size 1 1073741824
  · have hq : qR q = false := by simp only [inB_false] at h2; rw [qR_false]; unfold QOk; omega
    rw [hq]
    clear hq
    cases hk : (q.agg == 6)
    all_goals
      go_enter Tryz.func11, Tryz.ntmps11
      go_wp2_with (first
        | (go_at_call 17; refine (within_any _ _ _ _).mono ?_; rintro e w' ⟨rfl, rfl⟩))
      go_ret
      exact ⟨rfl, (Below.refl _ _).alloc (Nat.le_refl _) _⟩
  cases hk : (q.agg == 6)
  all_goals
    cases h3 : slB q
    rotate_left
    cases h4 : inB q.late 0 1073741824
    rotate_left
    cases h5 : inB q.agg 1 7
    rotate_left
  all_goals
    first
    | (have hq : qR q = false := by
         try simp only [inB_false, slB_false] at h3
         try simp only [inB_false, slB_false] at h4
         try simp only [inB_false, slB_false] at h5
         simp at hk
         rw [qR_false]; unfold QOk; omega)
    | (have hq : qR q = inB q.k 1 8 := by
         simp only [inB_true, slB_true] at h1 h2 h3 h4 h5
         simp at hk
         rw [Bool.eq_iff_iff, qR_true, inB_true]; unfold QOk; omega)
    | (have hq : qR q = inB q.k 0 0 := by
         simp only [inB_true, slB_true] at h1 h2 h3 h4 h5
         simp at hk
         rw [Bool.eq_iff_iff, qR_true, inB_true]; unfold QOk; omega)
    rw [hq]
    clear hq
    go_enter Tryz.func11, Tryz.ntmps11
    go_wp2_with (first
      | (go_at_call 17; refine (within_any _ _ _ _).mono ?_; rintro e w' ⟨rfl, rfl⟩))
    refine (slides_any q _ (HS.out h2).1 (HS.out h2).2).mono ?_
    rintro e w1 ⟨rfl, hb⟩
    have hk1 := (Blk.new w 23 #[.int .i64 q.kind, .int .i64 q.size, .int .i64 q.slide, .int .i64 q.late, .int .i64 q.agg, .int .i64 q.k]).below hb (by simp)
    have hc3 : w1.cell? ⟨w.heap.size, 3, none⟩ = some (.int .i64 q.late) := hk1.cell 3
    have hc4 : w1.cell? ⟨w.heap.size, 4, none⟩ = some (.int .i64 q.agg) := hk1.cell 4
    have hc5 : w1.cell? ⟨w.heap.size, 5, none⟩ = some (.int .i64 q.k) := hk1.cell 5
    have HK := hid hk1
    clear hk1
    go_wp2_with (first
      | (go_at_call 17; refine (within_any _ _ _ _).mono ?_; rintro e w' ⟨rfl, rfl⟩))
    go_ret
    exact ⟨rfl, ((Below.refl _ _).alloc (Nat.le_refl _) _).trans (hb.mono (by simp))⟩

theorem ref6_Right (q : Qy) (w : World) :
    Calls Tryz.prog 7 #[q.v] w fun e w' => e = .returned (.bool (qR q)) ∧ Below w.heap.size w w' := by
  by_cases hA : q.kind < 1 ∨ q.kind > 3 ∨ q.size < 1 ∨ q.size > 1073741824 ∨ q.late < 0 ∨ q.late > 1073741824 ∨ q.agg < 1 ∨ q.agg > 7
  · have hq : qR q = false := by rw [qR_false]; unfold QOk; omega
    rw [hq]
    clear hq
    go_enter Tryz.func7, Tryz.ntmps7
    go_wp2
    all_goals go_ret
    all_goals exact ⟨rfl, (Below.refl _ _).alloc (Nat.le_refl _) _⟩
  · have a1 : 1 ≤ q.kind := by omega
    have a2 : q.kind ≤ 3 := by omega
    have a3 : 1 ≤ q.size := by omega
    have a4 : q.size ≤ 1073741824 := by omega
    have a5 : 0 ≤ q.late := by omega
    have a6 : q.late ≤ 1073741824 := by omega
    have a7 : 1 ≤ q.agg := by omega
    have a8 : q.agg ≤ 7 := by omega
    clear hA
    cases hs : slB q
    · have hq : qR q = false := by simp only [slB_false] at hs; rw [qR_false]; unfold QOk; omega
      rw [hq]
      clear hq
      simp only [slB_false] at hs
      cases hk : (q.kind == 2)
      · have hsl : (q.slide == 0) = false := by simp at hk; simp; omega
        have hsl2 : (q.slide != 0) = true := by simp at hk; simp; omega
        have hk2 : (q.kind != 2) = true := by simp at hk; simp; omega
        clear hs
        go_enter Tryz.func7, Tryz.ntmps7
        go_wp2
        go_ret
        exact ⟨rfl, (Below.refl _ _).alloc (Nat.le_refl _) _⟩
      · have hs2 : ¬ (1 ≤ q.slide ∧ q.slide ≤ q.size ∧ q.size ≤ 16 * q.slide) := by simp at hk; omega
        have hk2 : (q.kind != 2) = false := by simp at hk; simp; omega
        clear hs
        by_cases b1 : q.slide < 1
        · go_enter Tryz.func7, Tryz.ntmps7
          go_wp2
          go_ret
          exact ⟨rfl, (Below.refl _ _).alloc (Nat.le_refl _) _⟩
        have b1' : 1 ≤ q.slide := by omega
        by_cases b2 : q.size < q.slide
        · go_enter Tryz.func7, Tryz.ntmps7
          go_wp2
          go_ret
          exact ⟨rfl, (Below.refl _ _).alloc (Nat.le_refl _) _⟩
        have b2' : q.slide ≤ q.size := by omega
        have b3 : 16 * q.slide < q.size := by omega
        go_enter Tryz.func7, Tryz.ntmps7
        go_wp2
        go_ret
        exact ⟨rfl, (Below.refl _ _).alloc (Nat.le_refl _) _⟩
    · simp only [slB_true] at hs
      have hs3 : (q.kind == 2) = true → 1 ≤ q.slide ∧ q.slide ≤ q.size ∧ q.size ≤ 16 * q.slide := by intro h; simp at h; exact hs.1 h
      have hs4 : (q.kind == 2) = false → (q.slide == 0) = true ∧ (q.slide != 0) = false ∧ (q.kind != 2) = true := by intro h; simp at h; have := hs.2 h; simp [this, h]
      have HS := hid hs
      clear hs
      have hq : qR q = if (q.agg == 6) = true then decide (1 ≤ q.k ∧ q.k ≤ 8) else (q.k == 0) := by
        have h := HS.out
        rw [Bool.eq_iff_iff, qR_true]
        unfold QOk
        split
        · rename_i h6; simp at h6 ⊢; omega
        · rename_i h6; simp at h6 ⊢; omega
      rw [hq]
      clear hq
      cases hk : (q.kind == 2)
      · obtain ⟨c1, c2, c3⟩ := hs4 hk
        clear hs3 hs4
        cases h6 : (q.agg == 6)
        all_goals
          go_enter Tryz.func7, Tryz.ntmps7
          go_wp2
          all_goals go_ret
          all_goals exact ⟨ret_bool (by simp [*] <;> omega), (Below.refl _ _).alloc (Nat.le_refl _) _⟩
      · obtain ⟨c1, c2, c3⟩ := hs3 hk
        have hk2 : (q.kind != 2) = false := by simp at hk; simp; omega
        clear hs3 hs4
        cases h6 : (q.agg == 6)
        all_goals
          go_enter Tryz.func7, Tryz.ntmps7
          go_wp2
          all_goals go_ret
          all_goals exact ⟨ret_bool (by simp [*] <;> omega), (Below.refl _ _).alloc (Nat.le_refl _) _⟩
