/- The least plan. -/
import Derived.Test.YtkndkeeleaoooaaGreatArea
namespace Go.Proofs.YtkndkeeleaoooaaGreat
open Go.RowKit
set_option linter.unusedVariables false
set_option linter.unusedSimpArgs false
set_option maxRecDepth 100000
set_option maxHeartbeats 1000000

def areaI (q : Qy) (n : Int) : Nat := if QOk q ∧ 0 ≤ n ∧ n ≤ 256 then areaN q n.toNat else 0
def batchI (n : Int) : Nat := if 0 ≤ n ∧ n ≤ 64 then batchN n.toNat else 0
theorem areaI_le (q : Qy) (n : Int) : areaI q n ≤ 700 := by
  unfold areaI
  split
  · rename_i h; exact (areaN_le q h.1 n.toNat (by omega)).2
  · omega
theorem areaI_pos {q : Qy} {n : Int} (h : QOk q) (h0 : 0 ≤ n) (h1 : n ≤ 256) : 1 ≤ areaI q n := by
  unfold areaI
  rw [if_pos ⟨h, h0, h1⟩]
  exact (areaN_le q h n.toNat (by omega)).1
theorem batchI_le (n : Int) : batchI n ≤ 40 := by
  unfold batchI
  split
  · rename_i h; exact (batchN_le n.toNat (by omega)).2
  · omega
theorem batchI_pos {n : Int} (h0 : 0 ≤ n) (h1 : n ≤ 64) : 1 ≤ batchI n := by
  unfold batchI
  rw [if_pos ⟨h0, h1⟩]
  exact (batchN_le n.toNat (by omega)).1
theorem Area_any (q : Qy) (n : Int) (w : World) :
    Calls Tryz.prog 13 #[q.v, .int .i64 n] w fun e w' => e = .returned (.int .i64 (areaI q n)) ∧ Below w.heap.size w w' := by
  by_cases h : QOk q ∧ 0 ≤ n ∧ n ≤ 256
  · have e : areaI q n = areaN q n.toNat := by unfold areaI; rw [if_pos h]
    rw [e]
    obtain ⟨m, rfl⟩ := Int.eq_ofNat_of_zero_le h.2.1
    exact ledger_Area q h.1 m (by omega) w
  · have e : areaI q n = 0 := by unfold areaI; rw [if_neg h]
    rw [e]
    refine ledger_Area_no q n w ?_
    by_cases hq : QOk q
    · right
      by_cases h0 : n < 0
      · exact .inl h0
      · right
        have : ¬ n ≤ 256 := fun hn => h ⟨hq, by omega, hn⟩
        omega
    · exact .inl hq
theorem Batch_any (n : Int) (w : World) :
    Calls Tryz.prog 14 #[.int .i64 n] w fun e w' => e = .returned (.int .i64 (batchI n)) ∧ Below w.heap.size w w' := by
  by_cases h : 0 ≤ n ∧ n ≤ 64
  · have e : batchI n = batchN n.toNat := by unfold batchI; rw [if_pos h]
    rw [e]
    obtain ⟨m, rfl⟩ := Int.eq_ofNat_of_zero_le h.1
    exact ledger_Batch m w (by omega)
  · have e : batchI n = 0 := by unfold batchI; rw [if_neg h]
    rw [e]
    refine (ledger_Batch_no n w (by omega)).mono ?_
    rintro e w1 ⟨rfl, rfl⟩
    exact ⟨rfl, Below.refl _ _⟩
section
variable {P : Program}
theorem results_row_tmp2 {fn : Func} {s s' p : Tmp} {ty : TypeId} (h : fn.results = #[.cell p ty, .tmp s, .tmp s']) (tmps : Array Value) (w : World) (g : Nat) (t : TypeId) (cs : Array Value) (fr : Nat × Nat) (d : TypeDesc) (u u' : Value)
    (hs : tmps.getD s undef = u) (hs' : tmps.getD s' undef = u') (hp : tmps.getD p undef = .pointer (some ⟨g, 0, none⟩)) (hg : w.heap[g]? = some (.cells cs t fr))
    (hu : P.underlying ty = some d) (hd : (match d with | .struct _ | .array _ _ => true | _ => false) = true) (hi : (P.info? ty).map (·.size) = some cs.size) :
    (results fn tmps).run P w = .ok (.tuple #[.agg cs, u, u']) w := by
  have hp' : tmps[p]?.getD undef = .pointer (some ⟨g, 0, none⟩) := by simpa using hp
  have h1 : tmps[s]?.getD undef = u := by simpa using hs
  have h2 : tmps[s']?.getD undef = u' := by simpa using hs'
  simp [results, h, hp', h1, h2, asAddr, run_loadVar_row w g t ty cs fr d hg hu hd hi]
end
def plZ : Pl := ⟨0, 0, 0, 0, 0, 0⟩
def leastP (a b : Nat) (f : Int) : Pl := ⟨f, 2 * b + 1, f + (2 * b + 1), a, f + (2 * b + 1) + a, a⟩
structure LeastR (q : Qy) (n m f : Int) (p : Pl) (k e : Int) : Prop where
  no : e = 0 ∨ (k = 0 ∧ p = plZ)
  yes : e = 0 → 1 ≤ areaI q n ∧ 1 ≤ batchI m ∧ 0 ≤ f ∧ f ≤ 4096 ∧ p = leastP (areaI q n) (batchI m) f ∧ k = f + (2 * batchI m + 1) + 2 * areaI q n ∧ k ≤ 4096
theorem pl_one (p : Pl) : ∀ u ∈ (plC p).toList, u.oneCell' = true := by
  intro u hu
  simp at hu
  rcases hu with rfl | rfl | rfl | rfl | rfl | rfl <;> rfl
theorem ledger_Least (q : Qy) (n m f : Int) (w : World) :
    Calls Tryz.prog 8 #[q.v, .int .i64 n, .int .i64 m, .int .i64 f] w fun r w' => ∃ p k e, r = .returned (.tuple #[Pl.v p, .int .i64 k, .int .i64 e]) ∧ LeastR q n m f p k e ∧ Below w.heap.size w w' := by
  have Z1 := hid (Blk.new' (w.alloc (.cells (qC' q) 23)) 28 (plC plZ) (g := w.heap.size + 1) (by simp))
  have Q1 := hid (((Below.refl _ w).alloc (Nat.le_refl _) (.cells (qC' q) 23)).alloc (by simp) (.cells (plC plZ) 28))
  have HI := hid (fun p : Pl => show (Tryz.prog.info? 28).map (·.size) = some (plC p).size from by kernel_rfl)
  go_enter Tryz.func8, Tryz.ntmps8
  go_wp2_with fail
  refine (Area_any q n _).mono ?_
  rintro e w2 ⟨rfl, hb2⟩
  have Z2 := hid (Z1.out.below hb2 Z1.out.lt)
  have Q2 := hid (Q1.out.trans (hb2.mono Q1.out.size))
  clear hb2 Z1 Q1
  go_wp2_with fail
  refine (Batch_any m _).mono ?_
  rintro e w3 ⟨rfl, hb3⟩
  have Z3 := hid (Z2.out.below hb3 Z2.out.lt)
  have Q3 := hid (Q2.out.trans (hb3.mono Q2.out.size))
  clear hb3 Z2 Q2
  have ha := areaI_le q n
  have hb := batchI_le m
  obtain ⟨a, hae⟩ : ∃ a, a = areaI q n := ⟨_, rfl⟩
  obtain ⟨b, hbe⟩ : ∃ b, b = batchI m := ⟨_, rfl⟩
  rw [← hae, ← hbe]
  rw [← hae] at ha
  rw [← hbe] at hb
  have HA := hid hae
  have HB := hid hbe
  clear hae hbe
  have fin : ∀ (p : Pl) (k e : Int) (w9 : World), LeastR q n m f p k e → Blk w9 (w.heap.size + 1) 28 (plC p) → w3.grownBy w9 (some (w.heap.size + 1)) → Below w.heap.size w w9 := fun p k e w9 _ _ hg => Q3.out.grown hg Q3.out.size (fun j e => by have := Option.some.inj e; omega)
  have FIN := hid fin
  clear fin
  by_cases h1 : a = 0
  · subst h1
    have HR := hid (show LeastR q n m f (plZ) (0) 2 from ⟨.inr ⟨rfl, rfl⟩, fun h => by cases h⟩)
    have HI0 := hid (HI.out (plZ))
    have HP1 := hid (pl_one (plZ))
    go_wp2_with (first | (refine storeB (w := w3) (by rfl) 28 _ _ (by rfl) (w.heap.size + 1) 0 28 (plC plZ) (plC (plZ)) (by rfl) (by rfl) Z3.out (by simp) HI0.out HP1.out ?_))
    intro w9 hk9 hg9
    rw [splice_all _ _ (by simp)] at hk9
    go_wp2
    exact bodyPost_ret (results_row_tmp2 (by rfl) _ w9 (w.heap.size + 1) 28 (plC (plZ)) (0, 0) _ (.int .i64 (0)) (.int .i64 2) (by rfl) (by rfl) (by rfl) hk9 Tryz.underlying28 rfl HI0.out) rfl ⟨plZ, 0, 2, rfl, HR.out, FIN.out _ _ _ w9 HR.out hk9 hg9⟩
  have h1' : ((a : Int) == 0) = false := by simp; omega
  by_cases h2 : b = 0
  · subst h2
    clear h1
    have HR := hid (show LeastR q n m f (plZ) (0) 2 from ⟨.inr ⟨rfl, rfl⟩, fun h => by cases h⟩)
    have HI0 := hid (HI.out (plZ))
    have HP1 := hid (pl_one (plZ))
    go_wp2_with (first | (refine storeB (w := w3) (by rfl) 28 _ _ (by rfl) (w.heap.size + 1) 0 28 (plC plZ) (plC (plZ)) (by rfl) (by rfl) Z3.out (by simp) HI0.out HP1.out ?_))
    intro w9 hk9 hg9
    rw [splice_all _ _ (by simp)] at hk9
    go_wp2
    exact bodyPost_ret (results_row_tmp2 (by rfl) _ w9 (w.heap.size + 1) 28 (plC (plZ)) (0, 0) _ (.int .i64 (0)) (.int .i64 2) (by rfl) (by rfl) (by rfl) hk9 Tryz.underlying28 rfl HI0.out) rfl ⟨plZ, 0, 2, rfl, HR.out, FIN.out _ _ _ w9 HR.out hk9 hg9⟩
  have h2' : ((b : Int) == 0) = false := by simp; omega
  by_cases h3 : f < 0
  · clear h1 h2
    have HR := hid (show LeastR q n m f (plZ) (0) 2 from ⟨.inr ⟨rfl, rfl⟩, fun h => by cases h⟩)
    have HI0 := hid (HI.out (plZ))
    have HP1 := hid (pl_one (plZ))
    go_wp2_with (first | (refine storeB (w := w3) (by rfl) 28 _ _ (by rfl) (w.heap.size + 1) 0 28 (plC plZ) (plC (plZ)) (by rfl) (by rfl) Z3.out (by simp) HI0.out HP1.out ?_))
    intro w9 hk9 hg9
    rw [splice_all _ _ (by simp)] at hk9
    go_wp2
    exact bodyPost_ret (results_row_tmp2 (by rfl) _ w9 (w.heap.size + 1) 28 (plC (plZ)) (0, 0) _ (.int .i64 (0)) (.int .i64 2) (by rfl) (by rfl) (by rfl) hk9 Tryz.underlying28 rfl HI0.out) rfl ⟨plZ, 0, 2, rfl, HR.out, FIN.out _ _ _ w9 HR.out hk9 hg9⟩
  have h3' : 0 ≤ f := by omega
  by_cases h4 : 4096 < f
  · clear h1 h2 h3
    have HR := hid (show LeastR q n m f (plZ) (0) 2 from ⟨.inr ⟨rfl, rfl⟩, fun h => by cases h⟩)
    have HI0 := hid (HI.out (plZ))
    have HP1 := hid (pl_one (plZ))
    go_wp2_with (first | (refine storeB (w := w3) (by rfl) 28 _ _ (by rfl) (w.heap.size + 1) 0 28 (plC plZ) (plC (plZ)) (by rfl) (by rfl) Z3.out (by simp) HI0.out HP1.out ?_))
    intro w9 hk9 hg9
    rw [splice_all _ _ (by simp)] at hk9
    go_wp2
    exact bodyPost_ret (results_row_tmp2 (by rfl) _ w9 (w.heap.size + 1) 28 (plC (plZ)) (0, 0) _ (.int .i64 (0)) (.int .i64 2) (by rfl) (by rfl) (by rfl) hk9 Tryz.underlying28 rfl HI0.out) rfl ⟨plZ, 0, 2, rfl, HR.out, FIN.out _ _ _ w9 HR.out hk9 hg9⟩
  have h4' : f ≤ 4096 := by omega
  by_cases h5 : 4096 < f + (2 * (b : Int) + 1) + 2 * (a : Int)
  · clear h1 h2 h3 h4
    have HR := hid (show LeastR q n m f (plZ) (0) 30 from ⟨.inr ⟨rfl, rfl⟩, fun h => by cases h⟩)
    have HI0 := hid (HI.out (plZ))
    have HP1 := hid (pl_one (plZ))
    go_wp2_with (first | (refine storeB (w := w3) (by rfl) 28 _ _ (by rfl) (w.heap.size + 1) 0 28 (plC plZ) (plC (plZ)) (by rfl) (by rfl) Z3.out (by simp) HI0.out HP1.out ?_))
    intro w9 hk9 hg9
    rw [splice_all _ _ (by simp)] at hk9
    go_wp2
    exact bodyPost_ret (results_row_tmp2 (by rfl) _ w9 (w.heap.size + 1) 28 (plC (plZ)) (0, 0) _ (.int .i64 (0)) (.int .i64 30) (by rfl) (by rfl) (by rfl) hk9 Tryz.underlying28 rfl HI0.out) rfl ⟨plZ, 0, 30, rfl, HR.out, FIN.out _ _ _ w9 HR.out hk9 hg9⟩
  have h5' : f + (2 * (b : Int) + 1) + 2 * (a : Int) ≤ 4096 := by omega
  have h6 : 1 ≤ a := by omega
  have h7 : 1 ≤ b := by omega
  have HFIN := hid (show LeastR q n m f (leastP a b f) (f + (2 * (b : Int) + 1) + 2 * (a : Int)) 0 from ⟨.inl rfl, fun _ => by rw [← HA.out, ← HB.out]; exact ⟨h6, h7, h3', h4', rfl, rfl, h5'⟩⟩)
  clear h1 h2 h3 h4 h5 h6 h7
  have HR := hid (show LeastR q n m f (leastP a b f) (f + (2 * (b : Int) + 1) + 2 * (a : Int)) 0 from HFIN.out)
  have HI0 := hid (HI.out (leastP a b f))
  have HP1 := hid (pl_one (leastP a b f))
  go_wp2_with (first | (refine storeB (w := w3) (by rfl) 28 _ _ (by rfl) (w.heap.size + 1) 0 28 (plC plZ) (plC (leastP a b f)) (by rfl) (by rfl) Z3.out (by simp) HI0.out HP1.out ?_))
  intro w9 hk9 hg9
  rw [splice_all _ _ (by simp)] at hk9
  go_wp2
  exact bodyPost_ret (results_row_tmp2 (by rfl) _ w9 (w.heap.size + 1) 28 (plC (leastP a b f)) (0, 0) _ (.int .i64 (f + (2 * (b : Int) + 1) + 2 * (a : Int))) (.int .i64 0) (by rfl) (by rfl) (by rfl) hk9 Tryz.underlying28 rfl HI0.out) rfl ⟨leastP a b f, f + (2 * (b : Int) + 1) + 2 * (a : Int), 0, rfl, HR.out, FIN.out _ _ _ w9 HR.out hk9 hg9⟩
