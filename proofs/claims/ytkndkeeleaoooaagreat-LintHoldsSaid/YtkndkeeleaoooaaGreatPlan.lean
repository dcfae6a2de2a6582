/- What is odd about a plan: nothing about the least one, all three about none. -/
import Derived.Test.YtkndkeeleaoooaaGreatLeast
namespace Go.Proofs.YtkndkeeleaoooaaGreat
open Go.RowKit
set_option linter.unusedVariables false
set_option linter.unusedSimpArgs false
set_option maxRecDepth 100000
set_option maxHeartbeats 1000000

theorem least_rings (a b : Nat) (f k : Int) (ha : 1 ≤ a) (hb : 1 ≤ b) (hf : 0 ≤ f) (hk : k = f + (2 * b + 1) + 2 * a) (h4 : k ≤ 4096) :
    (∀ x ∈ (leastP a b f).rings, rgB x.1 x.2 k = true ∧ rgSm x.1 x.2) ∧
    (∀ i j, (h : i < j) → (hj : j < (leastP a b f).rings.length) → meetB (leastP a b f).rings[i].1 (leastP a b f).rings[i].2 (leastP a b f).rings[j].1 (leastP a b f).rings[j].2 = false) := by
  constructor
  · intro x hx
    simp only [Pl.rings, leastP, List.mem_cons, List.not_mem_nil, or_false] at hx
    rcases hx with rfl | rfl | rfl <;> simp only [rgB, rsB, rgSm, Bool.and_eq_true, decide_eq_true_eq] <;> omega
  · intro i j h hj
    have hj3 : j < 3 := hj
    rcases j with _ | _ | _ | j
    · omega
    · obtain rfl : i = 0 := by omega
      simp [Pl.rings, leastP, meetB] <;> omega
    · rcases i with _ | _ | i
      · simp [Pl.rings, leastP, meetB] <;> omega
      · simp [Pl.rings, leastP, meetB] <;> omega
      · omega
    · omega
theorem Plan_none (q : Qy) (hq : QOk q) (n m f k : Int) (w : World) (h : LeastR q n m f (leastP (areaI q n) (batchI m) f) k 0) :
    Calls Tryz.prog 9 #[q.v, Pl.v (leastP (areaI q n) (batchI m) f), .int .i64 k, .int .i64 n, .int .i64 m] w fun e w' => e = .returned (.slice none 0 0) ∧ Below w.heap.size w w' := by
  obtain ⟨ha1, hb1, hf0, hf1, _, hk, hk4⟩ := h.yes rfl
  have ha := areaI_le q n
  have hb := batchI_le m
  have HQR := hid (qR_true.2 hq)
  obtain ⟨a, hae⟩ : ∃ a, a = areaI q n := ⟨_, rfl⟩
  obtain ⟨b, hbe⟩ : ∃ b, b = batchI m := ⟨_, rfl⟩
  rw [← hae] at ha ha1 hk ⊢
  rw [← hbe] at hb hb1 hk ⊢
  have HA := hid hae
  have HB := hid hbe
  have HRG := hid (least_rings a b f k ha1 hb1 hf0 hk hk4)
  obtain ⟨p, hp⟩ : ∃ p, p = leastP a b f := ⟨_, rfl⟩
  have hl0 : p.l0 = 2 * b + 1 := by rw [hp]; rfl
  have hl1 : p.l1 = a := by rw [hp]; rfl
  have hl2 : p.l2 = a := by rw [hp]; rfl
  have HL := hid (And.intro hl0 (And.intro hl1 hl2))
  rw [← hp] at HRG ⊢
  clear hq h hae hbe hp hk hl0 hl1 hl2
  have B1 := hid ((Blk.new w 23 (qC' q)).alloc (.cells (plC p) 28))
  have P1 := hid (Blk.new' (w.alloc (.cells (qC' q) 23)) 28 (plC p) (g := w.heap.size + 1) (by simp))
  have Q1 := hid (((Below.refl _ w).alloc (Nat.le_refl _) (.cells (qC' q) 23)).alloc (by simp) (.cells (plC p) 28))
  go_enter Tryz.func9, Tryz.ntmps9
  go_wp2_with fail
  refine (query_Right q _).mono ?_
  rintro e w2 ⟨rfl, hb2⟩
  rw [HQR.out]
  have B2 := hid (B1.out.below hb2 B1.out.lt)
  have P2 := hid (P1.out.below hb2 P1.out.lt)
  have Q2 := hid (Q1.out.trans (hb2.mono Q1.out.size))
  clear hb2 B1 P1 Q1
  have b0 : w2.cell? ⟨w.heap.size, 0, none⟩ = some (.int .i64 q.kind) := B2.out.cell 0
  have b1 : w2.cell? ⟨w.heap.size, 1, none⟩ = some (.int .i64 q.size) := B2.out.cell 1
  have b2 : w2.cell? ⟨w.heap.size, 2, none⟩ = some (.int .i64 q.slide) := B2.out.cell 2
  have b3 : w2.cell? ⟨w.heap.size, 3, none⟩ = some (.int .i64 q.late) := B2.out.cell 3
  have b4 : w2.cell? ⟨w.heap.size, 4, none⟩ = some (.int .i64 q.agg) := B2.out.cell 4
  have b5 : w2.cell? ⟨w.heap.size, 5, none⟩ = some (.int .i64 q.k) := B2.out.cell 5
  have p0 : w2.cell? ⟨w.heap.size + 1, 0, none⟩ = some (.int .i64 p.f0) := P2.out.cell 0
  have p1 : w2.cell? ⟨w.heap.size + 1, 1, none⟩ = some (.int .i64 p.l0) := P2.out.cell 1
  have p2 : w2.cell? ⟨w.heap.size + 1, 2, none⟩ = some (.int .i64 p.f1) := P2.out.cell 2
  have p3 : w2.cell? ⟨w.heap.size + 1, 3, none⟩ = some (.int .i64 p.l1) := P2.out.cell 3
  have p4 : w2.cell? ⟨w.heap.size + 1, 4, none⟩ = some (.int .i64 p.f2) := P2.out.cell 4
  have p5 : w2.cell? ⟨w.heap.size + 1, 5, none⟩ = some (.int .i64 p.l2) := P2.out.cell 5
  go_wp2_with fail
  refine (sound_yes p k w2 HRG.out.1 HRG.out.2 (by have := HL.out.1; omega)).mono ?_
  rintro e w3 ⟨rfl, hb3⟩
  have B3 := hid (B2.out.below hb3 B2.out.lt)
  have P3 := hid (P2.out.below hb3 P2.out.lt)
  have Q3 := hid (Q2.out.trans (hb3.mono Q2.out.size))
  clear hb3 B2 P2 Q2 b0 b1 b2 b3 b4 b5 p0 p1 p2 p3 p4 p5
  have b0 : w3.cell? ⟨w.heap.size, 0, none⟩ = some (.int .i64 q.kind) := B3.out.cell 0
  have b1 : w3.cell? ⟨w.heap.size, 1, none⟩ = some (.int .i64 q.size) := B3.out.cell 1
  have b2 : w3.cell? ⟨w.heap.size, 2, none⟩ = some (.int .i64 q.slide) := B3.out.cell 2
  have b3 : w3.cell? ⟨w.heap.size, 3, none⟩ = some (.int .i64 q.late) := B3.out.cell 3
  have b4 : w3.cell? ⟨w.heap.size, 4, none⟩ = some (.int .i64 q.agg) := B3.out.cell 4
  have b5 : w3.cell? ⟨w.heap.size, 5, none⟩ = some (.int .i64 q.k) := B3.out.cell 5
  have p0 : w3.cell? ⟨w.heap.size + 1, 0, none⟩ = some (.int .i64 p.f0) := P3.out.cell 0
  have p1 : w3.cell? ⟨w.heap.size + 1, 1, none⟩ = some (.int .i64 p.l0) := P3.out.cell 1
  have p2 : w3.cell? ⟨w.heap.size + 1, 2, none⟩ = some (.int .i64 p.f1) := P3.out.cell 2
  have p3 : w3.cell? ⟨w.heap.size + 1, 3, none⟩ = some (.int .i64 p.l1) := P3.out.cell 3
  have p4 : w3.cell? ⟨w.heap.size + 1, 4, none⟩ = some (.int .i64 p.f2) := P3.out.cell 4
  have p5 : w3.cell? ⟨w.heap.size + 1, 5, none⟩ = some (.int .i64 p.l2) := P3.out.cell 5
  go_wp2_with fail
  refine (Batch_any m w3).mono ?_
  rintro e w4 ⟨rfl, hb4⟩
  rw [← HB.out]
  have B4 := hid (B3.out.below hb4 B3.out.lt)
  have P4 := hid (P3.out.below hb4 P3.out.lt)
  have Q4 := hid (Q3.out.trans (hb4.mono Q3.out.size))
  clear hb4 B3 P3 Q3 b0 b1 b2 b3 b4 b5 p0 p1 p2 p3 p4 p5
  have b0 : w4.cell? ⟨w.heap.size, 0, none⟩ = some (.int .i64 q.kind) := B4.out.cell 0
  have b1 : w4.cell? ⟨w.heap.size, 1, none⟩ = some (.int .i64 q.size) := B4.out.cell 1
  have b2 : w4.cell? ⟨w.heap.size, 2, none⟩ = some (.int .i64 q.slide) := B4.out.cell 2
  have b3 : w4.cell? ⟨w.heap.size, 3, none⟩ = some (.int .i64 q.late) := B4.out.cell 3
  have b4 : w4.cell? ⟨w.heap.size, 4, none⟩ = some (.int .i64 q.agg) := B4.out.cell 4
  have b5 : w4.cell? ⟨w.heap.size, 5, none⟩ = some (.int .i64 q.k) := B4.out.cell 5
  have p0 : w4.cell? ⟨w.heap.size + 1, 0, none⟩ = some (.int .i64 p.f0) := P4.out.cell 0
  have p1 : w4.cell? ⟨w.heap.size + 1, 1, none⟩ = some (.int .i64 p.l0) := P4.out.cell 1
  have p2 : w4.cell? ⟨w.heap.size + 1, 2, none⟩ = some (.int .i64 p.f1) := P4.out.cell 2
  have p3 : w4.cell? ⟨w.heap.size + 1, 3, none⟩ = some (.int .i64 p.l1) := P4.out.cell 3
  have p4 : w4.cell? ⟨w.heap.size + 1, 4, none⟩ = some (.int .i64 p.f2) := P4.out.cell 4
  have p5 : w4.cell? ⟨w.heap.size + 1, 5, none⟩ = some (.int .i64 p.l2) := P4.out.cell 5
  have g1 : decide ((0 : Int) < (b : Int)) = true := decide_eq_true (by omega)
  have g2 : decide (p.l0 < (b : Int) + 1) = false := decide_eq_false (by have := HL.out.1; omega)
  go_wp2_with fail
  refine (Area_any q n w4).mono ?_
  rintro e w5 ⟨rfl, hb5⟩
  rw [← HA.out]
  have P5 := hid (P4.out.below hb5 P4.out.lt)
  have Q5 := hid (Q4.out.trans (hb5.mono Q4.out.size))
  clear hb5 B4 P4 Q4 b0 b1 b2 b3 b4 b5 p0 p1 p2 p3 p4 p5
  have p3 : w5.cell? ⟨w.heap.size + 1, 3, none⟩ = some (.int .i64 p.l1) := P5.out.cell 3
  have p5 : w5.cell? ⟨w.heap.size + 1, 5, none⟩ = some (.int .i64 p.l2) := P5.out.cell 5
  have g3 : decide ((0 : Int) < (a : Int)) = true := decide_eq_true (by omega)
  have g4 : decide (p.l1 < (a : Int)) = false := decide_eq_false (by have := HL.out.2.1; omega)
  have g5 : decide (p.l2 < (a : Int)) = false := decide_eq_false (by have := HL.out.2.2; omega)
  go_wp2
  go_ret
  exact ⟨rfl, Q5.out⟩
theorem Plan_three (q : Qy) (hq : QOk q) (n m k : Int) (hn : 0 ≤ n ∧ n ≤ 256) (hm : 0 ≤ m ∧ m ≤ 64) (w : World) :
    Calls Tryz.prog 9 #[q.v, Pl.v plZ, .int .i64 k, .int .i64 n, .int .i64 m] w fun e w' => ∃ g c, e = .returned (.slice (some ⟨g, 0, none⟩) 3 c) ∧ w'.cell? ⟨g, 0, none⟩ = some (.int .i64 1) ∧ w.heap.size ≤ g ∧ g < w'.heap.size ∧ Below w.heap.size w w' := by
  have ha1 := areaI_pos hq hn.1 hn.2
  have hb1 := batchI_pos hm.1 hm.2
  have ha := areaI_le q n
  have hb := batchI_le m
  have HQR := hid (qR_true.2 hq)
  obtain ⟨a, hae⟩ : ∃ a, a = areaI q n := ⟨_, rfl⟩
  obtain ⟨b, hbe⟩ : ∃ b, b = batchI m := ⟨_, rfl⟩
  rw [← hae] at ha ha1
  rw [← hbe] at hb hb1
  have HA := hid hae
  have HB := hid hbe
  have HRG := hid (show rgB 0 0 k = false from by simp [rgB, rsB])
  clear hq hae hbe hn hm
  have B1 := hid ((Blk.new w 23 (qC' q)).alloc (.cells (plC plZ) 28))
  have P1 := hid (Blk.new' (w.alloc (.cells (qC' q) 23)) 28 (plC plZ) (g := w.heap.size + 1) (by simp))
  have Q1 := hid (((Below.refl _ w).alloc (Nat.le_refl _) (.cells (qC' q) 23)).alloc (by simp) (.cells (plC plZ) 28))
  go_enter Tryz.func9, Tryz.ntmps9
  go_wp2_with fail
  refine (query_Right q _).mono ?_
  rintro e w2 ⟨rfl, hb2⟩
  rw [HQR.out]
  have B2 := hid (B1.out.below hb2 B1.out.lt)
  have P2 := hid (P1.out.below hb2 P1.out.lt)
  have Q2 := hid (Q1.out.trans (hb2.mono Q1.out.size))
  clear hb2 B1 P1 Q1
  have b0 : w2.cell? ⟨w.heap.size, 0, none⟩ = some (.int .i64 q.kind) := B2.out.cell 0
  have b1 : w2.cell? ⟨w.heap.size, 1, none⟩ = some (.int .i64 q.size) := B2.out.cell 1
  have b2 : w2.cell? ⟨w.heap.size, 2, none⟩ = some (.int .i64 q.slide) := B2.out.cell 2
  have b3 : w2.cell? ⟨w.heap.size, 3, none⟩ = some (.int .i64 q.late) := B2.out.cell 3
  have b4 : w2.cell? ⟨w.heap.size, 4, none⟩ = some (.int .i64 q.agg) := B2.out.cell 4
  have b5 : w2.cell? ⟨w.heap.size, 5, none⟩ = some (.int .i64 q.k) := B2.out.cell 5
  have p0 : w2.cell? ⟨w.heap.size + 1, 0, none⟩ = some (.int .i64 0) := P2.out.cell 0
  have p1 : w2.cell? ⟨w.heap.size + 1, 1, none⟩ = some (.int .i64 0) := P2.out.cell 1
  have p2 : w2.cell? ⟨w.heap.size + 1, 2, none⟩ = some (.int .i64 0) := P2.out.cell 2
  have p3 : w2.cell? ⟨w.heap.size + 1, 3, none⟩ = some (.int .i64 0) := P2.out.cell 3
  have p4 : w2.cell? ⟨w.heap.size + 1, 4, none⟩ = some (.int .i64 0) := P2.out.cell 4
  have p5 : w2.cell? ⟨w.heap.size + 1, 5, none⟩ = some (.int .i64 0) := P2.out.cell 5
  go_wp2_with fail
  refine (sound_no plZ k w2 HRG.out).mono ?_
  rintro e w3 ⟨rfl, hb3⟩
  have B3 := hid (B2.out.below hb3 B2.out.lt)
  have P3 := hid (P2.out.below hb3 P2.out.lt)
  have Q3 := hid (Q2.out.trans (hb3.mono Q2.out.size))
  clear hb3 B2 P2 Q2 b0 b1 b2 b3 b4 b5 p0 p1 p2 p3 p4 p5
  have b0 : w3.cell? ⟨w.heap.size, 0, none⟩ = some (.int .i64 q.kind) := B3.out.cell 0
  have b1 : w3.cell? ⟨w.heap.size, 1, none⟩ = some (.int .i64 q.size) := B3.out.cell 1
  have b2 : w3.cell? ⟨w.heap.size, 2, none⟩ = some (.int .i64 q.slide) := B3.out.cell 2
  have b3 : w3.cell? ⟨w.heap.size, 3, none⟩ = some (.int .i64 q.late) := B3.out.cell 3
  have b4 : w3.cell? ⟨w.heap.size, 4, none⟩ = some (.int .i64 q.agg) := B3.out.cell 4
  have b5 : w3.cell? ⟨w.heap.size, 5, none⟩ = some (.int .i64 q.k) := B3.out.cell 5
  have p0 : w3.cell? ⟨w.heap.size + 1, 0, none⟩ = some (.int .i64 0) := P3.out.cell 0
  have p1 : w3.cell? ⟨w.heap.size + 1, 1, none⟩ = some (.int .i64 0) := P3.out.cell 1
  have p2 : w3.cell? ⟨w.heap.size + 1, 2, none⟩ = some (.int .i64 0) := P3.out.cell 2
  have p3 : w3.cell? ⟨w.heap.size + 1, 3, none⟩ = some (.int .i64 0) := P3.out.cell 3
  have p4 : w3.cell? ⟨w.heap.size + 1, 4, none⟩ = some (.int .i64 0) := P3.out.cell 4
  have p5 : w3.cell? ⟨w.heap.size + 1, 5, none⟩ = some (.int .i64 0) := P3.out.cell 5
  go_wp2_with (first | (at_builtin; refine app1c (W := w3) (by rfl) _ _ _ (by rfl) 3 _ 8 Tryz.underlying33 info_int rfl w.heap.size (.slice none 0 0) 0 [] (World.ownsRow_nil _ _ _ _) (by rfl) (.int .i64 1) (by rfl) rfl (by omega) (by decide) (Q3.out.size) ?_))
  intro g1 c1 w4 ho4 hg4 hat4 hlt4
  have hnn : (Value.slice none 0 0).ownBlock = none := rfl
  rw [hnn] at hg4
  have B4 := hid (B3.out.grown hg4 (by simp))
  have P4 := hid (P3.out.grown hg4 (by simp))
  have Q4 := hid (Q3.out.grown hg4 Q3.out.size (by simp))
  have O4 := hid ho4
  clear ho4 hg4 hat4 hlt4 hnn B3 P3 Q3 b0 b1 b2 b3 b4 b5 p0 p1 p2 p3 p4 p5
  have b0 : w4.cell? ⟨w.heap.size, 0, none⟩ = some (.int .i64 q.kind) := B4.out.cell 0
  have b1 : w4.cell? ⟨w.heap.size, 1, none⟩ = some (.int .i64 q.size) := B4.out.cell 1
  have b2 : w4.cell? ⟨w.heap.size, 2, none⟩ = some (.int .i64 q.slide) := B4.out.cell 2
  have b3 : w4.cell? ⟨w.heap.size, 3, none⟩ = some (.int .i64 q.late) := B4.out.cell 3
  have b4 : w4.cell? ⟨w.heap.size, 4, none⟩ = some (.int .i64 q.agg) := B4.out.cell 4
  have b5 : w4.cell? ⟨w.heap.size, 5, none⟩ = some (.int .i64 q.k) := B4.out.cell 5
  have p0 : w4.cell? ⟨w.heap.size + 1, 0, none⟩ = some (.int .i64 0) := P4.out.cell 0
  have p1 : w4.cell? ⟨w.heap.size + 1, 1, none⟩ = some (.int .i64 0) := P4.out.cell 1
  have p2 : w4.cell? ⟨w.heap.size + 1, 2, none⟩ = some (.int .i64 0) := P4.out.cell 2
  have p3 : w4.cell? ⟨w.heap.size + 1, 3, none⟩ = some (.int .i64 0) := P4.out.cell 3
  have p4 : w4.cell? ⟨w.heap.size + 1, 4, none⟩ = some (.int .i64 0) := P4.out.cell 4
  have p5 : w4.cell? ⟨w.heap.size + 1, 5, none⟩ = some (.int .i64 0) := P4.out.cell 5
  go_wp2_with fail
  refine (Batch_any m w4).mono ?_
  rintro e w5 ⟨rfl, hb5⟩
  rw [← HB.out]
  have B5 := hid (B4.out.below hb5 B4.out.lt)
  have P5 := hid (P4.out.below hb5 P4.out.lt)
  have Q5 := hid (Q4.out.trans (hb5.mono Q4.out.size))
  have O5 := hid (own_below O4.out hb5 (own_lt O4.out))
  clear hb5 B4 P4 Q4 O4 b0 b1 b2 b3 b4 b5 p0 p1 p2 p3 p4 p5
  have b0 : w5.cell? ⟨w.heap.size, 0, none⟩ = some (.int .i64 q.kind) := B5.out.cell 0
  have b1 : w5.cell? ⟨w.heap.size, 1, none⟩ = some (.int .i64 q.size) := B5.out.cell 1
  have b2 : w5.cell? ⟨w.heap.size, 2, none⟩ = some (.int .i64 q.slide) := B5.out.cell 2
  have b3 : w5.cell? ⟨w.heap.size, 3, none⟩ = some (.int .i64 q.late) := B5.out.cell 3
  have b4 : w5.cell? ⟨w.heap.size, 4, none⟩ = some (.int .i64 q.agg) := B5.out.cell 4
  have b5 : w5.cell? ⟨w.heap.size, 5, none⟩ = some (.int .i64 q.k) := B5.out.cell 5
  have p0 : w5.cell? ⟨w.heap.size + 1, 0, none⟩ = some (.int .i64 0) := P5.out.cell 0
  have p1 : w5.cell? ⟨w.heap.size + 1, 1, none⟩ = some (.int .i64 0) := P5.out.cell 1
  have p2 : w5.cell? ⟨w.heap.size + 1, 2, none⟩ = some (.int .i64 0) := P5.out.cell 2
  have p3 : w5.cell? ⟨w.heap.size + 1, 3, none⟩ = some (.int .i64 0) := P5.out.cell 3
  have p4 : w5.cell? ⟨w.heap.size + 1, 4, none⟩ = some (.int .i64 0) := P5.out.cell 4
  have p5 : w5.cell? ⟨w.heap.size + 1, 5, none⟩ = some (.int .i64 0) := P5.out.cell 5
  have g1' : decide ((0 : Int) < (b : Int)) = true := decide_eq_true (by omega)
  have g2' : decide ((0 : Int) < (b : Int) + 1) = true := decide_eq_true (by omega)
  go_wp2_with (first | (at_builtin; refine app1c (W := w5) (by rfl) _ _ _ (by rfl) 3 _ 8 Tryz.underlying33 info_int rfl w.heap.size (.slice (some ⟨g1, 0, none⟩) 1 c1) 1 [.int .i64 1] O5.out (by rfl) (.int .i64 2) (by rfl) rfl (by omega) (by decide) (Q5.out.size) ?_))
  intro g2 c2 w6 ho6 hg6 hat6 hlt6
  have hnb := own_base O5.out
  have B6 := hid (B5.out.grown hg6 (own_ne O5.out B5.out (by decide)))
  have P6 := hid (P5.out.grown hg6 (own_ne O5.out P5.out (by decide)))
  have Q6 := hid (Q5.out.grown hg6 Q5.out.size (fun j e => hnb j e))
  have O6 := hid (show w6.ownsRow w.heap.size 3 1 (.slice (some ⟨g2, 0, none⟩) 2 c2) 2 [.int .i64 1, .int .i64 2] from ho6)
  clear ho6 hg6 hat6 hlt6 hnb B5 P5 Q5 O5 g1' g2' b0 b1 b2 b3 b4 b5 p0 p1 p2 p3 p4 p5
  have b0 : w6.cell? ⟨w.heap.size, 0, none⟩ = some (.int .i64 q.kind) := B6.out.cell 0
  have b1 : w6.cell? ⟨w.heap.size, 1, none⟩ = some (.int .i64 q.size) := B6.out.cell 1
  have b2 : w6.cell? ⟨w.heap.size, 2, none⟩ = some (.int .i64 q.slide) := B6.out.cell 2
  have b3 : w6.cell? ⟨w.heap.size, 3, none⟩ = some (.int .i64 q.late) := B6.out.cell 3
  have b4 : w6.cell? ⟨w.heap.size, 4, none⟩ = some (.int .i64 q.agg) := B6.out.cell 4
  have b5 : w6.cell? ⟨w.heap.size, 5, none⟩ = some (.int .i64 q.k) := B6.out.cell 5
  have p0 : w6.cell? ⟨w.heap.size + 1, 0, none⟩ = some (.int .i64 0) := P6.out.cell 0
  have p1 : w6.cell? ⟨w.heap.size + 1, 1, none⟩ = some (.int .i64 0) := P6.out.cell 1
  have p2 : w6.cell? ⟨w.heap.size + 1, 2, none⟩ = some (.int .i64 0) := P6.out.cell 2
  have p3 : w6.cell? ⟨w.heap.size + 1, 3, none⟩ = some (.int .i64 0) := P6.out.cell 3
  have p4 : w6.cell? ⟨w.heap.size + 1, 4, none⟩ = some (.int .i64 0) := P6.out.cell 4
  have p5 : w6.cell? ⟨w.heap.size + 1, 5, none⟩ = some (.int .i64 0) := P6.out.cell 5
  go_wp2_with fail
  refine (Area_any q n w6).mono ?_
  rintro e w7 ⟨rfl, hb7⟩
  rw [← HA.out]
  have P7 := hid (P6.out.below hb7 P6.out.lt)
  have Q7 := hid (Q6.out.trans (hb7.mono Q6.out.size))
  have O7 := hid (own_below O6.out hb7 (own_lt O6.out))
  clear hb7 B6 P6 Q6 O6 b0 b1 b2 b3 b4 b5 p0 p1 p2 p3 p4 p5
  have p3 : w7.cell? ⟨w.heap.size + 1, 3, none⟩ = some (.int .i64 0) := P7.out.cell 3
  have p5 : w7.cell? ⟨w.heap.size + 1, 5, none⟩ = some (.int .i64 0) := P7.out.cell 5
  have g3' : decide ((0 : Int) < (a : Int)) = true := decide_eq_true (by omega)
  go_wp2_with (first | (at_builtin; refine app1c (W := w7) (by rfl) _ _ _ (by rfl) 3 _ 8 Tryz.underlying33 info_int rfl w.heap.size (.slice (some ⟨g2, 0, none⟩) 2 c2) 2 [.int .i64 1, .int .i64 2] O7.out (by rfl) (.int .i64 3) (by rfl) rfl (by omega) (by decide) (Q7.out.size) ?_))
  intro g3 c3 w8 ho8 hg8 hat8 hlt8
  have hnb := own_base O7.out
  have Q8 := hid (Q7.out.grown hg8 Q7.out.size (fun j e => hnb j e))
  have C8 := hid (ho8.cells (g := g3) rfl 0 (.int .i64 1) rfl)
  have L8 := hid (own_base ho8 g3 rfl)
  have M8 := hid hlt8
  clear ho8 hg8 hat8 hlt8 hnb P7 Q7 O7 g3' p3 p5
  go_wp2
  go_ret
  refine ⟨g3, c3, rfl, ?_, L8.out, M8.out, Q8.out⟩
  have h := C8.out
  rwa [cell_add] at h
