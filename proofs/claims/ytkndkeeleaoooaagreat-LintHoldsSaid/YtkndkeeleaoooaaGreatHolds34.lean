/- LintHolds of layer 34: the walk. -/
import Derived.Test.YtkndkeeleaoooaaGreatFirst34
namespace Go.Proofs.YtkndkeeleaoooaaGreat
open Go.RowKit
set_option linter.unusedVariables false
set_option linter.unusedSimpArgs false
set_option maxRecDepth 100000
set_option maxHeartbeats 1000000

/-! The plain law. -/
theorem bet_ok {q : Qy} (hq : QOk q) : ∀ n ∈ finds q, True := fun _ _ => trivial
theorem finds_not {q : Qy} (h : ¬ QOk q) : finds q = [] := by
  unfold finds
  rw [if_neg (by rw [qR_true]; exact h)]
theorem better_not {q : Qy} (h : ¬ QOk q) : better q = q := by
  unfold better
  rw [finds_not h]
  rfl
/-- What the better query is, spelled out. -/
def bet (q : Qy) : Qy :=
  let q1 : Qy := if q.size < q.late then ⟨q.kind, q.size, q.slide, q.size, q.agg, q.k⟩ else q
  let q2 : Qy := if q.agg = 6 ∧ q.k = 1 then ⟨q1.kind, q1.size, q1.slide, q1.late, 4, 0⟩ else q1
  if q.kind = 2 ∧ q.slide = q.size then ⟨1, q2.size, 0, q2.late, q2.agg, q2.k⟩ else q2
theorem foldl_if {α β : Type} (f : α → β → α) (x : α) (c : Prop) [Decidable c] (n : β) : List.foldl f x (if c then [n] else []) = if c then f x n else x := by split <;> rfl
theorem bet1_4 (x : Qy) : bet1 x (((0 : Nat) : Int) + 4) = ⟨x.kind, x.size, x.slide, x.size, x.agg, x.k⟩ := rfl
theorem bet1_5 (x : Qy) : bet1 x (((1 : Nat) : Int) + 4) = ⟨x.kind, x.size, x.slide, x.late, 4, 0⟩ := rfl
theorem bet1_6 (x : Qy) : bet1 x (((2 : Nat) : Int) + 4) = ⟨1, x.size, 0, x.late, x.agg, x.k⟩ := rfl
theorem bet1_7 (x : Qy) : bet1 x (((3 : Nat) : Int) + 4) = x := rfl
theorem better_bet {q : Qy} (h : QOk q) : better q = bet q := by
  unfold better finds
  rw [if_pos (qR_true.2 h)]
  simp only [qFind, tB, List.nil_append, List.foldl_append, foldl_if, bet1_4, bet1_5, bet1_6, bet1_7, ite_self]
  simp only [decide_eq_true_eq, Bool.and_eq_true, beq_iff_eq]
  rfl
theorem bet_right {q : Qy} (h : QOk q) : QOk (bet q) := by
  unfold QOk at h ⊢
  by_cases h1 : q.size < q.late <;> by_cases h2 : q.agg = 6 ∧ q.k = 1 <;> by_cases h3 : q.kind = 2 ∧ q.slide = q.size
  all_goals
    simp only [bet]
    first | simp only [if_pos h1] | simp only [if_neg h1]
    first | simp only [if_pos h2] | simp only [if_neg h2]
    first | simp only [if_pos h3] | simp only [if_neg h3]
    (try simp only [implies_true, and_true, true_and])
    omega
theorem bet_late {q : Qy} (h : QOk q) : ¬ (bet q).size < (bet q).late := by
  by_cases h1 : q.size < q.late <;> by_cases h2 : q.agg = 6 ∧ q.k = 1 <;> by_cases h3 : q.kind = 2 ∧ q.slide = q.size
  all_goals
    simp only [bet]
    first | simp only [if_pos h1] | simp only [if_neg h1]
    first | simp only [if_pos h2] | simp only [if_neg h2]
    first | simp only [if_pos h3] | simp only [if_neg h3]
    omega
theorem bet_top {q : Qy} (h : QOk q) : ¬ ((bet q).agg = 6 ∧ (bet q).k = 1) := by
  by_cases h1 : q.size < q.late <;> by_cases h2 : q.agg = 6 ∧ q.k = 1 <;> by_cases h3 : q.kind = 2 ∧ q.slide = q.size
  all_goals
    simp only [bet]
    first | simp only [if_pos h1] | simp only [if_neg h1]
    first | simp only [if_pos h2] | simp only [if_neg h2]
    first | simp only [if_pos h3] | simp only [if_neg h3]
    omega
theorem bet_slide {q : Qy} (h : QOk q) : ¬ ((bet q).kind = 2 ∧ (bet q).slide = (bet q).size) := by
  by_cases h1 : q.size < q.late <;> by_cases h2 : q.agg = 6 ∧ q.k = 1 <;> by_cases h3 : q.kind = 2 ∧ q.slide = q.size
  all_goals
    simp only [bet]
    first | simp only [if_pos h1] | simp only [if_neg h1]
    first | simp only [if_pos h2] | simp only [if_neg h2]
    first | simp only [if_pos h3] | simp only [if_neg h3]
    omega
theorem bet_finds {q : Qy} (h : QOk q) : ∀ n ∈ finds (bet q), n = 7 := by
  intro n hn
  have hb := bet_right h
  have e0 := bet_late h
  have e1 := bet_top h
  have e2 := bet_slide h
  unfold finds at hn
  rw [if_pos (qR_true.2 hb)] at hn
  generalize bet q = p at *
  simp only [qFind, tB, List.nil_append, List.mem_append, decide_eq_true_eq, Bool.and_eq_true, beq_iff_eq] at hn
  rw [if_neg e0, if_neg e1, if_neg e2] at hn
  simp only [List.not_mem_nil, false_or] at hn
  split at hn
  · simpa using hn
  · cases hn
/-- Of what is better only 7 is told. -/
theorem better_finds (q : Qy) : ∀ n ∈ finds (better q), n = 7 := by
  by_cases h : QOk q
  · rw [better_bet h]; exact bet_finds h
  · rw [better_not h, finds_not h]; intro n hn; cases hn
theorem better_right {q : Qy} (h : QOk q) : QOk (better q) := by rw [better_bet h]; exact bet_right h

section
variable {P : Program} {ops : Array Oper} {rest : List Oper} {o : Oper} {a : Act} {Q : Exit → Act → World → Prop}
theorem wpList_load_row_g {w : World} (hw : Region.wanted o (yielded ops a.tmps) = true) (ty : TypeId) (x : Operand) (ho : o.op = .load ty x) (g : Nat) (hx : a.eval x = .pointer (some ⟨g, 0, none⟩)) (t : TypeId) (cs : Array Value) (fr : Nat × Nat) (d : TypeDesc) (hb : w.heap[g]? = some (.cells cs t fr))
    (hu : P.underlying ty = some d) (hd : d.isRow = true) (hi : (P.info? ty).map (·.size) = some cs.size) (h : wpList P ops Q rest (a.put o.dst (.agg cs)) w) : wpList P ops Q (o :: rest) a w := by
  have := load_mid_g (Q := Q) (rest := rest) hw ty x ho g 0 hx cs.toList d (fun j v hv => by rw [Nat.zero_add, cell_of_row w g j cs t fr hb]; simpa using hv) hu hd (by simpa using hi) (by simpa using h)
  exact this
end
abbrev caC (q : Qy) (c6 c7 c8 c9 c10 c11 : Value) (b n m : Int) : Array Value := #[.int .i64 q.kind, .int .i64 q.size, .int .i64 q.slide, .int .i64 q.late, .int .i64 q.agg, .int .i64 q.k, c6, c7, c8, c9, c10, c11, .int .i64 b, .int .i64 n, .int .i64 m]
theorem law34_LintHolds (q : Qy) (c6 c7 c8 c9 c10 c11 : Value) (b n m : Int) (w : World) :
    Calls Tryz.prog 3 #[.agg (caC q c6 c7 c8 c9 c10 c11 b n m)] w fun e w' => e = .returned (.bool true) ∧ Below w.heap.size w w' := by
  have B1 := hid (Blk.new w 30 (caC q c6 c7 c8 c9 c10 c11 b n m))
  have Q1 := hid ((Below.refl _ w).alloc (Nat.le_refl _) (.cells (caC q c6 c7 c8 c9 c10 c11 b n m) 30))
  go_enter Tryz.func3, Tryz.ntmps3
  go_wp2_with fail
  refine (law34_first _).mono ?_
  rintro e w2 ⟨rfl, hb2⟩
  have B2 := hid (B1.out.below hb2 B1.out.lt)
  have Q2 := hid (Q1.out.trans (hb2.mono Q1.out.size))
  clear hb2 B1 Q1
  have b0 : w2.cell? ⟨w.heap.size, 0, none⟩ = some (.int .i64 q.kind) := B2.out.cell 0
  have b1 : w2.cell? ⟨w.heap.size, 1, none⟩ = some (.int .i64 q.size) := B2.out.cell 1
  have b2 : w2.cell? ⟨w.heap.size, 2, none⟩ = some (.int .i64 q.slide) := B2.out.cell 2
  have b3 : w2.cell? ⟨w.heap.size, 3, none⟩ = some (.int .i64 q.late) := B2.out.cell 3
  have b4 : w2.cell? ⟨w.heap.size, 4, none⟩ = some (.int .i64 q.agg) := B2.out.cell 4
  have b5 : w2.cell? ⟨w.heap.size, 5, none⟩ = some (.int .i64 q.k) := B2.out.cell 5
  go_wp2_with fail
  refine (lint_Better q w2).mono ?_
  rintro e w3 ⟨rfl, hb3⟩
  have B3 := hid ((B2.out.below hb3 B2.out.lt).alloc (.cells (qC' ⟨0, 0, 0, 0, 0, 0⟩) 23))
  have q3 := Q2.out.trans (hb3.mono Q2.out.size)
  have Q3 := hid (q3.alloc q3.size (.cells (qC' ⟨0, 0, 0, 0, 0, 0⟩) 23))
  have V3 := hid (Blk.new w3 23 (qC' ⟨0, 0, 0, 0, 0, 0⟩))
  have L3 := hid (show w.heap.size < w3.heap.size from (B2.out.below hb3 B2.out.lt).lt)
  obtain ⟨p, hp⟩ : ∃ p, p = better q := ⟨_, rfl⟩
  rw [← hp]
  have HP := hid hp
  clear hb3 q3 hp b0 b1 b2 b3 b4 b5 B2 Q2
  have HIQ := hid (show (Tryz.prog.info? 23).map (·.size) = some (qC' p).size from by kernel_rfl)
  go_wp2_with (first | (refine storeB (w := w3.alloc (.cells (qC' ⟨0, 0, 0, 0, 0, 0⟩) 23)) (by rfl) 23 _ _ (by rfl) w3.heap.size 0 23 (qC' ⟨0, 0, 0, 0, 0, 0⟩) (qC' p) (by rfl) (by rfl) V3.out (by simp) HIQ.out (qC_one p) ?_))
  intro w4 hk4 hg4
  rw [splice_all _ _ (by simp)] at hk4
  have l3 := L3.out
  have B4 := hid (B3.out.grown hg4 (fun e => by have := Option.some.inj e; omega))
  have Q4 := hid (Q3.out.grown hg4 Q3.out.size (fun j e => by have := Option.some.inj e; omega))
  have V4 := hid hk4
  clear hk4 hg4 l3 B3 Q3 V3
  obtain ⟨gb, hgb⟩ : ∃ gb, gb = w3.heap.size := ⟨_, rfl⟩
  rw [← hgb] at V4 L3 ⊢
  clear hgb
  have v0 : w4.cell? ⟨gb, 0, none⟩ = some (.int .i64 p.kind) := V4.out.cell 0
  have v1 : w4.cell? ⟨gb, 1, none⟩ = some (.int .i64 p.size) := V4.out.cell 1
  have v2 : w4.cell? ⟨gb, 2, none⟩ = some (.int .i64 p.slide) := V4.out.cell 2
  have v3 : w4.cell? ⟨gb, 3, none⟩ = some (.int .i64 p.late) := V4.out.cell 3
  have v4 : w4.cell? ⟨gb, 4, none⟩ = some (.int .i64 p.agg) := V4.out.cell 4
  have v5 : w4.cell? ⟨gb, 5, none⟩ = some (.int .i64 p.k) := V4.out.cell 5
  go_wp2_with fail
  refine (lint_Query p w4).mono ?_
  rintro e w5 ⟨A5, c5, rfl, ho5, hb5⟩
  have B5 := hid (B4.out.below hb5 B4.out.lt)
  have V5 := hid (V4.out.below hb5 V4.out.lt)
  have Q5 := hid (Q4.out.trans (hb5.mono Q4.out.size))
  have O5 := hid ho5
  have HL5 := hid (finds_len p)
  have HF5 := hid (show ∀ x ∈ finds p, x = 7 from by rw [HP.out]; exact better_finds q)
  clear hb5 ho5 v0 v1 v2 v3 v4 v5 B4 V4 Q4
  obtain ⟨fl, hfl⟩ : ∃ fl, fl = finds p := ⟨_, rfl⟩
  rw [← hfl] at O5 HL5 HF5 ⊢
  clear hfl
  go_wp2
  go_loop [5, 17] (fun _ i => ∃ k : Nat, k ≤ fl.length ∧ i = .int .i64 k) (fun _ i => fl.length - (intOf i).toNat)
  case atStart => exact ⟨0, Nat.zero_le _, rfl⟩
  case round =>
    obtain ⟨k, hk, rfl⟩ := hrel
    by_cases hlt : k < fl.length
    · have p0 : (0 : Int) ≤ (k : Int) := by omega
      have p1 : (k : Int) < (fl.length : Int) := by omega
      have hl4 := HL5.out
      obtain ⟨g, hA, _, _, _, hcs⟩ := own_at O5.out (by omega)
      have c0 : w5.cell? ⟨g, k, none⟩ = some (.int .i64 7) := hcs k _ (by simp [List.getElem?_eq_getElem hlt, HF5.out _ (List.getElem_mem hlt)])
      subst hA
      clear hcs
      go_wp2
      go_round
      case rel => exact ⟨k + 1, by omega, by go_num⟩
      case measure => simp [intOf]; omega
    · have n1 : decide (k < fl.length) = false := decide_eq_false hlt
      have n2 : decide ((k : Int) < (fl.length : Int)) = false := decide_eq_false (by omega)
      have b0 : w5.cell? ⟨w.heap.size, 0, none⟩ = some (.int .i64 q.kind) := B5.out.cell 0
      have b1 : w5.cell? ⟨w.heap.size, 1, none⟩ = some (.int .i64 q.size) := B5.out.cell 1
      have b2 : w5.cell? ⟨w.heap.size, 2, none⟩ = some (.int .i64 q.slide) := B5.out.cell 2
      have b3 : w5.cell? ⟨w.heap.size, 3, none⟩ = some (.int .i64 q.late) := B5.out.cell 3
      have b4 : w5.cell? ⟨w.heap.size, 4, none⟩ = some (.int .i64 q.agg) := B5.out.cell 4
      have b5 : w5.cell? ⟨w.heap.size, 5, none⟩ = some (.int .i64 q.k) := B5.out.cell 5
      clear O5
      go_wp2_with fail
      refine (ref6_Right q w5).mono ?_
      rintro e w6 ⟨rfl, hb6⟩
      have B6 := hid (B5.out.below hb6 B5.out.lt)
      have V6 := hid (V5.out.below hb6 V5.out.lt)
      have Q6 := hid (Q5.out.trans (hb6.mono Q5.out.size))
      clear hb6 b0 b1 b2 b3 b4 b5 B5 V5 Q5 n1 n2 hlt hk
      cases hq : qR q
      · have e : p = q := by rw [HP.out]; exact better_not (qR_false.1 hq)
        subst e
        clear hq
        have b0 : w6.cell? ⟨w.heap.size, 0, none⟩ = some (.int .i64 p.kind) := B6.out.cell 0
        have b1 : w6.cell? ⟨w.heap.size, 1, none⟩ = some (.int .i64 p.size) := B6.out.cell 1
        have b2 : w6.cell? ⟨w.heap.size, 2, none⟩ = some (.int .i64 p.slide) := B6.out.cell 2
        have b3 : w6.cell? ⟨w.heap.size, 3, none⟩ = some (.int .i64 p.late) := B6.out.cell 3
        have b4 : w6.cell? ⟨w.heap.size, 4, none⟩ = some (.int .i64 p.agg) := B6.out.cell 4
        have b5 : w6.cell? ⟨w.heap.size, 5, none⟩ = some (.int .i64 p.k) := B6.out.cell 5
        have b6 : w6.cell? ⟨w.heap.size, 12, none⟩ = some (.int .i64 b) := B6.out.cell 12
        have b7 : w6.cell? ⟨w.heap.size, 13, none⟩ = some (.int .i64 n) := B6.out.cell 13
        have b8 : w6.cell? ⟨w.heap.size, 14, none⟩ = some (.int .i64 m) := B6.out.cell 14
        have v0 : w6.cell? ⟨gb, 0, none⟩ = some (.int .i64 p.kind) := V6.out.cell 0
        have v1 : w6.cell? ⟨gb, 1, none⟩ = some (.int .i64 p.size) := V6.out.cell 1
        have v2 : w6.cell? ⟨gb, 2, none⟩ = some (.int .i64 p.slide) := V6.out.cell 2
        have v3 : w6.cell? ⟨gb, 3, none⟩ = some (.int .i64 p.late) := V6.out.cell 3
        have v4 : w6.cell? ⟨gb, 4, none⟩ = some (.int .i64 p.agg) := V6.out.cell 4
        have v5 : w6.cell? ⟨gb, 5, none⟩ = some (.int .i64 p.k) := V6.out.cell 5
        go_wp2
        go_ret
        exact ⟨ret_bool (by simp), Q6.out⟩
      · have HOK := hid (qR_true.1 hq)
        have HPOK := hid (show qR p = true from by rw [HP.out]; exact qR_true.2 (better_right (qR_true.1 hq)))
        clear hq
        have b0 : w6.cell? ⟨w.heap.size, 0, none⟩ = some (.int .i64 q.kind) := B6.out.cell 0
        have b1 : w6.cell? ⟨w.heap.size, 1, none⟩ = some (.int .i64 q.size) := B6.out.cell 1
        have b2 : w6.cell? ⟨w.heap.size, 2, none⟩ = some (.int .i64 q.slide) := B6.out.cell 2
        have b3 : w6.cell? ⟨w.heap.size, 3, none⟩ = some (.int .i64 q.late) := B6.out.cell 3
        have b4 : w6.cell? ⟨w.heap.size, 4, none⟩ = some (.int .i64 q.agg) := B6.out.cell 4
        have b5 : w6.cell? ⟨w.heap.size, 5, none⟩ = some (.int .i64 q.k) := B6.out.cell 5
        have b6 : w6.cell? ⟨w.heap.size, 12, none⟩ = some (.int .i64 b) := B6.out.cell 12
        have b7 : w6.cell? ⟨w.heap.size, 13, none⟩ = some (.int .i64 n) := B6.out.cell 13
        have b8 : w6.cell? ⟨w.heap.size, 14, none⟩ = some (.int .i64 m) := B6.out.cell 14
        go_wp2_with fail
        refine (ledger_Least q n m b w6).mono ?_
        rintro e w7 ⟨pl, k7, e7, rfl, hlr, hb7⟩
        have B7 := hid ((B6.out.below hb7 B6.out.lt).alloc (.cells (plC plZ) 28))
        have V7 := hid ((V6.out.below hb7 V6.out.lt).alloc (.cells (plC plZ) 28))
        have q7 := Q6.out.trans (hb7.mono Q6.out.size)
        have Q7 := hid (q7.alloc q7.size (.cells (plC plZ) 28))
        have N7 := hid (Blk.new w7 28 (plC plZ))
        have L7 := hid (show gb < w7.heap.size from (V6.out.below hb7 V6.out.lt).lt)
        have HLR := hid hlr
        clear hb7 hlr q7 b0 b1 b2 b3 b4 b5 b6 b7 b8 B6 V6 Q6
        have HIP := hid (show (Tryz.prog.info? 28).map (·.size) = some (plC pl).size from by kernel_rfl)
        go_wp2_with (first | (refine storeB (w := w7.alloc (.cells (plC plZ) 28)) (by rfl) 28 _ _ (by rfl) w7.heap.size 0 28 (plC plZ) (plC pl) (by rfl) (by rfl) N7.out (by simp) HIP.out (pl_one pl) ?_))
        intro w8 hk8 hg8
        rw [splice_all _ _ (by simp)] at hk8
        have l7 := L7.out
        have l3 := L3.out
        have B8 := hid (B7.out.grown hg8 (fun e => by have := Option.some.inj e; omega))
        have V8 := hid (V7.out.grown hg8 (fun e => by have := Option.some.inj e; omega))
        have Q8 := hid (Q7.out.grown hg8 Q7.out.size (fun j e => by have := Option.some.inj e; omega))
        have N8 := hid hk8
        clear hk8 hg8 l7 l3 B7 V7 Q7 N7
        obtain ⟨gp, hgp⟩ : ∃ gp, gp = w7.heap.size := ⟨_, rfl⟩
        rw [← hgp] at N8 ⊢
        clear hgp L7
        by_cases he : e7 = 0
        · subst he
          obtain ⟨a1, a2, a3, a4, a5, a6, a7⟩ := HLR.out.yes rfl
          subst a5
          have b0 : w8.cell? ⟨w.heap.size, 0, none⟩ = some (.int .i64 q.kind) := B8.out.cell 0
          have b1 : w8.cell? ⟨w.heap.size, 1, none⟩ = some (.int .i64 q.size) := B8.out.cell 1
          have b2 : w8.cell? ⟨w.heap.size, 2, none⟩ = some (.int .i64 q.slide) := B8.out.cell 2
          have b3 : w8.cell? ⟨w.heap.size, 3, none⟩ = some (.int .i64 q.late) := B8.out.cell 3
          have b4 : w8.cell? ⟨w.heap.size, 4, none⟩ = some (.int .i64 q.agg) := B8.out.cell 4
          have b5 : w8.cell? ⟨w.heap.size, 5, none⟩ = some (.int .i64 q.k) := B8.out.cell 5
          have b6 : w8.cell? ⟨w.heap.size, 12, none⟩ = some (.int .i64 b) := B8.out.cell 12
          have b7 : w8.cell? ⟨w.heap.size, 13, none⟩ = some (.int .i64 n) := B8.out.cell 13
          have b8 : w8.cell? ⟨w.heap.size, 14, none⟩ = some (.int .i64 m) := B8.out.cell 14
          have v0 : w8.cell? ⟨gb, 0, none⟩ = some (.int .i64 p.kind) := V8.out.cell 0
          have v1 : w8.cell? ⟨gb, 1, none⟩ = some (.int .i64 p.size) := V8.out.cell 1
          have v2 : w8.cell? ⟨gb, 2, none⟩ = some (.int .i64 p.slide) := V8.out.cell 2
          have v3 : w8.cell? ⟨gb, 3, none⟩ = some (.int .i64 p.late) := V8.out.cell 3
          have v4 : w8.cell? ⟨gb, 4, none⟩ = some (.int .i64 p.agg) := V8.out.cell 4
          have v5 : w8.cell? ⟨gb, 5, none⟩ = some (.int .i64 p.k) := V8.out.cell 5
          have HLR2 := hid HLR.out
          clear HLR a1 a2 a3 a4 a6 a7
          go_wp2_with fail
          refine (ref6_Right p w8).mono ?_
          rintro e w9 ⟨rfl, hb9⟩
          rw [HPOK.out]
          have B9 := hid (B8.out.below hb9 B8.out.lt)
          have N9 := hid (N8.out.below hb9 N8.out.lt)
          have Q9 := hid (Q8.out.trans (hb9.mono Q8.out.size))
          clear hb9 b0 b1 b2 b3 b4 b5 b6 b7 b8 v0 v1 v2 v3 v4 v5 B8 V8 Q8 N8
          have b0 : w9.cell? ⟨w.heap.size, 0, none⟩ = some (.int .i64 q.kind) := B9.out.cell 0
          have b1 : w9.cell? ⟨w.heap.size, 1, none⟩ = some (.int .i64 q.size) := B9.out.cell 1
          have b2 : w9.cell? ⟨w.heap.size, 2, none⟩ = some (.int .i64 q.slide) := B9.out.cell 2
          have b3 : w9.cell? ⟨w.heap.size, 3, none⟩ = some (.int .i64 q.late) := B9.out.cell 3
          have b4 : w9.cell? ⟨w.heap.size, 4, none⟩ = some (.int .i64 q.agg) := B9.out.cell 4
          have b5 : w9.cell? ⟨w.heap.size, 5, none⟩ = some (.int .i64 q.k) := B9.out.cell 5
          have b6 : w9.cell? ⟨w.heap.size, 12, none⟩ = some (.int .i64 b) := B9.out.cell 12
          have b7 : w9.cell? ⟨w.heap.size, 13, none⟩ = some (.int .i64 n) := B9.out.cell 13
          have b8 : w9.cell? ⟨w.heap.size, 14, none⟩ = some (.int .i64 m) := B9.out.cell 14
          have HIL := hid (show (Tryz.prog.info? 28).map (·.size) = some (plC (leastP (areaI q n) (batchI m) b)).size from by kernel_rfl)
          go_wp2_with (first | (refine wpList_load_row_g (w := w9) (by rfl) 28 _ (by rfl) gp (by rfl) 28 (plC (leastP (areaI q n) (batchI m) b)) (0, 0) _ N9.out Tryz.underlying28 rfl HIL.out ?_))
          refine (Plan_none q HOK.out n m b k7 w9 HLR2.out).mono ?_
          rintro e w10 ⟨rfl, hb10⟩
          have Q10 := hid (Q9.out.trans (hb10.mono Q9.out.size))
          clear hb10 b0 b1 b2 b3 b4 b5 b6 b7 b8
          go_wp2
          go_ret
          exact ⟨rfl, Q10.out⟩
        · have hk0 : k7 = 0 := by
            rcases HLR.out.no with h | h
            · exact absurd h he
            · exact h.1
          subst hk0
          have he2 : (e7 != 0) = true := by simpa using he
          clear he
          go_wp2
          go_ret
          exact ⟨rfl, Q8.out⟩
