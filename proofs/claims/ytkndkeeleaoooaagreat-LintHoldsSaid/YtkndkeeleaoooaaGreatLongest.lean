/- The longest that may be known, of a query. -/
import Derived.Test.YtkndkeeleaoooaaGreatAggPut
import Derived.Test.YtkndkeeleaoooaaGreatBatch
namespace Go.Proofs.YtkndkeeleaoooaaGreat
open Go.RowKit
set_option linter.unusedVariables false
set_option linter.unusedSimpArgs false
set_option maxRecDepth 100000
set_option maxHeartbeats 2000000

section
variable {P : Program} {ops : Array Oper} {rest : List Oper} {o : Oper} {a : Act} {Q : Exit → Act → World → Prop}
/-- A value of one cell into a cell of a block that is known whole. -/
theorem storeS {w : World} (hgd : o.guard = none) (ty : TypeId) (x y : Operand) (ho : o.op = .store ty x y) (g j t : Nat) (cs : Array Value) (u : Value)
    (hx : a.eval x = .pointer (some ⟨g, j, none⟩)) (hy : a.eval y = u) (hb : Blk w g t cs) (hj : j < cs.size) (hi : (P.info? ty).map (·.size) = some 1) (h1 : u.oneCell' = true)
    (h : ∀ w', Blk w' g t (cs.setIfInBounds j u) → w.grownBy w' (some g) → wpList P ops Q rest (a.put o.dst undef) w') : wpList P ops Q (o :: rest) a w :=
  wpList_plain hgd fun K hK => wp_set ty x y ho g j t cs u hx hy hb hj hi h1 (fun w' h1 h2 => hK _ _ (h w' h1 h2))
end
abbrev agZ : Array Value := #[.int .i64 0, .int .i64 0, .slice none 0 0, zZero]
theorem agg_one (N A : Int) (T : Option Addr) (n c : Nat) (Z : Value) (h : Z.oneCell' = true) : ∀ u ∈ (aggC N A T n c Z).toList, u.oneCell' = true := by
  intro u hu
  simp at hu
  rcases hu with rfl | rfl | rfl | rfl <;> first | rfl | exact h
theorem ledger_longest (q : Qy) (hq : QOk q) (w : World) :
    Calls Tryz.prog 41 #[q.v] w fun e w' => ∃ T c, e = .returned (aggV 1073741824 (lgA q.agg) T (lgT q).length c (lgZ q.agg)) ∧ w'.ownsRow w.heap.size 3 1 (.slice T (lgT q).length c) (lgT q).length (nums (lgT q)) ∧ Below w.heap.size w w' := by
  have h := agg_cases hq
  have hk := hq.2.2.2.2.2.2.2.2.2.2.1
  have B1 := hid (((Blk.new w 23 (qC' q)).alloc (.cells agZ 89)).alloc (.cells agZ 89))
  have Z1 := hid ((Blk.new' (w.alloc (.cells (qC' q) 23)) 89 agZ (g := w.heap.size + 1) (by simp)).alloc (.cells agZ 89))
  have A1 := hid (Blk.new' ((w.alloc (.cells (qC' q) 23)).alloc (.cells agZ 89)) 89 agZ (g := w.heap.size + 2) (by simp))
  have Q1 := hid ((((Below.refl _ w).alloc (Nat.le_refl _) (.cells (qC' q) 23)).alloc (by simp) (.cells agZ 89)).alloc (by simp; omega) (.cells agZ 89))
  have HI := hid (show (Tryz.prog.info? 89).map (·.size) = some (aggC 1073741824 0 none 0 0 zZero).size from by kernel_rfl)
  have HONE := hid (agg_one 1073741824 0 none 0 0 zZero rfl)
  clear hq
  go_enter Tryz.func41, Tryz.ntmps41
  go_wp2_with (first | (refine storeB (w := ((w.alloc (.cells (qC' q) 23)).alloc (.cells agZ 89)).alloc (.cells agZ 89)) (by rfl) 89 _ _ (by rfl) (w.heap.size + 2) 0 89 agZ (aggC 1073741824 0 none 0 0 zZero) (by rfl) (by rfl) A1.out (by simp) HI.out HONE.out ?_))
  intro w2 hk2 hg2
  rw [splice_all _ _ (by simp)] at hk2
  have B2 := hid (B1.out.grown hg2 (fun e => by have := Option.some.inj e; omega))
  have Z2 := hid (Z1.out.grown hg2 (fun e => by have := Option.some.inj e; omega))
  have A2 := hid (show Blk w2 (w.heap.size + 2) 89 (aggC 1073741824 0 none 0 0 zZero) from hk2)
  have Q2 := hid (Q1.out.grown hg2 Q1.out.size (fun j e => by have := Option.some.inj e; omega))
  have c4 : w2.cell? ⟨w.heap.size, 4, none⟩ = some (.int .i64 q.agg) := B2.out.cell 4
  have c5 : w2.cell? ⟨w.heap.size, 5, none⟩ = some (.int .i64 q.k) := B2.out.cell 5
  clear hk2 hg2 B1 Z1 A1 Q1 HI HONE
  rcases h with h | h | h | h | h | h | h
  · have HA := hid (show lgA q.agg = 0 from by rw [h]; rfl)
    have HZ := hid (show lgZ q.agg = zZero from by rw [h]; rfl)
    have HT := hid (show lgT q = [] from by unfold lgT; rw [if_neg (by omega)])
    rw [h] at c4
    clear h hk
    have HI := hid (show (Tryz.prog.info? 89).map (·.size) = some (aggC 1073741824 0 none 0 0 zZero).size from by kernel_rfl)
    have HONE := hid (agg_one 1073741824 0 none 0 0 zZero rfl)
    go_wp2_with (first
      | (refine wpList_load_row (w := w2) (by rfl) 89 _ (by rfl) (w.heap.size + 2) (by rfl) 89 (aggC 1073741824 0 none 0 0 zZero) (0, 0) _ A2.out Tryz.underlying89 rfl HI.out ?_)
      | (refine storeB (w := w2) (by rfl) 89 _ _ (by rfl) (w.heap.size + 1) 0 89 agZ (aggC 1073741824 0 none 0 0 zZero) (by rfl) (by rfl) Z2.out (by simp) HI.out HONE.out ?_))
    intro w9 hk9 hg9
    rw [splice_all _ _ (by simp)] at hk9
    go_wp2
    refine bodyPost_ret (results_cell_row rfl _ w9 (w.heap.size + 1) 89 (aggC 1073741824 0 none 0 0 zZero) (0, 0) _ (by rfl) hk9 Tryz.underlying89 rfl HI.out) rfl ⟨none, 0, by rw [HA.out, HZ.out, HT.out]; rfl, by rw [HT.out]; exact World.ownsRow_nil _ _ _ _, ?_⟩
    exact Q2.out.grown hg9 Q2.out.size (fun j e => by have := Option.some.inj e; omega)
  · have HA := hid (show lgA q.agg = 4398046511104 from by rw [h]; rfl)
    have HZ := hid (show lgZ q.agg = zZero from by rw [h]; rfl)
    have HT := hid (show lgT q = [] from by unfold lgT; rw [if_neg (by omega)])
    rw [h] at c4
    clear h hk
    go_wp2_with (first | (refine storeS (w := w2) (by rfl) 3 _ _ (by rfl) (w.heap.size + 2) 1 89 (aggC 1073741824 0 none 0 0 zZero) (.int .i64 4398046511104) (by rfl) (by rfl) A2.out (by simp) (by kernel_rfl) rfl ?_))
    intro w3 hk3 hg3
    have A3 := hid (show Blk w3 (w.heap.size + 2) 89 (aggC 1073741824 4398046511104 none 0 0 zZero) from hk3)
    have Z3 := hid (Z2.out.grown hg3 (fun e => by have := Option.some.inj e; omega))
    have Q3 := hid (Q2.out.grown hg3 Q2.out.size (fun j e => by have := Option.some.inj e; omega))
    clear hk3 hg3 A2 Z2 Q2 B2 c4 c5
    have HI := hid (show (Tryz.prog.info? 89).map (·.size) = some (aggC 1073741824 4398046511104 none 0 0 zZero).size from by kernel_rfl)
    have HONE := hid (agg_one 1073741824 4398046511104 none 0 0 zZero rfl)
    go_wp2_with (first
      | (refine wpList_load_row (w := w3) (by rfl) 89 _ (by rfl) (w.heap.size + 2) (by rfl) 89 (aggC 1073741824 4398046511104 none 0 0 zZero) (0, 0) _ A3.out Tryz.underlying89 rfl HI.out ?_)
      | (refine storeB (w := w3) (by rfl) 89 _ _ (by rfl) (w.heap.size + 1) 0 89 agZ (aggC 1073741824 4398046511104 none 0 0 zZero) (by rfl) (by rfl) Z3.out (by simp) HI.out HONE.out ?_))
    intro w9 hk9 hg9
    rw [splice_all _ _ (by simp)] at hk9
    go_wp2
    refine bodyPost_ret (results_cell_row rfl _ w9 (w.heap.size + 1) 89 (aggC 1073741824 4398046511104 none 0 0 zZero) (0, 0) _ (by rfl) hk9 Tryz.underlying89 rfl HI.out) rfl ⟨none, 0, by rw [HA.out, HZ.out, HT.out]; rfl, by rw [HT.out]; exact World.ownsRow_nil _ _ _ _, ?_⟩
    exact Q3.out.grown hg9 Q3.out.size (fun j e => by have := Option.some.inj e; omega)
  · have HA := hid (show lgA q.agg = 1099511627776 from by rw [h]; rfl)
    have HZ := hid (show lgZ q.agg = zZero from by rw [h]; rfl)
    have HT := hid (show lgT q = [] from by unfold lgT; rw [if_neg (by omega)])
    rw [h] at c4
    clear h hk
    go_wp2_with (first | (refine storeS (w := w2) (by rfl) 3 _ _ (by rfl) (w.heap.size + 2) 1 89 (aggC 1073741824 0 none 0 0 zZero) (.int .i64 1099511627776) (by rfl) (by rfl) A2.out (by simp) (by kernel_rfl) rfl ?_))
    intro w3 hk3 hg3
    have A3 := hid (show Blk w3 (w.heap.size + 2) 89 (aggC 1073741824 1099511627776 none 0 0 zZero) from hk3)
    have Z3 := hid (Z2.out.grown hg3 (fun e => by have := Option.some.inj e; omega))
    have Q3 := hid (Q2.out.grown hg3 Q2.out.size (fun j e => by have := Option.some.inj e; omega))
    clear hk3 hg3 A2 Z2 Q2 B2 c4 c5
    have HI := hid (show (Tryz.prog.info? 89).map (·.size) = some (aggC 1073741824 1099511627776 none 0 0 zZero).size from by kernel_rfl)
    have HONE := hid (agg_one 1073741824 1099511627776 none 0 0 zZero rfl)
    go_wp2_with (first
      | (refine wpList_load_row (w := w3) (by rfl) 89 _ (by rfl) (w.heap.size + 2) (by rfl) 89 (aggC 1073741824 1099511627776 none 0 0 zZero) (0, 0) _ A3.out Tryz.underlying89 rfl HI.out ?_)
      | (refine storeB (w := w3) (by rfl) 89 _ _ (by rfl) (w.heap.size + 1) 0 89 agZ (aggC 1073741824 1099511627776 none 0 0 zZero) (by rfl) (by rfl) Z3.out (by simp) HI.out HONE.out ?_))
    intro w9 hk9 hg9
    rw [splice_all _ _ (by simp)] at hk9
    go_wp2
    refine bodyPost_ret (results_cell_row rfl _ w9 (w.heap.size + 1) 89 (aggC 1073741824 1099511627776 none 0 0 zZero) (0, 0) _ (by rfl) hk9 Tryz.underlying89 rfl HI.out) rfl ⟨none, 0, by rw [HA.out, HZ.out, HT.out]; rfl, by rw [HT.out]; exact World.ownsRow_nil _ _ _ _, ?_⟩
    exact Q3.out.grown hg9 Q3.out.size (fun j e => by have := Option.some.inj e; omega)
  · have HA := hid (show lgA q.agg = 1099511627776 from by rw [h]; rfl)
    have HZ := hid (show lgZ q.agg = zZero from by rw [h]; rfl)
    have HT := hid (show lgT q = [] from by unfold lgT; rw [if_neg (by omega)])
    rw [h] at c4
    clear h hk
    go_wp2_with (first | (refine storeS (w := w2) (by rfl) 3 _ _ (by rfl) (w.heap.size + 2) 1 89 (aggC 1073741824 0 none 0 0 zZero) (.int .i64 1099511627776) (by rfl) (by rfl) A2.out (by simp) (by kernel_rfl) rfl ?_))
    intro w3 hk3 hg3
    have A3 := hid (show Blk w3 (w.heap.size + 2) 89 (aggC 1073741824 1099511627776 none 0 0 zZero) from hk3)
    have Z3 := hid (Z2.out.grown hg3 (fun e => by have := Option.some.inj e; omega))
    have Q3 := hid (Q2.out.grown hg3 Q2.out.size (fun j e => by have := Option.some.inj e; omega))
    clear hk3 hg3 A2 Z2 Q2 B2 c4 c5
    have HI := hid (show (Tryz.prog.info? 89).map (·.size) = some (aggC 1073741824 1099511627776 none 0 0 zZero).size from by kernel_rfl)
    have HONE := hid (agg_one 1073741824 1099511627776 none 0 0 zZero rfl)
    go_wp2_with (first
      | (refine wpList_load_row (w := w3) (by rfl) 89 _ (by rfl) (w.heap.size + 2) (by rfl) 89 (aggC 1073741824 1099511627776 none 0 0 zZero) (0, 0) _ A3.out Tryz.underlying89 rfl HI.out ?_)
      | (refine storeB (w := w3) (by rfl) 89 _ _ (by rfl) (w.heap.size + 1) 0 89 agZ (aggC 1073741824 1099511627776 none 0 0 zZero) (by rfl) (by rfl) Z3.out (by simp) HI.out HONE.out ?_))
    intro w9 hk9 hg9
    rw [splice_all _ _ (by simp)] at hk9
    go_wp2
    refine bodyPost_ret (results_cell_row rfl _ w9 (w.heap.size + 1) 89 (aggC 1073741824 1099511627776 none 0 0 zZero) (0, 0) _ (by rfl) hk9 Tryz.underlying89 rfl HI.out) rfl ⟨none, 0, by rw [HA.out, HZ.out, HT.out]; rfl, by rw [HT.out]; exact World.ownsRow_nil _ _ _ _, ?_⟩
    exact Q3.out.grown hg9 Q3.out.size (fun j e => by have := Option.some.inj e; omega)
  · have HA := hid (show lgA q.agg = 4398046511104 from by rw [h]; rfl)
    have HZ := hid (show lgZ q.agg = zZero from by rw [h]; rfl)
    have HT := hid (show lgT q = [] from by unfold lgT; rw [if_neg (by omega)])
    rw [h] at c4
    clear h hk
    go_wp2_with (first | (refine storeS (w := w2) (by rfl) 3 _ _ (by rfl) (w.heap.size + 2) 1 89 (aggC 1073741824 0 none 0 0 zZero) (.int .i64 4398046511104) (by rfl) (by rfl) A2.out (by simp) (by kernel_rfl) rfl ?_))
    intro w3 hk3 hg3
    have A3 := hid (show Blk w3 (w.heap.size + 2) 89 (aggC 1073741824 4398046511104 none 0 0 zZero) from hk3)
    have Z3 := hid (Z2.out.grown hg3 (fun e => by have := Option.some.inj e; omega))
    have Q3 := hid (Q2.out.grown hg3 Q2.out.size (fun j e => by have := Option.some.inj e; omega))
    clear hk3 hg3 A2 Z2 Q2 B2 c4 c5
    have HI := hid (show (Tryz.prog.info? 89).map (·.size) = some (aggC 1073741824 4398046511104 none 0 0 zZero).size from by kernel_rfl)
    have HONE := hid (agg_one 1073741824 4398046511104 none 0 0 zZero rfl)
    go_wp2_with (first
      | (refine wpList_load_row (w := w3) (by rfl) 89 _ (by rfl) (w.heap.size + 2) (by rfl) 89 (aggC 1073741824 4398046511104 none 0 0 zZero) (0, 0) _ A3.out Tryz.underlying89 rfl HI.out ?_)
      | (refine storeB (w := w3) (by rfl) 89 _ _ (by rfl) (w.heap.size + 1) 0 89 agZ (aggC 1073741824 4398046511104 none 0 0 zZero) (by rfl) (by rfl) Z3.out (by simp) HI.out HONE.out ?_))
    intro w9 hk9 hg9
    rw [splice_all _ _ (by simp)] at hk9
    go_wp2
    refine bodyPost_ret (results_cell_row rfl _ w9 (w.heap.size + 1) 89 (aggC 1073741824 4398046511104 none 0 0 zZero) (0, 0) _ (by rfl) hk9 Tryz.underlying89 rfl HI.out) rfl ⟨none, 0, by rw [HA.out, HZ.out, HT.out]; rfl, by rw [HT.out]; exact World.ownsRow_nil _ _ _ _, ?_⟩
    exact Q3.out.grown hg9 Q3.out.size (fun j e => by have := Option.some.inj e; omega)
  · have HA := hid (show lgA q.agg = 0 from by rw [h]; rfl)
    have HZ := hid (show lgZ q.agg = zZero from by rw [h]; rfl)
    have HT := hid (show lgT q = List.replicate q.k.toNat 1099511627776 from by unfold lgT; rw [if_pos h])
    have hk8 := hk h
    obtain ⟨k, hkk⟩ : ∃ k : Nat, k = q.k.toNat := ⟨_, rfl⟩
    have hkq : q.k = (k : Int) := by omega
    rw [← hkk] at HT
    rw [h] at c4
    rw [hkq] at c5
    have hk9 : k ≤ 8 := by omega
    clear h hk hk8 hkk hkq B2
    go_wp2
    go_loopw [19] (fun i wr => ∃ (j : Nat) (T : Option Addr) (c : Nat), j ≤ k ∧ i = .int .i64 j ∧ Blk wr (w.heap.size + 1) 89 agZ ∧ Blk wr (w.heap.size + 2) 89 (aggC 1073741824 0 T j c zZero) ∧ wr.ownsRow (w.heap.size + 3) 3 1 (.slice T j c) j (nums (List.replicate j 1099511627776)) ∧ Below w.heap.size w wr) (fun i _ => k - (intOf i).toNat)
    case atStart => exact ⟨0, none, 0, Nat.zero_le _, rfl, Z2.out, A2.out, World.ownsRow_nil _ _ _ _, Q2.out⟩
    case round =>
      obtain ⟨j, T, c, hj, rfl, hzr, har, hor, hqr⟩ := hrel
      by_cases hlt : j < k
      · have p0 : (j : Int) < (k : Int) := by omega
        have a2 : wr.cell? ⟨w.heap.size + 2, 2, none⟩ = some (.slice T j c) := har.cell 2
        have f2 := har.free 2
        have ZR := hid hzr
        have AR := hid har
        have OR := hid hor
        have QR := hid hqr
        have HRP := hid (show nums (List.replicate (j + 1) 1099511627776) = nums (List.replicate j 1099511627776) ++ [.int .i64 1099511627776] from by rw [List.replicate_succ', nums, List.map_append]; rfl)
        clear hzr har hor hqr Z2 A2 Q2
        go_wp2_with (first | (at_builtin; refine app1c (W := wr) (by rfl) _ _ _ (by rfl) 3 _ 8 Tryz.underlying33 info_int rfl (w.heap.size + 3) (.slice T j c) j (nums (List.replicate j 1099511627776)) OR.out (by rfl) (.int .i64 1099511627776) (by rfl) rfl (by omega) (by decide) (by have := AR.out.lt; omega) ?_))
        intro g cap w4 ho4 hg4 hat4 hlt4
        have hne := own_base OR.out
        have Z4 := hid (ZR.out.grown hg4 (fun e => by have := hne _ e; omega))
        have A4 := hid (AR.out.grown hg4 (fun e => by have := hne _ e; omega))
        have Q4 := hid (QR.out.grown hg4 QR.out.size (fun j e => by have := hne _ e; omega))
        have O4 := hid (show w4.ownsRow (w.heap.size + 3) 3 1 (.slice (some ⟨g, 0, none⟩) (j + 1) cap) (j + 1) (nums (List.replicate (j + 1) 1099511627776)) from by rw [HRP.out]; simpa using ho4)
        clear ho4 hg4 hat4 hlt4 hne a2 f2 ZR AR OR QR
        go_wp2_with (first | (refine storeS (w := w4) (by rfl) 33 _ _ (by rfl) (w.heap.size + 2) 2 89 (aggC 1073741824 0 T j c zZero) (.slice (some ⟨g, 0, none⟩) (j + 1) cap) (by rfl) (by rfl) A4.out (by simp) (by kernel_rfl) rfl ?_))
        intro w5 hk5 hg5
        have Z5 := hid (Z4.out.grown hg5 (fun e => by have := Option.some.inj e; omega))
        have A5 := hid (show Blk w5 (w.heap.size + 2) 89 (aggC 1073741824 0 (some ⟨g, 0, none⟩) (j + 1) cap zZero) from hk5)
        have Q5 := hid (Q4.out.grown hg5 Q4.out.size (fun j e => by have := Option.some.inj e; omega))
        have O5 := hid (O4.out.kept hg5 (.inr (fun e => by have := own_base O4.out _ e; omega)))
        clear hk5 hg5 Z4 A4 Q4 O4
        go_wp2
        go_roundw
        case rel => exact ⟨j + 1, _, cap, by omega, by go_num, Z5.out, A5.out, O5.out, Q5.out⟩
        case measure => simp [intOf]; omega
      · have hjk : j = k := by omega
        subst hjk
        have n1 : decide ((j : Int) < (j : Int)) = false := decide_eq_false (by omega)
        have ZR := hid hzr
        have AR := hid har
        have OR := hid hor
        have QR := hid hqr
        clear hzr har hor hqr Z2 A2 Q2 c4 c5
        have HI := hid (show (Tryz.prog.info? 89).map (·.size) = some (aggC 1073741824 0 T j c zZero).size from by kernel_rfl)
        have HONE := hid (agg_one 1073741824 0 T j c zZero rfl)
        go_wp2_with (first
          | (refine wpList_load_row (w := wr) (by rfl) 89 _ (by rfl) (w.heap.size + 2) (by rfl) 89 (aggC 1073741824 0 T j c zZero) (0, 0) _ AR.out Tryz.underlying89 rfl HI.out ?_)
          | (refine storeB (w := wr) (by rfl) 89 _ _ (by rfl) (w.heap.size + 1) 0 89 agZ (aggC 1073741824 0 T j c zZero) (by rfl) (by rfl) ZR.out (by simp) HI.out HONE.out ?_))
        intro w9 hk9 hg9
        rw [splice_all _ _ (by simp)] at hk9
        go_wp2
        refine bodyPost_ret (results_cell_row rfl _ w9 (w.heap.size + 1) 89 (aggC 1073741824 0 T j c zZero) (0, 0) _ (by rfl) hk9 Tryz.underlying89 rfl HI.out) rfl ⟨T, c, by rw [HA.out, HZ.out, HT.out, List.length_replicate], by rw [HT.out, List.length_replicate]; exact own_low (OR.out.kept hg9 (.inr (fun e => by have := own_base OR.out _ e; omega))) (by omega), ?_⟩
        exact QR.out.grown hg9 QR.out.size (fun j e => by have := Option.some.inj e; omega)
  · have HA := hid (show lgA q.agg = 0 from by rw [h]; rfl)
    have HZ := hid (show lgZ q.agg = zBig from by rw [h]; rfl)
    have HT := hid (show lgT q = [] from by unfold lgT; rw [if_neg (by omega)])
    rw [h] at c4
    clear h hk
    go_wp2_with (first | (refine storeS (w := w2) (by rfl) 87 _ _ (by rfl) (w.heap.size + 2) 3 89 (aggC 1073741824 0 none 0 0 zZero) (zBig) (by rfl) (by rfl) A2.out (by simp) (by kernel_rfl) rfl ?_))
    intro w3 hk3 hg3
    have A3 := hid (show Blk w3 (w.heap.size + 2) 89 (aggC 1073741824 0 none 0 0 zBig) from hk3)
    have Z3 := hid (Z2.out.grown hg3 (fun e => by have := Option.some.inj e; omega))
    have Q3 := hid (Q2.out.grown hg3 Q2.out.size (fun j e => by have := Option.some.inj e; omega))
    clear hk3 hg3 A2 Z2 Q2 B2 c4 c5
    have HI := hid (show (Tryz.prog.info? 89).map (·.size) = some (aggC 1073741824 0 none 0 0 zBig).size from by kernel_rfl)
    have HONE := hid (agg_one 1073741824 0 none 0 0 zBig rfl)
    go_wp2_with (first
      | (refine wpList_load_row (w := w3) (by rfl) 89 _ (by rfl) (w.heap.size + 2) (by rfl) 89 (aggC 1073741824 0 none 0 0 zBig) (0, 0) _ A3.out Tryz.underlying89 rfl HI.out ?_)
      | (refine storeB (w := w3) (by rfl) 89 _ _ (by rfl) (w.heap.size + 1) 0 89 agZ (aggC 1073741824 0 none 0 0 zBig) (by rfl) (by rfl) Z3.out (by simp) HI.out HONE.out ?_))
    intro w9 hk9 hg9
    rw [splice_all _ _ (by simp)] at hk9
    go_wp2
    refine bodyPost_ret (results_cell_row rfl _ w9 (w.heap.size + 1) 89 (aggC 1073741824 0 none 0 0 zBig) (0, 0) _ (by rfl) hk9 Tryz.underlying89 rfl HI.out) rfl ⟨none, 0, by rw [HA.out, HZ.out, HT.out]; rfl, by rw [HT.out]; exact World.ownsRow_nil _ _ _ _, ?_⟩
    exact Q3.out.grown hg9 Q3.out.size (fun j e => by have := Option.some.inj e; omega)
