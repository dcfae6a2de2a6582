/- What is odd about a query. -/
import Derived.Test.YtkndkeeleaoooaaGreatRing
namespace Go.Proofs.YtkndkeeleaoooaaGreat
open Go.RowKit
set_option linter.unusedVariables false
set_option linter.unusedSimpArgs false
set_option maxRecDepth 100000
set_option maxHeartbeats 1000000

def tB (q : Qy) : Nat → Bool
  | 0 => decide (q.size < q.late)
  | 1 => (q.agg == 6) && (q.k == 1)
  | 2 => (q.kind == 2) && (q.slide == q.size)
  | _ => q.size == 1
def tF : Nat → Nat
  | 0 => 19
  | 1 => 20
  | 2 => 21
  | _ => 22
theorem test_any (k : Nat) (q : Qy) (w : World) :
    Calls Tryz.prog (tF k) #[q.v] w fun e w' => e = .returned (.bool (tB q k)) ∧ Below w.heap.size w w' := by
  rcases k with _ | _ | _ | k
  · show Calls Tryz.prog 19 _ _ _
    go_enter Tryz.func19, Tryz.ntmps19
    go_wp2
    all_goals go_ret
    all_goals exact ⟨rfl, (Below.refl _ _).alloc (Nat.le_refl _) _⟩
  · show Calls Tryz.prog 20 _ _ _
    go_enter Tryz.func20, Tryz.ntmps20
    go_wp2
    all_goals go_ret
    all_goals exact ⟨ret_bool (by simp [tB, *]), (Below.refl _ _).alloc (Nat.le_refl _) _⟩
  · show Calls Tryz.prog 21 _ _ _
    go_enter Tryz.func21, Tryz.ntmps21
    go_wp2
    all_goals go_ret
    all_goals exact ⟨ret_bool (by simp [tB, *]), (Below.refl _ _).alloc (Nat.le_refl _) _⟩
  · show Calls Tryz.prog 22 _ _ _
    go_enter Tryz.func22, Tryz.ntmps22
    go_wp2
    all_goals go_ret
    all_goals exact ⟨rfl, (Below.refl _ _).alloc (Nat.le_refl _) _⟩
abbrev tsts : Array Value := #[.int .i64 4, .func (.func 19) #[] #[], .int .i64 5, .func (.func 20) #[] #[], .int .i64 6, .func (.func 21) #[] #[], .int .i64 7, .func (.func 22) #[] #[]]
theorem lint_tests (w : World) :
    Calls Tryz.prog 12 #[] w fun e w' => e = .returned (.slice (some ⟨w.heap.size, 0, none⟩) 4 4) ∧ w' = w.alloc (.cells tsts 45) := by
  go_enter Tryz.func12, Tryz.ntmps12
  go_wp2
  go_ret
  exact ⟨rfl, rfl⟩

theorem tF_cases (k : Nat) (h : k < 4) : tF k = 19 ∨ tF k = 20 ∨ tF k = 21 ∨ tF k = 22 := by
  rcases k with _ | _ | _ | _ | k
  · exact .inl rfl
  · exact .inr (.inl rfl)
  · exact .inr (.inr (.inl rfl))
  · exact .inr (.inr (.inr rfl))
  · omega
theorem tsts_code (k : Nat) (h : k < 4) : tsts[k * 2]? = some (.int .i64 ((k : Int) + 4)) := by
  rcases k with _ | _ | _ | _ | k <;> first | rfl | omega
theorem tsts_odd (k : Nat) (h : k < 4) : tsts[k * 2 + 1]? = some (.func (.func (tF k)) #[] #[]) := by
  rcases k with _ | _ | _ | _ | k <;> first | rfl | omega
abbrev nums (l : List Int) : List Value := l.map (Value.int .i64)
def qFind (q : Qy) : Nat → List Int
  | 0 => []
  | k + 1 => qFind q k ++ if tB q k then [(k : Int) + 4] else []
def finds (q : Qy) : List Int := if qR q then qFind q 4 else []
theorem qFind_len (q : Qy) : ∀ k, (qFind q k).length ≤ k
  | 0 => Nat.le_refl _
  | k + 1 => by
    rw [qFind, List.length_append]
    have := qFind_len q k
    split <;> simp <;> omega
theorem info_int : (Tryz.prog.info? 3).map (fun i => (i.zero, i.size, i.bytes)) = some (some (.int .i64 0), 1, 8) := by kernel_rfl
abbrev qC' (q : Qy) : Array Value := #[.int .i64 q.kind, .int .i64 q.size, .int .i64 q.slide, .int .i64 q.late, .int .i64 q.agg, .int .i64 q.k]

theorem lint_Query (q : Qy) (w : World) :
    Calls Tryz.prog 6 #[q.v] w fun e w' => ∃ A c, e = .returned (.slice A (finds q).length c) ∧ w'.ownsRow w.heap.size 3 1 (.slice A (finds q).length c) (finds q).length (nums (finds q)) ∧ Below w.heap.size w w' := by
  have B1 := hid (Blk.new w 23 (qC' q))
  have Q1 := hid ((Below.refl _ w).alloc (Nat.le_refl _) (.cells (qC' q) 23))
  cases hq : qR q
  · have HF := hid (show finds q = [] from by unfold finds; rw [hq]; rfl)
    have HQ := hid hq
    clear hq
    go_enter Tryz.func6, Tryz.ntmps6
    go_wp2_with fail
    refine (query_Right q _).mono ?_
    rintro e w1 ⟨rfl, hb1⟩
    rw [HQ.out]
    have Q2 := hid (Q1.out.trans (hb1.mono (by simp)))
    clear hb1
    go_wp2
    go_ret
    exact ⟨none, 0, by rw [HF.out]; rfl, by rw [HF.out]; exact World.ownsRow_nil _ _ _ _, Q2.out⟩
  · have HF := hid (show finds q = qFind q 4 from by unfold finds; rw [hq]; rfl)
    have HQ := hid hq
    clear hq
    go_enter Tryz.func6, Tryz.ntmps6
    go_wp2_with fail
    refine (query_Right q _).mono ?_
    rintro e w1 ⟨rfl, hb1⟩
    rw [HQ.out]
    have Q2 := hid (Q1.out.trans (hb1.mono (by simp)))
    have B2 := hid (B1.out.below hb1 (by simp))
    clear hb1 Q1 B1
    go_wp2_with fail
    refine (lint_tests w1).mono ?_
    rintro e w2 ⟨rfl, rfl⟩
    have Q3 := hid (Q2.out.alloc Q2.out.size (.cells tsts 45))
    have B3 := hid (B2.out.alloc (.cells tsts 45))
    have T3 := hid (Blk.new w1 45 tsts)
    have L3 := hid (show w.heap.size < w1.heap.size from B2.out.lt)
    clear Q2 B2
    generalize w1.alloc (.cells tsts 45) = w3 at *
    generalize w1.heap.size = gT at *
    go_wp2
    go_loopw [3, 11] (fun v i wr => ∃ (k : Nat) (A : Option Addr) (c : Nat), k ≤ 4 ∧ i = .int .i64 k ∧ v = .slice A (qFind q k).length c ∧ Blk wr w.heap.size 23 (qC' q) ∧ Blk wr gT 45 tsts ∧ wr.ownsRow w.heap.size 3 1 (.slice A (qFind q k).length c) (qFind q k).length (nums (qFind q k)) ∧ Below w.heap.size w wr) (fun _ i _ => 4 - (intOf i).toNat)
    case atStart => exact ⟨0, none, 0, Nat.zero_le _, rfl, rfl, B3.out, T3.out, World.ownsRow_nil _ _ _ _, Q3.out⟩
    case round =>
      obtain ⟨k, A, c, hk, rfl, rfl, hbr, htr, hor, hqr⟩ := hrel
      by_cases hlt : k < 4
      · have p0 : (0 : Int) ≤ (k : Int) := by omega
        have p1 : (k : Int) < 4 := by omega
        have c0 : wr.cell? ⟨gT, k * 2, none⟩ = some (.int .i64 ((k : Int) + 4)) := (htr.cell _).trans (tsts_code k hlt)
        have c1 : wr.cell? ⟨gT, k * 2 + 1, none⟩ = some (.func (.func (tF k)) #[] #[]) := (htr.cell _).trans (tsts_odd k hlt)
        have HL := hid (qFind_len q k)
        have KR := hid (hbr.alloc (.cells #[.int .i64 0, .nilFunc] 45))
        have TR := hid (htr.alloc (.cells #[.int .i64 0, .nilFunc] 45))
        have OR := hid (hor.alloc (.cells #[.int .i64 0, .nilFunc] 45))
        have QR := hid (hqr.alloc hqr.size (.cells #[.int .i64 0, .nilFunc] 45))
        have VR := hid (Blk.new wr 45 #[.int .i64 0, .nilFunc])
        have LR := hid (show gT < wr.heap.size from htr.lt)
        have FR := hid (fun j h => own_lt hor j h)
        clear hbr htr hor hqr B3 T3 Q3
        go_wp2_with (first | (refine storeB (w := wr.alloc (.cells #[.int .i64 0, .nilFunc] 45)) (by rfl) 45 _ _ (by rfl) wr.heap.size 0 45 #[.int .i64 0, .nilFunc] #[.int .i64 ((k : Int) + 4), .func (.func (tF k)) #[] #[]] (by rfl) (by rfl) VR.out (by simp) (by kernel_rfl) (fun u hu => by simp at hu; rcases hu with h | h <;> subst h <;> rfl) ?_))
        intro w4 hv4 hg4
        rw [splice_all _ _ (by simp)] at hv4
        have l3 := L3.out
        have lr := LR.out
        have K4 := hid (KR.out.grown hg4 (fun e => by have := Option.some.inj e; omega))
        have T4 := hid (TR.out.grown hg4 (fun e => by have := Option.some.inj e; omega))
        have O4 := hid (OR.out.kept hg4 (.inr (fun e => by have := FR.out _ e; omega)))
        have Q4 := hid (QR.out.grown hg4 QR.out.size (fun j e => by have := Option.some.inj e; omega))
        have V4 := hid (show Blk w4 wr.heap.size 45 #[.int .i64 ((k : Int) + 4), .func (.func (tF k)) #[] #[]] from hv4)
        have c2 : w4.cell? ⟨wr.heap.size, 1, none⟩ = some (.func (.func (tF k)) #[] #[]) := V4.out.cell 1
        have b0 : w4.cell? ⟨w.heap.size, 0, none⟩ = some (.int .i64 q.kind) := K4.out.cell 0
        have b1 : w4.cell? ⟨w.heap.size, 1, none⟩ = some (.int .i64 q.size) := K4.out.cell 1
        have b2 : w4.cell? ⟨w.heap.size, 2, none⟩ = some (.int .i64 q.slide) := K4.out.cell 2
        have b3 : w4.cell? ⟨w.heap.size, 3, none⟩ = some (.int .i64 q.late) := K4.out.cell 3
        have b4 : w4.cell? ⟨w.heap.size, 4, none⟩ = some (.int .i64 q.agg) := K4.out.cell 4
        have b5 : w4.cell? ⟨w.heap.size, 5, none⟩ = some (.int .i64 q.k) := K4.out.cell 5
        clear hv4 hg4 c0 c1 KR TR OR QR VR FR
        obtain ⟨gv, hgv⟩ : ∃ gv, gv = wr.heap.size := ⟨_, rfl⟩
        rw [← hgv] at V4 c2 lr LR ⊢
        clear hgv lr l3
        rcases tF_cases k hlt with e | e | e | e
        all_goals
          have hT := test_any k q w4
          rw [e] at hT c2
          have HT := hid hT
          clear hT e
          go_wp2_with fail
          refine HT.out.mono ?_
          clear HT
          rintro e w5 ⟨rfl, hb5⟩
          have K5 := hid (K4.out.below hb5 K4.out.lt)
          have T5 := hid (T4.out.below hb5 T4.out.lt)
          have V5 := hid (V4.out.below hb5 V4.out.lt)
          have O5 := hid (own_below O4.out hb5 (own_lt O4.out))
          have Q5 := hid (Q4.out.trans (hb5.mono Q4.out.size))
          have c0 : w5.cell? ⟨gv, 0, none⟩ = some (.int .i64 ((k : Int) + 4)) := V5.out.cell 0
          clear hb5 c2 b0 b1 b2 b3 b4 b5 K4 T4 V4 O4 Q4
          cases hb : tB q k
          · have HE := hid (show qFind q (k + 1) = qFind q k from by rw [qFind, hb]; simp)
            clear hb
            go_wp2
            go_roundw
            case rel => exact ⟨k + 1, A, c, by omega, by go_num, by rw [HE.out], K5.out, T5.out, by rw [HE.out]; exact O5.out, Q5.out⟩
            case measure => simp [intOf]; omega
          · have HE := hid (show qFind q (k + 1) = qFind q k ++ [(k : Int) + 4] from by rw [qFind, hb]; simp)
            clear hb
            go_wp2_with (first | (at_builtin; refine app1c (W := w5) (by rfl) _ _ _ (by rfl) 3 _ 8 Tryz.underlying33 info_int rfl w.heap.size (.slice A (qFind q k).length c) (qFind q k).length (nums (qFind q k)) O5.out (by rfl) (.int .i64 ((k : Int) + 4)) (by rfl) rfl (by have := HL.out; omega) (by decide) (Q5.out.size) ?_))
            intro g cap w6 ho6 hg6 hat6 hlt6
            have K6 := hid (K5.out.grown hg6 (own_ne O5.out K5.out (by decide)))
            have T6 := hid (T5.out.grown hg6 (own_ne O5.out T5.out (by decide)))
            have Q6 := hid (Q5.out.grown hg6 Q5.out.size (fun j e => own_base O5.out j e))
            have HN := hid (show (qFind q (k + 1)).length = (qFind q k).length + 1 from by rw [HE.out]; simp)
            have O6 := hid (show w6.ownsRow w.heap.size 3 1 (.slice (some ⟨g, 0, none⟩) (qFind q (k + 1)).length cap) (qFind q (k + 1)).length (nums (qFind q (k + 1))) from by rw [HN.out, HE.out]; simpa using ho6)
            clear ho6 hg6 hat6 hlt6 O5 K5 T5 V5 Q5 c0
            go_wp2
            go_roundw
            case rel => exact ⟨k + 1, _, cap, by omega, by go_num, by rw [HN.out], K6.out, T6.out, O6.out, Q6.out⟩
            case measure => simp [intOf]; omega
      · have hk4 : k = 4 := by omega
        subst hk4
        go_wp2
        go_ret
        exact ⟨A, c, by rw [HF.out]; rfl, by rw [HF.out]; exact hor, hqr⟩
