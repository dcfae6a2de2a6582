/- The better query. -/
import Derived.Test.YtkndkeeleaoooaaGreatLint
namespace Go.Proofs.YtkndkeeleaoooaaGreat
open Go.RowKit
set_option linter.unusedVariables false
set_option linter.unusedSimpArgs false
set_option maxRecDepth 100000
set_option maxHeartbeats 1000000

def bet1 (q : Qy) (n : Int) : Qy :=
  if n == 4 then ⟨q.kind, q.size, q.slide, q.size, q.agg, q.k⟩ else if n == 5 then ⟨q.kind, q.size, q.slide, q.late, 4, 0⟩ else if n == 6 then ⟨1, q.size, 0, q.late, q.agg, q.k⟩ else q
def betN (q : Qy) (k : Nat) : Qy := ((finds q).take k).foldl bet1 q
def better (q : Qy) : Qy := (finds q).foldl bet1 q
theorem betN_succ (q : Qy) (k : Nat) (h : k < (finds q).length) : betN q (k + 1) = bet1 (betN q k) (finds q)[k] := by
  unfold betN
  rw [List.take_succ_eq_append_getElem h, List.foldl_append]
  rfl
theorem finds_len (q : Qy) : (finds q).length ≤ 4 := by
  unfold finds
  split
  · exact qFind_len q 4
  · simp
theorem own_at {w : World} {base : Nat} {e : TypeId} {n : Nat} {A : Option Addr} {c : Nat} {xs : List Value} (h : w.ownsRow base e 1 (.slice A n c) n xs) (hn : 0 < n) :
    ∃ g, A = some ⟨g, 0, none⟩ ∧ base ≤ g ∧ g < w.heap.size ∧ n ≤ c ∧ ∀ j u, xs[j]? = some u → w.cell? ⟨g, j, none⟩ = some u := by
  obtain ⟨A', c', hv, h1, _, h3, h4⟩ := own_form h
  injection hv with e1 _ e2
  subst e1 e2
  rcases A with _ | ad
  · have := (h3 rfl).1; omega
  · obtain ⟨g, o, s⟩ := ad
    obtain ⟨a1, a2, a3, a4, a5⟩ := h4 _ rfl
    have a1 : o = 0 := a1
    have a2 : s = none := a2
    subst a1 a2
    exact ⟨g, rfl, a3, a4, h1, fun j u hu => by have := a5 j u hu; rwa [cell_add] at this⟩
theorem lint_Better (q : Qy) (w : World) :
    Calls Tryz.prog 5 #[q.v] w fun e w' => e = .returned (better q).v ∧ Below w.heap.size w w' := by
  have B1 := hid ((Blk.new w 23 (qC' q)).alloc (.cells (qC' ⟨0, 0, 0, 0, 0, 0⟩) 23))
  have Z1 := hid (show Blk ((w.alloc (.cells (qC' q) 23)).alloc (.cells (qC' ⟨0, 0, 0, 0, 0, 0⟩) 23)) (w.heap.size + 1) 23 (qC' ⟨0, 0, 0, 0, 0, 0⟩) from by simpa using Blk.new (w.alloc (.cells (qC' q) 23)) 23 (qC' ⟨0, 0, 0, 0, 0, 0⟩))
  have Q1 := hid (((Below.refl _ w).alloc (Nat.le_refl _) (.cells (qC' q) 23)).alloc (by simp) (.cells (qC' ⟨0, 0, 0, 0, 0, 0⟩) 23))
  have L1 := hid (show ((w.alloc (.cells (qC' q) 23)).alloc (.cells (qC' ⟨0, 0, 0, 0, 0, 0⟩) 23)).heap.size = w.heap.size + 2 from by simp)
  go_enter Tryz.func5, Tryz.ntmps5
  go_wp2_with fail
  refine (lint_Query q ((w.alloc (.cells (qC' q) 23)).alloc (.cells (qC' ⟨0, 0, 0, 0, 0, 0⟩) 23))).mono ?_
  rintro e w2 ⟨A, c, rfl, ho2, hb2⟩
  have Q2 := hid (Q1.out.trans (hb2.mono Q1.out.size))
  have B2 := hid (B1.out.below hb2 B1.out.lt)
  have Z2 := hid (Z1.out.below hb2 Z1.out.lt)
  have O2 := hid (show w2.ownsRow (w.heap.size + 2) 3 1 (.slice A (finds q).length c) (finds q).length (nums (finds q)) from L1.out ▸ ho2)
  have HL := hid (finds_len q)
  clear hb2 ho2 Q1 B1 Z1 L1
  go_wp2
  go_loopw [4, 8] (fun v i wr => ∃ k : Nat, k ≤ (finds q).length ∧ i = .int .i64 k ∧ Blk wr w.heap.size 23 (qC' (betN q k)) ∧ Blk wr (w.heap.size + 1) 23 (qC' ⟨0, 0, 0, 0, 0, 0⟩) ∧ wr.ownsRow (w.heap.size + 2) 3 1 (.slice A (finds q).length c) (finds q).length (nums (finds q)) ∧ Below w.heap.size w wr) (fun _ i _ => (finds q).length - (intOf i).toNat)
  case atStart => exact ⟨0, Nat.zero_le _, rfl, B2.out, Z2.out, O2.out, Q2.out⟩
  case round =>
    obtain ⟨k, hk, rfl, hbr, hzr, hor, hqr⟩ := hrel
    by_cases hlt : k < (finds q).length
    · have p0 : (0 : Int) ≤ (k : Int) := by omega
      have p1 : (k : Int) < ((finds q).length : Int) := by omega
      have hl4 := HL.out
      obtain ⟨gA, hA, hB, _, _, hcs⟩ := own_at hor (by omega)
      have HE := hid (betN_succ q k hlt)
      obtain ⟨n, hnn⟩ : ∃ n, n = (finds q)[k] := ⟨_, rfl⟩
      rw [← hnn] at HE
      have hc : wr.cell? ⟨gA, k, none⟩ = some (.int .i64 n) := hcs k _ (by rw [hnn]; simp [List.getElem?_eq_getElem hlt])
      subst hA
      obtain ⟨q', hq'⟩ : ∃ q', q' = betN q k := ⟨_, rfl⟩
      rw [← hq'] at HE hbr
      have c0 : wr.cell? ⟨w.heap.size, 0, none⟩ = some (.int .i64 q'.kind) := hbr.cell 0
      have c1 : wr.cell? ⟨w.heap.size, 1, none⟩ = some (.int .i64 q'.size) := hbr.cell 1
      have c2 : wr.cell? ⟨w.heap.size, 2, none⟩ = some (.int .i64 q'.slide) := hbr.cell 2
      have c3 : wr.cell? ⟨w.heap.size, 3, none⟩ = some (.int .i64 q'.late) := hbr.cell 3
      have c4 : wr.cell? ⟨w.heap.size, 4, none⟩ = some (.int .i64 q'.agg) := hbr.cell 4
      have c5 : wr.cell? ⟨w.heap.size, 5, none⟩ = some (.int .i64 q'.k) := hbr.cell 5
      have f0 := hbr.free 0
      have f2 := hbr.free 2
      have f3 := hbr.free 3
      have f4 := hbr.free 4
      have f5 := hbr.free 5
      have KR := hid hbr
      have ZR := hid hzr
      have OR := hid hor
      have QR := hid hqr
      have HO := hid (fun j h => own_base hor j h)
      clear hbr hzr hor hqr hq' hnn hB hcs B2 Z2 O2 Q2
      have step : ∀ (w' : World) (p : Qy), p = bet1 q' n → Blk w' w.heap.size 23 (qC' p) → wr.grownBy w' (some w.heap.size) →
          Blk w' w.heap.size 23 (qC' (betN q (k + 1))) ∧ Blk w' (w.heap.size + 1) 23 (qC' ⟨0, 0, 0, 0, 0, 0⟩) ∧ w'.ownsRow (w.heap.size + 2) 3 1 (.slice (some ⟨gA, 0, none⟩) (finds q).length c) (finds q).length (nums (finds q)) ∧ Below w.heap.size w w' := by
        rintro w' p rfl h1 h2
        exact ⟨HE.out ▸ h1, ZR.out.grown h2 (fun e => by have := Option.some.inj e; omega), OR.out.kept h2 (.inr (fun e => by have := HO.out _ e; omega)), QR.out.grown h2 QR.out.size (fun j e => by have := Option.some.inj e; omega)⟩
      have STEP := hid step
      clear step
      have set1 : ∀ (w1 : World) (j : Nat) (u : Value), w1.grownBy (w1.setCell ⟨w.heap.size, j, none⟩ u) (some w.heap.size) := fun w1 j u => ⟨rfl, rfl, rfl, by simp [World.setCell], fun k _ hne => Below.heap_setCell w1 _ u k (fun e => hne (by simp [e]))⟩
      have SET := hid set1
      clear set1
      cases h4 : (n == 4)
      · cases h5 : (n == 5)
        · cases h6 : (n == 6)
          · have HB := hid (show q' = bet1 q' n from by unfold bet1; rw [h4, h5, h6]; rfl)
            go_wp2
            go_roundw
            case rel => exact ⟨k + 1, by omega, by go_num, STEP.out wr q' HB.out KR.out (World.grownBy.refl _ _)⟩
            case measure => simp [intOf]; omega
          · have HB := hid (show (⟨1, q'.size, 0, q'.late, q'.agg, q'.k⟩ : Qy) = bet1 q' n from by unfold bet1; rw [h4, h5, h6]; rfl)
            go_wp2
            go_roundw
            case rel => exact ⟨k + 1, by omega, by go_num, STEP.out _ _ HB.out ((KR.out.set 0 (.int .i64 1)).set 2 (.int .i64 0)) ((SET.out wr 0 (.int .i64 1)).trans (SET.out _ 2 (.int .i64 0)))⟩
            case measure => simp [intOf]; omega
        · have HB := hid (show (⟨q'.kind, q'.size, q'.slide, q'.late, 4, 0⟩ : Qy) = bet1 q' n from by unfold bet1; rw [h4, h5]; rfl)
          go_wp2
          go_roundw
          case rel => exact ⟨k + 1, by omega, by go_num, STEP.out _ _ HB.out ((KR.out.set 4 (.int .i64 4)).set 5 (.int .i64 0)) ((SET.out wr 4 (.int .i64 4)).trans (SET.out _ 5 (.int .i64 0)))⟩
          case measure => simp [intOf]; omega
      · have HB := hid (show (⟨q'.kind, q'.size, q'.slide, q'.size, q'.agg, q'.k⟩ : Qy) = bet1 q' n from by unfold bet1; rw [h4]; rfl)
        go_wp2
        go_roundw
        case rel => exact ⟨k + 1, by omega, by go_num, STEP.out _ _ HB.out (KR.out.set 3 (.int .i64 q'.size)) (SET.out wr 3 (.int .i64 q'.size))⟩
        case measure => simp [intOf]; omega
    · have hk4 : k = (finds q).length := by omega
      subst hk4
      have HB := hid (show betN q (finds q).length = better q from by unfold betN better; rw [List.take_length])
      rw [HB.out] at hbr
      obtain ⟨p, hp⟩ : ∃ p, p = better q := ⟨_, rfl⟩
      rw [← hp] at hbr
      have HP := hid hp
      have KR := hid hbr
      have ZR := hid hzr
      have QR := hid hqr
      clear hbr hzr hqr hor hp HB B2 Z2 O2 Q2
      have HIZ := hid (show (Tryz.prog.info? 23).map (·.size) = some (qC' p).size from by kernel_rfl)
      have n1 : decide ((finds q).length < (finds q).length) = false := decide_eq_false (by omega)
      go_wp2_with (first
        | (refine wpList_load_row (w := wr) (by rfl) 23 _ (by rfl) w.heap.size (by rfl) 23 (qC' p) (0, 0) _ KR.out Tryz.underlying23 rfl HIZ.out ?_)
        | (refine storeB (w := wr) (by rfl) 23 _ _ (by rfl) (w.heap.size + 1) 0 23 (qC' ⟨0, 0, 0, 0, 0, 0⟩) (qC' p) (by rfl) (by rfl) ZR.out (by simp) HIZ.out (fun u hu => by simp at hu; rcases hu with h | h | h | h | h | h <;> subst h <;> rfl) ?_))
      intro w9 hk9 hg9
      rw [splice_all _ _ (by simp)] at hk9
      go_wp2
      refine bodyPost_ret (results_cell_row rfl _ w9 (w.heap.size + 1) 23 (qC' p) (0, 0) _ (by rfl) hk9 Tryz.underlying23 rfl HIZ.out) rfl ⟨by rw [← HP.out], ?_⟩
      exact QR.out.grown hg9 QR.out.size (fun j e => by have := Option.some.inj e; omega)
