/- What is known of a window's values: the longest of a query, and its bytes. -/
import Derived.Test.YtkndkeeleaoooaaGreatGauss
import Derived.Test.YtkndkeeleaoooaaGreatSound
import Derived.Test.YtkndkeeleaoooaaGreatSum
namespace Go.Proofs.YtkndkeeleaoooaaGreat
open Go.RowKit
set_option linter.unusedVariables false
set_option linter.unusedSimpArgs false
set_option maxRecDepth 100000
set_option maxHeartbeats 1000000

theorem agg_value (v : Int) (w : World) (h1 : -1099511627776 ≤ v) (h2 : v ≤ 1099511627776) :
    Calls Tryz.prog 75 #[.int .i64 v] w fun e w' => e = .returned (.bool true) ∧ w = w' := by
  go_enter Tryz.func75, Tryz.ntmps75
  go_wp2
  go_ret
  exact ⟨ret_bool (by simp), rfl⟩
def falls (l : List Int) : Prop := (∀ v ∈ l, -1099511627776 ≤ v ∧ v ≤ 1099511627776) ∧ ∀ i, (h : i + 1 < l.length) → l[i + 1] ≤ l[i]
theorem agg_falling (l : List Int) (A : Option Addr) (n c B : Nat) (hn : n = l.length) (w : World) (hr : Rds w B 1 A n c (nums l)) (hl : l.length ≤ 1000000) (hf : falls l) :
    Calls Tryz.prog 76 #[.slice A n c] w fun e w' => e = .returned (.bool true) ∧ w = w' := by
  subst hn
  have HR := hid hr
  have HF := hid hf
  clear hr hf
  go_enter Tryz.func76, Tryz.ntmps76
  go_wp2
  go_loop [3, 4, 7] (fun _ _ i => ∃ k : Nat, k ≤ l.length ∧ i = .int .i64 k) (fun _ _ i => l.length - (intOf i).toNat)
  case atStart => exact ⟨0, Nat.zero_le _, rfl⟩
  case round =>
    obtain ⟨k, hk, rfl⟩ := hrel
    by_cases hlt : k < l.length
    · have p0 : (0 : Int) ≤ (k : Int) := by omega
      have p1 : (k : Int) < (l.length : Int) := by omega
      obtain ⟨b, o, hA, hb, hc⟩ := HR.out.one hlt
      subst hA
      have c0 : w.cell? ⟨b, o + k, none⟩ = some (.int .i64 l[k]) := hc k _ (by simp [List.getElem?_eq_getElem hlt])
      have hv := HF.out.1 _ (List.getElem_mem hlt)
      have HV := hid hv
      rcases Nat.eq_zero_or_pos k with hk0 | hkp
      · subst hk0
        generalize l[0] = v at *
        clear hc hb hv
        rw [Nat.add_zero] at c0
        go_wp2_with fail
        refine (agg_value v w HV.out.1 HV.out.2).mono ?_
        rintro e w1 ⟨rfl, rfl⟩
        go_wp2
        go_round
        case rel => exact ⟨1, by omega, rfl⟩
        case measure => simp [intOf]; omega
      · have hp : k - 1 < l.length := by omega
        have c1 : w.cell? ⟨b, o + (k - 1), none⟩ = some (.int .i64 l[k - 1]) := hc (k - 1) _ (by simp [List.getElem?_eq_getElem hp])
        have hle : l[k] ≤ l[k - 1] := by have := HF.out.2 (k - 1) (by omega); simpa [Nat.sub_add_cancel hkp] using this
        generalize l[k - 1] = u at *
        generalize l[k] = v at *
        have hkp' : (0 : Int) < (k : Int) := by omega
        have hk1 : (0 : Int) ≤ (k : Int) - 1 := by omega
        have hk2 : (k : Int) - 1 < (l.length : Int) := by omega
        have hk3 : ((k : Int) - 1).toNat = k - 1 := by omega
        clear hc hb hv
        go_wp2_with fail
        refine (agg_value v w HV.out.1 HV.out.2).mono ?_
        rintro e w1 ⟨rfl, rfl⟩
        go_wp2
        go_round
        case rel => exact ⟨k + 1, by omega, by go_num⟩
        case measure => simp [intOf]; omega
    · have n1 : decide (k < l.length) = false := decide_eq_false hlt
      go_wp2
      go_ret
      exact ⟨rfl, rfl⟩

abbrev aggC (N A : Int) (T : Option Addr) (n c : Nat) (Z : Value) : Array Value := #[.int .i64 N, .int .i64 A, .slice T n c, Z]
abbrev aggV (N A : Int) (T : Option Addr) (n c : Nat) (Z : Value) : Value := .agg (aggC N A T n c Z)
/-- The number of what is known longest. -/
def lgA (g : Int) : Int := if g = 2 ∨ g = 5 then 4398046511104 else if g = 3 ∨ g = 4 then 1099511627776 else 0
theorem agg_cases {q : Qy} (h : QOk q) : q.agg = 1 ∨ q.agg = 2 ∨ q.agg = 3 ∨ q.agg = 4 ∨ q.agg = 5 ∨ q.agg = 6 ∨ q.agg = 7 := by
  unfold QOk at h
  omega
theorem agg_number (q : Qy) (hq : QOk q) (N : Int) (T : Option Addr) (n c : Nat) (Z : Value) (hz : Z.oneCell' = true) (w : World) :
    Calls Tryz.prog 62 #[q.v, aggV N (lgA q.agg) T n c Z] w fun e w' => e = .returned (.bool true) ∧ Below w.heap.size w w' := by
  have h := agg_cases hq
  obtain ⟨kind, size, slide, late, agg, k⟩ := q
  dsimp only at h
  clear hq
  rcases h with rfl | rfl | rfl | rfl | rfl | rfl | rfl
  all_goals
    first
    | rw [show lgA 1 = 0 from rfl]
    | rw [show lgA 2 = 4398046511104 from rfl]
    | rw [show lgA 3 = 1099511627776 from rfl]
    | rw [show lgA 4 = 1099511627776 from rfl]
    | rw [show lgA 5 = 4398046511104 from rfl]
    | rw [show lgA 6 = 0 from rfl]
    | rw [show lgA 7 = 0 from rfl]
    go_enter Tryz.func62, Tryz.ntmps62
    go_wp2_with (first | (go_at_call 75; refine (agg_value _ _ (by omega) (by omega)).mono ?_; rintro e w' ⟨rfl, rfl⟩))
    go_ret
    exact ⟨rfl, ((Below.refl _ _).alloc (Nat.le_refl _) _).alloc (by simp) _⟩

def lgT (q : Qy) : List Int := if q.agg = 6 then List.replicate q.k.toNat 1099511627776 else []
theorem falls_rep (k : Nat) : falls (List.replicate k 1099511627776) := by
  refine ⟨fun v hv => by rw [(List.mem_replicate.1 hv).2]; omega, fun i h => ?_⟩
  rw [List.getElem_replicate, List.getElem_replicate]
  exact Int.le_refl _
theorem agg_top (q : Qy) (hq : QOk q) (A : Int) (T : Option Addr) (n c B : Nat) (hn : n = (lgT q).length) (Z : Value) (hz : Z.oneCell' = true) (w : World) (hr : Rds w B 1 T n c (nums (lgT q))) (hB : B ≤ w.heap.size) :
    Calls Tryz.prog 63 #[q.v, aggV 1073741824 A T n c Z] w fun e w' => e = .returned (.bool true) ∧ Below w.heap.size w w' := by
  subst hn
  cases h6 : (q.agg == 6)
  · have h6' : ¬ q.agg = 6 := by simpa using h6
    have e : lgT q = [] := by unfold lgT; rw [if_neg h6']
    have hne : (q.agg != 6) = true := by simp [h6']
    rw [e] at hr ⊢
    clear h6' e hq hr
    go_enter Tryz.func63, Tryz.ntmps63
    go_wp2
    go_ret
    exact ⟨rfl, ((Below.refl _ _).alloc (Nat.le_refl _) _).alloc (by simp) _⟩
  · have h6' : q.agg = 6 := by simpa using h6
    have e : lgT q = List.replicate q.k.toNat 1099511627776 := by unfold lgT; rw [if_pos h6']
    have hne : (q.agg != 6) = false := by simp [h6']
    have hk : 1 ≤ q.k ∧ q.k ≤ 8 := by unfold QOk at hq; omega
    obtain ⟨k, hkk⟩ : ∃ k : Nat, k = q.k.toNat := ⟨_, rfl⟩
    have hkq : q.k = (k : Int) := by omega
    rw [e, ← hkk] at hr ⊢
    have hk1 : 1 ≤ k ∧ k ≤ 8 := by omega
    obtain ⟨kind, size, slide, late, agg, kq⟩ := q
    dsimp only at hkq hkk h6 h6' hne
    subst hkq h6'
    rw [List.length_replicate] at hr ⊢
    have HR := hid (((hr.alloc hB (.cells (qC' ⟨kind, size, slide, late, 6, k⟩) 23)).alloc (by simp; omega) (.cells (aggC 1073741824 A T k c Z) 89)))
    have HK := hid hk1
    have hk2 : (k : Int) ≤ 1073741824 := by omega
    clear e hkk hk hq hr
    go_enter Tryz.func63, Tryz.ntmps63
    go_wp2_with fail
    refine (agg_falling (List.replicate k 1099511627776) T k c B (by simp) _ HR.out (by simp; omega) (falls_rep k)).mono ?_
    rintro e w1 ⟨rfl, rfl⟩
    go_wp2
    go_ret
    exact ⟨rfl, ((Below.refl _ _).alloc (Nat.le_refl _) _).alloc (by simp) _⟩

def lgZ (g : Int) : Value := if g = 7 then zBig else zZero
theorem lgZ_one (g : Int) : (lgZ g).oneCell' = true := by unfold lgZ; split <;> rfl
theorem agg_Right (q : Qy) (hq : QOk q) (T : Option Addr) (n c B : Nat) (hn : n = (lgT q).length) (w : World) (hr : Rds w B 1 T n c (nums (lgT q))) (hB : B ≤ w.heap.size) :
    Calls Tryz.prog 49 #[q.v, aggV 1073741824 (lgA q.agg) T n c (lgZ q.agg)] w fun e w' => e = .returned (.bool true) ∧ Below w.heap.size w w' := by
  subst hn
  obtain ⟨A, hA⟩ : ∃ A, A = lgA q.agg := ⟨_, rfl⟩
  obtain ⟨Z, hZ⟩ : ∃ Z, Z = lgZ q.agg := ⟨_, rfl⟩
  rw [← hA, ← hZ]
  obtain ⟨n, hn⟩ : ∃ n, n = (lgT q).length := ⟨_, rfl⟩
  rw [← hn] at hr ⊢
  have HA := hid hA
  have HZ := hid hZ
  have HN := hid hn
  have HQ := hid hq
  have HQR := hid (qR_true.2 hq)
  have B1 := hid ((Blk.new w 23 (qC' q)).alloc (.cells (aggC 1073741824 A T n c Z) 89))
  have A1 := hid (Blk.new' (w.alloc (.cells (qC' q) 23)) 89 (aggC 1073741824 A T n c Z) (g := w.heap.size + 1) (by simp))
  have Q1 := hid (((Below.refl _ w).alloc (Nat.le_refl _) (.cells (qC' q) 23)).alloc (by simp) (.cells (aggC 1073741824 A T n c Z) 89))
  have R1 := hid ((hr.alloc hB (.cells (qC' q) 23)).alloc (by simp; omega) (.cells (aggC 1073741824 A T n c Z) 89))
  have HBB := hid hB
  have HO := hid (show Z.oneCell' = true from by rw [hZ]; exact lgZ_one _)
  clear hr hq hn hA hZ hB
  go_enter Tryz.func49, Tryz.ntmps49
  go_upto_region 1 with fail
  change Code.wp _ _ _ _ ((w.alloc (.cells (qC' q) 23)).alloc (.cells (aggC 1073741824 A T n c Z) 89))
  generalize (w.alloc (.cells (qC' q) 23)).alloc (.cells (aggC 1073741824 A T n c Z) 89) = w1 at *
  have b0 : w1.cell? ⟨w.heap.size, 0, none⟩ = some (.int .i64 q.kind) := B1.out.cell 0
  have b1 : w1.cell? ⟨w.heap.size, 1, none⟩ = some (.int .i64 q.size) := B1.out.cell 1
  have b2 : w1.cell? ⟨w.heap.size, 2, none⟩ = some (.int .i64 q.slide) := B1.out.cell 2
  have b3 : w1.cell? ⟨w.heap.size, 3, none⟩ = some (.int .i64 q.late) := B1.out.cell 3
  have b4 : w1.cell? ⟨w.heap.size, 4, none⟩ = some (.int .i64 q.agg) := B1.out.cell 4
  have b5 : w1.cell? ⟨w.heap.size, 5, none⟩ = some (.int .i64 q.k) := B1.out.cell 5
  go_wp2_with fail
  refine (query_Right q w1).mono ?_
  rintro e w2 ⟨rfl, hb2⟩
  rw [HQR.out]
  have B2 := hid (B1.out.below hb2 B1.out.lt)
  have A2 := hid (A1.out.below hb2 A1.out.lt)
  have Q2 := hid (Q1.out.trans (hb2.mono Q1.out.size))
  have R2 := hid (R1.out.below (hb2.mono (by have := HBB.out; have := Q1.out.size; omega)))
  clear hb2 b0 b1 b2 b3 b4 b5 B1 A1 Q1 R1
  have b0 : w2.cell? ⟨w.heap.size, 0, none⟩ = some (.int .i64 q.kind) := B2.out.cell 0
  have b1 : w2.cell? ⟨w.heap.size, 1, none⟩ = some (.int .i64 q.size) := B2.out.cell 1
  have b2 : w2.cell? ⟨w.heap.size, 2, none⟩ = some (.int .i64 q.slide) := B2.out.cell 2
  have b3 : w2.cell? ⟨w.heap.size, 3, none⟩ = some (.int .i64 q.late) := B2.out.cell 3
  have b4 : w2.cell? ⟨w.heap.size, 4, none⟩ = some (.int .i64 q.agg) := B2.out.cell 4
  have b5 : w2.cell? ⟨w.heap.size, 5, none⟩ = some (.int .i64 q.k) := B2.out.cell 5
  have a0 : w2.cell? ⟨w.heap.size + 1, 0, none⟩ = some (.int .i64 1073741824) := A2.out.cell 0
  have a1 : w2.cell? ⟨w.heap.size + 1, 1, none⟩ = some (.int .i64 A) := A2.out.cell 1
  have a2 : w2.cell? ⟨w.heap.size + 1, 2, none⟩ = some (.slice T n c) := A2.out.cell 2
  have a3 : w2.cell? ⟨w.heap.size + 1, 3, none⟩ = some Z := A2.out.cell 3
  go_wp2_with fail
  have key := agg_number q HQ.out 1073741824 T n c Z HO.out w2
  rw [← HA.out] at key
  refine key.mono ?_
  clear key
  rintro e w3 ⟨rfl, hb3⟩
  have B3 := hid (B2.out.below hb3 B2.out.lt)
  have A3 := hid (A2.out.below hb3 A2.out.lt)
  have Q3 := hid (Q2.out.trans (hb3.mono Q2.out.size))
  have R3 := hid (R2.out.below (hb3.mono (by have := HBB.out; have := Q2.out.size; omega)))
  clear hb3 b0 b1 b2 b3 b4 b5 a0 a1 a2 a3 B2 A2 Q2 R2
  have b0 : w3.cell? ⟨w.heap.size, 0, none⟩ = some (.int .i64 q.kind) := B3.out.cell 0
  have b1 : w3.cell? ⟨w.heap.size, 1, none⟩ = some (.int .i64 q.size) := B3.out.cell 1
  have b2 : w3.cell? ⟨w.heap.size, 2, none⟩ = some (.int .i64 q.slide) := B3.out.cell 2
  have b3 : w3.cell? ⟨w.heap.size, 3, none⟩ = some (.int .i64 q.late) := B3.out.cell 3
  have b4 : w3.cell? ⟨w.heap.size, 4, none⟩ = some (.int .i64 q.agg) := B3.out.cell 4
  have b5 : w3.cell? ⟨w.heap.size, 5, none⟩ = some (.int .i64 q.k) := B3.out.cell 5
  have a0 : w3.cell? ⟨w.heap.size + 1, 0, none⟩ = some (.int .i64 1073741824) := A3.out.cell 0
  have a1 : w3.cell? ⟨w.heap.size + 1, 1, none⟩ = some (.int .i64 A) := A3.out.cell 1
  have a2 : w3.cell? ⟨w.heap.size + 1, 2, none⟩ = some (.slice T n c) := A3.out.cell 2
  have a3 : w3.cell? ⟨w.heap.size + 1, 3, none⟩ = some Z := A3.out.cell 3
  go_wp2_with fail
  refine (agg_top q HQ.out A T n c B HN.out Z HO.out w3 R3.out (by have := HBB.out; have := Q3.out.size; omega)).mono ?_
  rintro e w4 ⟨rfl, hb4⟩
  have B4 := hid (B3.out.below hb4 B3.out.lt)
  have A4 := hid (A3.out.below hb4 A3.out.lt)
  have Q4 := hid (Q3.out.trans (hb4.mono Q3.out.size))
  clear hb4 b0 b1 b2 b3 b4 b5 a0 a1 a2 a3 B3 A3 Q3 R3
  have b0 : w4.cell? ⟨w.heap.size, 0, none⟩ = some (.int .i64 q.kind) := B4.out.cell 0
  have b1 : w4.cell? ⟨w.heap.size, 1, none⟩ = some (.int .i64 q.size) := B4.out.cell 1
  have b2 : w4.cell? ⟨w.heap.size, 2, none⟩ = some (.int .i64 q.slide) := B4.out.cell 2
  have b3 : w4.cell? ⟨w.heap.size, 3, none⟩ = some (.int .i64 q.late) := B4.out.cell 3
  have b4 : w4.cell? ⟨w.heap.size, 4, none⟩ = some (.int .i64 q.agg) := B4.out.cell 4
  have b5 : w4.cell? ⟨w.heap.size, 5, none⟩ = some (.int .i64 q.k) := B4.out.cell 5
  have a0 : w4.cell? ⟨w.heap.size + 1, 0, none⟩ = some (.int .i64 1073741824) := A4.out.cell 0
  have a1 : w4.cell? ⟨w.heap.size + 1, 1, none⟩ = some (.int .i64 A) := A4.out.cell 1
  have a2 : w4.cell? ⟨w.heap.size + 1, 2, none⟩ = some (.slice T n c) := A4.out.cell 2
  have a3 : w4.cell? ⟨w.heap.size + 1, 3, none⟩ = some Z := A4.out.cell 3
  cases h7 : (q.agg == 7)
  · have e : Z = zZero := by rw [HZ.out]; unfold lgZ; rw [if_neg (by simpa using h7)]
    subst e
    have h7' : (q.agg != 7) = true := by simpa using h7
    have o := ord_5
    go_wp2_with fail
    refine (gR_zero w4).mono ?_
    rintro e w5 ⟨rfl, rfl⟩
    go_wp2
    go_ret
    exact ⟨rfl, Q4.out⟩
  · have e : Z = zBig := by rw [HZ.out]; unfold lgZ; rw [if_pos (by simpa using h7)]
    subst e
    have h7' : (q.agg != 7) = false := by simpa using h7
    go_wp2_with fail
    refine (gR_big w4).mono ?_
    rintro e w5 ⟨rfl, rfl⟩
    go_wp2
    go_ret
    exact ⟨rfl, Q4.out⟩
