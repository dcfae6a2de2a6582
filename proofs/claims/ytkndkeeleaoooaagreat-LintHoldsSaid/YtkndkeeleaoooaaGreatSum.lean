/- The sum: of what was written, of bytes. -/
import Derived.Test.YtkndkeeleaoooaaGreatTail
namespace Go.Proofs.YtkndkeeleaoooaaGreat
open Go.RowKit
set_option linter.unusedVariables false
set_option linter.unusedSimpArgs false
set_option maxRecDepth 100000
set_option maxHeartbeats 1000000

abbrev u8s (l : List Int) : Array Value := (nums8 l).toArray
def zeros32 : List Int := List.replicate 32 0
def outU (l : List Int) : Nat → List Int
  | 0 => zeros32
  | i + 1 => ((((outU l i).set (4 * i) (l.getD i 0 / 16777216 % 256)).set (4 * i + 1) (l.getD i 0 / 65536 % 256)).set (4 * i + 2) (l.getD i 0 / 256 % 256)).set (4 * i + 3) (l.getD i 0 % 256)
theorem outU_len (l : List Int) : ∀ i, (outU l i).length = 32
  | 0 => by simp [outU, zeros32]
  | i + 1 => by simp [outU, outU_len l i]
def Hs.sum (h : Hs) : List Int := outU (h.write (tailL h.n)).st.l 8
theorem Hs.sum_len (h : Hs) : h.sum.length = 32 := outU_len _ _
theorem u8_at {w : World} {g t : Nat} {ws : List Int} (h : Blk w g t (u8s ws)) {j : Nat} (hj : j < ws.length) : w.cell? ⟨g, j, none⟩ = some (.int .u8 (ws.getD j 0)) := by
  rw [h.cell j]
  simp [u8s, nums8, hj]
theorem u8_set {w : World} {g t : Nat} {ws : List Int} (h : Blk w g t (u8s ws)) (j : Nat) (x : Int) : Blk (w.setCell ⟨g, j, none⟩ (.int .u8 x)) g t (u8s (ws.set j x)) := by
  have := h.set j (.int .u8 x)
  simpa [u8s, nums8, List.map_set] using this

section
variable {P : Program} {ops : Array Oper} {rest : List Oper} {o : Oper} {a : Act} {Q : Exit → Act → World → Prop}
/-- 'a[i]' of an array by value, of numbers. -/
theorem indexA {W : World} (hgd : o.guard = none) (t : TypeId) (x y : Operand) (ho : o.op = .index t x y) (e : TypeId) (n : Nat) {k : IntKind} (ht : P.underlying t = some (.array n e)) (he : P.underlying e = some (.int k)) (hsz : (P.info? e).map (fun i => i.size) = some 1)
    (cs : Array Value) (i : Nat) (v : Value) (hi : i < n) (hv : cs[i]? = some v) (hx : a.eval x = .agg cs) (hy : a.eval y = .int .i64 i) (h : wpList P ops Q rest (a.put o.dst v) W) : wpList P ops Q (o :: rest) a W := by
  refine wpList_plain hgd fun K hK => ?_
  obtain ⟨i0, hi0, hz⟩ : ∃ i0, P.info? e = some i0 ∧ i0.size = 1 := by
    cases hq : P.info? e with
    | none => rw [hq] at hsz; cases hsz
    | some i0 => rw [hq] at hsz; exact ⟨i0, rfl, by simpa using hsz⟩
  have hnin : ¬ (n ≤ i) := by omega
  have hr : (Instr.index t (.agg cs) (.int .i64 i)).run P W = .ok v W := by
    simp [Instr.index, run_underlying ht, run_underlying he, asIntOf, hi, part, isAgg, sizeOf, typeInfo, hi0, hz, hv]
  unfold Oper.wp execOp
  simp only [ho, hx, hy, hr, Sem.run_bind, Sem.run_pure, Result.andThen_ok]
  exact hK _ _ h
end

theorem sha_Sum (g : Nat) (h : Hs) (w : World) (hh : HsAt w g h) (hl : h.n + h.rest.length ≤ 90000000000) :
    Calls Tryz.prog 83 #[.pointer (some ⟨g, 0, none⟩)] w fun e w' => e = .returned (.agg (u8s h.sum)) ∧ Below w.heap.size w w' := by
  have HH := hid (hh.below ((Below.refl _ w).alloc (Nat.le_refl _) (.cells (u8s zeros32) 62)))
  have HL := hid hl
  have HZ := hid (Blk.new w 62 (u8s zeros32))
  clear hh hl
  go_enter Tryz.func83, Tryz.ntmps83
  go_wp2_with fail
  refine (sha_Clone g h (w.alloc (.cells (u8s zeros32) 62)) HH.out (by have := HL.out; omega)).mono ?_
  rintro e w1 ⟨g2, rfl, hg2, hh1, hb1⟩
  obtain ⟨A0, k0, c0, B0, hk0, hblk, hr0, hB0, hne0⟩ := hh1
  obtain ⟨n0, hn0⟩ : ∃ n0 : Nat, n0 = h.n := ⟨_, rfl⟩
  rw [← hn0] at hblk
  have c9 : w1.cell? ⟨g2, 9, none⟩ = some (.int .i64 n0) := hblk.cell 9
  rw [hn0] at hblk
  have HH1 := hid (show HsAt w1 g2 h from ⟨A0, k0, c0, B0, hk0, hblk, hr0, hB0, hne0⟩)
  have HB1 := hid hb1
  have HG2 := hid hg2
  have HN := hid hn0
  clear hk0 hblk hr0 hB0 hne0 hb1 hg2 hn0
  go_wp2_with fail
  refine (sha_tail n0 w1 (by have := HN.out; have := HL.out; omega)).mono ?_
  rintro e w2 ⟨A, c, m, hm, rfl, ho2, hb2⟩
  have HH2 := hid (HH1.out.below hb2)
  have HB2 := hid hb2
  have HO2 := hid ho2
  have HM := hid hm
  have HT := hid (tailL_len n0)
  clear hm ho2 hb2 c9
  go_wp2_with fail
  refine (sha_Write g2 h (tailL n0) A m c w2.heap.size HM.out w2 HH2.out (Rds.of_own HO2.out) (Nat.le_refl _) (fun ad e => ?_) (by have := HL.out; have := HT.out; omega)).mono ?_
  · obtain ⟨A', c', hv, q1, q2, q3, q4⟩ := own_form HO2.out
    injection hv with e1 _ _
    have := (q4 ad (e1 ▸ e)).2.2.1
    have := HH1.out.lt
    omega
  rintro e w3 ⟨rfl, hh3, hg3⟩
  rw [HN.out] at hh3
  obtain ⟨A1, k1, c1, B1, hk1, hblk, _⟩ := hh3
  obtain ⟨st, hst⟩ : ∃ st, st = (h.write (tailL h.n)).st := ⟨_, rfl⟩
  rw [← hst] at hblk
  have HW3 := hid (hblk.alloc (.cells (u8s zeros32) 62))
  have HO3 := hid (Blk.new w3 62 (u8s zeros32))
  have HBW := hid ((Below.refl _ w).alloc (Nat.le_refl _) (.cells (u8s zeros32) 62))
  have hs0 : (w.alloc (.cells (u8s zeros32) 62)).heap.size = w.heap.size + 1 := by simp
  have hb1 := HB1.out
  have hg2 := HG2.out
  rw [hs0] at hb1 hg2
  have q1 : Below w.heap.size w w1 := HBW.out.trans (hb1.mono (by omega))
  have q2 : Below w.heap.size w w2 := q1.trans (HB2.out.mono q1.size)
  have q3 : Below w.heap.size w w3 := q2.grown hg3 q2.size (by simp; omega)
  have q4 : Below w.heap.size w (w3.alloc (.cells (u8s zeros32) 62)) := q3.alloc q3.size _
  have z1 : Blk w1 w.heap.size 62 (u8s zeros32) := HZ.out.below hb1 (by omega)
  have z2 := z1.below HB2.out z1.lt
  have z3 := z2.grown hg3 (by simp; omega)
  have z4 := z3.alloc (.cells (u8s zeros32) 62)
  have hlt3 : w.heap.size < w3.heap.size := z3.lt
  have hw4 := HW3.out
  have ho4 := HO3.out
  have hst2 := hid hst
  have hn3 : (h.write (tailL h.n)).n = (h.write (tailL h.n)).n := rfl
  obtain ⟨n3, hn3⟩ : ∃ n3 : Int, n3 = ((h.write (tailL h.n)).n : Int) := ⟨_, rfl⟩
  obtain ⟨on3, hon3⟩ : ∃ on3 : Bool, on3 = (h.write (tailL h.n)).on := ⟨_, rfl⟩
  rw [← hn3, ← hon3] at hw4
  obtain ⟨gr, hgr⟩ : ∃ gr : Nat, gr = w3.heap.size := ⟨_, rfl⟩
  rw [← hgr] at ho4 hlt3
  have Z4 := hid z4
  have W4 := hid hw4
  have O4 := hid ho4
  have Q4 := hid q4
  have HLT := hid hlt3
  have HST := hst2
  have HGR := hid hgr
  have HG2' := hid (show w.heap.size < g2 from by omega)
  clear HBW hs0 hb1 hg2 q1 q2 q3 q4 z1 z2 z3 z4 hlt3 hw4 ho4 hst2 hst hn3 hon3 hgr HW3 HO3 hblk HB1 HG2 HB2 HH1 HH2 HO2 HM HT HZ HH hg3 hk1
  go_upto_region 6 with fail
  rw [← HGR.out]
  change Code.wp _ _ _ _ (w3.alloc (.cells (u8s zeros32) 62))
  generalize w3.alloc (.cells (u8s zeros32) 62) = w4 at *
  clear HGR
  have x0 : w4.cell? ⟨g2, 0, none⟩ = some (.int .u32 st.a) := W4.out.cell 0
  have x1 : w4.cell? ⟨g2, 1, none⟩ = some (.int .u32 st.b) := W4.out.cell 1
  have x2 : w4.cell? ⟨g2, 2, none⟩ = some (.int .u32 st.c) := W4.out.cell 2
  have x3 : w4.cell? ⟨g2, 3, none⟩ = some (.int .u32 st.d) := W4.out.cell 3
  have x4 : w4.cell? ⟨g2, 4, none⟩ = some (.int .u32 st.e) := W4.out.cell 4
  have x5 : w4.cell? ⟨g2, 5, none⟩ = some (.int .u32 st.f) := W4.out.cell 5
  have x6 : w4.cell? ⟨g2, 6, none⟩ = some (.int .u32 st.g) := W4.out.cell 6
  have x7 : w4.cell? ⟨g2, 7, none⟩ = some (.int .u32 st.h) := W4.out.cell 7
  go_wp2
  clear x0 x1 x2 x3 x4 x5 x6 x7
  go_loopw [23] (fun x wr => ∃ i : Nat, i ≤ 8 ∧ x = .int .i64 i ∧ Blk wr gr 62 (u8s (outU st.l i)) ∧ Blk wr w.heap.size 62 (u8s zeros32) ∧ Below w.heap.size w wr) (fun x _ => 8 - (intOf x).toNat)
  case atStart => exact ⟨0, by omega, rfl, O4.out, Z4.out, Q4.out⟩
  case round =>
    clear O4 Z4 Q4 W4
    obtain ⟨i, hi, rfl, ho, hz, hb⟩ := hrel
    by_cases hlt : i < 8
    · have a0 := u8_at ho (j := 4 * i) (by rw [outU_len]; omega)
      have a1 := u8_at ho (j := 4 * i + 1) (by rw [outU_len]; omega)
      have a2 := u8_at ho (j := 4 * i + 2) (by rw [outU_len]; omega)
      have a3 := u8_at ho (j := 4 * i + 3) (by rw [outU_len]; omega)
      have f0 := ho.free (4 * i)
      have f1 := ho.free (4 * i + 1)
      have f2 := ho.free (4 * i + 2)
      have f3 := ho.free (4 * i + 3)
      have HO := hid ho
      have HZ := hid hz
      have HB := hid hb
      clear ho hz hb
      have b0 : (0 : Int) ≤ 4 * (i : Int) := by omega
      have b1 : (0 : Int) ≤ 4 * (i : Int) + 1 := by omega
      have b2 : (0 : Int) ≤ 4 * (i : Int) + 2 := by omega
      have b3 : (0 : Int) ≤ 4 * (i : Int) + 3 := by omega
      have l0 : 4 * (i : Int) < 32 := by omega
      have l1 : 4 * (i : Int) + 1 < 32 := by omega
      have l2 : 4 * (i : Int) + 2 < 32 := by omega
      have l3 : 4 * (i : Int) + 3 < 32 := by omega
      have p0 : (0 : Int) ≤ (i : Int) := by omega
      have p1 : (i : Int) < 8 := by omega
      have n0' : (4 * (i : Int)).toNat = 4 * i := by omega
      have n1 : (4 * (i : Int) + 1).toNat = 4 * i + 1 := by omega
      have n2 : (4 * (i : Int) + 2).toNat = 4 * i + 2 := by omega
      have n3 : (4 * (i : Int) + 3).toNat = 4 * i + 3 := by omega
      have e0 : IntKind.i64.wrap (4 * (i : Int)) = 4 * (i : Int) := IntWalk.i64_in _ (by omega)
      have e1 : IntKind.i64.wrap (4 * (i : Int) + 1) = 4 * (i : Int) + 1 := IntWalk.i64_in _ (by omega)
      have e2 : IntKind.i64.wrap (4 * (i : Int) + 2) = 4 * (i : Int) + 2 := IntWalk.i64_in _ (by omega)
      have e3 : IntKind.i64.wrap (4 * (i : Int) + 3) = 4 * (i : Int) + 3 := IntWalk.i64_in _ (by omega)
      have hv : (us st.l)[i]? = some (.int .u32 (st.l.getD i 0)) := by
        have : i < st.l.length := by simp [V8.l]; omega
        simp [us, this]
      have HV := hid hv
      clear hv
      go_wp2_with (first | (refine indexA (by rfl) 142 _ _ (by rfl) 117 8 Tryz.underlying142 Tryz.underlying117 (by kernel_rfl) (us st.l) i (.int .u32 (st.l.getD i 0)) (by omega) HV.out (by rfl) (by rfl) ?_))
      go_roundw
      case rel =>
        have k0 := u8_set HO.out (4 * i) (st.l[i]?.getD 0 / 16777216 % 256)
        have k1 := u8_set k0 (4 * i + 1) (st.l[i]?.getD 0 / 65536 % 256)
        have k2 := u8_set k1 (4 * i + 2) (st.l[i]?.getD 0 / 256 % 256)
        have k3 := u8_set k2 (4 * i + 3) (st.l[i]?.getD 0 % 256)
        have hne := HLT.out
        refine ⟨i + 1, by omega, by go_num, ?_, ((((HZ.out.far (p := ⟨gr, 4 * i, none⟩) (by simp; omega) _).far (p := ⟨gr, 4 * i + 1, none⟩) (by simp; omega) _).far (p := ⟨gr, 4 * i + 2, none⟩) (by simp; omega) _).far (p := ⟨gr, 4 * i + 3, none⟩) (by simp; omega) _), ((((HB.out.setCell (p := ⟨gr, 4 * i, none⟩) (by simp; omega) _).setCell (p := ⟨gr, 4 * i + 1, none⟩) (by simp; omega) _).setCell (p := ⟨gr, 4 * i + 2, none⟩) (by simp; omega) _).setCell (p := ⟨gr, 4 * i + 3, none⟩) (by simp; omega) _)⟩
        simpa [outU, List.getD_eq_getElem?_getD] using k3
      case measure => simp [intOf]; omega
    · have e8 : i = 8 := by omega
      subst e8
      have n3 : decide (((8 : Nat) : Int) < 8) = false := by decide
      have hs2 := hb.size
      have HO5 := hid ho
      have HZ5 := hid hz
      have HB5 := hid hb
      clear ho hz hb hi hlt
      go_wp2_with (first | (refine wpList_load_row (by rfl) 62 _ (by rfl) gr (by rfl) 62 (u8s (outU st.l 8)) (0, 0) _ HO5.out Tryz.underlying62 rfl (by rw [show (u8s (outU st.l 8)).size = 32 from by simp [u8s, nums8, outU_len]]; kernel_rfl) ?_) | (refine storeB (by rfl) 62 _ _ (by rfl) w.heap.size 0 62 (u8s zeros32) (u8s (outU st.l 8)) (by rfl) (by rfl) HZ5.out (by simp [u8s, nums8, outU_len, zeros32]) (by rw [show (u8s (outU st.l 8)).size = 32 from by simp [u8s, nums8, outU_len]]; kernel_rfl) (by simpa using ints_oneCell .u8 (outU st.l 8)) ?_))
      intro w9 hk9 hg9
      go_wp2
      have hk10 : Blk w9 w.heap.size 62 (u8s h.sum) := by
        rw [splice_all _ _ (by simp [u8s, nums8, outU_len, zeros32])] at hk9
        rw [Hs.sum, ← HST.out]
        exact hk9
      refine bodyPost_ret (results_cell_row rfl _ w9 w.heap.size 62 (u8s h.sum) (0, 0) _ (by rfl) hk10 Tryz.underlying62 rfl (by rw [show (u8s h.sum).size = 32 from by simp [u8s, nums8, Hs.sum_len]]; kernel_rfl)) rfl ⟨rfl, ?_⟩
      exact HB5.out.grown hg9 hs2 (by simp)

theorem Rds.one {w : World} {B n c : Nat} {A : Option Addr} {xs : List Value} (h : Rds w B 1 A n c xs) {k : Nat} (hk : k < n) : ∃ b off, A = some ⟨b, off, none⟩ ∧ b < B ∧ ∀ j u, xs[j]? = some u → w.cell? ⟨b, off + j, none⟩ = some u := by
  obtain ⟨b, off, rfl, hb, _⟩ := h.elem (k := k) hk (by omega)
  exact ⟨b, off, rfl, hb, fun j u hu => by rw [← cell_add']; exact (h.2.2.2.2 _ rfl).2 j u hu⟩
/-- Rows of bytes, in a row. -/
def Parts (w : World) (B : Nat) (A : Option Addr) (n c : Nat) (ps : List (List Int)) : Prop :=
  ∃ pv : List Value, Rds w B 1 A n c pv ∧ n = ps.length ∧ ∀ (j : Nat) (p : List Int), ps[j]? = some p → ∃ A' n' c', pv[j]? = some (Value.slice A' n' c') ∧ n' = p.length ∧ Rds w B 1 A' n' c' (nums8 p)
theorem Parts.below {w w' : World} {B n c : Nat} {A : Option Addr} {ps : List (List Int)} (h : Parts w B A n c ps) (hb : Below B w w') : Parts w' B A n c ps := by
  obtain ⟨pv, h1, h2, h3⟩ := h
  refine ⟨pv, h1.below hb, h2, fun j p hp => ?_⟩
  obtain ⟨A', n', c', e1, e2, e3⟩ := h3 j p hp
  exact ⟨A', n', c', e1, e2, e3.below hb⟩
def total (ps : List (List Int)) : Nat := (ps.map List.length).sum
def Hs.writes (h : Hs) (ps : List (List Int)) : Hs := ps.foldl Hs.write h
theorem writes_n (ps : List (List Int)) : ∀ h : Hs, (h.writes ps).n = h.n + total ps := by
  induction ps with
  | nil => intro h; rfl
  | cons p ps ih => intro h; show ((h.write p).writes ps).n = _; rw [ih]; simp [total, Hs.write]; omega
theorem writes_rest (ps : List (List Int)) : ∀ h : Hs, h.rest.length < 64 → (h.writes ps).rest.length < 64 := by
  induction ps with
  | nil => intro h hh; exact hh
  | cons p ps ih => intro h hh; exact ih _ (absorb_len _ _)
theorem writes_take (h : Hs) (ps : List (List Int)) (i : Nat) (p : List Int) (hp : ps[i]? = some p) : h.writes (ps.take (i + 1)) = (h.writes (ps.take i)).write p := by
  unfold Hs.writes
  rw [List.take_add_one, hp]
  simp
theorem total_take (ps : List (List Int)) (i : Nat) : total (ps.take i) ≤ total ps := by
  have h : total ps = total (ps.take i) + total (ps.drop i) := by
    unfold total
    rw [← List.sum_append, ← List.map_append, List.take_append_drop]
  omega
theorem total_at (ps : List (List Int)) (i : Nat) (p : List Int) (hp : ps[i]? = some p) : total (ps.take i) + p.length ≤ total ps := by
  have h := total_take ps (i + 1)
  rw [List.take_add_one, hp] at h
  simpa [total] using h
def sumL (ps : List (List Int)) : List Int := (Hs.new.writes ps).sum
theorem sumL_len (ps : List (List Int)) : (sumL ps).length = 32 := Hs.sum_len _

theorem sha_SumAll (ps : List (List Int)) (A : Option Addr) (n c B : Nat) (w : World) (hp : Parts w B A n c ps) (hB : B ≤ w.heap.size) (hl : total ps ≤ 80000000000) :
    Calls Tryz.prog 73 #[.slice A n c] w fun e w' => e = .returned (.agg (u8s (sumL ps))) ∧ Below w.heap.size w w' := by
  have HP := hid hp
  have HL := hid hl
  have HBB := hid hB
  have HZ := hid (Blk.new w 62 (u8s zeros32))
  have HBW := hid ((Below.refl _ w).alloc (Nat.le_refl _) (.cells (u8s zeros32) 62))
  have hn : n = ps.length := by obtain ⟨pv, h1, h2, h3⟩ := hp; exact h2
  have HN := hid hn
  have hc : n ≤ 9223372036854775807 := by
    obtain ⟨pv, h1, h2, h3⟩ := hp
    have := h1.2.1; have := h1.2.2.1; simp only [maxLen] at this; omega
  clear hp hl hB hn
  go_enter Tryz.func73, Tryz.ntmps73
  go_wp2_with fail
  refine (sha_New (w.alloc (.cells (u8s zeros32) 62))).mono ?_
  rintro e w1 ⟨rfl, hb1, hbl1, hs1⟩
  have hs0 : (w.alloc (.cells (u8s zeros32) 62)).heap.size = w.heap.size + 1 := by simp
  rw [hs0] at hb1 hbl1
  obtain ⟨g, hg⟩ : ∃ g, g = (w.alloc (.cells (u8s zeros32) 62)).heap.size := ⟨_, rfl⟩
  have q1 : Below w.heap.size w w1 := HBW.out.trans (hbl1.mono (by omega))
  have z1 : Blk w1 w.heap.size 62 (u8s zeros32) := HZ.out.below hbl1 (by omega)
  have hg2 : g = w.heap.size + 1 := by rw [hg, hs0]
  rw [← hg2] at hb1
  have HH := hid (HsAt.new hb1)
  have HG2 := hid hg2
  have HG := hid hg
  have Q1 := hid q1
  have Z1 := hid z1
  clear hb1 hbl1 hs1 hs0 q1 z1 hg2 hg HZ HBW
  go_wp2_with fail
  rw [← HG2.out]
  go_loopw [9] (fun x wr => ∃ i : Nat, i ≤ n ∧ x = .int .i64 i ∧ HsAt wr g (Hs.new.writes (ps.take i)) ∧ Blk wr w.heap.size 62 (u8s zeros32) ∧ Below w.heap.size w wr) (fun x _ => n - (intOf x).toNat)
  case atStart => exact ⟨0, by omega, rfl, HH.out, Z1.out, Q1.out⟩
  case round =>
    clear HH Z1 Q1
    obtain ⟨i, hi, rfl, hh, hz, hb⟩ := hrel
    by_cases hlt : i < n
    · have hp := HP.out.below (hb.mono HBB.out)
      obtain ⟨pv, r1, r2, r3⟩ := hp
      have hpi : ps[i]? = some ps[i] := List.getElem?_eq_getElem (by omega)
      obtain ⟨A', n', c', e1, e2, e3⟩ := r3 i _ hpi
      obtain ⟨b, off, rfl, hbB, hcell⟩ := r1.one hlt
      have ci := hcell i _ e1
      obtain ⟨p, hp'⟩ : ∃ p, p = ps[i] := ⟨_, rfl⟩
      rw [← hp'] at hpi e2 e3
      have HPI := hid hpi
      have E2 := hid e2
      have E3 := hid e3
      have HH := hid hh
      have HZ := hid hz
      have HB := hid hb
      have p0 : (0 : Int) ≤ (i : Int) := by omega
      have p1 : (i : Int) < (n : Int) := by omega
      clear hpi e1 e2 e3 r1 r2 r3 hcell hh hz hb hp'
      go_wp2_with fail
      have hT := total_at ps i p HPI.out
      have hW := writes_n (ps.take i) Hs.new
      have hR := writes_rest (ps.take i) Hs.new (by decide)
      refine (sha_Write g (Hs.new.writes (ps.take i)) p A' n' c' B E2.out wr HH.out E3.out (Nat.le_trans HBB.out HB.out.size) (fun ad e => by have := (E3.out.2.2.2.2 ad e).1; have := HG2.out; have := HBB.out; omega) (by have := HL.out; rw [hW, show Hs.new.n = 0 from rfl]; omega)).mono ?_
      rintro e w2 ⟨rfl, hh2, hg2⟩
      clear hT hW hR
      have HH2 := hid hh2
      have HG3 := hid hg2
      clear hh2 hg2
      go_wp2
      go_roundw
      case rel => exact ⟨i + 1, by omega, by go_num, by rw [writes_take _ _ _ _ HPI.out]; exact HH2.out, HZ.out.grown HG3.out (by have := HG2.out; simp; omega), HB.out.grown HG3.out HB.out.size (by have := HG2.out; simp; omega)⟩
      case measure => simp [intOf]; omega
    · have e8 : i = n := by omega
      have HH := hid (show HsAt wr g (Hs.new.writes ps) from by rw [e8, HN.out, List.take_length] at hh; exact hh)
      have HZ := hid hz
      have HB := hid hb
      have n1 : decide ((i : Int) < (n : Int)) = false := decide_eq_false (by omega)
      clear hh hz hb hlt
      obtain ⟨wo, rfl⟩ : ∃ wo : World, wo = wr := ⟨_, rfl⟩
      go_wp2_with fail
      have hW := writes_n ps Hs.new
      have hR := writes_rest ps Hs.new (by decide)
      refine (sha_Sum g (Hs.new.writes ps) wo HH.out (by have := HL.out; rw [hW, show Hs.new.n = 0 from rfl]; omega)).mono ?_
      rintro e w2 ⟨rfl, hb2⟩
      clear hW hR
      have HB2 := hid (HB.out.trans (hb2.mono HB.out.size))
      have HZ2 := hid (HZ.out.below hb2 HZ.out.lt)
      have hs2 := HB2.out.size
      clear hb2
      rw [show (Hs.new.writes ps).sum = sumL ps from rfl]
      obtain ⟨V, hV⟩ : ∃ V, V = u8s (sumL ps) := ⟨_, rfl⟩
      rw [← hV]
      have HSL := hid (show V.size = 32 from by rw [hV]; simp [u8s, nums8, sumL_len])
      have HV1 := hid (show ∀ u ∈ V.toList, u.oneCell' = true from by rw [hV]; simpa using ints_oneCell .u8 (sumL ps))
      have HI := hid (show (Tryz.prog.info? 62).map (·.size) = some V.size from by rw [HSL.out]; kernel_rfl)
      have HV := hid hV
      clear hV
      go_wp2_with (first | (refine storeB (by rfl) 62 _ _ (by rfl) w.heap.size 0 62 (u8s zeros32) V (by rfl) (by rfl) HZ2.out (by rw [HSL.out]; simp [u8s, nums8, zeros32]) HI.out HV1.out ?_))
      intro w9 hk9 hg9
      go_wp2
      have hk10 : Blk w9 w.heap.size 62 V := by
        rw [splice_all _ _ (by rw [Array.length_toList, HSL.out]; simp [u8s, nums8, zeros32])] at hk9
        exact hk9
      refine bodyPost_ret (results_cell_row rfl _ w9 w.heap.size 62 V (0, 0) _ (by rfl) hk10 Tryz.underlying62 rfl HI.out) rfl ⟨by rw [HV.out], ?_⟩
      exact HB2.out.grown hg9 hs2 (by simp)
