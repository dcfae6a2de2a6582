/- The sum: what it computes, word by word. -/
import Derived.Test.YtkndkeeleaoooaaGreatProg
import Derived.Test.YtkndkeeleaoooaaGreatBase
import Derived.Test.YtkndkeeleaoooaaGreatPen
import Derived.Laws.ShiftsVarLaws
import Derived.StillTailTactics
namespace Go.Proofs.YtkndkeeleaoooaaGreat
open Go.RowKit
set_option linter.unusedVariables false
set_option linter.unusedSimpArgs false
set_option maxRecDepth 100000
set_option maxHeartbeats 1000000

def rot (s : Nat) (x : Int) : Int := bits BinOp.or IntKind.u32 (x * 2 ^ s % 4294967296) (x / 2 ^ (32 - s))
theorem rotl_any (x n : Int) (s : Nat) (w : World) (hs : s ≤ 31) (hs1 : 1 ≤ s) (e : bits BinOp.and IntKind.u64 (IntKind.u64.wrap n) 31 = (s : Int)) :
    Calls Tryz.prog 106 #[.int .u32 x, .int .i64 n] w fun e w' => e = .returned (.int .u32 (rot s x)) ∧ w = w' := by
  go_enter Tryz.func106, Tryz.ntmps106
  go_wp2
  go_ret
  exact ⟨rfl, rfl⟩
theorem and_m2 : bits BinOp.and IntKind.u64 (IntKind.u64.wrap (-2)) 31 = ((30 : Nat) : Int) := by decide +kernel
theorem and_m6 : bits BinOp.and IntKind.u64 (IntKind.u64.wrap (-6)) 31 = ((26 : Nat) : Int) := by decide +kernel
theorem and_m7 : bits BinOp.and IntKind.u64 (IntKind.u64.wrap (-7)) 31 = ((25 : Nat) : Int) := by decide +kernel
theorem and_m11 : bits BinOp.and IntKind.u64 (IntKind.u64.wrap (-11)) 31 = ((21 : Nat) : Int) := by decide +kernel
theorem and_m13 : bits BinOp.and IntKind.u64 (IntKind.u64.wrap (-13)) 31 = ((19 : Nat) : Int) := by decide +kernel
theorem and_m17 : bits BinOp.and IntKind.u64 (IntKind.u64.wrap (-17)) 31 = ((15 : Nat) : Int) := by decide +kernel
theorem and_m18 : bits BinOp.and IntKind.u64 (IntKind.u64.wrap (-18)) 31 = ((14 : Nat) : Int) := by decide +kernel
theorem and_m19 : bits BinOp.and IntKind.u64 (IntKind.u64.wrap (-19)) 31 = ((13 : Nat) : Int) := by decide +kernel
theorem and_m22 : bits BinOp.and IntKind.u64 (IntKind.u64.wrap (-22)) 31 = ((10 : Nat) : Int) := by decide +kernel
theorem and_m25 : bits BinOp.and IntKind.u64 (IntKind.u64.wrap (-25)) 31 = ((7 : Nat) : Int) := by decide +kernel
theorem down_any (x n : Int) (s : Nat) (w : World) (hn : 0 ≤ n) (hn1 : n ≤ 31) (hs : s ≤ 31) (hs1 : 1 ≤ s) (e : bits BinOp.and IntKind.u64 (IntKind.u64.wrap (-n)) 31 = (s : Int)) :
    Calls Tryz.prog 100 #[.int .u32 x, .int .i64 n] w fun e w' => e = .returned (.int .u32 (rot s x)) ∧ w = w' := by
  have E := hid e
  clear e
  go_enter Tryz.func100, Tryz.ntmps100
  go_wp2_with fail
  refine (rotl_any x (-n) s w hs hs1 E.out).mono ?_
  rintro e w' ⟨rfl, rfl⟩
  go_wp2
  go_ret
  exact ⟨rfl, rfl⟩

abbrev us (ws : List Int) : Array Value := (ws.map (Value.int .u32)).toArray
def by4 (a b c d : Int) : Int :=
  bits BinOp.or IntKind.u32 (bits BinOp.or IntKind.u32 (bits BinOp.or IntKind.u32 (a % 4294967296 * 16777216 % 4294967296) (b % 4294967296 * 65536 % 4294967296)) (c % 4294967296 * 256 % 4294967296)) (d % 4294967296)
def wordA (ds : List Int) (t : Nat) : Int := by4 (ds[4 * t]?.getD 0) (ds[4 * t + 1]?.getD 0) (ds[4 * t + 2]?.getD 0) (ds[4 * t + 3]?.getD 0)
def wordB (ws : List Int) (t : Nat) : Int :=
  (bits BinOp.xor IntKind.u32 (bits BinOp.xor IntKind.u32 (rot 15 (ws[t - 2]?.getD 0)) (rot 13 (ws[t - 2]?.getD 0))) (ws[t - 2]?.getD 0 / 1024) + ws[t - 7]?.getD 0 +
    bits BinOp.xor IntKind.u32 (bits BinOp.xor IntKind.u32 (rot 25 (ws[t - 15]?.getD 0)) (rot 14 (ws[t - 15]?.getD 0))) (ws[t - 15]?.getD 0 / 8) + ws[t - 16]?.getD 0) % 4294967296
def zeros64 : List Int := List.replicate 64 0
theorem zeros64_len : zeros64.length = 64 := by simp [zeros64]
def sch (ds : List Int) : Nat → List Int
  | 0 => zeros64
  | t + 1 => (sch ds t).set t (if t < 16 then wordA ds t else wordB (sch ds t) t)
theorem sch_len (ds : List Int) : ∀ t, (sch ds t).length = 64
  | 0 => zeros64_len
  | t + 1 => by rw [sch, List.length_set]; exact sch_len ds t
theorem sch_A (ds : List Int) (t : Nat) (h : t < 16) : sch ds (t + 1) = (sch ds t).set t (wordA ds t) := by rw [sch, if_pos h]
theorem sch_B (ds : List Int) (t : Nat) (h : ¬ t < 16) : sch ds (t + 1) = (sch ds t).set t (wordB (sch ds t) t) := by rw [sch, if_neg h]
theorem us_at {w : World} {g t : Nat} {ws : List Int} (h : Blk w g t (us ws)) {j : Nat} (hj : j < ws.length) : w.cell? ⟨g, j, none⟩ = some (.int .u32 (ws.getD j 0)) := by
  rw [h.cell j]
  simp [us, hj]
theorem us_set {w : World} {g t : Nat} {ws : List Int} (h : Blk w g t (us ws)) (j : Nat) (x : Int) : Blk (w.setCell ⟨g, j, none⟩ (.int .u32 x)) g t (us (ws.set j x)) := by
  have := h.set j (.int .u32 x)
  simpa [us, List.map_set] using this
theorem Rds.byte {w : World} {B n c : Nat} {A : Option Addr} {ds : List Int} (h : Rds w B 1 A n c (nums8 ds)) {k : Nat} (hk : k < n) : ∃ b off, A = some ⟨b, off, none⟩ ∧ b < B ∧ ∀ j, j < n → w.cell? ⟨b, off + j, none⟩ = some (.int .u8 (ds.getD j 0)) := by
  obtain ⟨b, off, rfl, hb, _⟩ := h.elem (k := k) hk (by omega)
  refine ⟨b, off, rfl, hb, fun j hj => ?_⟩
  have hlen : ds.length = n := by have := h.1; simpa [nums8] using this
  have := (h.2.2.2.2 _ rfl).2 j (.int .u8 (ds.getD j 0)) (by simp [nums8, List.getD, hlen, hj])
  rwa [cell_add'] at this

/-- 64 words, made of 64 bytes. -/
theorem sha_schedule (ds : List Int) (A : Option Addr) (c B : Nat) (w : World) (hr : Rds w B 1 A 64 c (nums8 ds)) (hB : B ≤ w.heap.size) (hl : ds.length = 64) :
    Calls Tryz.prog 98 #[.slice A 64 c] w fun e w' => e = .returned (.agg (us (sch ds 64))) ∧ Below w.heap.size w w' := by
  obtain ⟨b, off, rfl, hb, hby⟩ := hr.byte (k := 0) (by omega)
  have HBY := hid hby
  have HL := hid hl
  clear hby hl hr
  go_enter Tryz.func98, Tryz.ntmps98
  go_wp2
  go_loopw [10] (fun n wr => ∃ t : Nat, t ≤ 16 ∧ n = .int .i64 t ∧ Blk wr (w.heap.size + 1) 150 (us (sch ds t)) ∧ Blk wr w.heap.size 150 (us zeros64) ∧ Below w.heap.size w wr) (fun n _ => 16 - (intOf n).toNat)
  case atStart =>
    refine ⟨0, by omega, rfl, ?_, ?_, ((Below.refl _ w).alloc (Nat.le_refl _) _).alloc (by simp) _⟩
    · have h := Blk.new (w.alloc (.cells (us zeros64) 150)) 150 (us zeros64)
      have e : (w.alloc (.cells (us zeros64) 150)).heap.size = w.heap.size + 1 := by simp
      rw [e] at h
      exact h
    · exact (Blk.new w 150 (us zeros64)).alloc (.cells (us zeros64) 150)
  case round =>
    obtain ⟨t, ht, rfl, hw, hz, hbl⟩ := hrel
    by_cases hlt : t < 16
    · have c0 := (hbl.cell (p := ⟨b, off + 4 * t, none⟩) (by show b < _; omega)).trans (HBY.out (4 * t) (by omega))
      have c1 := (hbl.cell (p := ⟨b, off + (4 * t + 1), none⟩) (by show b < _; omega)).trans (HBY.out (4 * t + 1) (by omega))
      have c2 := (hbl.cell (p := ⟨b, off + (4 * t + 2), none⟩) (by show b < _; omega)).trans (HBY.out (4 * t + 2) (by omega))
      have c3 := (hbl.cell (p := ⟨b, off + (4 * t + 3), none⟩) (by show b < _; omega)).trans (HBY.out (4 * t + 3) (by omega))
      have cw := us_at hw (j := t) (by rw [sch_len]; omega)
      have fw := hw.free t
      have H1 := hid hw
      have H2 := hid hz
      have H3 := hid hbl
      clear hw hz hbl
      have b0 : (0 : Int) ≤ 4 * (t : Int) := by omega
      have b1 : (0 : Int) ≤ 4 * (t : Int) + 1 := by omega
      have b2 : (0 : Int) ≤ 4 * (t : Int) + 2 := by omega
      have b3 : (0 : Int) ≤ 4 * (t : Int) + 3 := by omega
      have l0 : 4 * (t : Int) < 64 := by omega
      have l1 : 4 * (t : Int) + 1 < 64 := by omega
      have l2 : 4 * (t : Int) + 2 < 64 := by omega
      have l3 : 4 * (t : Int) + 3 < 64 := by omega
      have p0 : (0 : Int) ≤ (t : Int) := by omega
      have p1 : (t : Int) < 64 := by omega
      have p2 : (t : Int) < 16 := by omega
      have n0 : (4 * (t : Int)).toNat = 4 * t := by omega
      have n1 : (4 * (t : Int) + 1).toNat = 4 * t + 1 := by omega
      have n2 : (4 * (t : Int) + 2).toNat = 4 * t + 2 := by omega
      have n3 : (4 * (t : Int) + 3).toNat = 4 * t + 3 := by omega
      have e0 : IntKind.i64.wrap (4 * (t : Int)) = 4 * (t : Int) := IntWalk.i64_in _ (by omega)
      have e1 : IntKind.i64.wrap (4 * (t : Int) + 1) = 4 * (t : Int) + 1 := IntWalk.i64_in _ (by omega)
      have e2 : IntKind.i64.wrap (4 * (t : Int) + 2) = 4 * (t : Int) + 2 := IntWalk.i64_in _ (by omega)
      have e3 : IntKind.i64.wrap (4 * (t : Int) + 3) = 4 * (t : Int) + 3 := IntWalk.i64_in _ (by omega)
      go_wp2
      go_still_tail 35, (by kernel_rfl)
      change wpList _ _ _ _ _ wr.drew
      clear e0 e1 e2 e3 n0 n1 n2 n3 b0 b1 b2 b3 l0 l1 l2 l3
      go_wp2
      go_roundw
      case rel => exact ⟨t + 1, by omega, by go_num, by rw [sch_A ds t hlt]; exact us_set H1.out t _, (H2.out.far (p := ⟨w.heap.size + 1, t, none⟩) (by simp) _), (H3.out.setCell (p := ⟨w.heap.size + 1, t, none⟩) (by simp) _).drew⟩
      case measure => simp [intOf]; omega
    · obtain ⟨t0, rfl⟩ : ∃ t0 : Nat, t0 = t := ⟨_, rfl⟩
      have e16 : t0 = 16 := by omega
      rw [e16] at hw
      have E16 := hid e16
      clear e16
      obtain ⟨wo, rfl⟩ : ∃ wo : World, wo = wr := ⟨_, rfl⟩
      go_wp2
      go_loopw [5] (fun n wx => ∃ t : Nat, 16 ≤ t ∧ t ≤ 64 ∧ n = .int .i64 t ∧ Blk wx (w.heap.size + 1) 150 (us (sch ds t)) ∧ Blk wx w.heap.size 150 (us zeros64) ∧ Below w.heap.size w wx) (fun n _ => 64 - (intOf n).toNat)
      case atStart => exact ⟨16, by omega, by omega, rfl, hw, hz, hbl⟩
      case round =>
        clear hw hz hbl hlt ht
        obtain ⟨t, ht0, ht, rfl, hw, hz, hbl⟩ := hrel
        by_cases hlt : t < 64
        · have x15 := us_at hw (j := t - 15) (by rw [sch_len]; omega)
          have x2 := us_at hw (j := t - 2) (by rw [sch_len]; omega)
          have x7 := us_at hw (j := t - 7) (by rw [sch_len]; omega)
          have x16 := us_at hw (j := t - 16) (by rw [sch_len]; omega)
          have xt := us_at hw (j := t) (by rw [sch_len]; omega)
          have fw := hw.free t
          have H1 := hid hw
          have H2 := hid hz
          have H3 := hid hbl
          clear hw hz hbl
          have p0 : (0 : Int) ≤ (t : Int) := by omega
          have p1 : (t : Int) < 64 := by omega
          have p2 : (16 : Int) ≤ (t : Int) := by omega
          have b15 : (0 : Int) ≤ (t : Int) - 15 := by omega
          have b2 : (0 : Int) ≤ (t : Int) - 2 := by omega
          have b7 : (0 : Int) ≤ (t : Int) - 7 := by omega
          have b16 : (0 : Int) ≤ (t : Int) - 16 := by omega
          have l15 : (t : Int) - 15 < 64 := by omega
          have l2 : (t : Int) - 2 < 64 := by omega
          have l7 : (t : Int) - 7 < 64 := by omega
          have l16 : (t : Int) - 16 < 64 := by omega
          have n15 : ((t : Int) - 15).toNat = t - 15 := by omega
          have n2 : ((t : Int) - 2).toNat = t - 2 := by omega
          have n7 : ((t : Int) - 7).toNat = t - 7 := by omega
          have n16 : ((t : Int) - 16).toNat = t - 16 := by omega
          have e15 : IntKind.i64.wrap ((t : Int) - 15) = (t : Int) - 15 := IntWalk.i64_in _ (by omega)
          have e2 : IntKind.i64.wrap ((t : Int) - 2) = (t : Int) - 2 := IntWalk.i64_in _ (by omega)
          have e7 : IntKind.i64.wrap ((t : Int) - 7) = (t : Int) - 7 := IntWalk.i64_in _ (by omega)
          have e16 : IntKind.i64.wrap ((t : Int) - 16) = (t : Int) - 16 := IntWalk.i64_in _ (by omega)
          go_wp2
          go_quiet (fail)
          have H1' := hid (show Blk (wr.drewN nq) (w.heap.size + 1) 150 (us (sch ds t)) from H1.out)
          have H2' := hid (show Blk (wr.drewN nq) w.heap.size 150 (us zeros64) from H2.out)
          have H3' := hid (below_drewN' H3.out nq)
          clear x15 x2 x7 x16 xt fw H1 H2 H3
          generalize wr.drewN nq = w5 at *
          have x7 := us_at H1'.out (j := t - 7) (by rw [sch_len]; omega)
          have x16 := us_at H1'.out (j := t - 16) (by rw [sch_len]; omega)
          have xt := us_at H1'.out (j := t) (by rw [sch_len]; omega)
          have fw := H1'.out.free t
          go_wp2_with fail
          refine (down_any _ 7 25 _ (by omega) (by omega) (by omega) (by omega) and_m7).mono ?_
          rintro e w' ⟨rfl, rfl⟩
          go_wp2_with fail
          refine (down_any _ 18 14 _ (by omega) (by omega) (by omega) (by omega) and_m18).mono ?_
          rintro e w' ⟨rfl, rfl⟩
          go_wp2_with fail
          refine (down_any _ 17 15 _ (by omega) (by omega) (by omega) (by omega) and_m17).mono ?_
          rintro e w' ⟨rfl, rfl⟩
          go_wp2_with fail
          refine (down_any _ 19 13 _ (by omega) (by omega) (by omega) (by omega) and_m19).mono ?_
          rintro e w' ⟨rfl, rfl⟩
          have q7 : (7 : Int) ≤ (t : Int) := by omega
          have r7 : (t : Int) < 64 + 7 := by omega
          have r7' : (t : Int) < 71 := by omega
          have r16 : (t : Int) < 80 := by omega
          go_wp2
          go_still_tail 15, (by kernel_rfl)
          change wpList _ _ _ _ _ w5.drew
          clear e15 e2 e7 e16 n15 n2 n7 n16 b15 b2 b7 b16 l15 l2 l7 l16 q7 r7 r7' r16
          go_wp2
          go_roundw
          case rel => exact ⟨t + 1, by omega, by omega, by go_num, by rw [sch_B ds t (by omega)]; exact us_set H1'.out t _, (H2'.out.far (p := ⟨w.heap.size + 1, t, none⟩) (by simp) _), (H3'.out.setCell (p := ⟨w.heap.size + 1, t, none⟩) (by simp) _).drew⟩
          case measure => simp [intOf]; omega
        · have e64 : t = 64 := by omega
          rw [e64] at hw
          have hs := hbl.size
          have HBL := hid hbl
          have HZ := hid hz
          clear hbl hz e64
          go_wp2_with (first | (refine wpList_load_row (by rfl) 150 _ (by rfl) (w.heap.size + 1) (by rfl) 150 (us (sch ds 64)) (0, 0) _ hw Tryz.underlying150 rfl (by rw [show (us (sch ds 64)).size = 64 from by simp [us, sch_len]]; kernel_rfl) ?_) | (refine storeB (by rfl) 150 _ _ (by rfl) w.heap.size 0 150 (us zeros64) (us (sch ds 64)) (by rfl) (by rfl) HZ.out (by simp [us, sch_len, zeros64_len]) (by rw [show (us (sch ds 64)).size = 64 from by simp [us, sch_len]]; kernel_rfl) (by simpa using ints_oneCell .u32 (sch ds 64)) ?_))
          intro w1 hk1 hg1
          go_wp2
          have hk2 : Blk w1 w.heap.size 150 (us (sch ds 64)) := by
            rw [splice_all _ _ (by simp [us, sch_len, zeros64_len])] at hk1
            exact hk1
          refine bodyPost_ret (results_cell_row rfl _ w1 w.heap.size 150 (us (sch ds 64)) (0, 0) _ (by rfl) hk2 Tryz.underlying150 rfl (by rw [show (us (sch ds 64)).size = 64 from by simp [us, sch_len]]; kernel_rfl)) rfl ⟨rfl, ?_⟩
          exact HBL.out.grown hg1 (by omega) (by simp)
