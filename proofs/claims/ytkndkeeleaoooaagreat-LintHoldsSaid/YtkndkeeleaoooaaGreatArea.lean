/- The greatest snapshot of so many panes: its blocks. -/
import Derived.Test.YtkndkeeleaoooaaGreatPane
namespace Go.Proofs.YtkndkeeleaoooaaGreat
open Go.RowKit
set_option linter.unusedVariables false
set_option linter.unusedSimpArgs false
set_option maxRecDepth 100000
set_option maxHeartbeats 1000000

def rp : Nat → List Int
  | 0 => []
  | k + 1 => rp k ++ varint (1099511627776 : Int).toNat
theorem rp_len : ∀ k, (rp k).length ≤ k * 10
  | 0 => by simp [rp]
  | k + 1 => by
    have h1 := rp_len k
    have h2 := varint_len (1099511627776 : Int).toNat (by decide)
    rw [rp, List.length_append]
    omega
def arS (n : Nat) : List Int := [] ++ varint (zig 1099511627776) ++ varint n
def arState (q : Qy) (n : Nat) : Nat := (arS n).length + n * (psL q).length
def arP (q : Qy) (n : Nat) : List Int := rp 3 ++ qBytes q ++ varint (arState q n)
def arQ (q : Qy) (n k : Nat) : List Int := arP q n ++ rp k
def arBody (q : Qy) (n : Nat) : Nat := (arQ q n 3).length + arState q n + 32
def arAll (q : Qy) (n : Nat) : Nat := ([] ++ varint (arBody q n)).length + arBody q n + 32
def areaN (q : Qy) (n : Nat) : Nat := (arAll q n + 127) / 128
theorem qBytes_len (q : Qy) (hq : QOk q) : (qBytes q).length ≤ 100 := by
  have := qFlat_len q (qList_ok hq) 6
  exact this
theorem arS_len (n : Nat) (hn : n ≤ 256) : (arS n).length ≤ 20 := by
  have h1 := varint_len (zig 1099511627776) (by decide)
  have h2 := varint_len n (by omega)
  unfold arS
  simp only [List.length_append, List.length_nil]
  omega
theorem arState_le (q : Qy) (hq : QOk q) (n : Nat) (hn : n ≤ 256) : arState q n ≤ 77000 := by
  have h1 := arS_len n hn
  have h2 := (psL_len q hq).2
  have h3 : n * (psL q).length ≤ 256 * 300 := Nat.mul_le_mul hn h2
  unfold arState
  omega
theorem arP_len (q : Qy) (hq : QOk q) (n : Nat) (hn : n ≤ 256) : (arP q n).length ≤ 200 := by
  have h1 := rp_len 3
  have h2 := qBytes_len q hq
  have h3 := varint_len (arState q n) (by have := arState_le q hq n hn; omega)
  unfold arP
  simp only [List.length_append]
  omega
theorem arBody_le (q : Qy) (hq : QOk q) (n : Nat) (hn : n ≤ 256) : arBody q n ≤ 78000 := by
  have h1 := arP_len q hq n hn
  have h2 := arState_le q hq n hn
  have h3 := rp_len 3
  unfold arBody arQ
  simp only [List.length_append]
  omega
theorem areaN_le (q : Qy) (hq : QOk q) (n : Nat) (hn : n ≤ 256) : 1 ≤ areaN q n ∧ areaN q n ≤ 700 := by
  have h1 := arBody_le q hq n hn
  have h2 := varint_len (arBody q n) (by omega)
  unfold areaN arAll
  simp only [List.length_append, List.length_nil]
  omega
theorem ledger_Area_no (q : Qy) (n : Int) (w : World) (h : ¬ QOk q ∨ n < 0 ∨ 256 < n) :
    Calls Tryz.prog 13 #[q.v, .int .i64 n] w fun e w' => e = .returned (.int .i64 0) ∧ Below w.heap.size w w' := by
  have Q1 := hid ((Below.refl _ w).alloc (Nat.le_refl _) (.cells (qC' q) 23))
  cases hq : qR q
  · have HQR := hid hq
    clear hq h
    go_enter Tryz.func13, Tryz.ntmps13
    go_wp2_with fail
    refine (query_Right q _).mono ?_
    rintro e w2 ⟨rfl, hb2⟩
    rw [HQR.out]
    have Q2 := hid (Q1.out.trans (hb2.mono (by simp)))
    clear hb2
    go_wp2
    go_ret
    exact ⟨rfl, Q2.out⟩
  · have hh : n < 0 ∨ 256 < n := by
      rcases h with h | h
      · exact absurd (qR_true.1 hq) h
      · exact h
    have HQR := hid hq
    clear hq h
    rcases hh with h | h
    · go_enter Tryz.func13, Tryz.ntmps13
      go_wp2_with fail
      refine (query_Right q _).mono ?_
      rintro e w2 ⟨rfl, hb2⟩
      rw [HQR.out]
      have Q2 := hid (Q1.out.trans (hb2.mono (by simp)))
      clear hb2
      go_wp2
      go_ret
      exact ⟨rfl, Q2.out⟩
    · have h0 : ¬ n < 0 := by omega
      go_enter Tryz.func13, Tryz.ntmps13
      go_wp2_with fail
      refine (query_Right q _).mono ?_
      rintro e w2 ⟨rfl, hb2⟩
      rw [HQR.out]
      have Q2 := hid (Q1.out.trans (hb2.mono (by simp)))
      clear hb2
      go_wp2
      go_ret
      exact ⟨rfl, Q2.out⟩
theorem ledger_Area (q : Qy) (hq : QOk q) (n : Nat) (hn : n ≤ 256) (w : World) :
    Calls Tryz.prog 13 #[q.v, .int .i64 n] w fun e w' => e = .returned (.int .i64 (areaN q n)) ∧ Below w.heap.size w w' := by
  have HQ := hid hq
  have HQR := hid (qR_true.2 hq)
  have B1 := hid (Blk.new w 23 (qC' q))
  have Q1 := hid ((Below.refl _ w).alloc (Nat.le_refl _) (.cells (qC' q) 23))
  have HST := hid (arState_le q hq n hn)
  have HPL := hid (arP_len q hq n hn)
  have HBO := hid (arBody_le q hq n hn)
  have HPS := hid (psL_len q hq)
  have HQB := hid (qBytes_len q hq)
  have HSL := hid (arS_len n hn)
  have n0 : decide ((n : Int) < 0) = false := decide_eq_false (by omega)
  have n1 : decide ((256 : Int) < (n : Int)) = false := decide_eq_false (by omega)
  clear hq
  go_enter Tryz.func13, Tryz.ntmps13
  go_wp2_with fail
  refine (query_Right q _).mono ?_
  rintro e w2 ⟨rfl, hb2⟩
  rw [HQR.out]
  have B2 := hid ((B1.out.below hb2 (by simp)).alloc (.cells #[.slice none 0 0] 55))
  have q2 := Q1.out.trans (hb2.mono (by simp))
  have Q2 := hid (q2.alloc q2.size (.cells #[.slice none 0 0] 55))
  have P2 := hid (show PenAt (w2.alloc (.cells #[.slice none 0 0] 55)) w2.heap.size w2.heap.size [] from ⟨Nat.le_refl _, .slice none 0 0, Blk.new _ _ _, World.ownsRow_nil _ _ _ _⟩)
  have L2 := hid (show w.heap.size < w2.heap.size from (B1.out.below hb2 (by simp)).lt)
  clear hb2 q2 B1 Q1
  go_upto_region 4 with fail
  generalize w2.alloc (.cells #[.slice none 0 0] 55) = w3 at *
  generalize w2.heap.size = gs at *
  go_wp2_with fail
  refine (pen_Signed gs gs 1099511627776 [] w3 P2.out (by omega) (by omega) (by simp)).mono ?_
  rintro e w4 ⟨rfl, hp4, pk4⟩
  have hf := pk4.far P2.out
  have b4 := pk4.below P2.out
  have hgl := L2.out
  have P4 := hid hp4
  have B4 := hid (B2.out.keep hf (by decide))
  have Q4 := hid (Q2.out.trans (b4.mono (by omega)))
  clear hf hp4 pk4 b4 hgl P2 B2 Q2
  have V1 := hid (show ([] ++ varint (zig 1099511627776)).length ≤ 20 from by have h1 := varint_len (zig 1099511627776) (by decide); simp only [List.length_append, List.length_nil]; omega)
  go_wp2_with fail
  refine (pen_Number gs gs n _ w4 P4.out (by omega) (by omega) (by have := V1.out; omega)).mono ?_
  rintro e w5 ⟨rfl, hp5, pk5⟩
  have hf := pk5.far P4.out
  have b5 := pk5.below P4.out
  have hgl := L2.out
  have P5 := hid (show PenAt w5 gs gs (arS n) from by unfold arS; simpa using hp5)
  have B5 := hid (B4.out.keep hf (by decide))
  have Q5 := hid (Q4.out.trans (b5.mono (by omega)))
  clear hf hp5 pk5 b5 hgl P4 B4 Q4 V1
  go_upto_region 6 with fail
  refine wp_region_noPanic (wp_region_held (S := fun w' => w'.rangeAt w.heap.size 0 (qC' q).toList) (by kernel_rfl) ?_)
  change wpAnyH _ _ _ _ _ 9 _ _ w5.drew
  have P6 := hid (show PenAt w5.drew gs gs (arS n) from P5.out)
  have B6 := hid (show Blk w5.drew w.heap.size 23 (qC' q) from B5.out)
  have Q6 := hid (show Below w.heap.size w w5.drew from Q5.out.drew)
  clear P5 B5 Q5
  generalize w5.drew = w6 at *
  have RA : ∀ {W : World}, Blk W w.heap.size 23 (qC' q) → W.rangeAt w.heap.size 0 (qC' q).toList := fun h j v hv => by rw [Nat.zero_add, h.cell j]; simpa using hv
  have hS6 := RA B6.out
  refine wpAnyH_take (i := 0) (v := .pointer (some ⟨gs, 0, none⟩)) (by rfl) (by kernel_rfl) (by kernel_rfl) (by kernel_rfl) (fun _ _ _ h => h) (.inl ⟨rfl, fun w _ => by rfl⟩) hS6 ?_
  simp only [Act.put, List.getElem_toArray, List.getElem_cons_zero, List.getElem_cons_succ, List.setIfInBounds_toArray, List.set_cons_zero, List.set_cons_succ]
  refine wpAnyH_take (i := 3) (v := .int .i64 n) (by rfl) (by kernel_rfl) (by kernel_rfl) (by kernel_rfl) (fun _ _ _ h => h) (.inl ⟨rfl, fun w _ => by rfl⟩) hS6 ?_
  simp only [Act.put, List.getElem_toArray, List.getElem_cons_zero, List.getElem_cons_succ, List.setIfInBounds_toArray, List.set_cons_zero, List.set_cons_succ]
  refine wpAnyH_take (i := 4) (v := .agg (qC' q).toList.toArray) (by rfl) (by kernel_rfl) (by kernel_rfl) (by kernel_rfl) (fun _ _ _ h => h) (yieldsIf_load_mid (by rfl) 23 _ (by rfl) w.heap.size 0 (by rfl) (qC' q).toList _ (fun w h => h) Tryz.underlying23 rfl (by kernel_rfl)) hS6 ?_
  simp only [Act.put, List.getElem_toArray, List.getElem_cons_zero, List.getElem_cons_succ, List.setIfInBounds_toArray, List.set_cons_zero, List.set_cons_succ]
  refine wpAnyH_one (i := 1) (by kernel_rfl) (wpOp_in (by rfl) rfl (wp_enter (f := 25) (args := #[.pointer (some ⟨gs, 0, none⟩)]) (by kernel_rfl) ?_))
  refine (pen_Bytes gs gs (arS n) w6 P6.out (by have := HSL.out; omega)).mono ?_
  rintro e w7 ⟨A7, c7, rfl, ho7, hb7⟩
  have B7 := hid (B6.out.below hb7 B6.out.lt)
  have Q7 := hid (Q6.out.trans (hb7.mono Q6.out.size))
  clear hb7 ho7 P6 B6 Q6
  have hS7 := RA B7.out
  refine ⟨_, rfl, hS7, ?_⟩
  simp only [Act.put, List.getElem_toArray, List.getElem_cons_zero, List.getElem_cons_succ, List.setIfInBounds_toArray, List.set_cons_zero, List.set_cons_succ]
  have hsl : ((arS n).length : Int) ≤ 20 := by have := HSL.out; omega
  refine wpAnyH_take (i := 2) (v := .int .i64 (arS n).length) (by rfl) (by kernel_rfl) (by kernel_rfl) (by kernel_rfl) (fun _ _ _ h => h) (.inl ⟨rfl, fun w _ => by go_simp⟩) hS7 ?_
  simp only [Act.put, List.getElem_toArray, List.getElem_cons_zero, List.getElem_cons_succ, List.setIfInBounds_toArray, List.set_cons_zero, List.set_cons_succ]
  refine wpAnyH_one (i := 5) (by kernel_rfl) (wpOp_in (by rfl) rfl (wp_enter (f := 26) (args := #[q.v]) (by kernel_rfl) ?_))
  refine (ledger_paneSize q HQ.out w7).mono ?_
  rintro e w8 ⟨rfl, hb8⟩
  have B8 := hid (B7.out.below hb8 B7.out.lt)
  have Q8 := hid (Q7.out.trans (hb8.mono Q7.out.size))
  clear hb8 B7 Q7
  have hS8 := RA B8.out
  refine ⟨_, rfl, hS8, ?_⟩
  simp only [Act.put, List.getElem_toArray, List.getElem_cons_zero, List.getElem_cons_succ, List.setIfInBounds_toArray, List.set_cons_zero, List.set_cons_succ]
  have hm0 : n * (psL q).length ≤ 256 * 300 := Nat.mul_le_mul hn HPS.out.2
  have he : ((n * (psL q).length : Nat) : Int) = (n : Int) * ((psL q).length : Int) := by push_cast; rfl
  have hm1 : IntKind.i64.wrap ((n : Int) * ((psL q).length : Int)) = (n : Int) * ((psL q).length : Int) := IntWalk.i64_in _ (by omega)
  have hm2 : IntKind.i64.wrap (((arS n).length : Int) + (n : Int) * ((psL q).length : Int)) = (arState q n : Int) := by
    rw [IntWalk.i64_in _ (by omega)]
    unfold arState
    push_cast
    rfl
  refine wpAnyH_take (i := 6) (v := .int .i64 (IntKind.i64.wrap ((n : Int) * ((psL q).length : Int)))) (by rfl) (by kernel_rfl) (by kernel_rfl) (by kernel_rfl) (fun _ _ _ h => h) (.inl ⟨rfl, fun w _ => by rfl⟩) hS8 ?_
  simp only [Act.put, List.getElem_toArray, List.getElem_cons_zero, List.getElem_cons_succ, List.setIfInBounds_toArray, List.set_cons_zero, List.set_cons_succ]
  rw [hm1]
  refine wpAnyH_take (i := 7) (v := .int .i64 (IntKind.i64.wrap (((arS n).length : Int) + (n : Int) * ((psL q).length : Int)))) (by rfl) (by kernel_rfl) (by kernel_rfl) (by kernel_rfl) (fun _ _ _ h => h) (.inl ⟨rfl, fun w _ => by rfl⟩) hS8 ?_
  simp only [Act.put, List.getElem_toArray, List.getElem_cons_zero, List.getElem_cons_succ, List.setIfInBounds_toArray, List.set_cons_zero, List.set_cons_succ]
  rw [hm2]
  refine wpAnyH_take (i := 8) (v := .int .i64 (arState q n)) (by rfl) (by kernel_rfl) (by kernel_rfl) (by kernel_rfl) (fun _ _ _ h => h) (.inl ⟨rfl, fun w _ => by rfl⟩) hS8 ?_
  simp only [Act.put, List.getElem_toArray, List.getElem_cons_zero, List.getElem_cons_succ, List.setIfInBounds_toArray, List.set_cons_zero, List.set_cons_succ]
  refine wpAnyH_done (by kernel_rfl) (NoPanic.normal ?_) _
  clear hS6 hS7 hS8 RA hm0 hm1 hm2 hsl he
  have P9 := hid (show PenAt (w8.alloc (.cells #[.slice none 0 0] 55)) w8.heap.size w8.heap.size [] from ⟨Nat.le_refl _, .slice none 0 0, Blk.new _ _ _, World.ownsRow_nil _ _ _ _⟩)
  have B9 := hid (B8.out.alloc (.cells #[.slice none 0 0] 55))
  have Q9 := hid (Q8.out.alloc Q8.out.size (.cells #[.slice none 0 0] 55))
  have L9 := hid (show w.heap.size < w8.heap.size from B8.out.lt)
  clear B8 Q8 L2
  go_upto_region 8 with fail
  generalize w8.alloc (.cells #[.slice none 0 0] 55) = w9 at *
  generalize w8.heap.size = gp at *
  go_wp2
  go_loopw [39] (fun i wr => ∃ k : Nat, k ≤ 3 ∧ i = .int .i64 k ∧ PenAt wr gp gp (rp k) ∧ Blk wr w.heap.size 23 (qC' q) ∧ Below w.heap.size w wr) (fun i _ => 3 - (intOf i).toNat)
  case atStart => exact ⟨0, by omega, rfl, P9.out, B9.out, Q9.out⟩
  case round =>
    obtain ⟨k, hk, rfl, hpr, hbr, hqr⟩ := hrel
    by_cases hlt : k < 3
    · have PR := hid hpr
      have BR := hid hbr
      have QR := hid hqr
      have HR := hid (rp_len k)
      have p1 : (k : Int) < 3 := by omega
      clear hpr hbr hqr P9 B9 Q9
      go_wp2_with fail
      refine (pen_Number gp gp 1099511627776 (rp k) wr PR.out (by omega) (by omega) (by have := HR.out; omega)).mono ?_
      rintro e w4 ⟨rfl, hp4, pk4⟩
      have hf := pk4.far PR.out
      have b4 := pk4.below PR.out
      have hgl := L9.out
      have P4 := hid hp4
      have B4 := hid (BR.out.keep hf (by decide))
      have Q4 := hid (QR.out.trans (b4.mono (by omega)))
      clear hf hp4 pk4 b4 hgl PR BR QR
      go_wp2
      go_roundw
      case rel => exact ⟨k + 1, by omega, by go_num, P4.out, B4.out, Q4.out⟩
      case measure => simp [intOf]; omega
    · have hk3 : k = 3 := by omega
      subst hk3
      have PR := hid hpr
      have BR := hid hbr
      have QR := hid hqr
      clear hpr hbr hqr P9 B9 Q9
      have hst := HST.out
      have c0 : wr.cell? ⟨w.heap.size, 0, none⟩ = some (.int .i64 q.kind) := BR.out.cell 0
      have c1 : wr.cell? ⟨w.heap.size, 1, none⟩ = some (.int .i64 q.size) := BR.out.cell 1
      have c2 : wr.cell? ⟨w.heap.size, 2, none⟩ = some (.int .i64 q.slide) := BR.out.cell 2
      have c3 : wr.cell? ⟨w.heap.size, 3, none⟩ = some (.int .i64 q.late) := BR.out.cell 3
      have c4 : wr.cell? ⟨w.heap.size, 4, none⟩ = some (.int .i64 q.agg) := BR.out.cell 4
      have c5 : wr.cell? ⟨w.heap.size, 5, none⟩ = some (.int .i64 q.k) := BR.out.cell 5
      have HR := hid (rp_len 3)
      go_wp2_with fail
      refine (query_Put gp gp q (rp 3) wr PR.out HQ.out (by have := HR.out; omega)).mono ?_
      rintro e wa ⟨rfl, hpa, pka⟩
      have ba := pka.below PR.out
      have hgl := L9.out
      have PA := hid hpa
      have QA := hid (QR.out.trans (ba.mono (by omega)))
      clear hpa pka ba hgl c0 c1 c2 c3 c4 c5 PR BR QR
      go_wp2_with fail
      refine (pen_Number gp gp (arState q n) _ wa PA.out (by omega) (by omega) (by have := HR.out; have := HQB.out; rw [List.length_append]; omega)).mono ?_
      rintro e wb ⟨rfl, hpb, pkb⟩
      have bb := pkb.below PA.out
      have hgl := L9.out
      have PB := hid (show PenAt wb gp gp (arQ q n 0) from by unfold arQ arP; rw [show rp 0 = [] from rfl, List.append_nil]; rw [Int.toNat_natCast] at hpb; exact hpb)
      have QB := hid (QA.out.trans (bb.mono (by omega)))
      clear hpb pkb bb hgl PA QA
      go_wp2
      go_loopw [50] (fun i wr => ∃ k : Nat, k ≤ 3 ∧ i = .int .i64 k ∧ PenAt wr gp gp (arQ q n k) ∧ Below w.heap.size w wr) (fun i _ => 3 - (intOf i).toNat)
      case atStart => exact ⟨0, by omega, rfl, PB.out, QB.out⟩
      case round =>
        obtain ⟨k, hk, rfl, hpr, hqr⟩ := hrel
        by_cases hlt : k < 3
        · have PR := hid hpr
          have QR := hid hqr
          have HRK := hid (show (arQ q n k).length ≤ 300 from by have := rp_len k; have := HPL.out; unfold arQ; rw [List.length_append]; omega)
          have p1 : (k : Int) < 3 := by omega
          clear hpr hqr PB QB
          go_wp2_with fail
          refine (pen_Number gp gp 1099511627776 (arQ q n k) _ PR.out (by omega) (by omega) (by have := HRK.out; omega)).mono ?_
          rintro e w4 ⟨rfl, hp4, pk4⟩
          have b4 := pk4.below PR.out
          have hgl := L9.out
          have P4 := hid (show PenAt w4 gp gp (arQ q n (k + 1)) from by unfold arQ rp; rw [← List.append_assoc]; exact hp4)
          have Q4 := hid (QR.out.trans (b4.mono (by omega)))
          clear hp4 pk4 b4 hgl PR QR
          go_wp2
          go_roundw
          case rel => exact ⟨k + 1, by omega, by go_num, P4.out, Q4.out⟩
          case measure => simp [intOf]; omega
        · have hk3 : k = 3 := by omega
          subst hk3
          have PR := hid hpr
          have QR := hid hqr
          have HRK := hid (show (arQ q n 3).length ≤ 300 from by have := rp_len 3; have := HPL.out; unfold arQ; rw [List.length_append]; omega)
          clear hpr hqr PB QB
          go_wp2_with fail
          refine (pen_Bytes gp gp (arQ q n 3) _ PR.out (by have := HRK.out; omega)).mono ?_
          rintro e wc ⟨AC, cc, rfl, hoc, hbc⟩
          have qc := QR.out.trans (hbc.mono QR.out.size)
          have QC := hid (qc.alloc qc.size (.cells #[.slice none 0 0] 55))
          have PC := hid (show PenAt (wc.alloc (.cells #[.slice none 0 0] 55)) wc.heap.size wc.heap.size [] from ⟨Nat.le_refl _, .slice none 0 0, Blk.new _ _ _, World.ownsRow_nil _ _ _ _⟩)
          have LC := hid (show w.heap.size ≤ wc.heap.size from qc.size)
          clear hoc hbc qc PR QR
          have hl1 : ((arQ q n 3).length : Int) ≤ 300 := by have := HRK.out; omega
          have hl2 : (arState q n : Int) ≤ 77000 := by omega
          have HBD := hid (show ((arQ q n 3).length : Int) + (arState q n : Int) + 32 = (arBody q n : Int) from by unfold arBody; push_cast; rfl)
          go_upto_region 20 with fail
          rw [HBD.out]
          generalize wc.alloc (.cells #[.slice none 0 0] 55) = wd at *
          generalize wc.heap.size = gn at *
          have hbo := HBO.out
          go_wp2_with fail
          refine (pen_Number gn gn (arBody q n) [] _ PC.out (by omega) (by omega) (by simp)).mono ?_
          rintro e we ⟨rfl, hpe, pke⟩
          have be := pke.below PC.out
          have PE := hid (show PenAt we gn gn ([] ++ varint (arBody q n)) from by simpa using hpe)
          have QE := hid (QC.out.trans (be.mono LC.out))
          clear hpe pke be PC QC
          have HV := hid (show ([] ++ varint (arBody q n)).length ≤ 10 from by simpa using varint_len (arBody q n) (by omega))
          go_wp2_with fail
          refine (pen_Bytes gn gn _ _ PE.out (by have := HV.out; omega)).mono ?_
          rintro e wf ⟨AF, cf, rfl, hof, hbf⟩
          have QF := hid (QE.out.trans (hbf.mono QE.out.size))
          clear hof hbf PE QE
          have hv : (([] ++ varint (arBody q n)).length : Int) ≤ 10 := by have := HV.out; omega
          have HAR := hid (show areaN q n = (([] ++ varint (arBody q n)).length + arBody q n + 32 + 127) / 128 from rfl)
          generalize ([] ++ varint (arBody q n)).length = vl at *
          go_wp2
          go_ret
          refine ⟨?_, QF.out⟩
          rw [HAR.out]
          go_num
