/- A record, sealed. -/
import Derived.Test.YtkndkeeleaoooaaGreatRec
namespace Go.Proofs.YtkndkeeleaoooaaGreat
open Go.RowKit
set_option linter.unusedVariables false
set_option linter.unusedSimpArgs false
set_option maxRecDepth 100000
set_option maxHeartbeats 1000000

theorem Parts.of {w : World} {gp ty B n : Nat} {pv : List Value} {ps : List (List Int)} (hb : Blk w gp ty pv.toArray) (hn : n = ps.length) (hlen : pv.length = n) (hB : gp < B) (hm : n ≤ maxLen)
    (h : ∀ (j : Nat) (p : List Int), ps[j]? = some p → ∃ A' n' c', pv[j]? = some (Value.slice A' n' c') ∧ n' = p.length ∧ Rds w B 1 A' n' c' (nums8 p)) : Parts w B (some ⟨gp, 0, none⟩) n n ps := by
  refine ⟨pv, ⟨by omega, Nat.le_refl _, hm, nofun, fun ad e => ?_⟩, hn, h⟩
  obtain rfl := Option.some.inj e
  refine ⟨hB, fun j u hu => ?_⟩
  rw [cell_add, hb.cell j]
  simpa using hu
theorem Rds.blk {w : World} {g e B : Nat} {l : List Int} (h : Blk w g e (u8s l)) (n : Nat) (hn : l.length = n) (hm : n ≤ maxLen) (hB : g < B) : Rds w B 1 (some ⟨g, 0, none⟩) n n (nums8 l) := by
  refine ⟨by simp [nums8, hn], Nat.le_refl _, hm, nofun, fun ad e => ?_⟩
  obtain rfl := Option.some.inj e
  refine ⟨hB, fun j u hu => ?_⟩
  rw [cell_add, h.cell j]
  simpa [u8s] using hu
def headL (hd body : List Int) : List Int := sumL [[2], hd, body]
theorem record_Head (hd : List Int) (hh : hd.length = 32) (body : List Int) (A : Option Addr) (n c B : Nat) (hn : n = body.length) (w : World) (hr : Rds w B 1 A n c (nums8 body)) (hB : B ≤ w.heap.size) (hl : body.length ≤ 1000000000) :
    Calls Tryz.prog 56 #[.agg (u8s hd), .slice A n c] w fun e w' => e = .returned (.agg (u8s (headL hd body))) ∧ Below w.heap.size w w' := by
  have HN := hid hn
  have HH := hid hh
  have HL := hid hl
  have HBB := hid hB
  have A1 := hid (Blk.new w 62 (u8s hd))
  have R1 := hid (hr.alloc hB (.cells (u8s hd) 62))
  have Q1 := hid ((Below.refl _ w).alloc (Nat.le_refl _) (.cells (u8s hd) 62))
  clear hn hh hl hB hr
  go_enter Tryz.func56, Tryz.ntmps56
  go_upto_region 1 with fail
  change Code.wp _ _ _ _ ((w.alloc (.cells (u8s hd) 62)).alloc (.cells (u8s zeros32) 62))
  have hs1 : (w.alloc (.cells (u8s hd) 62)).heap.size = w.heap.size + 1 := by simp
  have Z2 := hid (show Blk ((w.alloc (.cells (u8s hd) 62)).alloc (.cells (u8s zeros32) 62)) (w.heap.size + 1) 62 (u8s zeros32) from hs1 ▸ Blk.new _ _ _)
  have A2 := hid (A1.out.alloc (.cells (u8s zeros32) 62))
  have R2 := hid (R1.out.alloc (by have := HBB.out; omega) (.cells (u8s zeros32) 62))
  have Q2 := hid (Q1.out.alloc Q1.out.size (.cells (u8s zeros32) 62))
  have S2 := hid (show ((w.alloc (.cells (u8s hd) 62)).alloc (.cells (u8s zeros32) 62)).heap.size = w.heap.size + 2 from by simp)
  clear A1 R1 Q1 hs1
  generalize (w.alloc (.cells (u8s hd) 62)).alloc (.cells (u8s zeros32) 62) = w2 at *
  go_wp2_with fail
  have G3 := Blk.new w2 5 (u8s [2])
  have hs3 : (w2.alloc (.cells (u8s [2]) 5)).heap.size = w2.heap.size + 1 := by simp
  have G4 := G3.alloc (.cells #[.slice (some ⟨w2.heap.size, 0, none⟩) 1 1, .slice (some ⟨w.heap.size, 0, none⟩) 32 32, .slice A n c] 53)
  have A4 := (A2.out.alloc (.cells (u8s [2]) 5)).alloc (.cells #[.slice (some ⟨w2.heap.size, 0, none⟩) 1 1, .slice (some ⟨w.heap.size, 0, none⟩) 32 32, .slice A n c] 53)
  have Z4 := hid ((Z2.out.alloc (.cells (u8s [2]) 5)).alloc (.cells #[.slice (some ⟨w2.heap.size, 0, none⟩) 1 1, .slice (some ⟨w.heap.size, 0, none⟩) 32 32, .slice A n c] 53))
  have hB2 : B ≤ w2.heap.size := by have := HBB.out; have := S2.out; omega
  have R4 := (R2.out.alloc hB2 (.cells (u8s [2]) 5)).alloc (by rw [hs3]; omega) (.cells #[.slice (some ⟨w2.heap.size, 0, none⟩) 1 1, .slice (some ⟨w.heap.size, 0, none⟩) 32 32, .slice A n c] 53)
  have P4 := Blk.new (w2.alloc (.cells (u8s [2]) 5)) 53 #[.slice (some ⟨w2.heap.size, 0, none⟩) 1 1, .slice (some ⟨w.heap.size, 0, none⟩) 32 32, .slice A n c]
  have Q4 := hid ((Q2.out.alloc Q2.out.size (.cells (u8s [2]) 5)).alloc (by rw [hs3]; have := Q2.out.size; omega) (.cells #[.slice (some ⟨w2.heap.size, 0, none⟩) 1 1, .slice (some ⟨w.heap.size, 0, none⟩) 32 32, .slice A n c] 53))
  rw [hs3] at P4
  have hs4 : ((w2.alloc (.cells (u8s [2]) 5)).alloc (.cells #[.slice (some ⟨w2.heap.size, 0, none⟩) 1 1, .slice (some ⟨w.heap.size, 0, none⟩) 32 32, .slice A n c] 53)).heap.size = w2.heap.size + 2 := by simp
  have hlt := S2.out
  have hp : Parts ((w2.alloc (.cells (u8s [2]) 5)).alloc (.cells #[.slice (some ⟨w2.heap.size, 0, none⟩) 1 1, .slice (some ⟨w.heap.size, 0, none⟩) 32 32, .slice A n c] 53)) (w2.heap.size + 2) (some ⟨w2.heap.size + 1, 0, none⟩) 3 3 [[2], hd, body] := by
    refine Parts.of (pv := [.slice (some ⟨w2.heap.size, 0, none⟩) 1 1, .slice (some ⟨w.heap.size, 0, none⟩) 32 32, .slice A n c]) P4 rfl rfl (by omega) (by simp [maxLen]) (fun j p hp => ?_)
    rcases j with _ | _ | _ | j
    · obtain rfl := Option.some.inj hp
      exact ⟨_, _, _, rfl, rfl, Rds.blk G4 1 rfl (by simp [maxLen]) (by omega)⟩
    · obtain rfl := Option.some.inj hp
      exact ⟨_, _, _, rfl, HH.out.symm, Rds.blk A4 32 HH.out (by simp [maxLen]) (by omega)⟩
    · obtain rfl := Option.some.inj hp
      exact ⟨_, _, _, rfl, HN.out, R4.more (by omega)⟩
    · simp at hp
  have HP := hid hp
  have HS4 := hid hs4
  clear G3 G4 A4 R4 P4 hp hs3 hs4 hB2 hlt
  refine (sha_SumAll [[2], hd, body] (some ⟨w2.heap.size + 1, 0, none⟩) 3 3 (w2.heap.size + 2) _ HP.out (by simp) (by have := HL.out; have := HH.out; simp [total]; omega)).mono ?_
  rintro e w5 ⟨rfl, hb5⟩
  have Z5 := hid (Z4.out.below hb5 Z4.out.lt)
  have Q5 := hid (Q4.out.trans (hb5.mono Q4.out.size))
  have hs5 := Q5.out.size
  clear hb5
  obtain ⟨V, hV⟩ : ∃ V, V = u8s (sumL [[2], hd, body]) := ⟨_, rfl⟩
  rw [← hV]
  have HSL := hid (show V.size = 32 from by rw [hV]; simp [u8s, nums8, sumL_len])
  have HV1 := hid (show ∀ u ∈ V.toList, u.oneCell' = true from by rw [hV]; simpa using ints_oneCell .u8 (sumL [[2], hd, body]))
  have HI := hid (show (Tryz.prog.info? 62).map (·.size) = some V.size from by rw [HSL.out]; kernel_rfl)
  have HV := hid hV
  clear hV
  go_wp2_with (first | (refine storeB (by rfl) 62 _ _ (by rfl) (w.heap.size + 1) 0 62 (u8s zeros32) V (by rfl) (by rfl) Z5.out (by rw [HSL.out]; simp [u8s, nums8, zeros32]) HI.out HV1.out ?_))
  intro w9 hk9 hg9
  go_wp2
  have hk10 : Blk w9 (w.heap.size + 1) 62 V := by
    rw [splice_all _ _ (by rw [Array.length_toList, HSL.out]; simp [u8s, nums8, zeros32])] at hk9
    exact hk9
  refine bodyPost_ret (results_cell_row rfl _ w9 (w.heap.size + 1) 62 V (0, 0) _ (by rfl) hk10 Tryz.underlying62 rfl HI.out) rfl ⟨by rw [HV.out, headL], ?_⟩
  exact Q5.out.grown hg9 hs5 (by simp)

def tagHL (key hd : List Int) : List Int := tagL key [[76], hd]
theorem record_tag (hd : List Int) (hh : hd.length = 32) (body : List Int) (A : Option Addr) (n c B : Nat) (hn : n = body.length) (w : World) (hr : Rds w B 1 A n c (nums8 body)) (hB : B ≤ w.heap.size) (hl : body.length ≤ 1000000000) :
    Calls Tryz.prog 57 #[.slice A n c, .agg (u8s hd)] w fun e w' => e = .returned (.agg (u8s (tagHL body hd))) ∧ Below w.heap.size w w' := by
  have HN := hid hn
  have HH := hid hh
  have HL := hid hl
  have HBB := hid hB
  have A1 := hid (Blk.new w 62 (u8s hd))
  have R1 := hid (hr.alloc hB (.cells (u8s hd) 62))
  have Q1 := hid ((Below.refl _ w).alloc (Nat.le_refl _) (.cells (u8s hd) 62))
  clear hn hh hl hB hr
  go_enter Tryz.func57, Tryz.ntmps57
  go_upto_region 1 with fail
  change Code.wp _ _ _ _ ((w.alloc (.cells (u8s hd) 62)).alloc (.cells (u8s zeros32) 62))
  have hs1 : (w.alloc (.cells (u8s hd) 62)).heap.size = w.heap.size + 1 := by simp
  have Z2 := hid (show Blk ((w.alloc (.cells (u8s hd) 62)).alloc (.cells (u8s zeros32) 62)) (w.heap.size + 1) 62 (u8s zeros32) from hs1 ▸ Blk.new _ _ _)
  have A2 := hid (A1.out.alloc (.cells (u8s zeros32) 62))
  have R2 := hid (R1.out.alloc (by have := HBB.out; omega) (.cells (u8s zeros32) 62))
  have Q2 := hid (Q1.out.alloc Q1.out.size (.cells (u8s zeros32) 62))
  have S2 := hid (show ((w.alloc (.cells (u8s hd) 62)).alloc (.cells (u8s zeros32) 62)).heap.size = w.heap.size + 2 from by simp)
  clear A1 R1 Q1 hs1
  generalize (w.alloc (.cells (u8s hd) 62)).alloc (.cells (u8s zeros32) 62) = w2 at *
  go_wp2_with fail
  have G3 := Blk.new w2 5 (u8s [76])
  have hs3 : (w2.alloc (.cells (u8s [76]) 5)).heap.size = w2.heap.size + 1 := by simp
  have G4 := G3.alloc (.cells #[.slice (some ⟨w2.heap.size, 0, none⟩) 1 1, .slice (some ⟨w.heap.size, 0, none⟩) 32 32] 53)
  have A4 := (A2.out.alloc (.cells (u8s [76]) 5)).alloc (.cells #[.slice (some ⟨w2.heap.size, 0, none⟩) 1 1, .slice (some ⟨w.heap.size, 0, none⟩) 32 32] 53)
  have Z4 := hid ((Z2.out.alloc (.cells (u8s [76]) 5)).alloc (.cells #[.slice (some ⟨w2.heap.size, 0, none⟩) 1 1, .slice (some ⟨w.heap.size, 0, none⟩) 32 32] 53))
  have hB2 : B ≤ w2.heap.size := by have := HBB.out; have := S2.out; omega
  have R4 := (R2.out.alloc hB2 (.cells (u8s [76]) 5)).alloc (by rw [hs3]; omega) (.cells #[.slice (some ⟨w2.heap.size, 0, none⟩) 1 1, .slice (some ⟨w.heap.size, 0, none⟩) 32 32] 53)
  have P4 := Blk.new (w2.alloc (.cells (u8s [76]) 5)) 53 #[.slice (some ⟨w2.heap.size, 0, none⟩) 1 1, .slice (some ⟨w.heap.size, 0, none⟩) 32 32]
  have Q4 := hid ((Q2.out.alloc Q2.out.size (.cells (u8s [76]) 5)).alloc (by rw [hs3]; have := Q2.out.size; omega) (.cells #[.slice (some ⟨w2.heap.size, 0, none⟩) 1 1, .slice (some ⟨w.heap.size, 0, none⟩) 32 32] 53))
  rw [hs3] at P4
  have hs4 : ((w2.alloc (.cells (u8s [76]) 5)).alloc (.cells #[.slice (some ⟨w2.heap.size, 0, none⟩) 1 1, .slice (some ⟨w.heap.size, 0, none⟩) 32 32] 53)).heap.size = w2.heap.size + 2 := by simp
  have hlt := S2.out
  have hp : Parts ((w2.alloc (.cells (u8s [76]) 5)).alloc (.cells #[.slice (some ⟨w2.heap.size, 0, none⟩) 1 1, .slice (some ⟨w.heap.size, 0, none⟩) 32 32] 53)) (w2.heap.size + 2) (some ⟨w2.heap.size + 1, 0, none⟩) 2 2 [[76], hd] := by
    refine Parts.of (pv := [.slice (some ⟨w2.heap.size, 0, none⟩) 1 1, .slice (some ⟨w.heap.size, 0, none⟩) 32 32]) P4 rfl rfl (by omega) (by simp [maxLen]) (fun j p hp => ?_)
    rcases j with _ | _ | j
    · obtain rfl := Option.some.inj hp
      exact ⟨_, _, _, rfl, rfl, Rds.blk G4 1 rfl (by simp [maxLen]) (by omega)⟩
    · obtain rfl := Option.some.inj hp
      exact ⟨_, _, _, rfl, HH.out.symm, Rds.blk A4 32 HH.out (by simp [maxLen]) (by omega)⟩
    · simp at hp
  have HP := hid hp
  have HS4 := hid hs4
  have HR4 := hid R4
  clear G3 G4 A4 R4 P4 hp hs3 hs4 hB2 hlt
  refine (hmac_Tag body A n c B HN.out [[76], hd] (some ⟨w2.heap.size + 1, 0, none⟩) 2 2 (w2.heap.size + 2) _ HR4.out (by have := HBB.out; have := S2.out; have := HS4.out; omega) HL.out HP.out (by simp) (by have := HH.out; simp [total]; omega)).mono ?_
  rintro e w5 ⟨rfl, hb5⟩
  have Z5 := hid (Z4.out.below hb5 Z4.out.lt)
  have Q5 := hid (Q4.out.trans (hb5.mono Q4.out.size))
  have hs5 := Q5.out.size
  clear hb5
  obtain ⟨V, hV⟩ : ∃ V, V = u8s (tagL body [[76], hd]) := ⟨_, rfl⟩
  rw [← hV]
  have HSL := hid (show V.size = 32 from by rw [hV]; simp [u8s, nums8, tagL, macSum_len])
  have HV1 := hid (show ∀ u ∈ V.toList, u.oneCell' = true from by rw [hV]; simpa using ints_oneCell .u8 (tagL body [[76], hd]))
  have HI := hid (show (Tryz.prog.info? 62).map (·.size) = some V.size from by rw [HSL.out]; kernel_rfl)
  have HV := hid hV
  clear hV
  go_wp2_with (first | (refine storeB (by rfl) 62 _ _ (by rfl) (w.heap.size + 1) 0 62 (u8s zeros32) V (by rfl) (by rfl) Z5.out (by rw [HSL.out]; simp [u8s, nums8, zeros32]) HI.out HV1.out ?_))
  intro w9 hk9 hg9
  go_wp2
  have hk10 : Blk w9 (w.heap.size + 1) 62 V := by
    rw [splice_all _ _ (by rw [Array.length_toList, HSL.out]; simp [u8s, nums8, zeros32])] at hk9
    exact hk9
  refine bodyPost_ret (results_cell_row rfl _ w9 (w.heap.size + 1) 62 V (0, 0) _ (by rfl) hk10 Tryz.underlying62 rfl HI.out) rfl ⟨by rw [HV.out, tagHL], ?_⟩
  exact Q5.out.grown hg9 hs5 (by simp)
