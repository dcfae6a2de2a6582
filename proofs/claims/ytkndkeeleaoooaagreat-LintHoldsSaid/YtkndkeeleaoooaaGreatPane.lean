/- How many bytes the longest pane takes. -/
import Derived.Test.YtkndkeeleaoooaaGreatLongest
namespace Go.Proofs.YtkndkeeleaoooaaGreat
open Go.RowKit
set_option linter.unusedVariables false
set_option linter.unusedSimpArgs false
set_option maxRecDepth 100000
set_option maxHeartbeats 1000000

theorem lgB_len (q : Qy) (hq : QOk q) : (lgB q).length ≤ 110 := by
  have h1 := varint_len (1073741824 : Int).toNat (by decide)
  have h2 := lgT_len q hq
  have h3 := varint_len (lgT q).length (by omega)
  have h4 := sgs_len (lgT q) (fun v hv => by rw [lgT_mem q v hv]; omega)
  have h5 := varint_len (zig 1073741824) (by decide)
  have h6 := lgA_bd q.agg
  have h7 := varint_len (zig (lgA q.agg)) (zig_lt _ (by omega) (by omega))
  unfold lgB
  rw [List.length_append]
  split
  · rw [List.length_nil]; omega
  · split
    · rw [List.length_append]; omega
    · split
      · rw [List.length_append]; omega
      · omega
def psL (q : Qy) : List Int := [] ++ varint 16 ++ strNums zKey ++ varint (1099511627776 : Int).toNat ++ varint (3298534883328 : Int).toNat ++ lgB q ++ varint (1073741824 : Int).toNat
theorem psL_len (q : Qy) (hq : QOk q) : 1 ≤ (psL q).length ∧ (psL q).length ≤ 300 := by
  have h1 := varint_len (1073741824 : Int).toNat (by decide)
  have h2 := varint_len (1099511627776 : Int).toNat (by decide)
  have h3 := varint_len (3298534883328 : Int).toNat (by decide)
  have h4 := varint_len 16 (by decide)
  have h5 := lgB_len q hq
  have h6 := varint_pos 16
  have h7 : (strNums zKey).length = 16 := by rw [strNums_len, zKey_size]
  unfold psL
  simp only [List.length_append, List.length_nil]
  omega
theorem ledger_paneSize (q : Qy) (hq : QOk q) (w : World) :
    Calls Tryz.prog 26 #[q.v] w fun e w' => e = .returned (.int .i64 (psL q).length) ∧ Below w.heap.size w w' := by
  have HQ := hid hq
  have B1 := hid ((Blk.new w 23 (qC' q)).alloc (.cells #[.slice none 0 0] 55))
  have Q1 := hid (((Below.refl _ w).alloc (Nat.le_refl _) (.cells (qC' q) 23)).alloc (by simp) (.cells #[.slice none 0 0] 55))
  have P1 := hid (show PenAt ((w.alloc (.cells (qC' q) 23)).alloc (.cells #[.slice none 0 0] 55)) (w.heap.size + 1) (w.heap.size + 1) [] from ⟨Nat.le_refl _, .slice none 0 0, Blk.new' _ _ _ (by simp), World.ownsRow_nil _ _ _ _⟩)
  have HLP := hid (psL_len q hq)
  have HLG := hid (lgB_len q hq)
  clear hq
  go_enter Tryz.func26, Tryz.ntmps26
  go_upto_region 2 with fail
  change Code.wp _ _ _ _ ((w.alloc (.cells (qC' q) 23)).alloc (.cells #[.slice none 0 0] 55))
  generalize (w.alloc (.cells (qC' q) 23)).alloc (.cells #[.slice none 0 0] 55) = w1 at *
  obtain ⟨gp, hgp⟩ : ∃ gp, gp = w.heap.size + 1 := ⟨_, rfl⟩
  rw [← hgp] at P1 ⊢
  have HGP := hid hgp
  clear hgp
  go_wp2_with fail
  refine (ledger_longKey w1).mono ?_
  rintro e w2 ⟨rfl, hb2⟩
  have P2 := hid (P1.out.below hb2)
  have B2 := hid (B1.out.below hb2 B1.out.lt)
  have Q2 := hid (Q1.out.trans (hb2.mono Q1.out.size))
  clear hb2 P1 B1 Q1
  obtain ⟨z, hz⟩ : ∃ z, z = zKey := ⟨_, rfl⟩
  rw [← hz]
  have HZ := hid hz
  have HZS := hid (show z.size = 16 from by rw [hz]; exact zKey_size)
  clear hz
  go_wp2_with (first | (refine convB (W := w2) (by rfl) 9 53 _ (by rfl) 5 Tryz.underlying9 Tryz.underlying53 Tryz.underlying5 z (by rfl) (by rw [HZS.out]; simp [maxLen]) ?_))
  intro c w3 hb3 hz3 hr3
  have P3 := hid (P2.out.below hb3)
  have B3 := hid (B2.out.below hb3 B2.out.lt)
  have Q3 := hid (Q2.out.trans (hb3.mono Q2.out.size))
  have hg2 := P2.out.lt
  have R3 := hid hr3
  have F3 := hid (show ∀ ad : Addr, (some (⟨w2.heap.size, 0, none⟩ : Addr)) = some ad → ad.block ≠ gp ∧ ¬ PenRow w3 gp ad.block from fun ad e => by
    injection e with e
    subst e
    exact ⟨by show w2.heap.size ≠ gp; omega, fun hr => by have := P2.out.row_lt (hr.step hg2 hb3); exact absurd this (by simp)⟩)
  have L3 := hid (show w2.heap.size + 1 ≤ w3.heap.size from by omega)
  clear hb3 hz3 hr3 hg2 P2 B2 Q2
  go_wp2_with fail
  refine (pen_Text gp gp [] (strNums z) _ z.size c (strNums_len z).symm w3 P3.out (w2.heap.size + 1) R3.out L3.out F3.out (by rw [strNums_len, HZS.out]; omega) (by simp)).mono ?_
  rintro e w4 ⟨rfl, hp4, pk4⟩
  have hf := pk4.far P3.out
  have b4 := pk4.below P3.out
  have hgl := HGP.out
  have P4 := hid (show PenAt w4 gp gp ([] ++ varint 16 ++ strNums zKey) from by rw [← HZ.out]; have h := hp4; rw [HZS.out] at h; exact h)
  have B4 := hid (B3.out.keep hf (by decide))
  have Q4 := hid (Q3.out.trans (b4.mono (by omega)))
  clear hf hp4 pk4 b4 hgl P3 B3 Q3 R3 F3 L3 HZ HZS
  have V1 := hid (show ([] ++ varint 16 ++ strNums zKey).length ≤ 100 from by have h4 := varint_len 16 (by decide); have h7 : (strNums zKey).length = 16 := by rw [strNums_len, zKey_size]
                                                                              simp only [List.length_append, List.length_nil]; omega)
  go_wp2_with fail
  refine (pen_Number gp gp 1099511627776 _ w4 P4.out (by omega) (by omega) (by have := V1.out; omega)).mono ?_
  rintro e w5 ⟨rfl, hp5, pk5⟩
  have hf := pk5.far P4.out
  have b5 := pk5.below P4.out
  have hgl := HGP.out
  have P5 := hid hp5
  have B5 := hid (B4.out.keep hf (by decide))
  have Q5 := hid (Q4.out.trans (b5.mono (by omega)))
  clear hf hp5 pk5 b5 hgl P4 B4 Q4
  have V2 := hid (show ([] ++ varint 16 ++ strNums zKey ++ varint (1099511627776 : Int).toNat).length ≤ 200 from by have := V1.out; have h2 := varint_len (1099511627776 : Int).toNat (by decide); rw [List.length_append]; omega)
  go_wp2_with fail
  refine (pen_Number gp gp 3298534883328 _ w5 P5.out (by omega) (by omega) (by have := V2.out; omega)).mono ?_
  rintro e w6 ⟨rfl, hp6, pk6⟩
  have hf := pk6.far P5.out
  have b6 := pk6.below P5.out
  have hgl := HGP.out
  have P6 := hid hp6
  have B6 := hid (B5.out.keep hf (by decide))
  have Q6 := hid (Q5.out.trans (b6.mono (by omega)))
  clear hf hp6 pk6 b6 hgl P5 B5 Q5
  have V3 := hid (show ([] ++ varint 16 ++ strNums zKey ++ varint (1099511627776 : Int).toNat ++ varint (3298534883328 : Int).toNat).length ≤ 300 from by have := V2.out; have h2 := varint_len (3298534883328 : Int).toNat (by decide); rw [List.length_append]; omega)
  obtain ⟨ds, hds⟩ : ∃ ds, ds = [] ++ varint 16 ++ strNums zKey ++ varint (1099511627776 : Int).toNat ++ varint (3298534883328 : Int).toNat := ⟨_, rfl⟩
  rw [← hds] at P6 V3
  have HPS := hid (show psL q = ds ++ lgB q ++ varint (1073741824 : Int).toNat from by rw [hds]; rfl)
  clear hds V1 V2
  go_upto_region 5 with fail
  refine wp_region_noPanic (wp_region_held (S := fun w' => w'.rangeAt w.heap.size 0 (qC' q).toList) (by kernel_rfl) ?_)
  change wpAnyH _ _ _ _ _ 5 _ _ w6.drew
  have P7 := hid (show PenAt w6.drew gp gp ds from P6.out)
  have B7 := hid (show Blk w6.drew w.heap.size 23 (qC' q) from B6.out)
  have Q7 := hid (show Below w.heap.size w w6.drew from Q6.out.drew)
  clear P6 B6 Q6
  generalize w6.drew = w7 at *
  have RA : ∀ {W : World}, Blk W w.heap.size 23 (qC' q) → W.rangeAt w.heap.size 0 (qC' q).toList := fun h j v hv => by rw [Nat.zero_add, h.cell j]; simpa using hv
  have hS7 := RA B7.out
  refine wpAnyH_take (i := 0) (v := .pointer (some ⟨gp, 0, none⟩)) (by rfl) (by kernel_rfl) (by kernel_rfl) (by kernel_rfl) (fun _ _ _ h => h) (.inl ⟨rfl, fun w _ => by rfl⟩) hS7 ?_
  simp only [Act.put, List.getElem_toArray, List.getElem_cons_zero, List.getElem_cons_succ, List.setIfInBounds_toArray, List.set_cons_zero, List.set_cons_succ]
  refine wpAnyH_take (i := 1) (v := .agg (qC' q).toList.toArray) (by rfl) (by kernel_rfl) (by kernel_rfl) (by kernel_rfl) (fun _ _ _ h => h) (yieldsIf_load_mid (by rfl) 23 _ (by rfl) w.heap.size 0 (by rfl) (qC' q).toList _ (fun w h => h) Tryz.underlying23 rfl (by kernel_rfl)) hS7 ?_
  simp only [Act.put, List.getElem_toArray, List.getElem_cons_zero, List.getElem_cons_succ, List.setIfInBounds_toArray, List.set_cons_zero, List.set_cons_succ]
  refine wpAnyH_take (i := 2) (v := .agg (qC' q).toList.toArray) (by rfl) (by kernel_rfl) (by kernel_rfl) (by kernel_rfl) (fun _ _ _ h => h) (yieldsIf_load_mid (by rfl) 23 _ (by rfl) w.heap.size 0 (by rfl) (qC' q).toList _ (fun w h => h) Tryz.underlying23 rfl (by kernel_rfl)) hS7 ?_
  simp only [Act.put, List.getElem_toArray, List.getElem_cons_zero, List.getElem_cons_succ, List.setIfInBounds_toArray, List.set_cons_zero, List.set_cons_succ]
  refine wpAnyH_one (i := 3) (by kernel_rfl) (wpOp_in (by rfl) rfl (wp_enter (f := 41) (args := #[q.v]) (by kernel_rfl) ?_))
  refine (ledger_longest q HQ.out w7).mono ?_
  rintro e w8 ⟨T, c8, rfl, ho8, hb8⟩
  have P8 := hid (P7.out.below hb8)
  have B8 := hid (B7.out.below hb8 B7.out.lt)
  have Q8 := hid (Q7.out.trans (hb8.mono Q7.out.size))
  have O8 := hid ho8
  have L8 := hid (show w7.heap.size ≤ w8.heap.size from hb8.size)
  clear hb8 ho8 P7 B7 Q7
  have hS8 := RA B8.out
  refine ⟨_, rfl, hS8, ?_⟩
  simp only [Act.put, List.getElem_toArray, List.getElem_cons_zero, List.getElem_cons_succ, List.setIfInBounds_toArray, List.set_cons_zero, List.set_cons_succ]
  refine wpAnyH_one (i := 4) (by kernel_rfl) (wpOp_in (by rfl) rfl (wp_enter (f := 40) (args := #[.pointer (some ⟨gp, 0, none⟩), q.v, aggV 1073741824 (lgA q.agg) T (lgT q).length c8 (lgZ q.agg)]) (by kernel_rfl) ?_))
  refine (agg_Put gp gp q HQ.out T _ c8 w7.heap.size rfl ds w8 P8.out O8.out (by have := V3.out; omega)).mono ?_
  rintro e w9 ⟨rfl, hp9, pk9⟩
  have hf := pk9.far P8.out
  have b9 := pk9.below P8.out
  have hgl := HGP.out
  have P9 := hid hp9
  have B9 := hid (B8.out.keep hf (by decide))
  have Q9 := hid (Q8.out.trans (b9.mono (by omega)))
  clear hf hp9 pk9 b9 hgl P8 B8 Q8 O8
  have hS9 := RA B9.out
  refine ⟨_, rfl, hS9, ?_⟩
  refine wpAnyH_done (by kernel_rfl) (NoPanic.normal ?_) _
  clear hS7 hS8 hS9 RA
  have V4 := hid (show (ds ++ lgB q).length ≤ 500 from by have := V3.out; have := HLG.out; rw [List.length_append]; omega)
  simp only [Act.put, List.getElem_toArray, List.getElem_cons_zero, List.getElem_cons_succ, List.setIfInBounds_toArray, List.set_cons_zero, List.set_cons_succ]
  go_wp2_with fail
  refine (pen_Number gp gp 1073741824 _ w9 P9.out (by omega) (by omega) (by have := V4.out; omega)).mono ?_
  rintro e w10 ⟨rfl, hp10, pk10⟩
  have b10 := pk10.below P9.out
  have hgl := HGP.out
  have P10 := hid (show PenAt w10 gp gp (psL q) from by rw [HPS.out]; exact hp10)
  have Q10 := hid (Q9.out.trans (b10.mono (by omega)))
  clear hp10 pk10 b10 hgl P9 Q9 B9
  go_wp2_with fail
  refine (pen_Bytes gp gp (psL q) w10 P10.out (by have := HLP.out; omega)).mono ?_
  rintro e w11 ⟨A11, c11, rfl, ho11, hb11⟩
  have Q11 := hid (Q10.out.trans (hb11.mono Q10.out.size))
  clear ho11 hb11
  go_wp2
  go_ret
  exact ⟨rfl, Q11.out⟩
