/- The sum: a message's tail, a hash's clone, the sum of what was written. -/
import Derived.Test.YtkndkeeleaoooaaGreatHash
namespace Go.Proofs.YtkndkeeleaoooaaGreat
open Go.RowKit
set_option linter.unusedVariables false
set_option linter.unusedSimpArgs false
set_option maxRecDepth 100000
set_option maxHeartbeats 1000000

theorem noughts_list (z : Value) (m : Nat) : (Builtin.zeroCells #[z] m).toList = List.replicate m z := by
  apply List.ext_getElem
  · simp [Builtin.zeroCells]
  · intro i h1 h2
    have : i % 1 = 0 := Nat.mod_one i
    simp [Builtin.zeroCells, this]
section
variable {P : Program}
/-- One byte, and noughts behind it. -/
theorem run_noughts (w : World) (t ti ty e : TypeId) {k : IntKind} (ht : P.underlying t = some (.slice e)) (hti : P.underlying ti = some (.int k)) (hinfo : (P.info? e).map (fun i => (i.zero, i.size, i.bytes)) = some (some (.int .u8 0), 1, 1))
    (base g : Nat) (x : Value) (hb : Blk w g e #[x]) (hg : base ≤ g) (m : Nat) (hm : m ≤ 1000000000000) :
    ∃ g' c w', (Builtin.append_ #[t, ti] ty #[.slice (some ⟨g, 0, none⟩) 1 1, .int .i64 m]).run P w = .ok (.slice (some ⟨g', 0, none⟩) (1 + m) c) w' ∧ w'.ownsRow base e 1 (.slice (some ⟨g', 0, none⟩) (1 + m) c) (1 + m) (x :: List.replicate m (.int .u8 0)) ∧
      Below w.heap.size w w' := by
  obtain ⟨i0, hi, hz0, hz1, hz2⟩ := info_parts hinfo
  have hw : IntKind.i64.wrap (m : Int) = m := IntWalk.i64_in _ (by omega)
  have hneg : ¬ ((m : Int) < 0) := by omega
  have hbig : ¬ (281474976710656 < (m : Int)) := by omega
  have hlt := hb.lt
  have hcell : (Value.int .u8 0).cells = #[.int .u8 0] := rfl
  rcases Nat.eq_zero_or_pos m with rfl | hp
  · have hw0 : IntKind.i64.wrap 0 = 0 := by decide
    refine ⟨g, 1, w, ?_, ?_, Below.refl _ _⟩
    · simp [Builtin.append_, run_underlying ht, run_underlying hti, sizeOf, typeInfo, hi, hz1, hz2, asInt, asIntOf, hw0, storeCells]
    · exact ⟨by simp, .inr ⟨g, 1, #[x], rfl, hg, hb, Nat.le_refl _, by simp [maxLen], by simp, by simp⟩⟩
  · have hn : ¬ (1 + m ≤ 1) := by omega
    have h63 : ¬ (9223372036854775807 < (1 : Int) + (m : Int)) := by omega
    have hfit : Builtin.nextslicecap (1 + m) 1 * 1 ≤ 281474976710656 := growslice_fits (by omega) (by omega)
    have h48 : ¬ (281474976710656 < Builtin.nextslicecap (1 + m) 1) := by omega
    have hfo : (Builtin.firstCells 1 1 (.slice (some ⟨g, 0, none⟩) 1 1)).run P w.drew = .ok #[x] w.drew := run_firstCells_some (P := P) w.drew 1 1 ⟨g, 0, none⟩ 1 1 [x] rfl (fun j u hj => by
      match j, hj with
      | 0, hj =>
        simp at hj
        subst hj
        have := hb.cell 0
        simpa [cell_add] using this)
    have hm0 : ¬ (m = 0) := by omega
    have hge := grownCap_ge w (1 + m) 1 e
    have hcm : grownCap w (1 + m) 1 e ≤ maxLen := grownCap_le_maxLen w (1 + m) 1 e (by simp only [maxLen]; omega)
    refine ⟨w.heap.size, grownCap w (1 + m) 1 e, w.drew.alloc (.cells (#[x] ++ (Builtin.zeroCells #[.int .u8 0] m ++ Builtin.zeroCells #[.int .u8 0] (grownCap w (1 + m) 1 e - (1 + m)))) e), ?_, ?_, ?_⟩
    · simp [Builtin.append_, run_underlying ht, run_underlying hti, sizeOf, typeInfo, zeroValue, hi, hz0, hz1, hz2, asInt, asIntOf, hw, hneg, hbig, hn, h63, h48, Question.forced, hfo, newRow, grownCap, hm0, hcell]
    · refine ⟨by simp; omega, .inr ⟨w.heap.size, _, _, rfl, by omega, heap_alloc_new w.drew _, hge, hcm, ?_, ?_⟩⟩
      · simp [size_zeroCells]; omega
      · have : (#[x] ++ (Builtin.zeroCells #[.int .u8 0] m ++ Builtin.zeroCells #[.int .u8 0] (grownCap w (1 + m) 1 e - (1 + m)))).toList = (x :: List.replicate m (.int .u8 0)) ++ List.replicate (grownCap w (1 + m) 1 e - (1 + m)) (.int .u8 0) := by simp [noughts_list]
        rw [this]
        exact List.take_left' (by simp; omega)
    · exact (Below.refl _ w).drew.alloc (by simp) _
end
section
variable {P : Program} {ops : Array Oper} {rest : List Oper} {o : Oper} {a : Act} {Q : Exit → Act → World → Prop}
/-- 'append([]T{x}, make([]T, m)...)'. -/
theorem appN {W : World} (hgd : o.guard = none) (s x : Operand) (t ti : TypeId) (ho : o.op = .call { callee := .builtin .append, args := #[s, x], argTypes := #[t, ti] })
    (e : TypeId) {k : IntKind} (ht : P.underlying t = some (.slice e)) (hti : P.underlying ti = some (.int k)) (hinfo : (P.info? e).map (fun i => (i.zero, i.size, i.bytes)) = some (some (.int .u8 0), 1, 1))
    (base g : Nat) (y : Value) (hb : Blk W g e #[y]) (hg : base ≤ g) (m : Nat) (hm : m ≤ 1000000000000) (hs : a.eval s = .slice (some ⟨g, 0, none⟩) 1 1) (hx : a.eval x = .int .i64 m)
    (h : ∀ g' c w', w'.ownsRow base e 1 (.slice (some ⟨g', 0, none⟩) (1 + m) c) (1 + m) (y :: List.replicate m (.int .u8 0)) → Below W.heap.size W w' → wpList P ops Q rest (a.put o.dst (.slice (some ⟨g', 0, none⟩) (1 + m) c)) w') : wpList P ops Q (o :: rest) a W := by
  refine wpList_plain hgd fun K hK => ?_
  obtain ⟨g', c, w', hr, h2, h3⟩ := run_noughts (P := P) W t ti o.type e ht hti hinfo base g y hb hg m hm
  unfold Oper.wp execOp
  simp only [ho, resolve, invoke, builtin, Sem.run_bind, Sem.run_pure, Result.andThen_ok, List.map_toArray, List.map_cons, List.map_nil, hs, hx, hr]
  exact hK _ _ (h g' c w' h2 h3)
end
def tailZ (n : Nat) : Nat := (119 - n % 64) % 64
def sizeBytes (n : Nat) : Nat → List Int
  | 0 => []
  | j + 1 => sizeBytes n j ++ [((n * 8 / 2 ^ (8 * (7 - j)) % 256 : Nat) : Int)]
def tailL (n : Nat) : List Int := (128 :: List.replicate (tailZ n) 0) ++ sizeBytes n 8
theorem tailL_len (n : Nat) : (tailL n).length ≤ 200 := by
  have : tailZ n < 64 := Nat.mod_lt _ (by decide)
  simp [tailL, sizeBytes]
  omega
theorem sha_tail (n : Nat) (w : World) (hn : n ≤ 100000000000) :
    Calls Tryz.prog 92 #[.int .i64 n] w fun e w' => ∃ A c m, m = (tailL n).length ∧ e = .returned (.slice A m c) ∧ w'.ownsRow w.heap.size 5 1 (.slice A m c) m (nums8 (tailL n)) ∧ Below w.heap.size w w' := by
  obtain ⟨tz, htz⟩ : ∃ tz : Nat, tz = tailZ n := ⟨_, rfl⟩
  have hlt : tz < 64 := by rw [htz]; exact Nat.mod_lt _ (by decide)
  have HZ := hid (show ((119 : Int) - (n : Int) % 64) % 64 = (tz : Int) from by rw [htz, tailZ]; omega)
  have hb := Blk.new w 5 #[.int .u8 128]
  have HB := hid hb
  have HTZ := hid htz
  clear hb htz
  go_enter Tryz.func92, Tryz.ntmps92
  go_wp2_with (first | (at_builtin; refine appN (W := w.alloc (.cells #[.int .u8 128] 5)) (by rfl) _ _ _ _ (by rfl) 5 Tryz.underlying53 Tryz.underlying3 info_u8 w.heap.size w.heap.size (.int .u8 128) HB.out (Nat.le_refl _) tz (by omega) (by rfl) (by show Value.int .i64 ((119 - (n : Int) % 64) % 64) = Value.int .i64 (tz : Int); rw [HZ.out]) ?_))
  intro g1 c1 w1 ho1 hb1
  have HO1 := hid ho1
  have HB1 := hid (((Below.refl _ w).alloc (Nat.le_refl _) (.cells #[.int .u8 128] 5)).trans (hb1.mono (by simp)))
  clear ho1 hb1
  have E1 : IntKind.u64.wrap ((n : Int) * 8) = (n : Int) * 8 := by rw [IntKind.wrap_u64]; omega
  go_wp2
  go_loopw [4, 6] (fun v x wr => ∃ (j g c m : Nat), j ≤ 8 ∧ x = .int .i64 (7 - (j : Int)) ∧ v = .slice (some ⟨g, 0, none⟩) m c ∧ m = 1 + tz + j ∧ wr.ownsRow w.heap.size 5 1 (.slice (some ⟨g, 0, none⟩) m c) m (nums8 ((128 :: List.replicate tz 0) ++ sizeBytes n j)) ∧ Below w.heap.size w wr) (fun _ x _ => (intOf x + 1).toNat)
  case atStart => exact ⟨0, g1, c1, 1 + tz, by omega, rfl, rfl, rfl, by simpa [nums8, sizeBytes] using HO1.out, HB1.out⟩
  case round =>
    clear HB1 HO1 HB
    obtain ⟨j, g, c, m, hj, rfl, rfl, hm, ho, hb⟩ := hrel
    by_cases hlt2 : j < 8
    · have HO := hid ho
      have HB := hid hb
      have HM := hid hm
      clear ho hb hm
      have p1 : (0 : Int) ≤ 7 - (j : Int) := by omega
      have p2 : 7 - (j : Int) ≤ 7 := by omega
      have hsz := HB.out.size
      go_wp2_with (first | (at_builtin; refine app1c (W := wr) (by rfl) _ _ _ (by rfl) 5 _ 1 Tryz.underlying53 info_u8 rfl w.heap.size (.slice (some ⟨g, 0, none⟩) m c) m (nums8 ((128 :: List.replicate tz 0) ++ sizeBytes n j)) HO.out (by rfl) (.int .u8 ((n : Int) * 8 / 2 ^ (8 * (7 - j)) % 256)) (by rfl) (by rfl) (by have := HM.out; omega) (by decide) (by omega) ?_))
      intro g2 c2 w2 ho2 hg2 hat2 hlt3
      have HO2 := hid ho2
      have HG2 := hid hg2
      clear ho2 hg2 hat2 hlt3 p1 p2
      go_wp2
      go_roundw
      case rel =>
        refine ⟨j + 1, g2, c2, m + 1, by omega, ?_, rfl, by rw [HM.out]; omega, ?_, HB.out.grown HG2.out hsz (own_base HO.out)⟩
        · go_num
        · have : nums8 ((128 :: List.replicate tz 0) ++ sizeBytes n (j + 1)) = nums8 ((128 :: List.replicate tz 0) ++ sizeBytes n j) ++ [.int .u8 ((n : Int) * 8 / 2 ^ (8 * (7 - j)) % 256)] := by
            simp [nums8, sizeBytes]
          rw [this]
          simpa [nums8] using HO2.out
      case measure => simp [intOf]; omega
    · have e8 : j = 8 := by omega
      subst e8
      have n1 : ¬ ((0 : Int) ≤ 7 - ((8 : Nat) : Int)) := by decide
      clear hlt2 hj
      go_wp2
      go_ret
      have hl : 1 + tz + 8 = (tailL n).length := by rw [tailL, ← HTZ.out]; simp [sizeBytes]; omega
      subst hm
      refine ⟨some ⟨g, 0, none⟩, c, ?_, ?_, hb⟩
      · rw [← hl]; rfl
      · rw [← hl, tailL, ← HTZ.out]; exact ho

theorem sha_Clone (g : Nat) (h : Hs) (w : World) (hh : HsAt w g h) (hl : h.rest.length ≤ 100000000000) :
    Calls Tryz.prog 91 #[.pointer (some ⟨g, 0, none⟩)] w fun e w' => ∃ g2, e = .returned (.pointer (some ⟨g2, 0, none⟩)) ∧ w.heap.size ≤ g2 ∧ HsAt w' g2 h ∧ Below w.heap.size w w' := by
  obtain ⟨A0, k0, c0, B0, hk0, hblk, hr0, hB0, hne0⟩ := hh
  have h2 : ∀ u ∈ nums8 h.rest, u.oneCell' = true := ints_oneCell _ _
  have H2 := hid h2
  have HBLK := hid hblk
  have HR0 := hid hr0
  have HB0 := hid hB0
  have HK0 := hid hk0
  have HL := hid hl
  have hz := Blk.new w 144 (hC zero8 none 0 0 0 false)
  have HZ := hid hz
  have hlt := hblk.lt
  have HLT := hid hlt
  obtain ⟨n0, hn0⟩ : ∃ n0 : Nat, n0 = h.n := ⟨_, rfl⟩
  rw [← hn0] at HBLK
  have HN0 := hid hn0
  clear h2 hblk hr0 hne0 hB0 hk0 hl hz hlt hn0
  go_enter Tryz.func91, Tryz.ntmps91
  go_wp2_with (first | (refine wpList_load_row (by rfl) 144 _ (by rfl) g (by rfl) 144 (hC h.st A0 k0 c0 n0 h.on) (0, 0) _ HBLK.out Tryz.underlying144 rfl (by kernel_rfl) ?_) | (refine storeB (w := w.alloc (.cells (hC zero8 none 0 0 0 false) 144)) (by rfl) 144 _ _ (by rfl) w.heap.size 0 144 (hC zero8 none 0 0 0 false) (hC h.st A0 k0 c0 n0 h.on) (by rfl) (by rfl) HZ.out (by simp) (by kernel_rfl) (by simp [Value.oneCell']) ?_))
  intro w1 hk1 hg1
  have HK1 := hid (show Blk w1 w.heap.size 144 (hC h.st A0 k0 c0 n0 h.on) from hk1)
  have HBL := hid (((Below.refl _ w).alloc (Nat.le_refl _) (.cells (hC zero8 none 0 0 0 false) 144)).grown hg1 (by simp) (by simp))
  have hs1 : w.heap.size < w1.heap.size := HK1.out.lt
  have HS1 := hid hs1
  have c8 : (w1.alloc (.cells #[] 5)).cell? ⟨g, 8, none⟩ = some (.slice A0 k0 c0) := by
    have := (HBLK.out.below HBL.out HLT.out).alloc (.cells #[] 5)
    exact this.cell 8
  clear hk1 hg1 hs1
  go_wp2_with (first | (at_builtin; refine appR (W := w1.alloc (.cells #[] 5)) (by rfl) _ _ _ (by rfl) 5 _ 1 1 Tryz.underlying53 info_u8 rfl (by omega) w1.heap.size (.slice (some ⟨w1.heap.size, 0, none⟩) 0 0) 0 [] (World.ownsRow_made w1 #[] 0 (Nat.le_refl _) (by simp [maxLen]) rfl) (by rfl) w1.heap.size A0 k0 c0 (nums8 h.rest) (((HR0.out.below (HBL.out.mono HB0.out)).more (Nat.le_trans HB0.out HBL.out.size)).alloc (Nat.le_refl _) _) (by rfl) H2.out (by have := HK0.out; have := HL.out; omega) (by decide) (by simp) ?_))
  intro A3 c3 w3 ho3 hg3 _
  have HO3 := hid ho3
  have HK3 := hid ((HK1.out.alloc (.cells #[] 5)).grown hg3 (by have := HS1.out; simp [Value.ownBlock]; omega))
  have HBL3 := hid ((HBL.out.alloc HBL.out.size (.cells #[] 5)).grown hg3 (by have := HS1.out; simp; omega) (by have := HS1.out; simp [Value.ownBlock]; omega))
  have f8 := HK3.out.free 8
  have c8' : w3.cell? ⟨w.heap.size, 8, none⟩ = some (.slice A0 k0 c0) := HK3.out.cell 8
  clear ho3 hg3 c8
  go_wp2
  go_ret
  have hk6 := HK3.out.set 8 (.slice A3 k0 c3)
  have hg6 := grown_set (w := w3) (g := w.heap.size) (j := 8) (.slice A3 k0 c3)
  obtain ⟨A', c', hv, q1, q2, q3, q4⟩ := own_form HO3.out
  have hne : ∀ ad, A3 = some ad → ad.block ≠ w.heap.size := fun ad e => by
    injection hv with e1 _ _
    have := (q4 ad (e1 ▸ e)).2.2.1
    have := HS1.out
    omega
  refine ⟨w.heap.size, rfl, Nat.le_refl _, ?_, HBL3.out.grown hg6 HBL3.out.size (by simp)⟩
  refine ⟨A3, k0, c3, w3.heap.size, HK0.out, ?_, grown_ne (Rds.of_own HO3.out) hg6 (Nat.le_refl _) hne, by simp, hne⟩
  rw [← HN0.out]
  simpa using hk6
