/- The seal: a mac. -/
import Derived.Test.YtkndkeeleaoooaaGreatSum
import Derived.Deep.RegionHeld3
import Derived.Laws.CopyOwn
namespace Go.Proofs.YtkndkeeleaoooaaGreat
open Go.RowKit
set_option linter.unusedVariables false
set_option linter.unusedSimpArgs false
set_option maxRecDepth 100000
set_option maxHeartbeats 1000000

abbrev mC (pad : List Int) (pv : Value) : Array Value := (nums8 pad ++ [pv]).toArray
def mkU (pad : List Int) (x : Int) : Nat → List Int
  | 0 => zeros64
  | i + 1 => (mkU pad x i).set i (bits BinOp.xor IntKind.u8 (pad.getD i 0) x)
theorem mkU_len (pad : List Int) (x : Int) : ∀ i, (mkU pad x i).length = 64
  | 0 => zeros64_len
  | i + 1 => by rw [mkU, List.length_set]; exact mkU_len pad x i
def maskL (pad : List Int) (x : Int) : List Int := mkU pad x 64
theorem maskL_len (pad : List Int) (x : Int) : (maskL pad x).length = 64 := mkU_len _ _ _
theorem own_of_blk {w : World} {g base e : Nat} {l : List Int} (h : Blk w g e (u8s l)) (hb : base ≤ g) (n : Nat) (hn : l.length = n) (hm : n ≤ maxLen) : w.ownsRow base e 1 (.slice (some ⟨g, 0, none⟩) n n) n (nums8 l) :=
  ⟨by simp [nums8, hn], .inr ⟨g, n, _, rfl, hb, h, Nat.le_refl _, hm, by simp [u8s, nums8, hn], by simp [u8s, nums8]; rw [List.take_of_length_le (by simp [hn])]⟩⟩
theorem make64 (w : World) : (Instr.makeSlice 53 (.int .i64 64) (.int .i64 64)).run Tryz.prog w = .ok (.slice (some ⟨w.heap.size, 0, none⟩) 64 64) (w.alloc (.cells (u8s zeros64) 5)) := by kernel_rfl
theorem hmac_masked (g : Nat) (pad : List Int) (hp : pad.length = 64) (pv : Value) (x : Int) (w : World) (h : Blk w g 148 (mC pad pv)) :
    Calls Tryz.prog 94 #[.pointer (some ⟨g, 0, none⟩), .int .u8 x] w fun e w' => ∃ A c, e = .returned (.slice A 64 c) ∧ w'.ownsRow w.heap.size 5 1 (.slice A 64 c) 64 (nums8 (maskL pad x)) ∧ Below w.heap.size w w' := by
  have hr : (w.alloc (.cells (u8s zeros64) 5)).rangeAt g 0 (nums8 pad) := fun j v hv => by
    have hk := (h.alloc (.cells (u8s zeros64) 5)).cell (0 + j)
    rw [hk]
    have hlt : j < pad.length := by have := (List.getElem?_eq_some_iff.1 hv).1; simpa [nums8] using this
    simp only [Nat.zero_add]
    rw [List.getElem?_toArray, List.getElem?_append_left (by simpa [nums8] using hlt)]
    exact hv
  have HR := hid hr
  have HP := hid hp
  have HO := hid (Blk.new w 5 (u8s zeros64))
  have HI := hid (show (Tryz.prog.info? 146).map (·.size) = some (nums8 pad).length from by rw [show (nums8 pad).length = 64 from by simp [nums8, hp]]; kernel_rfl)
  have HB := hid ((Below.refl _ w).alloc (Nat.le_refl _) (.cells (u8s zeros64) 5))
  clear hr hp h
  obtain ⟨w1, hw1⟩ : ∃ w1, w1 = w.alloc (.cells (u8s zeros64) 5) := ⟨_, rfl⟩
  have mk := make64 w
  rw [← hw1] at mk HR HO HB
  clear hw1
  have hlt := HO.out.lt
  go_enter Tryz.func94, Tryz.ntmps94
  go_wp2_with (first | (refine wpList_load_mid (w := w1) (by rfl) 146 _ (by rfl) g 0 (by rfl) (nums8 pad) _ HR.out Tryz.underlying146 rfl HI.out ?_))
  go_loopw [13] (fun v wr => ∃ i : Nat, i ≤ 64 ∧ v = .int .i64 i ∧ Blk wr w.heap.size 5 (u8s (mkU pad x i)) ∧ Below w.heap.size w wr) (fun v _ => 64 - (intOf v).toNat)
  case atStart => exact ⟨0, by omega, rfl, HO.out, HB.out⟩
  case round =>
    clear HB HO HR mk hlt
    obtain ⟨i, hi, rfl, ho, hb⟩ := hrel
    by_cases hlt : i < 64
    · have ci := u8_at ho (j := i) (by rw [mkU_len]; omega)
      have fi := ho.free i
      have hv : (nums8 pad).toArray[i]? = some (.int .u8 (pad.getD i 0)) := by
        have : i < pad.length := by have := HP.out; omega
        simp [nums8, this]
      have HV := hid hv
      have HO := hid ho
      have HB := hid hb
      clear ho hb hv
      have p0 : (0 : Int) ≤ (i : Int) := by omega
      have p1 : (i : Int) < 64 := by omega
      go_wp2_with (first | (refine indexA (by rfl) 146 _ _ (by rfl) 5 64 Tryz.underlying146 Tryz.underlying5 (by kernel_rfl) (nums8 pad).toArray i (.int .u8 (pad.getD i 0)) (by omega) HV.out (by rfl) (by rfl) ?_))
      go_roundw
      case rel => exact ⟨i + 1, by omega, by go_num, by simpa [mkU, List.getD_eq_getElem?_getD] using u8_set HO.out i (bits BinOp.xor IntKind.u8 (pad.getD i 0) x), HB.out.setCell (p := ⟨w.heap.size, i, none⟩) (by simp) _⟩
      case measure => simp [intOf]; omega
    · have e8 : i = 64 := by omega
      subst e8
      have n1 : decide (((64 : Nat) : Int) < 64) = false := by decide
      clear hlt hi
      go_wp2
      go_ret
      exact ⟨_, _, rfl, own_of_blk ho (Nat.le_refl _) 64 (mkU_len _ _ _) (by simp [maxLen]), hb⟩

theorem mC_set (pad : List Int) (pv v : Value) (hp : pad.length = 64) : (mC pad pv).setIfInBounds 64 v = mC pad v := by
  have h : (nums8 pad).length = 64 := by simp [nums8, hp]
  unfold mC
  rw [List.setIfInBounds_toArray]
  congr 1
  rw [List.set_append_right _ _ (by omega)]
  simp [h]
theorem mC_at (pad : List Int) (pv : Value) (hp : pad.length = 64) : (mC pad pv)[64]? = some pv := by
  have h : (nums8 pad).length = 64 := by simp [nums8, hp]
  unfold mC
  rw [List.getElem?_toArray, List.getElem?_append_right (by omega)]
  simp [h]
def resetH (pad : List Int) : Hs := Hs.new.write (maskL pad 54)
theorem grown_far {a b c : World} {row : Option Nat} {g : Nat} (h : a.grownBy b row) (k : b.grownBy c (some g)) (hg : a.heap.size ≤ g) : a.grownBy c row :=
  ⟨k.os.trans h.os, k.tape.trans h.tape, k.output.trans h.output, Nat.le_trans h.size k.size, fun i hi hn => (k.block i (Nat.lt_of_lt_of_le hi h.size) (fun e => by have := Option.some.inj e; omega)).trans (h.block i hi hn)⟩
theorem hmac_Reset (g : Nat) (pad : List Int) (hp : pad.length = 64) (pv : Value) (w : World) (h : Blk w g 148 (mC pad pv)) :
    Calls Tryz.prog 93 #[.pointer (some ⟨g, 0, none⟩)] w fun e w' => e = .returned (.tuple #[]) ∧ ∃ gh, w.heap.size ≤ gh ∧ Blk w' g 148 (mC pad (.pointer (some ⟨gh, 0, none⟩))) ∧ HsAt w' gh (resetH pad) ∧ w.grownBy w' (some g) := by
  have HP := hid hp
  have HK := hid h
  clear h hp
  go_enter Tryz.func93, Tryz.ntmps93
  go_wp2_with fail
  refine (sha_New w).mono ?_
  rintro e w1 ⟨rfl, hb1, hbl1, hs1⟩
  have k1 := HK.out.below hbl1 HK.out.lt
  have c64 : w1.cell? ⟨g, 64, none⟩ = some pv := (k1.cell 64).trans (mC_at _ _ HP.out)
  have f64 := k1.free 64
  have hg1 := grown_set (w := w1) (g := g) (j := 64) (.pointer (some ⟨w.heap.size, 0, none⟩))
  have k2 := k1.set 64 (.pointer (some ⟨w.heap.size, 0, none⟩))
  rw [mC_set _ _ _ HP.out] at k2
  have hgl : g < w.heap.size := HK.out.lt
  have hh := (HsAt.new hb1)
  have b2 := hb1.far (p := ⟨g, 64, none⟩) (by simp; omega) (.pointer (some ⟨w.heap.size, 0, none⟩))
  have HH := hid (HsAt.new b2)
  have HG1 := hid (grown_trans (grown_of_below hbl1) hg1)
  have K2 := hid k2
  have HGL := hid hgl
  have HS1 := hid hs1
  clear k1 hb1 hbl1 hg1 k2 hgl hh b2 hs1
  go_upto_region 2 with fail
  obtain ⟨gh, hgh⟩ : ∃ gh, gh = w.heap.size := ⟨_, rfl⟩
  rw [← hgh] at HH HG1 K2
  rw [← hgh]
  have HGH := hid hgh
  clear hgh c64 f64
  generalize w1.setCell ⟨g, 64, none⟩ (.pointer (some ⟨gh, 0, none⟩)) = w2 at *
  have c64 : w2.cell? ⟨g, 64, none⟩ = some (.pointer (some ⟨gh, 0, none⟩)) := (K2.out.cell 64).trans (mC_at _ _ HP.out)
  have K2d := hid (show Blk w2.drew g 148 (mC pad (.pointer (some ⟨gh, 0, none⟩))) from K2.out)
  have HHd := hid (show HsAt w2.drew gh Hs.new from HH.out)
  go_region_held3 (fun w' => w'.cell? ⟨g, 64, none⟩ = some (.pointer (some ⟨gh, 0, none⟩))) (first | exact c64 | exact c64' | exact c64'')
    (first
      | (go_at_call 94; refine (hmac_masked g pad HP.out (.pointer (some ⟨gh, 0, none⟩)) 54 w2.drew K2d.out).mono ?_; rintro e w3 ⟨A, c, rfl, ho3, hb3⟩; have HO3 := hid ho3; have HB3 := hid hb3; have c64' : w3.cell? ⟨g, 64, none⟩ = some (.pointer (some ⟨gh, 0, none⟩)) := ((K2d.out.below hb3 K2d.out.lt).cell 64).trans (mC_at _ _ HP.out); clear ho3 hb3)
      | (go_at_call 82; refine (sha_Write gh Hs.new (maskL pad 54) A 64 c w3.heap.size (maskL_len _ _).symm w3 (HHd.out.below HB3.out) (Rds.of_own HO3.out) (Nat.le_refl _) (fun ad e => by
          obtain ⟨A', c', hv, q1, q2, q3, q4⟩ := own_form HO3.out
          injection hv with e1 _ _
          have q5 : w2.heap.size ≤ ad.block := (q4 ad (e1 ▸ e)).2.2.1
          have q6 := HH.out.lt
          omega) (by rw [maskL_len]; decide)).mono ?_; rintro e w4 ⟨rfl, hh4, hg4⟩; have HH4 := hid hh4; have HG4 := hid hg4; have c64'' : w4.cell? ⟨g, 64, none⟩ = some (.pointer (some ⟨gh, 0, none⟩)) := (((K2d.out.below HB3.out K2d.out.lt).grown hg4 (fun e => by have := Option.some.inj e; have := HGL.out; have := HGH.out; omega)).cell 64).trans (mC_at _ _ HP.out); clear hh4 hg4))
  go_wp2
  go_end0
  have hb3 : Below w2.heap.size w2 w3 := ⟨HB3.out.os, HB3.out.tape, HB3.out.output, HB3.out.size, HB3.out.block⟩
  refine ⟨rfl, gh, by rw [HGH.out]; exact Nat.le_refl _, (K2.out.below hb3 K2.out.lt).grown HG4.out (fun e => by have := Option.some.inj e; have := HGL.out; have := HGH.out; omega), HH4.out, ?_⟩
  exact grown_far (grown_trans HG1.out (grown_of_below hb3)) HG4.out (by rw [HGH.out]; exact Nat.le_refl _)

/-- A mac lies here, and its hash. -/
def MacAt (w : World) (g gh : Nat) (pad : List Int) (h : Hs) : Prop := pad.length = 64 ∧ Blk w g 148 (mC pad (.pointer (some ⟨gh, 0, none⟩))) ∧ HsAt w gh h
theorem MacAt.ne {w : World} {g gh : Nat} {pad : List Int} {h : Hs} (hm : MacAt w g gh pad h) : g ≠ gh := by
  obtain ⟨A, k, c, B, e, hblk, _⟩ := hm.2.2
  exact hm.2.1.ne hblk (by decide)
theorem hmac_Write (g gh : Nat) (pad : List Int) (h : Hs) (bs : List Int) (A : Option Addr) (n c B : Nat) (hn : n = bs.length) (w : World) (hm : MacAt w g gh pad h) (hr : Rds w B 1 A n c (nums8 bs)) (hB : B ≤ w.heap.size) (hsrc : ∀ ad, A = some ad → ad.block ≠ gh) (hl : h.n + h.rest.length + bs.length ≤ 100000000000) :
    Calls Tryz.prog 85 #[.pointer (some ⟨g, 0, none⟩), .slice A n c] w fun e w' => e = .returned (.int .i64 n) ∧ MacAt w' g gh pad (h.write bs) ∧ w.grownBy w' (some gh) := by
  have HM := hid hm
  have HR := hid hr
  have HS := hid hsrc
  have HB := hid hB
  have HN := hid hn
  have HL := hid hl
  have c64 : w.cell? ⟨g, 64, none⟩ = some (.pointer (some ⟨gh, 0, none⟩)) := (hm.2.1.cell 64).trans (mC_at _ _ hm.1)
  clear hm hr hsrc hB hn hl
  go_enter Tryz.func85, Tryz.ntmps85
  go_wp2_with fail
  refine (sha_Write gh h bs A n c B HN.out w HM.out.2.2 HR.out HB.out HS.out HL.out).mono ?_
  rintro e w1 ⟨rfl, hh1, hg1⟩
  have HH := hid hh1
  have HG := hid hg1
  clear hh1 hg1 c64
  go_wp2
  go_ret
  exact ⟨rfl, ⟨HM.out.1, HM.out.2.1.grown HG.out (fun e => HM.out.ne (Option.some.inj e).symm), HH.out⟩, HG.out⟩

theorem wpAny_one {P : Program} {md : Region.Mode} {ops : Array Oper} {Q : Exit → Act → World → Prop} {i fuel : Nat} {listed : Array Bool} {a : Act} {w : World} (hr : Region.ready md ops listed = [i])
    (h : wpOp P ops Q i (wpAny P md ops Q fuel (listed.setIfInBounds i true)) a w) : wpAny P md ops Q (fuel + 1) listed a w :=
  wpAny_all hr (by simp) (fun j hj => by rw [List.mem_singleton] at hj; subst hj; exact h)
theorem wp_made2 {P : Program} {o : Oper} {a : Act} {w : World} {K : Act → World → Prop} {Q : Exit → Act → World → Prop} (cs : Array Value) (t : TypeId) (n : Nat) (he : (execOp a.eval o).run P w = .ok (.value (.slice (some ⟨w.heap.size, 0, none⟩) n n)) (w.alloc (.cells cs t)))
    (h : K (a.put o.dst (.slice (some ⟨w.heap.size, 0, none⟩) n n)) (w.alloc (.cells cs t))) : o.wp P a w K Q := by
  unfold Oper.wp
  rw [he]
  exact h
def macSum (pad : List Int) (h : Hs) : List Int := sumL [maskL pad 92, h.sum]
theorem hmac_Sum (g gh : Nat) (pad : List Int) (h : Hs) (w : World) (hm : MacAt w g gh pad h) (hl : h.n + h.rest.length ≤ 90000000000) :
    Calls Tryz.prog 86 #[.pointer (some ⟨g, 0, none⟩)] w fun e w' => e = .returned (.agg (u8s (macSum pad h))) ∧ Below w.heap.size w w' := by
  have z1 := Blk.new w 62 (u8s zeros32)
  have q1 := (Below.refl _ w).alloc (Nat.le_refl _) (.cells (u8s zeros32) 62)
  have m1 : Blk (w.alloc (.cells (u8s zeros32) 62)) g 148 (mC pad (.pointer (some ⟨gh, 0, none⟩))) := hm.2.1.alloc _
  have h1 : HsAt (w.alloc (.cells (u8s zeros32) 62)) gh h := hm.2.2.below ((Below.refl _ w).alloc (Nat.le_refl _) _)
  have c64 : (w.alloc (.cells (u8s zeros32) 62)).cell? ⟨g, 64, none⟩ = some (.pointer (some ⟨gh, 0, none⟩)) := (m1.cell 64).trans (mC_at _ _ hm.1)
  have HZ := hid z1
  have HQ := hid q1
  have HK := hid m1
  have HH := hid h1
  have HP := hid hm.1
  have HL := hid hl
  have hlt := hm.2.1.lt
  have HLT := hid hlt
  clear z1 q1 m1 h1 hm hl hlt
  obtain ⟨w1, hw1⟩ : ∃ w1, w1 = w.alloc (.cells (u8s zeros32) 62) := ⟨_, rfl⟩
  rw [← hw1] at HZ HQ HK HH c64
  have HW := hid hw1
  clear hw1
  go_enter Tryz.func86, Tryz.ntmps86
  go_upto_region 1 with fail
  change Code.wp _ _ _ _ (w.alloc (.cells (u8s zeros32) 62))
  rw [← HW.out]
  clear HW
  go_wp2_with fail
  refine (sha_Sum gh h w1 HH.out HL.out).mono ?_
  rintro e w2 ⟨rfl, hb2⟩
  obtain ⟨S, hS⟩ : ∃ S, S = h.sum := ⟨_, rfl⟩
  rw [← hS]
  have HSE := hid hS
  have HSL := hid (show S.length = 32 from by rw [hS, Hs.sum_len])
  clear hS
  obtain ⟨V, hV⟩ : ∃ V, V = u8s S := ⟨_, rfl⟩
  rw [← hV]
  have HSV := hid (show V.size = 32 from by rw [hV]; simp [u8s, nums8, HSL.out])
  have HV1 := hid (show ∀ u ∈ V.toList, u.oneCell' = true from by rw [hV]; simpa using ints_oneCell .u8 S)
  have HI := hid (show (Tryz.prog.info? 62).map (·.size) = some V.size from by rw [HSV.out]; kernel_rfl)
  have HVE := hid hV
  clear hV
  have hlt1 := HZ.out.lt
  have k2 := HK.out.below hb2 HK.out.lt
  have z2 := HZ.out.below hb2 HZ.out.lt
  have q2 := HQ.out.trans (hb2.mono HQ.out.size)
  have K2 := hid (k2.alloc (.cells (u8s zeros32) 62))
  have Z2 := hid (z2.alloc (.cells (u8s zeros32) 62))
  have Q2 := hid (q2.alloc q2.size (.cells (u8s zeros32) 62))
  have N2 := hid (Blk.new w2 62 (u8s zeros32))
  have hz2 : w.heap.size < w2.heap.size := z2.lt
  have HZ2 := hid hz2
  clear hlt1 k2 z2 q2 hz2 hb2 c64
  obtain ⟨gr, hgr⟩ : ∃ gr : Nat, gr = w2.heap.size := ⟨_, rfl⟩
  rw [← hgr] at N2 HZ2
  have HGR := hid hgr
  clear hgr
  obtain ⟨w3, hw3⟩ : ∃ w3, w3 = w2.alloc (.cells (u8s zeros32) 62) := ⟨_, rfl⟩
  rw [← hw3] at K2 Z2 Q2 N2
  have HW3 := hid hw3
  clear hw3
  go_wp2_with (first | (refine storeB (w := w2.alloc (.cells (u8s zeros32) 62)) (by rfl) 62 _ _ (by rfl) w2.heap.size 0 62 (u8s zeros32) V (by rfl) (by rfl) (by rw [← HW3.out, ← HGR.out]; exact N2.out) (by rw [HSV.out]; simp [u8s, nums8, zeros32]) HI.out HV1.out ?_))
  rw [← HW3.out, ← HGR.out]
  intro w4 hk4 hg4
  rw [splice_all _ _ (by rw [Array.length_toList, HSV.out]; simp [u8s, nums8, zeros32]), HVE.out] at hk4
  have hlt2 := HZ2.out
  have hlt3 := HLT.out
  have K4 := hid (K2.out.grown hg4 (fun e => by have := Option.some.inj e; omega))
  have Z4 := hid (Z2.out.grown hg4 (fun e => by have := Option.some.inj e; omega))
  have Q4 := hid (Q2.out.grown hg4 Q2.out.size (fun k e => by have := Option.some.inj e; omega))
  have N4 := hid (show Blk w4 gr 62 (u8s S) from hk4)
  clear hk4 hg4 K2 Z2 Q2 N2 hlt2 hlt3
  go_upto_region 4 with fail
  refine wp_region_noPanic (wp_region_any (by kernel_rfl) ?_)
  change wpAny _ _ _ _ 6 _ _ w4.drew
  have K4d := hid (show Blk w4.drew g 148 (mC pad (.pointer (some ⟨gh, 0, none⟩))) from K4.out)
  have Z4d := hid (show Blk w4.drew w.heap.size 62 (u8s zeros32) from Z4.out)
  have Q4d := hid (show Below w.heap.size w w4.drew from Q4.out.drew)
  have N4d := hid (show Blk w4.drew gr 62 (u8s S) from N4.out)
  clear K4 Z4 Q4 N4
  generalize w4.drew = w5 at *
  refine wpAny_take (i := 0) (v := .pointer (some ⟨g, 0, none⟩)) (by rfl) (by kernel_rfl) (by kernel_rfl) (by kernel_rfl) (fun _ _ _ h => h) (.inl ⟨rfl, fun w => by rfl⟩) ?_
  refine wpAny_take (i := 2) (v := .slice (some ⟨gr, 0, none⟩) 32 32) (by rfl) (by kernel_rfl) (by kernel_rfl) (by kernel_rfl) (fun _ _ _ h => h) (.inl ⟨rfl, fun w => by kernel_rfl⟩) ?_
  refine wpAny_one (i := 1) (by kernel_rfl) (wpOp_in (by rfl) rfl (wp_enter (f := 94) (args := #[.pointer (some ⟨g, 0, none⟩), .int .u8 92]) (by kernel_rfl) ?_))
  refine (hmac_masked g pad HP.out (.pointer (some ⟨gh, 0, none⟩)) 92 w5 K4d.out).mono ?_
  rintro e w6 ⟨A, c, rfl, ho6, hb6⟩
  refine ⟨_, rfl, ?_⟩
  obtain ⟨M, hM⟩ : ∃ M, M = maskL pad 92 := ⟨_, rfl⟩
  rw [← hM] at ho6
  have HM2 := hid (show 64 = M.length from by rw [hM, maskL_len])
  have HME := hid hM
  clear hM
  have K6 := hid (K4d.out.below hb6 K4d.out.lt)
  have Z6 := hid ((Z4d.out.below hb6 Z4d.out.lt).alloc (.cells #[.slice A 64 c, .slice (some ⟨gr, 0, none⟩) 32 32] 53))
  have Q6 := Q4d.out.trans (hb6.mono Q4d.out.size)
  have N6 := (N4d.out.below hb6 N4d.out.lt).alloc (.cells #[.slice A 64 c, .slice (some ⟨gr, 0, none⟩) 32 32] 53)
  have B6 := Blk.new w6 53 #[.slice A 64 c, .slice (some ⟨gr, 0, none⟩) 32 32]
  have R6 := (Rds.of_own ho6).alloc (Nat.le_refl _) (.cells #[.slice A 64 c, .slice (some ⟨gr, 0, none⟩) 32 32] 53)
  have Q6a := hid (Q6.alloc Q6.size (.cells #[.slice A 64 c, .slice (some ⟨gr, 0, none⟩) 32 32] 53))
  refine wpAny_one (i := 3) (by kernel_rfl) (wpOp_in (by rfl) rfl (wp_made2 #[.slice A 64 c, .slice (some ⟨gr, 0, none⟩) 32 32] 53 2 (by kernel_rfl) ?_))
  obtain ⟨gp, hgp⟩ : ∃ gp : Nat, gp = w6.heap.size := ⟨_, rfl⟩
  have hsz : (w6.alloc (.cells #[.slice A 64 c, .slice (some ⟨gr, 0, none⟩) 32 32] 53)).heap.size = gp + 1 := by rw [hgp]; simp
  rw [← hgp] at B6 R6
  rw [← hgp]
  have hN := N6.lt
  have hNr : gr < gp := by have := (N4d.out.below hb6 N4d.out.lt).lt; omega
  generalize w6.alloc (.cells #[.slice A 64 c, .slice (some ⟨gr, 0, none⟩) 32 32] 53) = w7 at *
  have hparts : Parts w7 (gp + 1) (some ⟨gp, 0, none⟩) 2 2 [M, S] := by
    refine ⟨[.slice A 64 c, .slice (some ⟨gr, 0, none⟩) 32 32], ⟨rfl, Nat.le_refl _, by simp [maxLen], nofun, fun ad e => ?_⟩, rfl, fun j p hp => ?_⟩
    · obtain rfl := Option.some.inj e
      refine ⟨Nat.lt_succ_self _, fun j u hu => ?_⟩
      rw [cell_add, B6.cell j]
      simpa using hu
    · rcases j with _ | _ | j
      · obtain rfl := Option.some.inj hp
        exact ⟨A, 64, c, rfl, HM2.out, R6.more (by omega)⟩
      · obtain rfl := Option.some.inj hp
        exact ⟨_, 32, 32, rfl, HSL.out.symm, (Rds.of_own (own_of_blk N6 (Nat.zero_le gr) 32 HSL.out (by simp [maxLen]))).more (by omega)⟩
      · simp at hp
  refine wpAny_one (i := 4) (by kernel_rfl) (wpOp_in (by rfl) rfl (wp_enter (f := 73) (args := #[.slice (some ⟨gp, 0, none⟩) 2 2]) (by kernel_rfl) ?_))
  refine (sha_SumAll [M, S] (some ⟨gp, 0, none⟩) 2 2 (gp + 1) w7 hparts (by omega) (by simp [total, ← HM2.out, HSL.out])).mono ?_
  rintro e w8 ⟨rfl, hb8⟩
  refine ⟨_, rfl, ?_⟩
  have Z8 := hid (Z6.out.below hb8 Z6.out.lt)
  have Q8 := hid (Q6a.out.trans (hb8.mono Q6a.out.size))
  refine wpAny_one (i := 5) (by kernel_rfl) (wpOp_in (by rfl) rfl (wp_fill 62 _ _ (by rfl) w.heap.size 62 (u8s zeros32) (u8s (sumL [M, S])) (by rfl) (by rfl) Z8.out (by simp [u8s, nums8, sumL_len, zeros32]) (by rw [show (u8s (sumL [M, S])).size = 32 from by simp [u8s, nums8, sumL_len]]; kernel_rfl) (Array.all_eq_true_iff_forall_mem.2 (fun v hv => ints_oneCell .u8 (sumL [M, S]) v (by simpa using hv))) ?_))
  intro w9 hk9 hg9
  refine wpAny_done (by kernel_rfl) (NoPanic.normal ?_) _
  go_wp2
  refine bodyPost_ret (results_cell_row rfl _ w9 w.heap.size 62 (u8s (sumL [M, S])) (0, 0) _ (by rfl) hk9 Tryz.underlying62 rfl (by rw [show (u8s (sumL [M, S])).size = 32 from by simp [u8s, nums8, sumL_len]]; kernel_rfl)) rfl ⟨by rw [macSum, ← HSE.out, ← HME.out], ?_⟩
  exact Q8.out.grown hg9 Q8.out.size (by simp)

def keyL (key : List Int) : List Int := if 64 < key.length then sumL [key] else key
theorem keyL_len (key : List Int) : (keyL key).length ≤ 64 := by
  unfold keyL
  split
  · rw [sumL_len]; decide
  · omega
def padL (key : List Int) : List Int := keyL key ++ zeros64.drop (keyL key).length
theorem padL_len (key : List Int) : (padL key).length = 64 := by
  have := keyL_len key
  simp [padL, zeros64]
  omega
theorem nums8_zeros64 : nums8 zeros64 = List.replicate 64 (.int .u8 0) := by simp [nums8, zeros64]
theorem hmac_New (key : List Int) (A : Option Addr) (n c B : Nat) (hn : n = key.length) (w : World) (hr : Rds w B 1 A n c (nums8 key)) (hB : B ≤ w.heap.size) (hl : key.length ≤ 1000000000) :
    Calls Tryz.prog 84 #[.slice A n c] w fun e w' => ∃ g gh, e = .returned (.pointer (some ⟨g, 0, none⟩)) ∧ w.heap.size ≤ g ∧ w.heap.size ≤ gh ∧ MacAt w' g gh (padL key) (resetH (padL key)) ∧ Below w.heap.size w w' := by
  have HN := hid hn
  have HL := hid hl
  have HB := hid hB
  have M1 := hid (Blk.new w 148 (mC zeros64 (.pointer none)))
  have Q1 := hid ((Below.refl _ w).alloc (Nat.le_refl _) (.cells (mC zeros64 (.pointer none)) 148))
  have R1 := hid (hr.alloc hB (.cells (mC zeros64 (.pointer none)) 148))
  have HSRC := hid (show ∀ ad, A = some ad → ad.block ≠ w.heap.size from fun ad e => by have := (hr.2.2.2.2 ad e).1; omega)
  clear hr hl hB hn
  go_enter Tryz.func84, Tryz.ntmps84
  go_upto_region 2 with fail
  change Code.wp _ _ _ _ (w.alloc (.cells (mC zeros64 (.pointer none)) 148))
  obtain ⟨g, hg⟩ : ∃ g, g = w.heap.size := ⟨_, rfl⟩
  rw [← hg] at M1 HSRC
  rw [← hg]
  have HG := hid hg
  have hs1 : (w.alloc (.cells (mC zeros64 (.pointer none)) 148)).heap.size = g + 1 := by rw [hg]; simp
  have HS1 := hid hs1
  clear hg hs1
  generalize w.alloc (.cells (mC zeros64 (.pointer none)) 148) = w1 at *
  go_upto_if 9 with fail
  go_cut [0] from 9 to 13 (fun v wx => ∃ (A' : Option Addr) (n' c' B' : Nat), v = .slice A' n' c' ∧ n' = (keyL key).length ∧ Rds wx B' 1 A' n' c' (nums8 (keyL key)) ∧ B' ≤ wx.heap.size ∧ (∀ ad, A' = some ad → ad.block ≠ g) ∧ Blk wx g 148 (mC zeros64 (.pointer none)) ∧ Below w.heap.size w wx)
  case first =>
    by_cases hlt : 64 < n
    · have d1 : decide ((64 : Int) < (n : Int)) = true := decide_eq_true (by omega)
      rw [d1]
      have hB1 : B ≤ w1.heap.size := by have := HB.out; have := HG.out; have := HS1.out; omega
      have B2 := Blk.new w1 53 #[.slice A n c]
      have M2 := hid (M1.out.alloc (.cells #[.slice A n c] 53))
      have Q2 := hid (Q1.out.alloc Q1.out.size (.cells #[.slice A n c] 53))
      have R2 := R1.out.alloc hB1 (.cells #[.slice A n c] 53)
      have hparts : Parts (w1.alloc (.cells #[.slice A n c] 53)) (w1.heap.size + 1) (some ⟨w1.heap.size, 0, none⟩) 1 1 [key] := by
        refine ⟨[.slice A n c], ⟨rfl, Nat.le_refl _, by simp [maxLen], nofun, fun ad e => ?_⟩, rfl, fun j p hp => ?_⟩
        · obtain rfl := Option.some.inj e
          refine ⟨Nat.lt_succ_self _, fun j u hu => ?_⟩
          rw [cell_add, B2.cell j]
          simpa using hu
        · rcases j with _ | j
          · obtain rfl := Option.some.inj hp
            exact ⟨A, n, c, rfl, HN.out, R2.more (by omega)⟩
          · simp at hp
      have HPT := hid hparts
      clear B2 R2 hparts hB1
      go_wp2_with fail
      refine (sha_SumAll [key] (some ⟨w1.heap.size, 0, none⟩) 1 1 (w1.heap.size + 1) _ HPT.out (by simp) (by have := HL.out; simp [total]; omega)).mono ?_
      rintro e w3 ⟨rfl, hb3⟩
      have hk1 : keyL key = sumL [key] := by rw [keyL, if_pos (by rw [← HN.out]; exact hlt)]
      obtain ⟨S, hS⟩ : ∃ S, S = sumL [key] := ⟨_, rfl⟩
      rw [← hS] at hk1
      rw [← hS]
      have HK1 := hid hk1
      have HSL := hid (show S.length = 32 from by rw [hS, sumL_len])
      obtain ⟨V, hV⟩ : ∃ V, V = u8s S := ⟨_, rfl⟩
      rw [← hV]
      have HSV := hid (show V.size = 32 from by rw [hV]; simp [u8s, nums8, HSL.out])
      have HV1 := hid (show ∀ u ∈ V.toList, u.oneCell' = true from by rw [hV]; simpa using ints_oneCell .u8 S)
      have HI := hid (show (Tryz.prog.info? 62).map (·.size) = some V.size from by rw [HSV.out]; kernel_rfl)
      have HVE := hid hV
      have M3 := hid ((M2.out.below hb3 M2.out.lt).alloc (.cells (u8s zeros32) 62))
      have Q3' := Q2.out.trans (hb3.mono Q2.out.size)
      have Q3 := hid (Q3'.alloc Q3'.size (.cells (u8s zeros32) 62))
      have N3 := hid (Blk.new w3 62 (u8s zeros32))
      have hgl : g < w3.heap.size := (M2.out.below hb3 M2.out.lt).lt
      have hwl : w.heap.size ≤ w3.heap.size := Q3'.size
      have HGL := hid hgl
      have HWL := hid hwl
      clear hV hS hk1 hb3 Q3' hgl hwl HPT
      go_wp2_with (first | (refine storeB (w := w3.alloc (.cells (u8s zeros32) 62)) (by rfl) 62 _ _ (by rfl) w3.heap.size 0 62 (u8s zeros32) V (by rfl) (by rfl) N3.out (by rw [HSV.out]; simp [u8s, nums8, zeros32]) HI.out HV1.out ?_))
      intro w4 hk4 hg4
      rw [splice_all _ _ (by rw [Array.length_toList, HSV.out]; simp [u8s, nums8, zeros32]), HVE.out] at hk4
      have M4 := hid (M3.out.grown hg4 (fun e => by have := Option.some.inj e; have := HGL.out; omega))
      have Q4 := hid (Q3.out.grown hg4 Q3.out.size (fun k e => by have := Option.some.inj e; have := HWL.out; omega))
      have N4 := hid (show Blk w4 w3.heap.size 62 (u8s S) from hk4)
      clear hk4 hg4 M3 Q3 N3
      go_wp2_with fail
      go_meet
      case rel =>
        refine ⟨_, 32, 32, w4.heap.size, rfl, by rw [HK1.out, HSL.out], by rw [HK1.out]; exact Rds.of_own (own_of_blk N4.out (Nat.zero_le w3.heap.size) 32 HSL.out (by simp [maxLen])), Nat.le_refl _, fun ad e => ?_, M4.out, Q4.out⟩
        obtain rfl := Option.some.inj e
        have := HGL.out
        simp; omega
    · have d1 : decide ((64 : Int) < (n : Int)) = false := decide_eq_false (by omega)
      rw [d1]
      have hk1 : keyL key = key := by rw [keyL, if_neg (by rw [← HN.out]; exact hlt)]
      have HK1 := hid hk1
      clear hk1 hlt
      go_wp2_with fail
      go_meet
      case rel => exact ⟨A, n, c, B, rfl, by rw [HK1.out]; exact HN.out, by rw [HK1.out]; exact R1.out, by have := HB.out; have := HG.out; have := HS1.out; omega, HSRC.out, M1.out, Q1.out⟩
  case rest =>
    obtain ⟨A', n', c', B', rfl, hn', hr', hB', hne', hm', hq'⟩ := hcut
    obtain ⟨w5, rfl⟩ : ∃ w5 : World, w5 = wc := ⟨_, rfl⟩
    have hkl := keyL_len key
    obtain ⟨K, hK⟩ : ∃ K, K = keyL key := ⟨_, rfl⟩
    rw [← hK] at hn' hr' hkl
    have HN' := hid hn'
    have HR' := hid hr'
    have HM' := hid hm'
    have HQ' := hid hq'
    have HKL := hid hkl
    have HK := hid hK
    have HI := hid (show (Tryz.prog.info? 5).map (·.size) = some 1 from by kernel_rfl)
    have hgl := hm'.lt
    have HGL := hid hgl
    have HMC : Hid (mC (padL key) (.pointer none) = (Go.splice (nums8 zeros64 ++ [.pointer none]) 0 (nums8 K)).toArray) := by
      show _ = _
      have e0 : (nums8 K).length = K.length := by simp [nums8]
      have e1 : (nums8 zeros64).length = 64 := by simp [nums8, zeros64]
      unfold mC padL Go.splice
      rw [← hK, e0, List.drop_append_of_le_length (by omega)]
      simp [nums8]
    clear hn' hr' hm' hq' hkl hK hgl hB' hne'
    have hn6 : (nums8 K).length = Nat.min n' 64 := by
      have := HKL.out; have := HN'.out
      rw [show Nat.min n' 64 = min n' 64 from rfl, Nat.min_eq_left (by omega)]
      simp [nums8]; omega
    have hsrc6 : 0 < (nums8 K).length → (some ⟨g, 0, none⟩ : Option Addr) = some ⟨g, 0, none⟩ ∧ ∃ ad, A' = some ad ∧ ∀ (j : Nat) v, (nums8 K)[j]? = some v → w5.cell? (ad.add j) = some v := by
      intro h
      refine ⟨rfl, ?_⟩
      rcases A' with _ | ad
      · have q1 := (HR'.out.2.2.2.1 rfl).1
        have q2 := HN'.out
        have q3 : (nums8 K).length = K.length := by simp [nums8]
        omega
      · exact ⟨ad, rfl, (HR'.out.2.2.2.2 ad rfl).2⟩
    have hfit6 : 0 + (nums8 K).length ≤ (nums8 zeros64 ++ [Value.pointer none]).length := by have := HKL.out; simp [nums8, zeros64]; omega
    have N6 := hid hn6
    have S6 := hid hsrc6
    have F6 := hid hfit6
    have hwg : w.heap.size ≤ g := by have := HG.out; omega
    clear hn6 hsrc6 hfit6
    go_wp2_with (first | (refine wpList_copy_splice (by rfl) _ _ 53 53 (by rfl) 5 Tryz.underlying53 HI.out (some ⟨g, 0, none⟩) A' 64 64 n' c' (by rfl) (by rfl) g 0 (nums8 zeros64 ++ [Value.pointer none]) 148 HM'.out (nums8 K) N6.out S6.out F6.out (ints_oneCell _ _) w.heap.size w HQ'.out hwg ?_))
    intro w6 hk6 hb6
    have K6 := hid (show Blk w6 g 148 (mC (padL key) (.pointer none)) from by rw [HMC.out]; exact hk6.out)
    have B6 := hid hb6
    clear hk6 hb6
    go_wp2_with fail
    refine (hmac_Reset g (padL key) (padL_len key) (.pointer none) w6 K6.out).mono ?_
    rintro e w7 ⟨rfl, gh, hgh, hk7, hh7, hg7⟩
    have K7 := hid hk7
    have H7 := hid hh7
    have G7 := hid hg7
    have HGH := hid hgh
    clear hk7 hh7 hg7 hgh
    go_wp2
    go_ret
    exact ⟨g, gh, rfl, by rw [HG.out]; exact Nat.le_refl _, Nat.le_trans B6.out.size HGH.out, ⟨padL_len key, K7.out, H7.out⟩, B6.out.grown G7.out B6.out.size (fun k e => by have := Option.some.inj e; have := HG.out; omega)⟩

theorem resetH_n (pad : List Int) : (resetH pad).n = 64 := by simp [resetH, Hs.write, Hs.new, maskL_len]
theorem resetH_rest (pad : List Int) : (resetH pad).rest.length < 64 := absorb_len _ _
def tagL (key : List Int) (ps : List (List Int)) : List Int := macSum (padL key) ((resetH (padL key)).writes ps)
theorem macSum_len (pad : List Int) (h : Hs) : (macSum pad h).length = 32 := sumL_len _
theorem hmac_Tag (key : List Int) (Ak : Option Addr) (nk ck Bk : Nat) (hnk : nk = key.length) (ps : List (List Int)) (A : Option Addr) (n c B : Nat) (w : World) (hr : Rds w Bk 1 Ak nk ck (nums8 key)) (hBk : Bk ≤ w.heap.size) (hlk : key.length ≤ 1000000000)
    (hp : Parts w B A n c ps) (hB : B ≤ w.heap.size) (hl : total ps ≤ 80000000000) :
    Calls Tryz.prog 74 #[.slice Ak nk ck, .slice A n c] w fun e w' => e = .returned (.agg (u8s (tagL key ps))) ∧ Below w.heap.size w w' := by
  have HZ := hid (Blk.new w 62 (u8s zeros32))
  have HBW := hid ((Below.refl _ w).alloc (Nat.le_refl _) (.cells (u8s zeros32) 62))
  have HR := hid (hr.alloc hBk (.cells (u8s zeros32) 62))
  have HP := hid hp
  have HL := hid hl
  have HLK := hid hlk
  have HNK := hid hnk
  have HBB := hid hB
  have HBK := hid hBk
  have hn : n = ps.length := by obtain ⟨pv, h1, h2, h3⟩ := hp; exact h2
  have HN := hid hn
  have hc : n ≤ 9223372036854775807 := by
    obtain ⟨pv, h1, h2, h3⟩ := hp
    have := h1.2.1; have := h1.2.2.1; simp only [maxLen] at this; omega
  clear hr hBk hlk hp hl hnk hB hn
  go_enter Tryz.func74, Tryz.ntmps74
  go_upto_region 1 with fail
  change Code.wp _ _ _ _ (w.alloc (.cells (u8s zeros32) 62))
  have hs0 : (w.alloc (.cells (u8s zeros32) 62)).heap.size = w.heap.size + 1 := by simp
  have HS0 := hid hs0
  clear hs0
  generalize w.alloc (.cells (u8s zeros32) 62) = w1 at *
  go_wp2_with fail
  refine (hmac_New key Ak nk ck Bk HNK.out w1 HR.out (by have := HBK.out; have := HS0.out; omega) HLK.out).mono ?_
  rintro e w2 ⟨g, gh, rfl, hg, hgh, hm2, hb2⟩
  have M2 := hid hm2
  have HG := hid (show w.heap.size + 1 ≤ g from by have := HS0.out; omega)
  have HGH := hid (show w.heap.size + 1 ≤ gh from by have := HS0.out; omega)
  have Z2 := hid (HZ.out.below hb2 HZ.out.lt)
  have Q2 := hid (HBW.out.trans (hb2.mono HBW.out.size))
  clear hg hgh hm2 hb2
  go_wp2_with fail
  go_loopw [12] (fun x wr => ∃ i : Nat, i ≤ n ∧ x = .int .i64 i ∧ MacAt wr g gh (padL key) ((resetH (padL key)).writes (ps.take i)) ∧ Blk wr w.heap.size 62 (u8s zeros32) ∧ Below w.heap.size w wr) (fun x _ => n - (intOf x).toNat)
  case atStart => exact ⟨0, by omega, rfl, M2.out, Z2.out, Q2.out⟩
  case round =>
    clear M2 Z2 Q2 HZ HBW HR
    obtain ⟨i, hi, rfl, hh, hz, hb⟩ := hrel
    by_cases hlt : i < n
    · have hp := HP.out.below (hb.mono HBB.out)
      obtain ⟨pv, r1, r2, r3⟩ := hp
      have hpi : ps[i]? = some ps[i] := List.getElem?_eq_getElem (by omega)
      obtain ⟨A', n', c', e1, e2, e3⟩ := r3 i _ hpi
      obtain ⟨b, off, rfl, hbB, hcell⟩ := r1.one hlt
      have ci := hcell i _ e1
      obtain ⟨p, hp'⟩ : ∃ p, p = ps[i] := ⟨_, rfl⟩
      rw [← hp'] at hpi e2 e3
      have HPI := hid hpi
      have E2 := hid e2
      have E3 := hid e3
      have HH := hid hh
      have HZ := hid hz
      have HB := hid hb
      have p0 : (0 : Int) ≤ (i : Int) := by omega
      have p1 : (i : Int) < (n : Int) := by omega
      clear hpi e1 e2 e3 r1 r2 r3 hcell hh hz hb hp'
      go_wp2_with fail
      have hT := total_at ps i p HPI.out
      have hW := writes_n (ps.take i) (resetH (padL key))
      have hR := writes_rest (ps.take i) (resetH (padL key)) (resetH_rest _)
      refine (hmac_Write g gh (padL key) ((resetH (padL key)).writes (ps.take i)) p A' n' c' B E2.out wr HH.out E3.out (Nat.le_trans HBB.out HB.out.size) (fun ad e => by have := (E3.out.2.2.2.2 ad e).1; have := HGH.out; have := HBB.out; omega) (by have := HL.out; rw [hW, resetH_n]; omega)).mono ?_
      rintro e w3 ⟨rfl, hh2, hg2⟩
      clear hT hW hR
      have HH2 := hid hh2
      have HG3 := hid hg2
      clear hh2 hg2
      go_wp2
      go_roundw
      case rel => exact ⟨i + 1, by omega, by go_num, by rw [writes_take _ _ _ _ HPI.out]; exact HH2.out, HZ.out.grown HG3.out (by have := HGH.out; simp; omega), HB.out.grown HG3.out HB.out.size (by have := HGH.out; simp; omega)⟩
      case measure => simp [intOf]; omega
    · have e8 : i = n := by omega
      have HH := hid (show MacAt wr g gh (padL key) ((resetH (padL key)).writes ps) from by rw [e8, HN.out, List.take_length] at hh; exact hh)
      have HZ := hid hz
      have HB := hid hb
      have n1 : decide ((i : Int) < (n : Int)) = false := decide_eq_false (by omega)
      clear hh hz hb hlt
      obtain ⟨wo, rfl⟩ : ∃ wo : World, wo = wr := ⟨_, rfl⟩
      go_wp2_with fail
      have hW := writes_n ps (resetH (padL key))
      have hR := writes_rest ps (resetH (padL key)) (resetH_rest _)
      refine (hmac_Sum g gh (padL key) ((resetH (padL key)).writes ps) wo HH.out (by have := HL.out; rw [hW, resetH_n]; omega)).mono ?_
      rintro e w3 ⟨rfl, hb2⟩
      clear hW hR
      have HB2 := hid (HB.out.trans (hb2.mono HB.out.size))
      have HZ2 := hid (HZ.out.below hb2 HZ.out.lt)
      have hs2 := HB2.out.size
      clear hb2
      rw [show macSum (padL key) ((resetH (padL key)).writes ps) = tagL key ps from rfl]
      obtain ⟨V, hV⟩ : ∃ V, V = u8s (tagL key ps) := ⟨_, rfl⟩
      rw [← hV]
      have HSL := hid (show V.size = 32 from by rw [hV]; simp [u8s, nums8, tagL, macSum_len])
      have HV1 := hid (show ∀ u ∈ V.toList, u.oneCell' = true from by rw [hV]; simpa using ints_oneCell .u8 (tagL key ps))
      have HI := hid (show (Tryz.prog.info? 62).map (·.size) = some V.size from by rw [HSL.out]; kernel_rfl)
      have HV := hid hV
      clear hV
      go_wp2_with (first | (refine storeB (by rfl) 62 _ _ (by rfl) w.heap.size 0 62 (u8s zeros32) V (by rfl) (by rfl) HZ2.out (by rw [HSL.out]; simp [u8s, nums8, zeros32]) HI.out HV1.out ?_))
      intro w9 hk9 hg9
      go_wp2
      have hk10 : Blk w9 w.heap.size 62 V := by
        rw [splice_all _ _ (by rw [Array.length_toList, HSL.out]; simp [u8s, nums8, zeros32])] at hk9
        exact hk9
      refine bodyPost_ret (results_cell_row rfl _ w9 w.heap.size 62 V (0, 0) _ (by rfl) hk10 Tryz.underlying62 rfl HI.out) rfl ⟨by rw [HV.out], ?_⟩
      exact HB2.out.grown hg9 hs2 (by simp)
