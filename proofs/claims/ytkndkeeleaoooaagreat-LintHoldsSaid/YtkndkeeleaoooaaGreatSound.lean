/- Which plans are sound: where no two rings meet. -/
import Derived.Test.YtkndkeeleaoooaaGreatBetter
namespace Go.Proofs.YtkndkeeleaoooaaGreat
open Go.RowKit
set_option linter.unusedVariables false
set_option linter.unusedSimpArgs false
set_option maxRecDepth 100000
set_option maxHeartbeats 1000000

theorem Blk.new' (w : World) (t : Nat) (cs : Array Value) {g : Nat} (h : w.heap.size = g) : Blk (w.alloc (.cells cs t)) g t cs := h ▸ Blk.new w t cs
def rgSm (f l : Int) : Prop := 0 ≤ f ∧ f ≤ 100000 ∧ 0 ≤ l ∧ l ≤ 100000
theorem sound_1 (f l g m : Int) (gr : Nat) (w : World) (h1 : rgSm f l) (h2 : rgSm g m) (hb : Blk w gr 25 #[.int .i64 g, .int .i64 m]) :
    Calls Tryz.prog 32 #[rgV f l, .pointer (some ⟨gr, 0, none⟩)] w fun e w' => e = .returned (.bool (meetB f l g m)) ∧ Below w.heap.size w w' := by
  have hlt := hb.lt
  have B1 := hb.alloc (.cells #[.int .i64 f, .int .i64 l] 25)
  have c0 : (w.alloc (.cells #[.int .i64 f, .int .i64 l] 25)).cell? ⟨gr, 0, none⟩ = some (.int .i64 g) := B1.cell 0
  have c1 : (w.alloc (.cells #[.int .i64 f, .int .i64 l] 25)).cell? ⟨gr, 1, none⟩ = some (.int .i64 m) := B1.cell 1
  have d0 : w.cell? ⟨gr, 0, none⟩ = some (.int .i64 g) := hb.cell 0
  have d1 : w.cell? ⟨gr, 1, none⟩ = some (.int .i64 m) := hb.cell 1
  have H1 := hid h1
  have H2 := hid h2
  have Q1 := hid ((Below.refl _ w).alloc (Nat.le_refl _) (.cells #[.int .i64 f, .int .i64 l] 25))
  clear B1 h1 h2 hb
  go_enter Tryz.func32, Tryz.ntmps32
  go_wp2_with fail
  refine (lint_meet f l g m _ H1.out H2.out).mono ?_
  rintro e w1 ⟨rfl, hb1⟩
  have Q2 := hid (Q1.out.trans (hb1.mono (by simp)))
  clear hb1
  go_wp2
  go_ret
  exact ⟨rfl, Q2.out⟩

def rgC (l : List (Int × Int)) : List Value := l.flatMap fun x => [.int .i64 x.1, .int .i64 x.2]
theorem rgC_len (l : List (Int × Int)) : (rgC l).length = l.length * 2 := flat_len _ 2 (fun _ => rfl) l
theorem rg_elem {w : World} {B n c : Nat} {A : Option Addr} {l : List (Int × Int)} (h : Rds w B 2 A n c (rgC l)) {k : Nat} (hk : k < l.length) (hn : n = l.length) :
    ∃ b off, A = some ⟨b, off, none⟩ ∧ b < B ∧ w.cell? ⟨b, off + k * 2, none⟩ = some (.int .i64 l[k].1) ∧ w.cell? ⟨b, off + k * 2 + 1, none⟩ = some (.int .i64 l[k].2) := by
  obtain ⟨b, off, rfl, hb, hc⟩ := h.elem (k := k) (by omega) (by omega)
  exact ⟨b, off, rfl, hb, hc 0 _ (by omega) (flat_at _ 2 (fun _ => rfl) l k 0 hk (by omega)), hc 1 _ (by omega) (flat_at _ 2 (fun _ => rfl) l k 1 hk (by omega))⟩
theorem rings_index (l : List (Int × Int)) (g m : Int) (gr : Nat) (A : Option Addr) (n c B : Nat) (hn : n = l.length) (w : World) (hr : Rds w B 2 A n c (rgC l)) (hB : B ≤ w.heap.size) (hl : l.length ≤ 3)
    (hsm : ∀ x ∈ l, rgSm x.1 x.2 ∧ meetB x.1 x.2 g m = false) (h2 : rgSm g m) (hb : Blk w gr 25 #[.int .i64 g, .int .i64 m]) :
    Calls Tryz.prog 46 #[.slice A n c, .func (.func 32) #[] #[.pointer (some ⟨gr, 0, none⟩)]] w fun e w' => e = .returned (.int .i64 (-1)) ∧ Below w.heap.size w w' := by
  subst hn
  have HG := hid hsm
  have HR := hid hr
  have HBB := hid hB
  have H2 := hid h2
  have HK := hid hb
  clear hsm hr hB h2 hb
  go_enter Tryz.func46, Tryz.ntmps46
  go_wp2
  go_loopw [8] (fun n wr => ∃ k : Nat, k ≤ l.length ∧ n = .int .i64 k ∧ Below w.heap.size w wr) (fun n _ => l.length - (intOf n).toNat)
  case atStart => exact ⟨0, Nat.zero_le _, rfl, Below.refl _ _⟩
  case round =>
    obtain ⟨k, hk, rfl, hb⟩ := hrel
    by_cases hlt : k < l.length
    · have hrr := (HR.out.more HBB.out).below hb
      obtain ⟨b, off, rfl, hbB, c0, c1⟩ := rg_elem hrr hlt rfl
      have hi := HG.out _ (List.getElem_mem hlt)
      obtain ⟨f, hf⟩ : ∃ f, f = l[k].1 := ⟨_, rfl⟩
      obtain ⟨le, hle⟩ : ∃ le, le = l[k].2 := ⟨_, rfl⟩
      rw [← hf] at c0 hi
      rw [← hle] at c1 hi
      have HI := hid hi
      have HB := hid hb
      have KR := hid (HK.out.below hb HK.out.lt)
      have p0 : (0 : Int) ≤ (k : Int) := by omega
      have p1 : (k : Int) < (l.length : Int) := by omega
      clear hb hrr hi hf hle
      go_wp2_with fail
      refine (sound_1 f le g m gr wr HI.out.1 H2.out KR.out).mono ?_
      rintro e w1 ⟨rfl, hb1⟩
      rw [HI.out.2]
      have HB1 := hid (HB.out.trans (hb1.mono HB.out.size))
      clear hb1 c0 c1
      go_wp2
      go_roundw
      case rel => exact ⟨k + 1, by omega, by go_num, HB1.out⟩
      case measure => simp [intOf]; omega
    · have n1 : decide (k < l.length) = false := decide_eq_false hlt
      go_wp2
      go_ret
      exact ⟨rfl, hb⟩
theorem rings_contains (l : List (Int × Int)) (g m : Int) (gr : Nat) (A : Option Addr) (n c B : Nat) (hn : n = l.length) (w : World) (hr : Rds w B 2 A n c (rgC l)) (hB : B ≤ w.heap.size) (hl : l.length ≤ 3)
    (hsm : ∀ x ∈ l, rgSm x.1 x.2 ∧ meetB x.1 x.2 g m = false) (h2 : rgSm g m) (hb : Blk w gr 25 #[.int .i64 g, .int .i64 m]) :
    Calls Tryz.prog 31 #[.slice A n c, .func (.func 32) #[] #[.pointer (some ⟨gr, 0, none⟩)]] w fun e w' => e = .returned (.bool false) ∧ Below w.heap.size w w' := by
  subst hn
  have HG := hid hsm
  have HR := hid hr
  have HBB := hid hB
  have H2 := hid h2
  have HK := hid hb
  clear hsm hr hB h2 hb
  go_enter Tryz.func31, Tryz.ntmps31
  go_wp2_with fail
  refine (rings_index l g m gr A l.length c B rfl w HR.out HBB.out hl HG.out H2.out HK.out).mono ?_
  rintro e w1 ⟨rfl, hb1⟩
  go_wp2
  go_ret
  exact ⟨rfl, hb1⟩

structure Pl where
  f0 : Int
  l0 : Int
  f1 : Int
  l1 : Int
  f2 : Int
  l2 : Int
abbrev plC (p : Pl) : Array Value := #[.int .i64 p.f0, .int .i64 p.l0, .int .i64 p.f1, .int .i64 p.l1, .int .i64 p.f2, .int .i64 p.l2]
abbrev Pl.v (p : Pl) : Value := .agg (plC p)
def Pl.rings (p : Pl) : List (Int × Int) := [(p.f0, p.l0), (p.f1, p.l1), (p.f2, p.l2)]
theorem sound_no (p : Pl) (b : Int) (w : World) (h : rgB p.f0 p.l0 b = false) :
    Calls Tryz.prog 15 #[p.v, .int .i64 b] w fun e w' => e = .returned (.bool false) ∧ Below w.heap.size w w' := by
  have H := hid h
  have Q1 := hid ((((Below.refl _ w).alloc (Nat.le_refl _) (.cells (plC p) 28)).alloc (by simp) (.cells (plC p) 25)).alloc (by simp; omega) (.cells #[.int .i64 p.f0, .int .i64 p.l0] 25))
  clear h
  go_enter Tryz.func15, Tryz.ntmps15
  go_wp2
  refine wp_loop_rounds 1 ?_
  rw [rounds_succ]
  go_wp2_with fail
  refine (ring_Right p.f0 p.l0 b _).mono ?_
  rintro e w1 ⟨rfl, hb1⟩
  rw [H.out]
  have Q2 := hid (Q1.out.trans (hb1.mono (by simp; omega)))
  clear hb1
  go_wp2
  go_ret
  exact ⟨rfl, Q2.out⟩

theorem rg_take {w : World} {g t k n : Nat} {l : List (Int × Int)} (h : Blk w g t (rgC l).toArray) (hk : k ≤ n) (hn : n = l.length) (hmx : n ≤ maxLen) : Rds w (g + 1) 2 (some ⟨g, 0, none⟩) k n (rgC (l.take k)) := by
  have hm : n ≤ maxLen := hmx
  · refine ⟨by rw [rgC_len, List.length_take]; omega, hk, hm, nofun, fun ad e => ?_⟩
    obtain rfl := Option.some.inj e
    refine ⟨Nat.lt_succ_self _, fun j u hu => ?_⟩
    rw [cell_add, h.cell j, List.getElem?_toArray]
    have e : rgC l = rgC (l.take k) ++ rgC (l.drop k) := by rw [rgC, rgC, rgC, ← List.flatMap_append, List.take_append_drop]
    rw [e, List.getElem?_append_left (List.getElem?_eq_some_iff.1 hu).1]
    exact hu
theorem sound_yes (p : Pl) (b : Int) (w : World) (hr : ∀ x ∈ p.rings, rgB x.1 x.2 b = true ∧ rgSm x.1 x.2) (hm : ∀ i j, (h : i < j) → (hj : j < p.rings.length) → meetB p.rings[i].1 p.rings[i].2 p.rings[j].1 p.rings[j].2 = false) (h2 : 2 ≤ p.l0) :
    Calls Tryz.prog 15 #[p.v, .int .i64 b] w fun e w' => e = .returned (.bool true) ∧ Below w.heap.size w w' := by
  have HR := hid hr
  have HM := hid hm
  have P1 := hid ((Blk.new w 28 (plC p)).alloc (.cells (rgC p.rings).toArray 25))
  have L1 := hid (show Blk ((w.alloc (.cells (plC p) 28)).alloc (.cells (rgC p.rings).toArray 25)) (w.heap.size + 1) 25 (rgC p.rings).toArray from Blk.new' (w.alloc (.cells (plC p) 28)) 25 (rgC p.rings).toArray (by simp))
  have Q1 := hid (((Below.refl _ w).alloc (Nat.le_refl _) (.cells (plC p) 28)).alloc (by simp) (.cells (rgC p.rings).toArray 25))
  clear hr hm
  go_enter Tryz.func15, Tryz.ntmps15
  go_upto_region 2 with fail
  change Code.wp _ _ _ _ ((w.alloc (.cells (plC p) 28)).alloc (.cells (rgC p.rings).toArray 25))
  generalize (w.alloc (.cells (plC p) 28)).alloc (.cells (rgC p.rings).toArray 25) = w1 at *
  go_wp2
  go_loopw [19] (fun i wr => ∃ k : Nat, k ≤ 3 ∧ i = .int .i64 k ∧ Blk wr w.heap.size 28 (plC p) ∧ Blk wr (w.heap.size + 1) 25 (rgC p.rings).toArray ∧ Below w.heap.size w wr) (fun i _ => 3 - (intOf i).toNat)
  case atStart => exact ⟨0, by omega, rfl, P1.out, L1.out, Q1.out⟩
  case round =>
    obtain ⟨k, hk, rfl, hpr, hlr, hqr⟩ := hrel
    by_cases hlt : k < p.rings.length
    · have hlt3 : k < 3 := hlt
      have p0 : (0 : Int) ≤ (k : Int) := by omega
      have p1 : (k : Int) < 3 := by omega
      have p2 : (k : Int) ≤ 3 := by omega
      have c0 : wr.cell? ⟨w.heap.size + 1, k * 2, none⟩ = some (.int .i64 p.rings[k].1) := by rw [hlr.cell, List.getElem?_toArray]; exact flat_at (fun x : Int × Int => [Value.int .i64 x.1, Value.int .i64 x.2]) 2 (fun _ => rfl) p.rings k 0 hlt (by omega)
      have c1 : wr.cell? ⟨w.heap.size + 1, k * 2 + 1, none⟩ = some (.int .i64 p.rings[k].2) := by rw [hlr.cell, List.getElem?_toArray]; exact flat_at (fun x : Int × Int => [Value.int .i64 x.1, Value.int .i64 x.2]) 2 (fun _ => rfl) p.rings k 1 hlt (by omega)
      have HI := hid (HR.out _ (List.getElem_mem hlt))
      have HMM := hid (fun x (hx : x ∈ p.rings.take k) => show rgSm x.1 x.2 ∧ meetB x.1 x.2 p.rings[k].1 p.rings[k].2 = false from by
        obtain ⟨i, hi, rfl⟩ := List.getElem_of_mem hx
        simp only [List.length_take] at hi
        have e : (p.rings.take k)[i]'(by simpa using hi) = p.rings[i] := List.getElem_take
        rw [e]
        exact ⟨(HR.out _ (List.getElem_mem (by omega))).2, HM.out i k (by omega) hlt⟩)
      generalize hf : p.rings[k].1 = f at *
      generalize hl : p.rings[k].2 = l at *
      clear hf hl
      have PR := hid (hpr.alloc (.cells #[.int .i64 f, .int .i64 l] 25))
      have LR := hid (hlr.alloc (.cells #[.int .i64 f, .int .i64 l] 25))
      have QR := hid (hqr.alloc hqr.size (.cells #[.int .i64 f, .int .i64 l] 25))
      have VR := hid (Blk.new wr 25 #[.int .i64 f, .int .i64 l])
      clear hpr hlr hqr P1 L1 Q1
      go_wp2_with fail
      refine (ring_Right f l b _).mono ?_
      rintro e w2 ⟨rfl, hb2⟩
      rw [HI.out.1]
      have PR2 := hid (PR.out.below hb2 PR.out.lt)
      have LR2 := hid (LR.out.below hb2 LR.out.lt)
      have VR2 := hid (VR.out.below hb2 VR.out.lt)
      have QR2 := hid (QR.out.trans (hb2.mono QR.out.size))
      clear hb2 PR LR VR QR c0 c1
      have RR2 := hid (rg_take LR2.out (by omega : k ≤ 3) rfl (by simp [maxLen]))
      go_wp2_with fail
      refine (rings_contains (p.rings.take k) f l wr.heap.size (some ⟨w.heap.size + 1, 0, none⟩) k 3 (w.heap.size + 2) (by rw [List.length_take]; omega) w2 RR2.out (by have := LR2.out.lt; omega) (by rw [List.length_take]; omega) HMM.out HI.out.2 VR2.out).mono ?_
      rintro e w3 ⟨rfl, hb3⟩
      have PR3 := hid (PR2.out.below hb3 PR2.out.lt)
      have LR3 := hid (LR2.out.below hb3 LR2.out.lt)
      have QR3 := hid (QR2.out.trans (hb3.mono QR2.out.size))
      clear hb3 PR2 LR2 VR2 QR2 RR2
      go_wp2
      go_roundw
      case rel => exact ⟨k + 1, by omega, by go_num, PR3.out, LR3.out, QR3.out⟩
      case measure => simp [intOf]; omega
    · have hk4 : k = 3 := by have : ¬ k < 3 := hlt; omega
      subst hk4
      have c1 : wr.cell? ⟨w.heap.size, 1, none⟩ = some (.int .i64 p.l0) := hpr.cell 1
      go_wp2
      go_ret
      exact ⟨ret_bool (by simp), hqr⟩
