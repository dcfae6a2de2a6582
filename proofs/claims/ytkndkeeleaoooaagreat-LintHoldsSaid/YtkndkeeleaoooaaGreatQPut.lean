/- A query's bytes. -/
import Derived.Test.YtkndkeeleaoooaaGreatQuery
import Derived.Test.YtkndkeeleaoooaaGreatPen
import Derived.StillTailTactics
namespace Go.Proofs.YtkndkeeleaoooaaGreat
open Go.RowKit
set_option linter.unusedVariables false
set_option linter.unusedSimpArgs false
set_option maxRecDepth 100000
set_option maxHeartbeats 1000000

abbrev ptr (g j : Nat) : Value := .pointer (some ⟨g, j, none⟩)
theorem PK.drewN {gp : Nat} {a w : World} (h : PK gp a w) (n : Nat) : PK gp a (w.drewN n) := ⟨h.os, h.tape, h.output, h.size, h.block, h.row⟩
theorem query_fields (g : Nat) (w : World) :
    Calls Tryz.prog 42 #[ptr g 0] w fun e w' => e = .returned (.slice (some ⟨w.heap.size, 0, none⟩) 6 6) ∧ ∃ n, w' = (w.drewN n).alloc (.cells #[ptr g 0, ptr g 1, ptr g 2, ptr g 3, ptr g 4, ptr g 5] 94) := by
  go_enter Tryz.func42, Tryz.ntmps42
  go_wp2
  go_still_tail 18, (by kernel_rfl)
  go_wp2
  go_ret
  exact ⟨rfl, 1, rfl⟩

def qList (q : Qy) : List Int := [q.kind, q.size, q.slide, q.late, q.agg, q.k]
def qBytes (q : Qy) : List Int := (qList q).flatMap fun n => varint n.toNat
abbrev qC (q : Qy) : Array Value := #[.int .i64 q.kind, .int .i64 q.size, .int .i64 q.slide, .int .i64 q.late, .int .i64 q.agg, .int .i64 q.k]
theorem qList_ok {q : Qy} (h : QOk q) : ∀ n ∈ qList q, 0 ≤ n ∧ n ≤ 1073741824 := by
  intro n hn
  unfold QOk at h
  simp only [qList, List.mem_cons, List.not_mem_nil, or_false] at hn
  omega
theorem flat_snocQ {α β : Type} (f : α → List β) (l : List α) (k : Nat) (h : k < l.length) : (l.take (k + 1)).flatMap f = (l.take k).flatMap f ++ f l[k] := by
  rw [List.take_succ_eq_append_getElem h, List.flatMap_append]; simp
theorem ptrs_at (H k : Nat) (h : k < 6) : (#[ptr H 0, ptr H 1, ptr H 2, ptr H 3, ptr H 4, ptr H 5] : Array Value)[k]? = some (ptr H k) := by
  rcases k with _ | _ | _ | _ | _ | _ | k <;> first | rfl | omega
theorem qC_at (q : Qy) (k : Nat) (h : k < (qList q).length) : (qC q)[k]? = some (.int .i64 (qList q)[k]) := by
  have h6 : k < 6 := h
  rcases k with _ | _ | _ | _ | _ | _ | k <;> first | rfl | omega
theorem qFlat_len (q : Qy) (h : ∀ n ∈ qList q, 0 ≤ n ∧ n ≤ 1073741824) (k : Nat) : (((qList q).take k).flatMap fun n => varint n.toNat).length ≤ 100 := by
  have key : ∀ l : List Int, (∀ n ∈ l, 0 ≤ n ∧ n ≤ 1073741824) → (l.flatMap fun n => varint n.toNat).length ≤ l.length * 10 := by
    intro l hl
    induction l with
    | nil => simp
    | cons x l ih =>
      have h1 := varint_len x.toNat (by have := (hl x (by simp)).2; omega)
      have h2 := ih (fun y hy => hl y (by simp [hy]))
      rw [List.flatMap_cons, List.length_append, List.length_cons]
      omega
  have h1 := key ((qList q).take k) (fun n hn => h n (List.mem_of_mem_take hn))
  have h2 : ((qList q).take k).length ≤ 6 := by rw [List.length_take]; simp [qList]; omega
  omega
theorem query_Put (base gp : Nat) (q : Qy) (bs : List Int) (w : World) (hp : PenAt w base gp bs) (hq : QOk q) (hl : bs.length ≤ 700000000000) :
    Calls Tryz.prog 27 #[.pointer (some ⟨gp, 0, none⟩), q.v] w fun e w' => e = .returned (.bool true) ∧ PenAt w' base gp (bs ++ qBytes q) ∧ PK gp w w' := by
  have hr : qR q = true := qR_true.2 hq
  have HOK := hid (qList_ok hq)
  have HRT := hid hr
  have hgl := hp.lt
  have P1 := hid (hp.alloc (.cells (qC q) 23))
  have B1 := hid (Blk.new w 23 (qC q))
  have K1 := hid ((PK.refl gp w).alloc hgl (.cells (qC q) 23))
  have HGL := hid hgl
  clear hp hq hgl hr
  go_enter Tryz.func27, Tryz.ntmps27
  go_wp2_with fail
  refine (query_Right q _).mono ?_
  rintro e w1 ⟨rfl, hb1⟩
  rw [HRT.out]
  have P2 := hid (P1.out.below hb1)
  have B2 := hid (B1.out.below hb1 (by simp))
  have K2 := hid (K1.out.step (by have := HGL.out; simp; omega) hb1)
  have L2 := hid (show gp < w1.heap.size from P2.out.lt)
  clear hb1 P1 B1 K1
  go_wp2_with fail
  refine (query_fields w.heap.size w1).mono ?_
  rintro e w2 ⟨rfl, n, rfl⟩
  have P3 := hid ((P2.out.drewN n).alloc (.cells #[ptr w.heap.size 0, ptr w.heap.size 1, ptr w.heap.size 2, ptr w.heap.size 3, ptr w.heap.size 4, ptr w.heap.size 5] 94))
  have B3 := hid ((B2.out.drewN n).alloc (.cells #[ptr w.heap.size 0, ptr w.heap.size 1, ptr w.heap.size 2, ptr w.heap.size 3, ptr w.heap.size 4, ptr w.heap.size 5] 94))
  have K3 := hid ((K2.out.drewN n).alloc (by have := L2.out; simpa using this) (.cells #[ptr w.heap.size 0, ptr w.heap.size 1, ptr w.heap.size 2, ptr w.heap.size 3, ptr w.heap.size 4, ptr w.heap.size 5] 94))
  have N3 := hid (show Blk ((w1.drewN n).alloc (.cells #[ptr w.heap.size 0, ptr w.heap.size 1, ptr w.heap.size 2, ptr w.heap.size 3, ptr w.heap.size 4, ptr w.heap.size 5] 94)) w1.heap.size 94 #[ptr w.heap.size 0, ptr w.heap.size 1, ptr w.heap.size 2, ptr w.heap.size 3, ptr w.heap.size 4, ptr w.heap.size 5] from Blk.new _ _ _)
  clear P2 B2 K2
  generalize (w1.drewN n).alloc (.cells #[ptr w.heap.size 0, ptr w.heap.size 1, ptr w.heap.size 2, ptr w.heap.size 3, ptr w.heap.size 4, ptr w.heap.size 5] 94) = w3 at *
  generalize w1.heap.size = g1 at *
  have hz : ∃ H : Nat, H = w.heap.size := ⟨_, rfl⟩
  go_wp2
  go_loopw [6, 16] (fun v i wr => ∃ k : Nat, k ≤ 6 ∧ i = .int .i64 k ∧ PenAt wr base gp (bs ++ ((qList q).take k).flatMap fun n => varint n.toNat) ∧ Blk wr w.heap.size 23 (qC q) ∧ Blk wr g1 94 #[ptr w.heap.size 0, ptr w.heap.size 1, ptr w.heap.size 2, ptr w.heap.size 3, ptr w.heap.size 4, ptr w.heap.size 5] ∧ PK gp w wr) (fun _ i _ => 6 - (intOf i).toNat)
  case atStart => exact ⟨0, by omega, rfl, by simpa using P3.out, B3.out, N3.out, K3.out⟩
  case round =>
    obtain ⟨k, hk, rfl, hpr, hbr, hnr, hkr⟩ := hrel
    by_cases hlt : k < (qList q).length
    · have hlt6 : k < 6 := hlt
      have p0 : (0 : Int) ≤ (k : Int) := by omega
      have p1 : (k : Int) < 6 := by omega
      have c0 : wr.cell? ⟨g1, k, none⟩ = some (ptr w.heap.size k) := (hnr.cell k).trans (ptrs_at _ k hlt6)
      have c1 : wr.cell? ⟨w.heap.size, k, none⟩ = some (.int .i64 (qList q)[k]) := (hbr.cell k).trans (qC_at q k hlt)
      have hn := HOK.out _ (List.getElem_mem hlt)
      have HN := hid hn
      have HTK := hid (flat_snocQ (fun n : Int => varint n.toNat) (qList q) k hlt)
      have HLN := hid (qFlat_len q HOK.out k)
      generalize (qList q)[k] = x at *
      have HP := hid hpr
      have HB := hid hbr
      have HNR := hid hnr
      have HKR := hid hkr
      clear hpr hbr hnr hkr hn hz
      go_wp2_with fail
      refine (pen_Number base gp x _ wr HP.out (by have := HN.out; omega) (by have := HN.out; omega) (by have := HLN.out; rw [List.length_append]; omega)).mono ?_
      rintro e w4 ⟨rfl, hp4, pk4⟩
      have hf := pk4.far HP.out
      have P4 := hid hp4
      have B4 := hid (HB.out.keep hf (by decide))
      have N4 := hid (HNR.out.keep hf (by decide))
      have K4 := hid (HKR.out.trans pk4)
      clear hf hp4 pk4 c0 c1
      go_wp2
      go_roundw
      case rel => exact ⟨k + 1, by omega, by go_num, by rw [HTK.out, ← List.append_assoc]; exact P4.out, B4.out, N4.out, K4.out⟩
      case measure => simp [intOf]; omega
    · have hk6 : k = 6 := by have : ¬ k < 6 := hlt; omega
      subst hk6
      go_wp2
      go_ret
      exact ⟨rfl, hpr, hkr⟩
