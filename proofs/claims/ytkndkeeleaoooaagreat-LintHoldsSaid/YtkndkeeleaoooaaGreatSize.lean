/- A record's size in blocks. -/
import Derived.Test.YtkndkeeleaoooaaGreatSealing
import Derived.Test.YtkndkeeleaoooaaGreatQuery
namespace Go.Proofs.YtkndkeeleaoooaaGreat
open Go.RowKit
set_option linter.unusedVariables false
set_option linter.unusedSimpArgs false
set_option maxRecDepth 100000
set_option maxHeartbeats 1000000

theorem sealedB_le (seq : Int) (l : List It) (h0 : 0 ≤ seq) (h2 : seq ≤ 1099511627776) (hl : l.length ≤ 64) (hg : ∀ x ∈ l, ItOk x) : 1 ≤ sealedB seq l ∧ sealedB seq l ≤ 40 := by
  have h1 := bodyL_len seq l h0 h2 hl hg
  have h3 := varint_len (bodyL seq l).length (by omega)
  unfold sealedB sealedN
  rw [List.length_append]
  omega
theorem record_Size (seq : Int) (l : List It) (A : Option Addr) (n c B : Nat) (hn : n = l.length) (w : World) (hr : Rds w B 4 A n c (itsC l)) (hB : B ≤ w.heap.size) (hl : l.length ≤ 64) (hgood : ∀ x ∈ l, ItOk x ∧ x.kind = 1) (h1 : 1 ≤ seq) (h2 : seq ≤ 1099511627776) :
    Calls Tryz.prog 29 #[.agg (rC seq A n c)] w fun e w' => e = .returned (.int .i64 (sealedB seq l)) ∧ Below w.heap.size w w' := by
  subst hn
  have HG := hid hgood
  have R1 := hid (hr.alloc hB (.cells (rC seq A l.length c) 64))
  have B1 := hid (Blk.new w 64 (rC seq A l.length c))
  have Q1 := hid ((Below.refl _ w).alloc (Nat.le_refl _) (.cells (rC seq A l.length c) 64))
  have HBB := hid hB
  have HI := hid (show (Tryz.prog.info? 64).map (·.size) = some (rC seq A l.length c).size from by kernel_rfl)
  have HLE := hid (sealedB_le seq l (by omega) h2 hl (fun x hx => (hgood x hx).1))
  clear hgood hr hB
  go_enter Tryz.func29, Tryz.ntmps29
  go_wp2_with (first | (refine wpList_load_row (w := w.alloc (.cells (rC seq A l.length c) 64)) (by rfl) 64 _ (by rfl) w.heap.size (by rfl) 64 (rC seq A l.length c) (0, 0) _ B1.out Tryz.underlying64 rfl HI.out ?_))
  refine (record_Seal zeros32 (by simp [zeros32]) seq l A l.length c B rfl (w.alloc (.cells (rC seq A l.length c) 64)) R1.out (by have := HBB.out; simp; omega) hl HG.out h1 h2).mono ?_
  rintro e w2 ⟨A2, c2, cs, rfl, ⟨hcs, hone⟩, hb2⟩
  have HONE := hid hone
  clear hone
  have Q2 := hid ((Q1.out.trans (hb2.mono Q1.out.size)).alloc (Q1.out.trans (hb2.mono Q1.out.size)).size (.cells (u8s zeros32) 62))
  have N2 := hid (Blk.new w2 62 (u8s zeros32))
  have L2 := hid (show w.heap.size ≤ w2.heap.size from Nat.le_trans Q1.out.size hb2.size)
  clear hb2 R1 B1 Q1
  have HI2 := hid (show (Tryz.prog.info? 62).map (·.size) = some cs.size from by rw [hcs]; kernel_rfl)
  have HC := hid hcs
  clear hcs
  have hle := HLE.out.2
  go_wp2_with (first | (refine storeB (w := w2.alloc (.cells (u8s zeros32) 62)) (by rfl) 62 _ _ (by rfl) w2.heap.size 0 62 (u8s zeros32) cs (by rfl) (by rfl) N2.out (by rw [HC.out]; simp [u8s, nums8, zeros32]) HI2.out HONE.out ?_))
  intro w3 hk3 hg3
  have hl2 := L2.out
  have Q3 := Q2.out.grown hg3 Q2.out.size (fun k e => by have := Option.some.inj e; omega)
  clear hk3 hg3
  have h0 : (0 : Int) ≤ ((sealedB seq l * 128 : Nat) : Int) := by omega
  go_wp2
  go_ret
  exact ⟨ret_int (by omega), Q3⟩
