/- The records: a batch of right items. -/
import Derived.Test.YtkndkeeleaoooaaGreatItems
import Derived.Test.YtkndkeeleaoooaaGreatHmac
namespace Go.Proofs.YtkndkeeleaoooaaGreat
open Go.RowKit
set_option linter.unusedVariables false
set_option linter.unusedSimpArgs false
set_option maxRecDepth 100000
set_option maxHeartbeats 1000000

theorem rec_wrong (x : It) (w : World) (hs : x.key.size ≤ maxLen) :
    Calls Tryz.prog 70 #[x.v] w fun e w' => e = .returned (.bool (!itR x)) ∧ Below w.heap.size w w' := by
  have HS := hid hs
  have HBW := hid ((Below.refl _ w).alloc (Nat.le_refl _) (.cells #[.int .i64 x.kind, .string x.key, .int .i64 x.time, .int .i64 x.value] 67))
  clear hs
  go_enter Tryz.func70, Tryz.ntmps70
  go_wp2_with fail
  refine (event_Right x (w.alloc (.cells #[.int .i64 x.kind, .string x.key, .int .i64 x.time, .int .i64 x.value] 67)) HS.out).mono ?_
  rintro e w1 ⟨rfl, hb1⟩
  have HB1 := hid (HBW.out.trans (hb1.mono (by simp)))
  clear hb1
  go_wp2
  go_ret
  exact ⟨rfl, HB1.out⟩

theorem items_index (l : List It) (A : Option Addr) (n c B : Nat) (hn : n = l.length) (w : World) (hr : Rds w B 4 A n c (itsC l)) (hB : B ≤ w.heap.size) (hl : l.length ≤ 1000) (hgood : ∀ x ∈ l, ItOk x) :
    Calls Tryz.prog 78 #[.slice A n c, .func (.func 70) #[] #[]] w fun e w' => e = .returned (.int .i64 (-1)) ∧ Below w.heap.size w w' := by
  subst hn
  have HG := hid hgood
  have HR := hid hr
  have HBB := hid hB
  clear hgood hr hB
  go_enter Tryz.func78, Tryz.ntmps78
  go_wp2
  go_loopw [8] (fun n wr => ∃ k : Nat, k ≤ l.length ∧ n = .int .i64 k ∧ Below w.heap.size w wr) (fun n _ => l.length - (intOf n).toNat)
  case atStart => exact ⟨0, Nat.zero_le _, rfl, Below.refl _ _⟩
  case round =>
    obtain ⟨k, hk, rfl, hb⟩ := hrel
    by_cases hlt : k < l.length
    · have hrr := (HR.out.more HBB.out).below hb
      obtain ⟨b, off, rfl, hbB, c0, c1, c2, c3⟩ := its_elem hrr hlt rfl
      have hi : ItOk l[k] := HG.out _ (List.getElem_mem hlt)
      have HI := hid hi
      have HS := hid (show l[k].key.size ≤ maxLen from by have := hi.key_le; unfold maxLen; omega)
      have HB := hid hb
      have p0 : (0 : Int) ≤ (k : Int) := by omega
      have p1 : (k : Int) < (l.length : Int) := by omega
      clear hb hrr hi
      go_wp2_with fail
      refine (rec_wrong l[k] wr HS.out).mono ?_
      rintro e w1 ⟨rfl, hb1⟩
      rw [show (!itR l[k]) = false from by rw [itR_true.2 HI.out]; rfl]
      have HB1 := hid (HB.out.trans (hb1.mono HB.out.size))
      clear hb1 c0 c1 c2 c3
      go_wp2
      go_roundw
      case rel => exact ⟨k + 1, by omega, by go_num, HB1.out⟩
      case measure => simp [intOf]; omega
    · have n1 : decide (k < l.length) = false := decide_eq_false hlt
      go_wp2
      go_ret
      exact ⟨rfl, hb⟩
theorem items_contains (l : List It) (A : Option Addr) (n c B : Nat) (hn : n = l.length) (w : World) (hr : Rds w B 4 A n c (itsC l)) (hB : B ≤ w.heap.size) (hl : l.length ≤ 1000) (hgood : ∀ x ∈ l, ItOk x) :
    Calls Tryz.prog 69 #[.slice A n c, .func (.func 70) #[] #[]] w fun e w' => e = .returned (.bool false) ∧ Below w.heap.size w w' := by
  subst hn
  have HG := hid hgood
  have HR := hid hr
  have HBB := hid hB
  clear hgood hr hB
  go_enter Tryz.func69, Tryz.ntmps69
  go_wp2_with fail
  refine (items_index l A l.length c B rfl w HR.out HBB.out hl HG.out).mono ?_
  rintro e w1 ⟨rfl, hb1⟩
  go_wp2
  go_ret
  exact ⟨rfl, hb1⟩

abbrev rC (seq : Int) (A : Option Addr) (n c : Nat) : Array Value := #[.int .i64 1, .int .i64 seq, .slice A n c, .int .i64 0, .int .u8 0, .int .u8 0, .int .u8 0, .int .u8 0, .int .u8 0, .int .u8 0, .int .u8 0, .int .u8 0, .int .u8 0, .int .u8 0, .int .u8 0, .int .u8 0, .int .u8 0, .int .u8 0, .int .u8 0, .int .u8 0, .int .u8 0, .int .u8 0, .int .u8 0, .int .u8 0, .int .u8 0, .int .u8 0, .int .u8 0, .int .u8 0, .int .u8 0, .int .u8 0, .int .u8 0, .int .u8 0, .int .u8 0, .int .u8 0, .int .u8 0, .int .u8 0]
theorem eq32 (W : World) : (Op.equalIn 10000 62 (.agg #[.int .u8 0, .int .u8 0, .int .u8 0, .int .u8 0, .int .u8 0, .int .u8 0, .int .u8 0, .int .u8 0, .int .u8 0, .int .u8 0, .int .u8 0, .int .u8 0, .int .u8 0, .int .u8 0, .int .u8 0, .int .u8 0, .int .u8 0, .int .u8 0, .int .u8 0, .int .u8 0, .int .u8 0, .int .u8 0, .int .u8 0, .int .u8 0, .int .u8 0, .int .u8 0, .int .u8 0, .int .u8 0, .int .u8 0, .int .u8 0, .int .u8 0, .int .u8 0]) (.agg #[.int .u8 0, .int .u8 0, .int .u8 0, .int .u8 0, .int .u8 0, .int .u8 0, .int .u8 0, .int .u8 0, .int .u8 0, .int .u8 0, .int .u8 0, .int .u8 0, .int .u8 0, .int .u8 0, .int .u8 0, .int .u8 0, .int .u8 0, .int .u8 0, .int .u8 0, .int .u8 0, .int .u8 0, .int .u8 0, .int .u8 0, .int .u8 0, .int .u8 0, .int .u8 0, .int .u8 0, .int .u8 0, .int .u8 0, .int .u8 0, .int .u8 0, .int .u8 0])).run Tryz.prog W = .ok true W := by kernel_rfl
section
variable {P : Program} {ops : Array Oper} {rest : List Oper} {o : Oper} {a : Act} {Q : Exit → Act → World → Prop}
/-- A load of a whole value out of the middle of a block, at an operation under a guard that is open. -/
theorem load_mid_g {w : World} (hw : Region.wanted o (yielded ops a.tmps) = true) (ty : TypeId) (x : Operand) (ho : o.op = .load ty x) (b off : Nat) (hx : a.eval x = .pointer (some ⟨b, off, none⟩)) (cs : List Value) (d : TypeDesc) (hc : w.rangeAt b off cs)
    (hu : P.underlying ty = some d) (hd : d.isRow = true) (hi : (P.info? ty).map (·.size) = some cs.length) (h : wpList P ops Q rest (a.put o.dst (.agg cs.toArray)) w) : wpList P ops Q (o :: rest) a w :=
  wpList_step fun K hK => by rw [if_pos hw]; exact wp_load_mid ty x ho b off hx cs d hc hu hd hi (hK _ _ h)
end
theorem record_Right (seq : Int) (l : List It) (A : Option Addr) (n c B : Nat) (hn : n = l.length) (w : World) (hr : Rds w B 4 A n c (itsC l)) (hB : B ≤ w.heap.size) (hl : l.length ≤ 64) (hgood : ∀ x ∈ l, ItOk x) (h1 : 1 ≤ seq) (h2 : seq ≤ 1099511627776) :
    Calls Tryz.prog 54 #[.agg (rC seq A n c)] w fun e w' => e = .returned (.bool true) ∧ Below w.heap.size w w' := by
  subst hn
  have HG := hid hgood
  have HR := hid (hr.alloc hB (.cells (rC seq A l.length c) 64))
  have HBB := hid hB
  have HK := hid (Blk.new w 64 (rC seq A l.length c))
  have HBW := hid ((Below.refl _ w).alloc (Nat.le_refl _) (.cells (rC seq A l.length c) 64))
  have d1 : decide (seq < 1) = false := decide_eq_false (by omega)
  have d2 : decide (1099511627776 < seq) = false := decide_eq_false (by omega)
  have hl2 : (l.length : Int) ≤ 64 := by omega
  clear hgood hr hB
  go_enter Tryz.func54, Tryz.ntmps54
  go_wp2_with fail
  refine (items_contains l A l.length c w.heap.size rfl (w.alloc (.cells (rC seq A l.length c) 64)) (HR.out.more HBB.out) (by simp) (by omega) HG.out).mono ?_
  rintro e w1 ⟨rfl, hb1⟩
  have hk := HK.out.below hb1 (by simp)
  have c2 : w1.cell? ⟨w.heap.size, 2, none⟩ = some (.slice A l.length c) := hk.cell 2
  have c3 : w1.cell? ⟨w.heap.size, 3, none⟩ = some (.int .i64 0) := hk.cell 3
  have HB1 := hid (HBW.out.trans (hb1.mono (by simp)))
  have HK1 := hid hk
  clear hk hb1 d1 d2
  have d1 : decide ((l.length : Int) ≤ 64) = true := decide_eq_true hl2
  obtain ⟨Zl, hZl⟩ : ∃ Zl : List Value, Zl = [.int .u8 0, .int .u8 0, .int .u8 0, .int .u8 0, .int .u8 0, .int .u8 0, .int .u8 0, .int .u8 0, .int .u8 0, .int .u8 0, .int .u8 0, .int .u8 0, .int .u8 0, .int .u8 0, .int .u8 0, .int .u8 0, .int .u8 0, .int .u8 0, .int .u8 0, .int .u8 0, .int .u8 0, .int .u8 0, .int .u8 0, .int .u8 0, .int .u8 0, .int .u8 0, .int .u8 0, .int .u8 0, .int .u8 0, .int .u8 0, .int .u8 0, .int .u8 0] := ⟨_, rfl⟩
  have q : (Op.equalIn 10000 62 (.agg Zl.toArray) (.agg #[.int .u8 0, .int .u8 0, .int .u8 0, .int .u8 0, .int .u8 0, .int .u8 0, .int .u8 0, .int .u8 0, .int .u8 0, .int .u8 0, .int .u8 0, .int .u8 0, .int .u8 0, .int .u8 0, .int .u8 0, .int .u8 0, .int .u8 0, .int .u8 0, .int .u8 0, .int .u8 0, .int .u8 0, .int .u8 0, .int .u8 0, .int .u8 0, .int .u8 0, .int .u8 0, .int .u8 0, .int .u8 0, .int .u8 0, .int .u8 0, .int .u8 0, .int .u8 0])).run Tryz.prog w1 = .ok true w1 := by rw [hZl]; exact eq32 w1
  have HRG := hid (show w1.rangeAt w.heap.size 4 Zl from fun j v hv => by
    rw [HK1.out.cell (4 + j), show rC seq A l.length c = (([.int .i64 1, .int .i64 seq, .slice A l.length c, .int .i64 0] : List Value) ++ Zl).toArray from by rw [hZl]; rfl, List.getElem?_toArray, List.getElem?_append_right (by simp)]
    simpa using hv)
  have HI := hid (show (Tryz.prog.info? 62).map (·.size) = some Zl.length from by rw [hZl]; kernel_rfl)
  clear hZl
  go_wp2_with (first | (refine load_mid_g (w := w1) (by rfl) 62 _ (by rfl) w.heap.size 4 (by rfl) Zl _ HRG.out Tryz.underlying62 rfl HI.out ?_))
  go_ret
  exact ⟨rfl, HB1.out⟩

theorem record_blocks (n : Nat) (w : World) (hn : n ≤ 1000000000000) :
    Calls Tryz.prog 59 #[.int .i64 n] w fun e w' => e = .returned (.int .i64 ((n + 127) / 128 : Nat)) ∧ w = w' := by
  go_enter Tryz.func59, Tryz.ntmps59
  go_wp2
  go_ret
  refine ⟨?_, rfl⟩
  go_num

theorem flat_le (l : List It) (hg : ∀ x ∈ l, ItOk x) : (l.flatMap itBytes).length ≤ l.length * 60 := by
  induction l with
  | nil => simp
  | cons x l ih =>
    have h1 := itBytes_len (hg x (by simp))
    have h2 := ih (fun y hy => hg y (by simp [hy]))
    rw [List.flatMap_cons, List.length_append, List.length_cons]
    omega
theorem itsBytes_len (l : List It) (hl : l.length ≤ 64) (hg : ∀ x ∈ l, ItOk x) : (itsBytes l).length ≤ 100000 := by
  have h1 := flat_le l hg
  have h2 := varint_len l.length (by omega)
  rw [itsBytes, List.length_append]
  omega
def bodyL (seq : Int) (l : List It) : List Int := ([] ++ varint (1 : Int).toNat) ++ varint seq.toNat ++ itsBytes l
theorem record_Body (seq : Int) (l : List It) (A : Option Addr) (n c B : Nat) (hn : n = l.length) (w : World) (hr : Rds w B 4 A n c (itsC l)) (hB : B ≤ w.heap.size) (hl : l.length ≤ 64) (hgood : ∀ x ∈ l, ItOk x ∧ x.kind = 1) (h1 : 1 ≤ seq) (h2 : seq ≤ 1099511627776) :
    Calls Tryz.prog 55 #[.agg (rC seq A n c)] w fun e w' => ∃ A' m c', m = (bodyL seq l).length ∧ e = .returned (.slice A' m c') ∧ w'.ownsRow w.heap.size 5 1 (.slice A' m c') m (nums8 (bodyL seq l)) ∧ Below w.heap.size w w' := by
  subst hn
  have HG := hid hgood
  have HR := hid (hr.alloc hB (.cells (rC seq A l.length c) 64))
  have HBB := hid hB
  have HK := hid (Blk.new w 64 (rC seq A l.length c))
  have HBW := hid ((Below.refl _ w).alloc (Nat.le_refl _) (.cells (rC seq A l.length c) 64))
  have HI := hid (show (Tryz.prog.info? 64).map (·.size) = some (rC seq A l.length c).size from by kernel_rfl)
  clear hgood hr hB
  go_enter Tryz.func55, Tryz.ntmps55
  go_wp2_with (first | (refine wpList_load_row (w := w.alloc (.cells (rC seq A l.length c) 64)) (by rfl) 64 _ (by rfl) w.heap.size (by rfl) 64 (rC seq A l.length c) (0, 0) _ HK.out Tryz.underlying64 rfl HI.out ?_))
  refine (record_Right seq l A l.length c w.heap.size rfl (w.alloc (.cells (rC seq A l.length c) 64)) (HR.out.more HBB.out) (by simp) hl (fun x hx => (HG.out x hx).1) h1 h2).mono ?_
  rintro e w1 ⟨rfl, hb1⟩
  have hk1 := HK.out.below hb1 (by simp)
  have hlt1 := hk1.lt
  have q1 := HBW.out.trans (hb1.mono (by simp))
  have r1 : Rds w1 w.heap.size 4 A l.length c (itsC l) := (HR.out.more HBB.out).below (hb1.mono (by simp))
  obtain ⟨gp, hgp⟩ : ∃ gp, gp = w1.heap.size := ⟨_, rfl⟩
  have HGP := hid hgp
  have hp2 : PenAt (w1.alloc (.cells #[.slice none 0 0] 55)) gp gp [] := ⟨Nat.le_refl _, .slice none 0 0, by rw [hgp]; exact Blk.new w1 55 #[.slice none 0 0], World.ownsRow_nil _ _ _ _⟩
  have P2 := hid hp2
  have K2 := hid (hk1.alloc (.cells #[.slice none 0 0] 55))
  have Q2 := hid (q1.alloc q1.size (.cells #[.slice none 0 0] 55))
  have R2 := hid (r1.alloc q1.size (.cells #[.slice none 0 0] 55))
  have L2 := hid (show w.heap.size < gp from by omega)
  clear hk1 hlt1 q1 r1 hgp hp2 hb1 HR HK HBW
  go_upto_region 4 with fail
  rw [← HGP.out]
  generalize w1.alloc (.cells #[.slice none 0 0] 55) = w2 at *
  have c0 : w2.cell? ⟨w.heap.size, 0, none⟩ = some (.int .i64 1) := K2.out.cell 0
  go_wp2_with fail
  refine (pen_Number gp gp 1 [] w2 P2.out (by omega) (by omega) (by simp)).mono ?_
  rintro e w3 ⟨rfl, hp3, pk3⟩
  have b3 := pk3.below P2.out
  have P3 := hid hp3
  have K3 := hid (K2.out.below b3 L2.out)
  have Q3 := hid (Q2.out.trans (b3.mono (Nat.le_of_lt L2.out)))
  have R3 := hid (R2.out.below (b3.mono (Nat.le_of_lt L2.out)))
  clear hp3 pk3 b3 c0 P2 K2 Q2 R2
  have c1 : w3.cell? ⟨w.heap.size, 1, none⟩ = some (.int .i64 seq) := K3.out.cell 1
  go_wp2_with fail
  have V1 := hid (show ([] ++ varint (1 : Int).toNat : List Int).length ≤ 100 from by have := varint_len (1 : Int).toNat (by decide); simpa using Nat.le_trans this (by decide))
  refine (pen_Number gp gp seq _ w3 P3.out (by omega) (by omega) (by have := V1.out; omega)).mono ?_
  rintro e w4 ⟨rfl, hp4, pk4⟩
  have b4 := pk4.below P3.out
  have P4 := hid hp4
  have K4 := hid (K3.out.below b4 L2.out)
  have Q4 := hid (Q3.out.trans (b4.mono (Nat.le_of_lt L2.out)))
  have R4 := hid (R3.out.below (b4.mono (Nat.le_of_lt L2.out)))
  clear hp4 pk4 b4 c1 P3 K3 Q3 R3
  have c0 : w4.cell? ⟨w.heap.size, 0, none⟩ = some (.int .i64 1) := K4.out.cell 0
  have c2 : w4.cell? ⟨w.heap.size, 2, none⟩ = some (.slice A l.length c) := K4.out.cell 2
  go_wp2_with fail
  refine (event_Bytes l A l.length c w.heap.size rfl w4 R4.out Q4.out.size (by omega) HG.out).mono ?_
  rintro e w5 ⟨A5, c5, rfl, ho5, hb5⟩
  have P5 := hid (P4.out.below hb5)
  have Q5 := hid (Q4.out.trans (hb5.mono Q4.out.size))
  have O5 := hid ho5
  clear ho5 hb5 c0 c2 P4 K4 Q4 R4
  have V2 := hid (varint_len seq.toNat (by omega))
  have V3 := hid (itsBytes_len l hl (fun x hx => (HG.out x hx).1))
  go_wp2_with fail
  refine (pen_Fixed gp gp _ (itsBytes l) A5 (itsBytes l).length c5 w5.heap.size rfl w5 P5.out (Rds.of_own O5.out) (by have := V1.out; have := V2.out; have := V3.out; rw [List.length_append]; omega)).mono ?_
  rintro e w6 ⟨rfl, hp6, pk6⟩
  have b6 := pk6.below P5.out
  have P6 := hid (show PenAt w6 gp gp (bodyL seq l) from hp6)
  have Q6 := hid (Q5.out.trans (b6.mono (Nat.le_of_lt L2.out)))
  have V4 := hid (show (bodyL seq l).length ≤ 200000 from by have := V1.out; have := V2.out; have := V3.out; rw [bodyL, List.length_append, List.length_append]; omega)
  clear hp6 pk6 b6 P5 Q5 O5
  obtain ⟨bl, hbl⟩ : ∃ bl, bl = bodyL seq l := ⟨_, rfl⟩
  rw [← hbl] at P6 V4
  have HBL := hid hbl
  clear hbl
  go_wp2_with fail
  refine (pen_Bytes gp gp bl w6 P6.out (by have := V4.out; omega)).mono ?_
  rintro e w7 ⟨A7, c7, rfl, ho7, hb7⟩
  have O7 := hid (own_low ho7 Q6.out.size)
  have Q7 := hid (Q6.out.trans (hb7.mono Q6.out.size))
  obtain ⟨m, hm⟩ : ∃ m, m = bl.length := ⟨_, rfl⟩
  rw [← hm] at O7
  rw [← hm]
  have HM := hid hm
  clear ho7 hb7 hm
  go_wp2
  go_ret
  exact ⟨A7, m, c7, by rw [HM.out, HBL.out], rfl, by rw [← HBL.out]; exact O7.out, Q7.out⟩
