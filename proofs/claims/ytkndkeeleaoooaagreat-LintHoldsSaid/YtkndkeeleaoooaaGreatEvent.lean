/- The items: which keys and items are right, and how the program writes them as bytes. -/
import Derived.Test.YtkndkeeleaoooaaGreatProg
import Derived.Test.YtkndkeeleaoooaaGreatBase
import Derived.Test.YtkndkeeleaoooaaGreatShelf
import Derived.Test.YtkndkeeleaoooaaGreatQuery
import Derived.Test.YtkndkeeleaoooaaGreatPen
import Derived.Laws.Strings
import Derived.Lib.Strings
namespace Go.Proofs.YtkndkeeleaoooaaGreat
open Go.RowKit
set_option linter.unusedVariables false
set_option linter.unusedSimpArgs false
set_option maxRecDepth 100000
set_option maxHeartbeats 1000000

/-- The signs of keys: a to z, 0 to 9, minus. -/
def keyC (c : UInt8) : Bool := decide ((97 ≤ c.toNat ∧ c.toNat ≤ 122) ∨ (48 ≤ c.toNat ∧ c.toNat ≤ 57) ∨ c.toNat = 45)
def signsL : List UInt8 := [97, 98, 99, 100, 101, 102, 103, 104, 105, 106, 107, 108, 109, 110, 111, 112, 113, 114, 115, 116, 117, 118, 119, 120, 121, 122, 48, 49, 50, 51, 52, 53, 54, 55, 56, 57, 45]
theorem signs_yes (c : UInt8) : (Lib.indexByte signsL c < 0) = ¬ keyC c = true := by
  have h : ∀ n : Fin 256, (decide (Lib.indexByte signsL (UInt8.ofNat n.val) < 0) = !keyC (UInt8.ofNat n.val)) := by decide +kernel
  have h1 := h ⟨c.toNat, c.toNat_lt⟩
  simp only [UInt8.ofNat_toNat] at h1
  have h2 : decide (Lib.indexByte signsL c < 0) = !keyC c := h1
  cases hk : keyC c
  · simp [hk] at h2; simp [h2]
  · simp [hk] at h2; simp; omega
def nameB (s : ByteArray) : Bool := decide (1 ≤ s.size ∧ s.size ≤ 16) && s.data.toList.all keyC

theorem all_take {l : List UInt8} {k : Nat} (h : k < l.length) (p : UInt8 → Bool) : (l.take (k + 1)).all p = ((l.take k).all p && p l[k]) := by
  rw [List.take_succ_eq_append_getElem h, List.all_append]; simp

theorem toList_data (s : ByteArray) : s.toList = s.data.toList := ByteArray.toList_eq s
theorem toList_nil {s : ByteArray} (h : s.size = 0) : s.toList = [] := by
  rw [toList_data]
  exact List.eq_nil_of_length_eq_zero (by simpa using h)
theorem toList_some {s : ByteArray} (h : 1 ≤ s.size) : s.toList.isEmpty = false := by
  rw [toList_data]
  cases he : s.data.toList with
  | nil => have : s.data.toList.length = s.size := by simp
           rw [he] at this; simp at this; omega
  | cons a l => rfl

theorem signs_index (c : UInt8) (w : World) :
    Calls Tryz.prog 88 #[.string ⟨#[97, 98, 99, 100, 101, 102, 103, 104, 105, 106, 107, 108, 109, 110, 111, 112, 113, 114, 115, 116, 117, 118, 119, 120, 121, 122, 48, 49, 50, 51, 52, 53, 54, 55, 56, 57, 45]⟩, .int .u8 c.toNat] w
      fun e w' => e = .returned (.int .i64 (Lib.indexByte signsL c)) ∧ w = w' := by
  refine (Tryz.strings_IndexByte _ _ _).mono ?_
  rintro e w' ⟨rfl, hw⟩
  refine ⟨?_, hw.symm⟩
  simp only [Int.toNat_natCast, UInt8.ofNat_toNat, Nat.toUInt8]
  rfl

theorem event_Name (s : ByteArray) (w : World) (hs : s.size ≤ maxLen) :
    Calls Tryz.prog 79 #[.string s] w fun e w' => e = .returned (.bool (nameB s)) ∧ w = w' := by
  unfold maxLen at hs
  by_cases h0 : s.size = 0 ∨ 16 < s.size
  · have hn : nameB s = false := by unfold nameB; simp; intro h1 h2; omega
    rw [hn]
    clear hn
    rcases h0 with h0 | h0
    · have he : s.toList = [] := toList_nil h0
      go_enter Tryz.func79, Tryz.ntmps79
      go_wp2
      go_ret
      exact ⟨rfl, rfl⟩
    · have h1 : (16 : Int) < (s.size : Int) := by omega
      have he : s.toList.isEmpty = false := toList_some (by omega)
      go_enter Tryz.func79, Tryz.ntmps79
      go_wp2
      go_ret
      exact ⟨rfl, rfl⟩
  · have h1 : ¬ (16 : Int) < (s.size : Int) := by omega
    have he : s.toList.isEmpty = false := toList_some (by omega)
    have hl : s.size ≤ 16 := by omega
    have hp : 1 ≤ s.size := by omega
    clear h0
    go_enter Tryz.func79, Tryz.ntmps79
    go_wp2
    go_loop [3, 13] (fun i n => ∃ k : Nat, k ≤ s.size ∧ n = .int .i64 k ∧ Hid ((s.data.toList.take k).all keyC = true)) (fun _ n => s.size - (intOf n).toNat)
    case atStart => exact ⟨0, Nat.zero_le _, rfl, by simp [Hid]⟩
    case round =>
      obtain ⟨k, hk, rfl, hall⟩ := hrel
      by_cases hlt : k < s.size
      · have hat := all_take (l := s.data.toList) (k := k) (by simpa using hlt) keyC
        have HAT := hid hat
        clear hat
        go_wp2_with fail
        have hss := signs_yes s[k]
        refine (signs_index _ _).mono ?_
        rintro e w' ⟨rfl, rfl⟩
        cases hkc : keyC s[k]
        · have hneg : Lib.indexByte signsL s[k] < 0 := by rw [hss, hkc]; simp
          have hn : nameB s = false := by
            unfold nameB
            rw [Bool.and_eq_false_iff]
            refine .inr (List.all_eq_false.2 ⟨s[k], ?_, by simp [hkc]⟩)
            exact List.getElem_mem (by simpa using hlt)
          have HN := hid hn
          clear hn hss hkc
          go_wp2
          go_ret
          exact ⟨ret_bool HN.out.symm, rfl⟩
        · have hneg : ¬ Lib.indexByte signsL s[k] < 0 := by rw [hss, hkc]; simp
          have hk1 := hid (show ((s.data.toList.take (k + 1)).all keyC = true) from by rw [HAT.out, hall.out]; exact hkc)
          clear hss hkc
          go_wp2
          go_round
          case rel => exact ⟨k + 1, by omega, by go_num, hk1⟩
          case measure => simp [intOf]; omega
      · have hn : nameB s = true := by
          have h := hall.out
          rw [List.take_of_length_le (by simp; omega)] at h
          unfold nameB
          rw [h]
          simp
          omega
        have HN := hid hn
        clear hn
        go_wp2
        go_ret
        exact ⟨ret_bool HN.out.symm, rfl⟩

structure It where
  kind : Int
  key : ByteArray
  time : Int
  value : Int
abbrev It.v (x : It) : Value := .agg #[.int .i64 x.kind, .string x.key, .int .i64 x.time, .int .i64 x.value]
def ItOk (x : It) : Prop :=
  0 ≤ x.time ∧ x.time ≤ 1099511627776 ∧ ((x.kind = 1 ∧ nameB x.key = true ∧ -1099511627776 ≤ x.value ∧ x.value ≤ 1099511627776) ∨ (x.kind = 2 ∧ x.key.size = 0 ∧ x.value = 0))
instance (x : It) : Decidable (ItOk x) := by unfold ItOk; infer_instance
def itR (x : It) : Bool := decide (ItOk x)
theorem itR_true {x : It} : itR x = true ↔ ItOk x := by simp [itR]
theorem itR_false {x : It} : itR x = false ↔ ¬ ItOk x := by simp [itR]
theorem event_Right (x : It) (w : World) (hs : x.key.size ≤ maxLen) :
    Calls Tryz.prog 71 #[x.v] w fun e w' => e = .returned (.bool (itR x)) ∧ Below w.heap.size w w' := by
  by_cases ht : x.time < 0 ∨ 1099511627776 < x.time
  · have hq : itR x = false := by rw [itR_false]; unfold ItOk; omega
    rw [hq]
    clear hq
    go_enter Tryz.func71, Tryz.ntmps71
    go_wp2
    all_goals go_ret
    all_goals exact ⟨rfl, (Below.refl _ _).alloc (Nat.le_refl _) _⟩
  · have t1 : 0 ≤ x.time := by omega
    have t2 : x.time ≤ 1099511627776 := by omega
    clear ht
    cases h1 : (x.kind == 1)
    · cases h2 : (x.kind == 2)
      · have hq : itR x = false := by simp at h1 h2; rw [itR_false]; unfold ItOk; omega
        rw [hq]
        clear hq
        go_enter Tryz.func71, Tryz.ntmps71
        go_wp2
        go_ret
        exact ⟨rfl, (Below.refl _ _).alloc (Nat.le_refl _) _⟩
      · cases he : x.key.toList.isEmpty
        · have hq : itR x = false := by
            simp at h1 h2
            rw [itR_false]; unfold ItOk
            intro h
            have : x.key.size = 0 := by omega
            rw [toList_nil this] at he
            cases he
          rw [hq]
          clear hq
          go_enter Tryz.func71, Tryz.ntmps71
          go_wp2
          go_ret
          exact ⟨rfl, (Below.refl _ _).alloc (Nat.le_refl _) _⟩
        · have hq : itR x = (x.value == 0) := by
            simp at h1 h2
            have hz : x.key.size = 0 := by
              rcases Nat.eq_zero_or_pos x.key.size with h | h
              · exact h
              · rw [toList_some h] at he; cases he
            rw [Bool.eq_iff_iff, itR_true, beq_iff_eq]
            unfold ItOk
            constructor
            · rintro ⟨_, _, ⟨h, _⟩ | ⟨_, _, h⟩⟩
              · omega
              · exact h
            · exact fun h => ⟨t1, t2, .inr ⟨h2, hz, h⟩⟩
          rw [hq]
          clear hq
          go_enter Tryz.func71, Tryz.ntmps71
          go_wp2
          go_ret
          exact ⟨rfl, (Below.refl _ _).alloc (Nat.le_refl _) _⟩
    · have hq : itR x = (nameB x.key && decide (-1099511627776 ≤ x.value ∧ x.value ≤ 1099511627776)) := by
        simp at h1
        rw [Bool.eq_iff_iff, itR_true, Bool.and_eq_true, decide_eq_true_iff]
        unfold ItOk
        constructor
        · rintro ⟨_, _, ⟨_, a, b⟩ | ⟨h, _⟩⟩
          · exact ⟨a, b⟩
          · omega
        · exact fun h => ⟨t1, t2, .inl ⟨h1, h.1, h.2⟩⟩
      rw [hq]
      clear hq
      cases hn : nameB x.key
      all_goals
        go_enter Tryz.func71, Tryz.ntmps71
        go_wp2_with (first | (go_at_call 79; refine (event_Name x.key _ hs).mono ?_; rintro e w' ⟨rfl, rfl⟩))
        all_goals go_ret
        all_goals exact ⟨ret_bool (by first | rfl | (simp; done) | (simp; omega)), (Below.refl _ _).alloc (Nat.le_refl _) _⟩

/-- An item's bytes. -/
def itBytes (x : It) : List Int :=
  varint x.kind.toNat ++ (if x.kind = 1 then varint x.key.size ++ x.key.data.toList.map (fun c => (c.toNat : Int)) else []) ++ varint x.time.toNat ++ (if x.kind = 1 then varint (zig x.value) else [])
theorem nameB_le {s : ByteArray} (h : nameB s = true) : 1 ≤ s.size ∧ s.size ≤ 16 := by
  unfold nameB at h
  simp at h
  exact h.1
theorem ItOk.key_le {x : It} (h : ItOk x) : x.key.size ≤ 16 := by
  obtain ⟨_, _, ⟨_, h, _⟩ | ⟨_, h, _⟩⟩ := h
  · exact (nameB_le h).2
  · omega
theorem event_Put1 (base gp : Nat) (x : It) (bs : List Int) (w : World) (hp : PenAt w base gp bs) (hx : ItOk x) (h1 : x.kind = 1) (hl : bs.length ≤ 700000000000) :
    Calls Tryz.prog 80 #[.pointer (some ⟨gp, 0, none⟩), x.v] w fun e w' => e = .returned (.bool true) ∧ PenAt w' base gp (bs ++ itBytes x) ∧ PK gp w w' := by
  have hk : (x.kind == 1) = true := by simp [h1]
  have hr : itR x = true := itR_true.2 hx
  have hs : x.key.size ≤ maxLen := by have := hx.key_le; unfold maxLen; omega
  have H1 := hid h1
  clear h1
  have hgl := hp.lt
  go_enter Tryz.func80, Tryz.ntmps80
  go_wp2_with fail
  refine (event_Right x _ hs).mono ?_
  rintro e w1 ⟨rfl, hb1⟩
  have hp1 := (hp.alloc (.cells #[.int .i64 x.kind, .string x.key, .int .i64 x.time, .int .i64 x.value] 67)).below hb1
  have hk1 := (Blk.new w 67 #[.int .i64 x.kind, .string x.key, .int .i64 x.time, .int .i64 x.value]).below hb1 (by simp)
  have hc0 : w1.cell? ⟨w.heap.size, 0, none⟩ = some (.int .i64 x.kind) := hk1.cell 0
  have K1 := hid (((PK.refl gp w).alloc hgl (.cells #[.int .i64 x.kind, .string x.key, .int .i64 x.time, .int .i64 x.value] 67)).step (by simp; omega) hb1)
  clear hb1
  go_wp2_with fail
  refine (pen_Number base gp x.kind bs _ hp1 (by have := H1.out; omega) (by have := H1.out; omega) (by omega)).mono ?_
  rintro e w2 ⟨rfl, hp2, hq2⟩
  have hk2 := hk1.keep (hq2.far hp1) (by decide)
  have hc0 : w2.cell? ⟨w.heap.size, 0, none⟩ = some (.int .i64 x.kind) := hk2.cell 0
  have hc1 : w2.cell? ⟨w.heap.size, 1, none⟩ = some (.string x.key) := hk2.cell 1
  have K2 := hid (K1.out.trans hq2)
  clear hq2 hk1 hp1
  go_wp2_with (first | (refine convB (W := w2) (by rfl) 9 53 _ (by rfl) 5 Tryz.underlying9 Tryz.underlying53 Tryz.underlying5 x.key (by rfl) hs ?_))
  intro c w3 hb3 hz3 hr3
  have hp3 := hp2.below hb3
  have hg2 := hp2.lt
  have hk3 := hk2.below hb3 hk2.lt
  have hvl := varint_len x.kind.toNat (by have := H1.out; omega)
  have hkl := hx.key_le
  have K3 := hid (K2.out.step hg2 hb3)
  go_wp2_with fail
  refine (pen_Text base gp (bs ++ varint x.kind.toNat) (strNums x.key) _ x.key.size c (strNums_len x.key).symm w3 hp3 (w2.heap.size + 1) hr3 (by omega) (fun ad e => ?_) (by rw [strNums_len]; omega) (by simp; omega)).mono ?_
  · injection e with e
    subst e
    exact ⟨by show w2.heap.size ≠ gp; omega, fun hr => by have := hp2.row_lt (hr.step hg2 hb3); exact absurd this (by simp)⟩
  rintro e w4 ⟨rfl, hp4, hq4⟩
  have hk4 := hk3.keep (hq4.far hp3) (by decide)
  have hc2 : w4.cell? ⟨w.heap.size, 2, none⟩ = some (.int .i64 x.time) := hk4.cell 2
  have K4 := hid (K3.out.trans hq4)
  clear hq4 hk3 hp3 hb3 hr3 K3 hk2 K2
  have hl4 : (bs ++ varint x.kind.toNat ++ varint x.key.size ++ strNums x.key).length ≤ 700000000100 := by
    have := varint_len x.key.size (by omega)
    simp [strNums_len]
    omega
  go_wp2_with fail
  refine (pen_Number base gp x.time _ w4 hp4 hx.1 (by have := hx.2.1; omega) (by omega)).mono ?_
  rintro e w5 ⟨rfl, hp5, hq5⟩
  have hk5 := hk4.keep (hq5.far hp4) (by decide)
  have hc0 : w5.cell? ⟨w.heap.size, 0, none⟩ = some (.int .i64 x.kind) := hk5.cell 0
  have hc3 : w5.cell? ⟨w.heap.size, 3, none⟩ = some (.int .i64 x.value) := hk5.cell 3
  have K5 := hid (K4.out.trans hq5)
  clear hq5 hk4 hp4 K4
  have hv : -1099511627776 ≤ x.value ∧ x.value ≤ 1099511627776 := by
    obtain ⟨_, _, ⟨_, _, h⟩ | ⟨h, _⟩⟩ := hx
    · exact h
    · have := H1.out; omega
  go_wp2_with fail
  refine (pen_Signed base gp x.value _ w5 hp5 (by omega) (by omega) ?_).mono ?_
  · have := varint_len x.time.toNat (by have := hx.2.1; omega)
    simp at hl4 ⊢
    omega
  rintro e w6 ⟨rfl, hp6, hq6⟩
  go_wp2
  go_ret
  refine ⟨rfl, ?_, K5.out.trans hq6⟩
  have e1 : bs ++ itBytes x = bs ++ varint x.kind.toNat ++ varint x.key.size ++ strNums x.key ++ varint x.time.toNat ++ varint (zig x.value) := by
    unfold itBytes
    rw [if_pos H1.out, if_pos H1.out]
    simp [strNums]
  rw [e1]
  exact hp6
