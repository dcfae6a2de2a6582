/- Lists of items in memory; the bytes of items. -/
import Derived.Test.YtkndkeeleaoooaaGreatEvent
namespace Go.Proofs.YtkndkeeleaoooaaGreat
open Go.RowKit
set_option linter.unusedVariables false
set_option linter.unusedSimpArgs false
set_option maxRecDepth 100000
set_option maxHeartbeats 1000000

def itC (x : It) : List Value := [.int .i64 x.kind, .string x.key, .int .i64 x.time, .int .i64 x.value]
def itsC (l : List It) : List Value := l.flatMap itC
theorem itsC_len (l : List It) : (itsC l).length = l.length * 4 := flat_len itC 4 (fun _ => rfl) l
theorem itsC_one (l : List It) : ∀ u ∈ itsC l, u.oneCell' = true := flat_one itC (fun x u hu => by simp [itC] at hu; rcases hu with h | h | h | h <;> subst h <;> rfl) l
theorem its_elem {w : World} {B n c : Nat} {A : Option Addr} {l : List It} (h : Rds w B 4 A n c (itsC l)) {k : Nat} (hk : k < l.length) (hn : n = l.length) :
    ∃ b off, A = some ⟨b, off, none⟩ ∧ b < B ∧ w.cell? ⟨b, off + k * 4, none⟩ = some (.int .i64 l[k].kind) ∧ w.cell? ⟨b, off + k * 4 + 1, none⟩ = some (.string l[k].key) ∧ w.cell? ⟨b, off + k * 4 + 2, none⟩ = some (.int .i64 l[k].time) ∧ w.cell? ⟨b, off + k * 4 + 3, none⟩ = some (.int .i64 l[k].value) := by
  obtain ⟨b, off, rfl, hb, hc⟩ := h.elem (k := k) (by omega) (by omega)
  have hf := fun j hj => flat_at itC 4 (fun _ => rfl) l k j hk hj
  exact ⟨b, off, rfl, hb, hc 0 _ (by omega) (hf 0 (by omega)), hc 1 _ (by omega) (hf 1 (by omega)), hc 2 _ (by omega) (hf 2 (by omega)), hc 3 _ (by omega) (hf 3 (by omega))⟩
theorem itsC_snoc (l : List It) (k : Nat) (h : k < l.length) : itsC (l.take (k + 1)) = itsC (l.take k) ++ [.int .i64 l[k].kind, .string l[k].key, .int .i64 l[k].time, .int .i64 l[k].value] := by
  unfold itsC
  rw [List.take_succ_eq_append_getElem h, List.flatMap_append]
  simp only [List.flatMap_cons, List.flatMap_nil, List.append_nil]
  rfl
theorem flat_snoc {α β : Type} (f : α → List β) (l : List α) (k : Nat) (h : k < l.length) : (l.take (k + 1)).flatMap f = (l.take k).flatMap f ++ f l[k] := by
  rw [List.take_succ_eq_append_getElem h, List.flatMap_append]
  simp only [List.flatMap_cons, List.flatMap_nil, List.append_nil]
theorem info_Item : (Tryz.prog.info? 67).map (fun i => (i.zero, i.size, i.bytes)) = some (some (.agg #[.int .i64 0, .string ⟨#[]⟩, .int .i64 0, .int .i64 0]), 4, 40) := by kernel_rfl

def itsBytes (l : List It) : List Int := varint l.length ++ l.flatMap itBytes
theorem itBytes_len {x : It} (h : ItOk x) : (itBytes x).length ≤ 60 := by
  have hk := h.key_le
  have h1 := varint_len x.kind.toNat (by obtain ⟨_, _, ⟨h, _⟩ | ⟨h, _⟩⟩ := h <;> omega)
  have h2 := varint_len x.key.size (by omega)
  have h3 := varint_len x.time.toNat (by have := h.2.1; omega)
  have h4 := varint_len (zig x.value) (zig_lt _ (by obtain ⟨_, _, ⟨_, _, h, _⟩ | ⟨_, _, h⟩⟩ := h <;> omega) (by obtain ⟨_, _, ⟨_, _, _, h⟩ | ⟨_, _, h⟩⟩ := h <;> omega))
  unfold itBytes
  split <;> simp <;> omega

theorem event_Bytes (l : List It) (A : Option Addr) (n c B : Nat) (hn : n = l.length) (w : World) (hr : Rds w B 4 A n c (itsC l)) (hB : B ≤ w.heap.size) (hl : l.length ≤ 1000) (hgood : ∀ x ∈ l, ItOk x ∧ x.kind = 1) :
    Calls Tryz.prog 72 #[.slice A n c] w fun e w' => ∃ A' c', e = .returned (.slice A' (itsBytes l).length c') ∧ w'.ownsRow w.heap.size 5 1 (.slice A' (itsBytes l).length c') (itsBytes l).length (nums8 (itsBytes l)) ∧ Below w.heap.size w w' := by
  subst hn
  have HG := hid hgood
  clear hgood
  go_enter Tryz.func72, Tryz.ntmps72
  go_wp2
  go_loopw [3, 11] (fun v n wr => ∃ k : Nat, k ≤ l.length ∧ n = .int .i64 k ∧ wr.ownsRow w.heap.size 67 4 v k (itsC (l.take k)) ∧ Below w.heap.size w wr) (fun _ n _ => l.length - (intOf n).toNat)
  case atStart => exact ⟨0, Nat.zero_le _, rfl, World.ownsRow_nil _ _ _ _, Below.refl _ _⟩
  case round =>
    obtain ⟨k, hk, rfl, hown, hb⟩ := hrel
    by_cases hlt : k < l.length
    · have hrr := (hr.more hB).below hb
      obtain ⟨b, off, rfl, hbB, c0, c1, c2, c3⟩ := its_elem hrr hlt rfl
      have hi : ItOk l[k] := (HG.out _ (List.getElem_mem hlt)).1
      have hR : itR l[k] = true := itR_true.2 hi
      have hs : l[k].key.size ≤ maxLen := by have := hi.key_le; unfold maxLen; omega
      have HB := hid hb
      have hbs := hb.size
      clear hb
      have ht := itsC_snoc l k hlt
      have HT := hid ht
      clear ht
      go_wp2_with fail
      refine (event_Right l[k] _ hs).mono ?_
      rintro e w1 ⟨rfl, hb1⟩
      have hk1 := (Blk.new wr 67 #[.int .i64 l[k].kind, .string l[k].key, .int .i64 l[k].time, .int .i64 l[k].value]).below hb1 (by simp)
      have hc0 : w1.cell? ⟨wr.heap.size, 0, none⟩ = some (.int .i64 l[k].kind) := hk1.cell 0
      have hc1 : w1.cell? ⟨wr.heap.size, 1, none⟩ = some (.string l[k].key) := hk1.cell 1
      have hc2 : w1.cell? ⟨wr.heap.size, 2, none⟩ = some (.int .i64 l[k].time) := hk1.cell 2
      have hc3 : w1.cell? ⟨wr.heap.size, 3, none⟩ = some (.int .i64 l[k].value) := hk1.cell 3
      have ho1 : w1.ownsRow w.heap.size 67 4 u3 k (itsC (l.take k)) := own_below (hown.alloc (.cells #[.int .i64 l[k].kind, .string l[k].key, .int .i64 l[k].time, .int .i64 l[k].value] 67)) hb1 (own_lt (hown.alloc _))
      have hz1 : wr.heap.size + 1 ≤ w1.heap.size := by have := hb1.size; simpa using this
      have HB1 := hid ((HB.out.alloc (by omega) (.cells #[.int .i64 l[k].kind, .string l[k].key, .int .i64 l[k].time, .int .i64 l[k].value] 67)).trans (hb1.mono (by simp; omega)))
      clear hb1 hk1
      go_wp2_with (first | (at_builtin; refine app1 (W := w1) (by rfl) _ _ _ (by rfl) 67 _ 4 40 Tryz.underlying61 info_Item rfl (by omega) w.heap.size u3 k (itsC (l.take k)) ho1 (by rfl) #[.int .i64 l[k].kind, .string l[k].key, .int .i64 l[k].time, .int .i64 l[k].value] (by rfl) rfl (itsC_one [l[k]]) (by omega) (by decide) (by omega) ?_))
      intro g cap w2 ho2 hg2 hat2 hlt2
      have HO2 := hid ho2
      clear ho2
      go_wp2
      go_roundw
      case rel => exact ⟨k + 1, by omega, by go_num, by rw [HT.out]; exact HO2.out, HB1.out.grown hg2 (by omega) (own_base ho1)⟩
      case measure => simp [intOf]; omega
    · obtain rfl : k = l.length := by omega
      obtain ⟨wo, rfl⟩ : ∃ wo : World, wo = wr := ⟨_, rfl⟩
      rw [List.take_length] at hown
      obtain ⟨A1, c1, rfl, hown1, hr1⟩ := ownA hown
      clear hown
      have HB := hid hb
      have hz := hb.size
      clear hb hr
      go_wp2_with fail
      refine (pen_Number (wo.heap.size) wo.heap.size l.length [] (wo.alloc (.cells #[.slice none 0 0] 55)) ⟨Nat.le_refl _, _, Blk.new _ _ _, World.ownsRow_nil _ _ _ _⟩ (by omega) (by omega) (by simp)).mono ?_
      rintro e w1 ⟨rfl, hp1, hq1⟩
      have hr1' : Rds w1 wo.heap.size 4 A1 l.length c1 (itsC l) := (hr1.alloc (Nat.le_refl _) _).below (hq1.below (base := wo.heap.size) ⟨Nat.le_refl _, _, Blk.new _ _ _, World.ownsRow_nil _ _ _ _⟩ (bs := []))
      have HB1 := hid ((HB.out.alloc hz (.cells #[.slice none 0 0] 55)).trans ((hq1.below (base := wo.heap.size) ⟨Nat.le_refl _, _, Blk.new _ _ _, World.ownsRow_nil _ _ _ _⟩ (bs := [])).mono hz))
      have hvn := varint_len l.length (by omega)
      have hz1 := hq1.size
      have hz2 : wo.heap.size + 1 ≤ w1.heap.size := by simpa using hz1
      clear hq1 hz1 hr1 hown1
      go_wp2
      go_loopw [30] (fun n wx => ∃ k : Nat, k ≤ l.length ∧ n = .int .i64 k ∧ PenAt wx wo.heap.size wo.heap.size (varint l.length ++ (l.take k).flatMap itBytes) ∧ (varint l.length ++ (l.take k).flatMap itBytes).length ≤ 10 + k * 100 ∧ Below wo.heap.size w1 wx) (fun n _ => l.length - (intOf n).toNat)
      case atStart => exact ⟨0, Nat.zero_le _, rfl, by simpa using hp1, by simpa using hvn, Below.refl _ _⟩
      case round =>
        obtain ⟨k, hk, rfl, hp, hpl, hbx⟩ := hrel
        by_cases hlt : k < l.length
        · obtain ⟨b, off, rfl, hbB, c0, c1, c2, c3⟩ := its_elem (hr1'.below hbx) hlt rfl
          have hg := HG.out _ (List.getElem_mem hlt)
          have hsn := flat_snoc itBytes l k hlt
          have HS := hid hsn
          have hlen := itBytes_len hg.1
          have HG1 := hid hg
          have HBX := hid hbx
          clear hsn hg hbx
          go_wp2_with fail
          refine (event_Put1 wo.heap.size wo.heap.size l[k] _ _ (hp.alloc _) HG1.out.1 HG1.out.2 (by omega)).mono ?_
          rintro e w3 ⟨rfl, hp3, hq3⟩
          have hpa := hp.alloc (.cells #[.int .i64 l[k].kind, .string l[k].key, .int .i64 l[k].time, .int .i64 l[k].value] 67)
          have H3 := hid (hq3.below hpa)
          have hpl' : (varint l.length ++ List.flatMap itBytes (List.take k l) ++ itBytes l[k]).length ≤ 10 + (k + 1) * 100 := by
            rw [List.length_append]
            omega
          clear hq3 hpa
          go_wp2
          go_roundw
          case rel => exact ⟨k + 1, by omega, by go_num, by rw [HS.out, ← List.append_assoc]; exact hp3, by rw [HS.out, ← List.append_assoc]; exact hpl', (HBX.out.alloc (by have := HBX.out.size; omega) _).trans H3.out⟩
          case measure => simp [intOf]; omega
        · obtain rfl : k = l.length := by omega
          rw [List.take_length] at hp hpl
          have HBX := hid hbx
          have hzx := hbx.size
          clear hbx
          go_wp2_with fail
          refine (pen_Bytes wo.heap.size wo.heap.size (itsBytes l) _ hp (by unfold itsBytes; omega)).mono ?_
          rintro e w4 ⟨A', c', rfl, ho4, hb4⟩
          go_wp2
          go_ret
          exact ⟨_, _, rfl, own_low ho4 (by omega), (HB1.out.trans (HBX.out.mono hz)).trans (hb4.mono (by omega))⟩
