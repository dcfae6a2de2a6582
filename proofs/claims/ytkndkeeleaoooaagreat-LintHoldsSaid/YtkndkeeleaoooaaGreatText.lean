/- The words of findings. -/
import Derived.Test.YtkndkeeleaoooaaGreatBetter
import Derived.Test.YtkndkeeleaoooaaGreatShelf
import Derived.Test.YtkndkeeleaoooaaGreatSum
namespace Go.Proofs.YtkndkeeleaoooaaGreat
open Go.RowKit
set_option linter.unusedVariables false
set_option linter.unusedSimpArgs false
set_option maxRecDepth 100000
set_option maxHeartbeats 1000000

def lwA : Array ByteArray := #[⟨#[63]⟩, ⟨#[112, 108, 97, 110]⟩, ⟨#[98, 97, 116, 99, 104]⟩, ⟨#[97, 114, 101, 97]⟩, ⟨#[108, 97, 116, 101]⟩, ⟨#[116, 111, 112]⟩, ⟨#[115, 108, 105, 100, 101]⟩, ⟨#[111, 110, 99, 101]⟩]
abbrev lwC : Array Value := #[.string ⟨#[63]⟩, .string ⟨#[112, 108, 97, 110]⟩, .string ⟨#[98, 97, 116, 99, 104]⟩, .string ⟨#[97, 114, 101, 97]⟩, .string ⟨#[108, 97, 116, 101]⟩, .string ⟨#[116, 111, 112]⟩, .string ⟨#[115, 108, 105, 100, 101]⟩, .string ⟨#[111, 110, 99, 101]⟩]
def lwS (n : Int) : ByteArray := lwA.getD (if n < 0 ∨ 8 ≤ n then 0 else n.toNat) ⟨#[]⟩
theorem lwC_at (k : Nat) (h : k < 8) : lwC[k]? = some (.string (lwA.getD k ⟨#[]⟩)) := by
  rcases k with _ | _ | _ | _ | _ | _ | _ | _ | k <;> first | rfl | omega
theorem info_str : (Tryz.prog.info? 9).map (fun i => (i.zero, i.size, i.bytes)) = some (some (.string ⟨#[]⟩), 1, 16) := by kernel_rfl
theorem lint_Text (l : List Int) (A0 : Option Addr) (n c0 B : Nat) (hn : n = l.length) (w : World) (hr : Rds w B 1 A0 n c0 (nums l)) (hB : B ≤ w.heap.size) (hl1 : 1 ≤ l.length) (hl : l.length ≤ 50) (hj : (Lib.join (l.map fun n => (lwS n).data.toList) [32]).length ≤ 1000000) :
    Calls Tryz.prog 10 #[.slice A0 n c0] w fun e w' => e = .returned (.string ⟨(Lib.join (l.map fun n => (lwS n).data.toList) [32]).toArray⟩) ∧ Below w.heap.size w w' := by
  subst hn
  have W1 := hid (Blk.new w 9 lwC)
  have Q1 := hid ((Below.refl _ w).alloc (Nat.le_refl _) (.cells lwC 9))
  have R1 := hid (hr.alloc hB (.cells lwC 9))
  have HBB := hid hB
  have HJ := hid hj
  have HL := hid hl
  clear hr hB hj hl
  go_enter Tryz.func10, Tryz.ntmps10
  go_wp2
  go_loopw [4, 6, 10] (fun v x i wr => ∃ (k : Nat) (A : Option Addr) (c : Nat), k ≤ l.length ∧ i = .int .i64 k ∧ v = .slice A k c ∧ Blk wr w.heap.size 9 lwC ∧ Rds wr B 1 A0 l.length c0 (nums l) ∧ wr.ownsRow (w.heap.size + 1) 9 1 (.slice A k c) k ((l.map fun n => Value.string (lwS n)).take k) ∧ Below w.heap.size w wr) (fun _ _ i _ => l.length - (intOf i).toNat)
  case atStart => exact ⟨0, none, 0, Nat.zero_le _, rfl, rfl, W1.out, R1.out, World.ownsRow_nil _ _ _ _, Q1.out⟩
  case round =>
    obtain ⟨k, A, c, hk, rfl, rfl, hwr, hrr, hor, hqr⟩ := hrel
    by_cases hlt : k < l.length
    · have hl50 := HL.out
      have p0 : (0 : Int) ≤ (k : Int) := by omega
      have p1 : (k : Int) < (l.length : Int) := by omega
      obtain ⟨b0, o0, hA0, hb0, hce⟩ := hrr.one hlt
      obtain ⟨n, hn⟩ : ∃ n, n = l[k] := ⟨_, rfl⟩
      have hc : wr.cell? ⟨b0, o0 + k, none⟩ = some (.int .i64 n) := hce k _ (by rw [hn]; simp [List.getElem?_eq_getElem hlt])
      have HT := hid (show (l.map fun n => Value.string (lwS n)).take (k + 1) = (l.map fun n => Value.string (lwS n)).take k ++ [.string (lwS n)] from by rw [List.take_succ_eq_append_getElem (by simpa using hlt), List.getElem_map, hn])
      subst hA0
      obtain ⟨s, hs⟩ : ∃ s, s = lwS n := ⟨_, rfl⟩
      rw [← hs] at HT
      have WR := hid hwr
      have RR := hid hrr
      have OR := hid hor
      have QR := hid hqr
      have HS := hid hs
      clear hn hs hce hwr hrr hor hqr hb0 W1 R1 Q1
      have fin : ∀ (g cap : Nat) (w1 : World), w1.ownsRow (w.heap.size + 1) 9 1 (.slice (some ⟨g, 0, none⟩) (k + 1) cap) (k + 1) ((l.map fun n => Value.string (lwS n)).take k ++ [.string s]) → wr.grownBy w1 (Value.slice A k c).ownBlock →
          Blk w1 w.heap.size 9 lwC ∧ Rds w1 B 1 (some ⟨b0, o0, none⟩) l.length c0 (nums l) ∧ w1.ownsRow (w.heap.size + 1) 9 1 (.slice (some ⟨g, 0, none⟩) (k + 1) cap) (k + 1) ((l.map fun n => Value.string (lwS n)).take (k + 1)) ∧ Below w.heap.size w w1 := by
        intro g cap w1 h1 h2
        have hB1 : Below w.heap.size wr w1 := grown_below h2 QR.out.size (fun j e => by have := own_base OR.out j e; omega)
        refine ⟨WR.out.grown h2 (fun e => by have := own_base OR.out _ e; omega), (RR.out.below (hB1.mono HBB.out)), by rw [HT.out]; exact h1, QR.out.trans hB1⟩
      have FIN := hid fin
      clear fin
      have hcell : ∀ m : Nat, m < 8 → s = lwA.getD m ⟨#[]⟩ → wr.cell? ⟨w.heap.size, m, none⟩ = some (.string s) := fun m hm e => by rw [WR.out.cell m, lwC_at m hm, e]
      have HC := hid hcell
      clear hcell
      by_cases h0 : n < 0
      · have hw : wr.cell? ⟨w.heap.size, 0, none⟩ = some (.string s) := HC.out 0 (by omega) (by rw [HS.out, lwS, if_pos (.inl h0)])
        go_wp2_with (first | (at_builtin; refine app1c (W := wr) (by rfl) _ _ _ (by rfl) 9 _ 16 Tryz.underlying49 info_str rfl (w.heap.size + 1) (.slice A k c) k ((l.map fun n => Value.string (lwS n)).take k) OR.out (by rfl) (.string s) (by rfl) rfl (by omega) (by decide) (by have := WR.out.lt; omega) ?_))
        intro g cap w1 ho1 hg1 hat1 hlt1
        have F := hid (FIN.out g cap w1 ho1 hg1)
        clear ho1 hg1 hat1 hlt1 hc hw
        go_wp2
        go_roundw
        case rel => exact ⟨k + 1, _, cap, by omega, by go_num, rfl, F.out⟩
        case measure => simp [intOf]; omega
      · have h0' : 0 ≤ n := by omega
        by_cases h8 : n < 8
        · obtain ⟨m, rfl⟩ := Int.eq_ofNat_of_zero_le h0'
          have hm8 : m < 8 := by omega
          have hw : wr.cell? ⟨w.heap.size, m, none⟩ = some (.string s) := HC.out m hm8 (by rw [HS.out, lwS, if_neg (by omega)]; rfl)
          clear h0
          go_wp2_with (first | (at_builtin; refine app1c (W := wr) (by rfl) _ _ _ (by rfl) 9 _ 16 Tryz.underlying49 info_str rfl (w.heap.size + 1) (.slice A k c) k ((l.map fun n => Value.string (lwS n)).take k) OR.out (by rfl) (.string s) (by rfl) rfl (by omega) (by decide) (by have := WR.out.lt; omega) ?_))
          intro g cap w1 ho1 hg1 hat1 hlt1
          have F := hid (FIN.out g cap w1 ho1 hg1)
          clear ho1 hg1 hat1 hlt1 hc hw
          go_wp2
          go_roundw
          case rel => exact ⟨k + 1, _, cap, by omega, by go_num, rfl, F.out⟩
          case measure => simp [intOf]; omega
        · have h8' : 8 ≤ n := by omega
          have hw : wr.cell? ⟨w.heap.size, 0, none⟩ = some (.string s) := HC.out 0 (by omega) (by rw [HS.out, lwS, if_pos (.inr h8')])
          clear h8
          go_wp2_with (first | (at_builtin; refine app1c (W := wr) (by rfl) _ _ _ (by rfl) 9 _ 16 Tryz.underlying49 info_str rfl (w.heap.size + 1) (.slice A k c) k ((l.map fun n => Value.string (lwS n)).take k) OR.out (by rfl) (.string s) (by rfl) rfl (by omega) (by decide) (by have := WR.out.lt; omega) ?_))
          intro g cap w1 ho1 hg1 hat1 hlt1
          have F := hid (FIN.out g cap w1 ho1 hg1)
          clear ho1 hg1 hat1 hlt1 hc hw
          go_wp2
          go_roundw
          case rel => exact ⟨k + 1, _, cap, by omega, by go_num, rfl, F.out⟩
          case measure => simp [intOf]; omega
    · have hk4 : k = l.length := by omega
      subst hk4
      have n1 : decide (l.length < l.length) = false := decide_eq_false (by omega)
      obtain ⟨g, rfl, hg1, hg2, hcap, hcells⟩ := own_at hor (by omega)
      have HG := hid hg2
      have HCC := hid (show ∀ (j : Nat) x, (l.map fun n => lwS n)[j]? = some x → wr.cell? ⟨g, 0 + j, none⟩ = some (.string x) from fun j x hx => by
        rw [Nat.zero_add]
        refine hcells j _ ?_
        rw [List.take_of_length_le (by simp), List.getElem?_map]
        rw [List.getElem?_map] at hx
        rcases h : l[j]? with _ | y
        · rw [h] at hx; cases hx
        · rw [h] at hx
          simp only [Option.map_some, Option.some.injEq] at hx ⊢
          rw [hx])
      have HCAP := hid hcap
      have HQ := hid hqr
      have HE := hid (show Lib.join ((l.map fun n => lwS n).map (·.data.toList)) (⟨#[32]⟩ : ByteArray).data.toList = Lib.join (l.map fun n => (lwS n).data.toList) [32] from by rw [List.map_map]; rfl)
      have HLM := hid (show (l.map fun n => lwS n).length = l.length from by simp)
      clear hcells hg1 hg2 hcap hwr hrr hor hqr W1 R1 Q1
      go_wp2_with fail
      have key := Tryz.strings_Join g 0 c (l.map fun n => lwS n) ⟨#[32]⟩ wr HCC.out HG.out (by rw [HLM.out]; have := HL.out; omega) (by rw [HLM.out]; exact HCAP.out) (by rw [HE.out]; have := HJ.out; omega)
      rw [HE.out, HLM.out] at key
      refine key.mono ?_
      clear key
      rintro e w9 ⟨rfl, hb9⟩
      have Q9 := hid (HQ.out.trans (hb9.mono HQ.out.size))
      clear hb9
      go_wp2
      go_ret
      exact ⟨rfl, Q9.out⟩
