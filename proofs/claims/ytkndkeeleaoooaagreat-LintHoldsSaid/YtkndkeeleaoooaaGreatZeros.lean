/- append(xs, make([]byte, m)...): onto a row of the call's own. -/
import Derived.Test.YtkndkeeleaoooaaGreatTail
namespace Go.Proofs.YtkndkeeleaoooaaGreat
open Go.RowKit
set_option linter.unusedVariables false
set_option linter.unusedSimpArgs false
set_option maxRecDepth 100000
set_option maxHeartbeats 1000000

section
variable {P : Program}
theorem run_noughts_own (w : World) (t ti ty e : TypeId) {k : IntKind} (ht : P.underlying t = some (.slice e)) (hti : P.underlying ti = some (.int k)) (hinfo : (P.info? e).map (fun i => (i.zero, i.size, i.bytes)) = some (some (.int .u8 0), 1, 1))
    (base : Nat) (v : Value) (n : Nat) (xs : List Value) (hown : w.ownsRow base e 1 v n xs) (m : Nat) (hm : n + m ≤ 1000000000000) (hbase : base ≤ w.heap.size) :
    ∃ v' w', (Builtin.append_ #[t, ti] ty #[v, .int .i64 m]).run P w = .ok v' w' ∧ w'.ownsRow base e 1 v' (n + m) (xs ++ List.replicate m (.int .u8 0)) ∧ w.grownBy w' v.ownBlock := by
  obtain ⟨i0, hi, hz0, hz1, hz2⟩ := info_parts hinfo
  have hw : IntKind.i64.wrap (m : Int) = m := IntWalk.i64_in _ (by omega)
  have hneg : ¬ ((m : Int) < 0) := by omega
  have hbig : ¬ (281474976710656 < (m : Int)) := by omega
  have hcell : (Value.int .u8 0).cells = #[.int .u8 0] := rfl
  have hxl : xs.length = n := by have := hown.1; omega
  have one : ∀ u ∈ List.replicate m (Value.int .u8 0), u.oneCell' = true := fun u hu => by rw [(List.mem_replicate.1 hu).2]; rfl
  -- the growing arm
  have grow : ∀ (A : Option Addr) (cap : Nat), 0 < m → cap < n + m → (Builtin.firstCells 1 n (.slice A n cap)).run P w.drew = .ok xs.toArray w.drew → ∃ v' w', (Builtin.append_ #[t, ti] ty #[.slice A n cap, .int .i64 m]).run P w = .ok v' w' ∧ w'.ownsRow base e 1 v' (n + m) (xs ++ List.replicate m (.int .u8 0)) ∧ w.grownBy w' (Value.slice A n cap).ownBlock := by
    intro A cap hp hcap hfo
    have hn : ¬ (n + m ≤ cap) := by omega
    have h63 : ¬ (9223372036854775807 < (n : Int) + (m : Int)) := by omega
    have hfit : Builtin.nextslicecap (n + m) cap * 1 ≤ 281474976710656 := growslice_fits (by omega) (by omega)
    have h48 : ¬ (281474976710656 < Builtin.nextslicecap (n + m) cap) := by omega
    have hm0 : ¬ (m = 0) := by omega
    have hge := grownCap_ge w (n + m) cap e
    have hcm : grownCap w (n + m) cap e ≤ maxLen := grownCap_le_maxLen w (n + m) cap e (by simp only [maxLen]; omega)
    refine ⟨.slice (some ⟨w.heap.size, 0, none⟩) (n + m) (grownCap w (n + m) cap e), w.drew.alloc (.cells (xs.toArray ++ (Builtin.zeroCells #[.int .u8 0] m ++ Builtin.zeroCells #[.int .u8 0] (grownCap w (n + m) cap e - (n + m)))) e), ?_, ?_, ?_⟩
    · simp [Builtin.append_, run_underlying ht, run_underlying hti, sizeOf, typeInfo, zeroValue, hi, hz0, hz1, hz2, asInt, asIntOf, hw, hneg, hbig, hn, h63, h48, Question.forced, hfo, newRow, grownCap, hm0, hcell]
    · refine ⟨by simp; omega, .inr ⟨w.heap.size, _, _, rfl, hbase, heap_alloc_new w.drew _, hge, hcm, ?_, ?_⟩⟩
      · simp [size_zeroCells]; omega
      · have : (xs.toArray ++ (Builtin.zeroCells #[.int .u8 0] m ++ Builtin.zeroCells #[.int .u8 0] (grownCap w (n + m) cap e - (n + m)))).toList = (xs ++ List.replicate m (.int .u8 0)) ++ List.replicate (grownCap w (n + m) cap e - (n + m)) (.int .u8 0) := by simp [noughts_list]
        rw [this]
        exact List.take_left' (by simp; omega)
    · exact ⟨rfl, rfl, rfl, by simp, fun k hk _ => heap_alloc_old w.drew _ hk⟩
  rcases hown.2 with ⟨rfl, rfl⟩ | ⟨g, cap, cur, rfl, hb0, hg, hnc, hcm, hcs, htk⟩
  · have hx : xs = [] := List.eq_nil_of_length_eq_zero hxl
    subst hx
    rcases Nat.eq_zero_or_pos m with rfl | hp
    · have hw0 : IntKind.i64.wrap 0 = 0 := by decide
      refine ⟨.slice none 0 0, w, ?_, World.ownsRow_nil _ _ _ _, World.grownBy.refl _ _⟩
      simp [Builtin.append_, run_underlying ht, run_underlying hti, sizeOf, typeInfo, hi, hz1, hz2, asInt, asIntOf, hw0]
    · exact grow none 0 hp (by omega) (by simp [Builtin.firstCells])
  · by_cases hroom : n + m ≤ cap
    · have hst := run_storeCells_at P g n e (List.replicate m (.int .u8 0)) 0 cur w hg (by simp; omega) one
      simp only [Nat.add_zero] at hst
      refine ⟨.slice (some ⟨g, 0, none⟩) (n + m) cap, w.setRow g (cur.toList.take n ++ List.replicate m (Value.int .u8 0) ++ cur.toList.drop (n + (List.replicate m (Value.int .u8 0)).length)).toArray, ?_, ?_, ?_⟩
      · rcases Nat.eq_zero_or_pos m with rfl | hp
        · have hw0 : IntKind.i64.wrap 0 = 0 := by decide
          simp at hst
          simp [Builtin.append_, run_underlying ht, run_underlying hti, sizeOf, typeInfo, hi, hz1, hz2, asInt, asIntOf, hw0, hnc, Addr.add_lit, hst]
        · have hm0 : ¬ (m = 0) := by omega
          simp at hst
          simp [Builtin.append_, run_underlying ht, run_underlying hti, sizeOf, typeInfo, zeroValue, hi, hz0, hz1, hz2, asInt, asIntOf, hw, hneg, hbig, hroom, hm0, hcell, noughts_list, Addr.add_lit, hst]
      · refine ⟨by simp; omega, .inr ⟨g, cap, _, rfl, hb0, setRow_heap w g cur _ e _ hg, hroom, hcm, ?_, ?_⟩⟩
        · simp only [List.size_toArray, List.length_append, List.length_take, List.length_drop, Array.length_toList, List.length_replicate]; omega
        · have h1 : cur.toList.take n = xs := by simpa using htk
          rw [h1]
          simp only [Nat.mul_one]
          exact List.take_left' (by simp; omega)
      · exact ⟨rfl, rfl, rfl, by simp, fun k _ hk => setRow_other w g k _ (fun e => hk (by simp [Value.ownBlock, e]))⟩
    · exact grow (some ⟨g, 0, none⟩) cap (by omega) (by omega) (run_firstCells_some (P := P) w.drew 1 n ⟨g, 0, none⟩ n cap xs (by omega) (fun j u hu => by
        have := hown.cells (g := g) rfl j u hu
        simpa using this))
end
