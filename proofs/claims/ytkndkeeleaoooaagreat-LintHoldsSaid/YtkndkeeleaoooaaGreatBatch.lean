/- The greatest batch of so many items: its blocks. -/
import Derived.Test.YtkndkeeleaoooaaGreatSize
import Derived.Test.YtkndkeeleaoooaaGreatShelf
import Derived.Test.YtkndkeeleaoooaaGreatTake
namespace Go.Proofs.YtkndkeeleaoooaaGreat
open Go.RowKit
set_option linter.unusedVariables false
set_option linter.unusedSimpArgs false
set_option maxRecDepth 100000
set_option maxHeartbeats 1000000

section
variable {P : Program}
/-- 'append(out, x)': x lies in the block that was made just before. -/
theorem wp_app1 {o : Oper} {a : Act} {W : World} {K : Act → World → Prop} {Q : Exit → Act → World → Prop} (s x : Operand) (t : TypeId) (ho : o.op = .call { callee := .builtin .append, args := #[s, x], argTypes := #[t, t] })
    (e : TypeId) (z : Value) (size bytes : Nat) (ht : P.underlying t = some (.slice e)) (hinfo : (P.info? e).map (fun i => (i.zero, i.size, i.bytes)) = some (some z, size, bytes)) (hzs : z.cells.size = size) (hsz : 0 < size)
    (base : Nat) (v : Value) (n : Nat) (xs : List Value) (hown : W.ownsRow base e size v n xs) (hs : a.eval s = v) (cs : Array Value) (hx : a.eval x = .slice (some ⟨W.heap.size, 0, none⟩) 1 1)
    (hcs : cs.size = size) (h1 : ∀ u ∈ cs.toList, u.oneCell' = true) (hn : n ≤ 1000000000000) (hby : bytes ≤ 120) (hbase : base ≤ W.heap.size)
    (h : ∀ g cap w', w'.ownsRow base e size (.slice (some ⟨g, 0, none⟩) (n + 1) cap) (n + 1) (xs ++ cs.toList) → W.grownBy w' v.ownBlock → (v.ownBlock = some g ∨ W.heap.size ≤ g) → g < w'.heap.size →
      K (a.put o.dst (.slice (some ⟨g, 0, none⟩) (n + 1) cap)) w') : o.wp P a (W.alloc (.cells cs e)) K Q := by
  obtain ⟨i0, hi, hz0, hz1, hz2⟩ := info_parts hinfo
  have hb : (n + 1) * bytes ≤ 140737488355328 := Nat.le_trans (Nat.mul_le_mul (by omega : n + 1 ≤ 1000000000001) hby) (by omega)
  refine wp_append_lies (W.alloc (.cells cs e)) s x t ho base e i0 z size bytes ht hi hz0 hz1 hz2 hzs hsz v n xs hs (hown.alloc _) ⟨W.heap.size, 0, none⟩ 1 1 cs.toList hx (by simp [hcs])
    (World.news_of_block (heap_alloc_new W _)) h1 (by omega) (by simp only [maxLen]; omega) hb (by simp; omega) (W.heap.size + 1) (by simp) ?_
  intro g cap w' ho' hg hat hlt
  refine h g cap w' ho' ⟨hg.os, hg.tape, hg.output, Nat.le_trans (by simp) hg.size, fun k hk hne => (hg.block k (by simp; omega) hne).trans (Below.heap_alloc W _ k hk)⟩ ?_ hlt
  rcases hat with h1 | h1
  · exact .inl h1
  · exact .inr (by omega)
theorem wp_set {o : Oper} {a : Act} {w : World} {K : Act → World → Prop} {Q : Exit → Act → World → Prop} (ty : TypeId) (x y : Operand) (ho : o.op = .store ty x y) (g j t : Nat) (cs : Array Value) (u : Value)
    (hx : a.eval x = .pointer (some ⟨g, j, none⟩)) (hy : a.eval y = u) (hb : Blk w g t cs) (hj : j < cs.size) (hi : (P.info? ty).map (·.size) = some 1) (h1 : u.oneCell' = true)
    (h : ∀ w', Blk w' g t (cs.setIfInBounds j u) → w.grownBy w' (some g) → K (a.put o.dst undef) w') : o.wp P a w K Q := by
  have hc : u.cells = #[u] := by cases u <;> first | rfl | cases h1
  have hst := run_storeCells_cells (P := P) g j [u] 0 w (fun i hi => by
      have : i = 0 := by simpa using hi
      subst this
      show (w.cell? ⟨g, j, none⟩).isSome = true
      rw [hb.cell, Array.getElem?_eq_getElem hj]; rfl) (fun i hi => hb.free _) (fun v hv => by simp at hv; subst hv; exact h1)
  have hr : (storeVar ty ⟨g, j, none⟩ u).run P w = .ok () (w.setCell ⟨g, j, none⟩ u) := by
    cases hq : P.info? ty with
    | none => simp [hq] at hi
    | some i =>
      have hs : i.size = 1 := by simpa [hq] using hi
      simp only [Nat.add_zero] at hst
      simp [storeVar, sizeOf, typeInfo, hq, hc, hs, hst, World.setCells]
  unfold Oper.wp execOp
  simp only [ho, hx, hy, Instr.storeAt, Instr.sureAddr, Sem.run_bind, Sem.run_pure, Result.andThen_ok, hr]
  exact h _ (hb.set j u) ⟨rfl, rfl, rfl, by simp [World.setCell], fun k _ hne => Below.heap_setCell w _ u k (fun e => hne (by simp [e]))⟩
end
def zKey : ByteArray := ⟨(Lib.repeatL [122] 16).toArray⟩
def zIt : It := ⟨1, zKey, 1099511627776, 1099511627776⟩
theorem zKey_size : zKey.size = 16 := by decide +kernel
theorem zKey_name : nameB zKey = true := by decide +kernel
theorem zIt_ok : ItOk zIt ∧ zIt.kind = 1 := by
  refine ⟨⟨by decide, by decide, .inl ⟨rfl, zKey_name, by decide, by decide⟩⟩, rfl⟩
theorem ledger_longKey (w : World) :
    Calls Tryz.prog 28 #[] w fun e w' => e = .returned (.string zKey) ∧ Below w.heap.size w w' := by
  go_enter Tryz.func28, Tryz.ntmps28
  go_wp2_with fail
  refine (Tryz.strings_Repeat ⟨#[122]⟩ 16 w (by omega) (by decide)).mono ?_
  rintro e w1 ⟨rfl, hb1⟩
  have HB := hid hb1
  clear hb1
  obtain ⟨s, hs⟩ : ∃ s, s = zKey := ⟨_, rfl⟩
  have hs2 : (⟨(Lib.repeatL (⟨#[122]⟩ : ByteArray).data.toList 16).toArray⟩ : ByteArray) = s := hs.symm
  rw [hs2]
  have HS := hid hs
  clear hs hs2
  go_wp2
  go_ret
  exact ⟨by rw [HS.out]; rfl, HB.out⟩

def batchN (k : Nat) : Nat := sealedB 1099511627776 (List.replicate k zIt)
theorem batch_all (k : Nat) : ∀ x ∈ List.replicate k zIt, ItOk x ∧ x.kind = 1 := fun x hx => by rw [(List.mem_replicate.1 hx).2]; exact zIt_ok
theorem batchN_le (k : Nat) (hk : k ≤ 64) : 1 ≤ batchN k ∧ batchN k ≤ 40 :=
  sealedB_le _ _ (by decide) (by decide) (by simpa using hk) (fun x hx => (batch_all k x hx).1)
theorem ledger_Batch_no (n : Int) (w : World) (h : n < 0 ∨ 64 < n) :
    Calls Tryz.prog 14 #[.int .i64 n] w fun e w' => e = .returned (.int .i64 0) ∧ w = w' := by
  rcases h with h | h
  · go_enter Tryz.func14, Tryz.ntmps14
    go_wp2
    go_ret
    exact ⟨rfl, rfl⟩
  · have h2 : ¬ n < 0 := by omega
    go_enter Tryz.func14, Tryz.ntmps14
    go_wp2
    go_ret
    exact ⟨rfl, rfl⟩
abbrev rZ : Array Value := #[.int .i64 0, .int .i64 0, .slice none 0 0, .int .i64 0, .int .u8 0, .int .u8 0, .int .u8 0, .int .u8 0, .int .u8 0, .int .u8 0, .int .u8 0, .int .u8 0, .int .u8 0, .int .u8 0, .int .u8 0, .int .u8 0, .int .u8 0, .int .u8 0, .int .u8 0, .int .u8 0, .int .u8 0, .int .u8 0, .int .u8 0, .int .u8 0, .int .u8 0, .int .u8 0, .int .u8 0, .int .u8 0, .int .u8 0, .int .u8 0, .int .u8 0, .int .u8 0, .int .u8 0, .int .u8 0, .int .u8 0, .int .u8 0]
theorem itsC_rep (k : Nat) : itsC (List.replicate (k + 1) zIt) = itsC (List.replicate k zIt) ++ [.int .i64 1, .string zKey, .int .i64 1099511627776, .int .i64 1099511627776] := by
  rw [List.replicate_succ', itsC, List.flatMap_append]
  rfl
theorem ledger_Batch (n : Nat) (w : World) (hn : n ≤ 64) :
    Calls Tryz.prog 14 #[.int .i64 n] w fun e w' => e = .returned (.int .i64 (batchN n)) ∧ Below w.heap.size w w' := by
  have h1 : ¬ (n : Int) < 0 := by omega
  have h2 : (n : Int) ≤ 64 := by omega
  have B1 := hid (Blk.new w 64 rZ)
  have Q1 := hid ((Below.refl _ w).alloc (Nat.le_refl _) (.cells rZ 64))
  obtain ⟨R0, hR0⟩ : ∃ R0, R0 = rC 1099511627776 none 0 0 := ⟨_, rfl⟩
  have HI := hid (show (Tryz.prog.info? 64).map (·.size) = some R0.size from by rw [hR0]; kernel_rfl)
  have HF := hid (show 0 + R0.size ≤ rZ.size from by rw [hR0]; decide)
  have HO := hid (show ∀ u ∈ R0.toList, u.oneCell' = true from by rw [hR0]; intro u hu; simp at hu; rcases hu with h | h | h | h | h <;> subst h <;> rfl)
  have HR0 := hid hR0
  clear hR0
  go_enter Tryz.func14, Tryz.ntmps14
  go_upto_region 3 with fail
  go_wp2_with (first | (refine storeB (w := w.alloc (.cells rZ 64)) (by rfl) 64 _ _ (by rfl) w.heap.size 0 64 rZ R0 (by rfl) (by rw [HR0.out]; rfl) B1.out HF.out HI.out HO.out ?_))
  intro w2 hk2 hg2
  rw [splice_all _ _ (by have := HF.out; rw [HR0.out]; rfl)] at hk2
  have hlt := B1.out.lt
  have K2 := hid (show Blk w2 w.heap.size 64 (rC 1099511627776 none 0 0) from by have h := hk2; rw [HR0.out] at h; exact h)
  have Q2 := hid (Q1.out.grown hg2 Q1.out.size (fun k e => by have := Option.some.inj e; omega))
  clear hk2 hg2 hlt B1 Q1 HI HF HO HR0
  go_wp2
  go_loopw [12] (fun i wr => ∃ (k : Nat) (A : Option Addr) (c : Nat), k ≤ n ∧ i = .int .i64 k ∧ Blk wr w.heap.size 64 (rC 1099511627776 A k c) ∧ wr.ownsRow (w.heap.size + 1) 67 4 (.slice A k c) k (itsC (List.replicate k zIt)) ∧ Below w.heap.size w wr) (fun i _ => n - (intOf i).toNat)
  case atStart => exact ⟨0, none, 0, Nat.zero_le _, rfl, K2.out, World.ownsRow_nil _ _ _ _, Q2.out⟩
  case round =>
    obtain ⟨k, A, c, hk, rfl, hkr, hor, hqr⟩ := hrel
    by_cases hlt : k < n
    · have KR := hid hkr
      have OR := hid hor
      have QR := hid hqr
      have p0 : (k : Int) < (n : Int) := by omega
      clear hkr hor hqr K2 Q2
      go_upto_region 6 with fail
      refine wp_region_noPanic (wp_region_any (by kernel_rfl) (wpAny_of_K (S := fun w' => w'.cell? ⟨w.heap.size, 2, none⟩ = some (.slice A k c)) (k := 5) _ _ _ _ ?_))
      change wpAnyK _ _ _ _ _ _ 8 _ _ wr.drew
      have KR := hid (show Blk wr.drew w.heap.size 64 (rC 1099511627776 A k c) from KR.out)
      have OR := hid (show wr.drew.ownsRow (w.heap.size + 1) 67 4 (.slice A k c) k (itsC (List.replicate k zIt)) from OR.out)
      have QR := hid (show Below w.heap.size w wr.drew from QR.out.drew)
      generalize wr.drew = w3 at *
      have hS3 : w3.cell? ⟨w.heap.size, 2, none⟩ = some (.slice A k c) := KR.out.cell 2
      refine wpAnyK_pure (i := 0) (v := .pointer (some ⟨w.heap.size, 2, none⟩)) (by rfl) (by kernel_rfl) (by kernel_rfl) (by kernel_rfl) (by kernel_rfl) (fun _ _ _ h => h) (.inl ⟨rfl, fun w => by rfl⟩) (fun _ => hS3) ?_
      simp only [Act.put, List.getElem_toArray, List.getElem_cons_zero, List.getElem_cons_succ, List.setIfInBounds_toArray, List.set_cons_zero, List.set_cons_succ]
      refine wpAnyK_load (i := 1) (v := .slice A k c) (by rfl) (by kernel_rfl) (by kernel_rfl) (by kernel_rfl) (by kernel_rfl) (by kernel_rfl) (by kernel_rfl) (fun _ _ _ h => h) (.inl ⟨rfl, fun w hw => by go_simp⟩) hS3 ?_
      simp only [Act.put, List.getElem_toArray, List.getElem_cons_zero, List.getElem_cons_succ, List.setIfInBounds_toArray, List.set_cons_zero, List.set_cons_succ]
      refine wpAnyK_one (i := 2) (by kernel_rfl) (wpOp_in (by rfl) rfl (wp_enter (f := 28) (args := #[]) (by kernel_rfl) ?_))
      refine (ledger_longKey w3).mono ?_
      rintro e w4 ⟨rfl, hb4⟩
      have K4 := hid (KR.out.below hb4 KR.out.lt)
      have O4 := hid (own_below OR.out hb4 (own_lt OR.out))
      have Q4 := hid (QR.out.trans (hb4.mono QR.out.size))
      have L4 := hid (show w.heap.size < w4.heap.size from Nat.lt_of_lt_of_le KR.out.lt hb4.size)
      clear hb4
      have hS4 : w4.cell? ⟨w.heap.size, 2, none⟩ = some (.slice A k c) := K4.out.cell 2
      refine ⟨_, rfl, fun _ => hS4, ?_⟩
      simp only [Act.put, List.getElem_toArray, List.getElem_cons_zero, List.getElem_cons_succ, List.setIfInBounds_toArray, List.set_cons_zero, List.set_cons_succ]
      refine wpAnyK_pure (i := 3) (v := .agg #[.int .i64 1, .string zKey, .int .i64 1099511627776, .int .i64 1099511627776]) (by rfl) (by kernel_rfl) (by kernel_rfl) (by kernel_rfl) (by kernel_rfl) (fun _ _ _ h => h) (.inl ⟨rfl, fun w => by kernel_rfl⟩) (fun _ => hS4) ?_
      simp only [Act.put, List.getElem_toArray, List.getElem_cons_zero, List.getElem_cons_succ, List.setIfInBounds_toArray, List.set_cons_zero, List.set_cons_succ]
      refine wpAnyK_one (i := 4) (by kernel_rfl) (wpOp_in (by rfl) rfl (wp_made2 #[.int .i64 1, .string zKey, .int .i64 1099511627776, .int .i64 1099511627776] 67 1 (by kernel_rfl) ?_))
      have hS5 : (w4.alloc (.cells #[.int .i64 1, .string zKey, .int .i64 1099511627776, .int .i64 1099511627776] 67)).cell? ⟨w.heap.size, 2, none⟩ = some (.slice A k c) := (K4.out.alloc _).cell 2
      refine ⟨fun _ => hS5, ?_⟩
      simp only [Act.put, List.getElem_toArray, List.getElem_cons_zero, List.getElem_cons_succ, List.setIfInBounds_toArray, List.set_cons_zero, List.set_cons_succ]
      refine wpAnyK_one (i := 5) (by kernel_rfl) (wpOp_in (by rfl) rfl ?_)
      refine wp_app1 (.tmp 15) (.tmp 18) 61 (by rfl) 67 _ 4 40 Tryz.underlying61 info_Item rfl (by omega) (w.heap.size + 1) (.slice A k c) k (itsC (List.replicate k zIt)) O4.out (by kernel_rfl) #[.int .i64 1, .string zKey, .int .i64 1099511627776, .int .i64 1099511627776] (by kernel_rfl) rfl (fun u hu => by simp at hu; rcases hu with h | h | h <;> subst h <;> rfl) (by omega) (by decide) (by have := L4.out; omega) ?_
      intro g c' w6 ho6 hg6 hat6 hlt6
      have hne := own_ne O4.out K4.out (by decide)
      have K6 := hid (K4.out.grown hg6 hne)
      have Q6 := hid (Q4.out.grown hg6 Q4.out.size (fun j e => by have := own_base O4.out j e; omega))
      have O6 := hid (show w6.ownsRow (w.heap.size + 1) 67 4 (.slice (some ⟨g, 0, none⟩) (k + 1) c') (k + 1) (itsC (List.replicate (k + 1) zIt)) from by rw [itsC_rep]; exact ho6)
      have hS6 : w6.cell? ⟨w.heap.size, 2, none⟩ = some (.slice A k c) := K6.out.cell 2
      clear ho6 hg6 hat6 hlt6 hne
      refine ⟨fun _ => hS6, ?_⟩
      simp only [Act.put, List.getElem_toArray, List.getElem_cons_zero, List.getElem_cons_succ, List.setIfInBounds_toArray, List.set_cons_zero, List.set_cons_succ]
      refine wpAnyK_pure (i := 6) (v := .pointer (some ⟨w.heap.size, 2, none⟩)) (by rfl) (by kernel_rfl) (by kernel_rfl) (by kernel_rfl) (by kernel_rfl) (fun _ _ _ h => h) (.inl ⟨rfl, fun w => by rfl⟩) (fun _ => hS6) ?_
      simp only [Act.put, List.getElem_toArray, List.getElem_cons_zero, List.getElem_cons_succ, List.setIfInBounds_toArray, List.set_cons_zero, List.set_cons_succ]
      have ho7 : w6.ownsRow (w.heap.size + 1) 67 4 (.slice (some ⟨g, 0, none⟩) (k + 1) c') (k + 1) (itsC (List.replicate (k + 1) zIt)) → ∀ {w7 : World} {cs : Array Value}, Blk w7 w.heap.size 64 cs → w6.grownBy w7 (some w.heap.size) → w7.ownsRow (w.heap.size + 1) 67 4 (.slice (some ⟨g, 0, none⟩) (k + 1) c') (k + 1) (itsC (List.replicate (k + 1) zIt)) := fun h w7 cs _ hg => h.kept hg (.inr (own_ne h K6.out (by decide)))
      refine wpAnyK_one (i := 7) (by kernel_rfl) (wpOp_in (by rfl) rfl ?_)
      refine wp_set 61 (.tmp 20) (.tmp 19) (by rfl) w.heap.size 2 64 (rC 1099511627776 A k c) (.slice (some ⟨g, 0, none⟩) (k + 1) c') (by kernel_rfl) (by kernel_rfl) K6.out (by simp) (by kernel_rfl) rfl ?_
      intro w7 hk7 hg7
      have O7 := ho7 O6.out hk7 hg7
      have Q7 := Q6.out.grown hg7 Q6.out.size (fun k e => by have := Option.some.inj e; omega)
      clear hg7
      refine ⟨fun h => absurd h (by decide), ?_⟩
      refine wpAnyK_done (by kernel_rfl) (NoPanic.normal ?_) _
      go_wp2
      go_roundw
      case rel => exact ⟨k + 1, _, _, by omega, by go_num, hk7, O7, Q7⟩
      case measure => simp [intOf]; omega
    · have hkn : k = n := by omega
      subst hkn
      have KR := hid hkr
      have RR := hid (Rds.of_own hor)
      have QR := hid hqr
      have HI := hid (show (Tryz.prog.info? 64).map (·.size) = some (rC 1099511627776 A k c).size from by kernel_rfl)
      clear hkr hor hqr K2 Q2
      have n1 : decide (k < k) = false := decide_eq_false (by omega)
      go_wp2_with (first | (refine wpList_load_row (w := wr) (by rfl) 64 _ (by rfl) w.heap.size (by rfl) 64 (rC 1099511627776 A k c) (0, 0) _ KR.out Tryz.underlying64 rfl HI.out ?_))
      refine (record_Size 1099511627776 (List.replicate k zIt) A k c wr.heap.size (by simp) wr RR.out (Nat.le_refl _) (by simpa using hn) (batch_all k) (by omega) (by omega)).mono ?_
      rintro e w9 ⟨rfl, hb9⟩
      have Q9 := hid (QR.out.trans (hb9.mono QR.out.size))
      clear hb9
      go_wp2
      go_ret
      exact ⟨rfl, Q9.out⟩
