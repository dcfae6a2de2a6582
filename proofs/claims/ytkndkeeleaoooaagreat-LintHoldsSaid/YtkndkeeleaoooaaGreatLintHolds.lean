/- LintHolds: of what Better gives only 7 is told, and the least plan has nothing odd; for every query, plan, and numbers. -/
import Derived.Test.YtkndkeeleaoooaaGreatRows
import Derived.Test.YtkndkeeleaoooaaGreatHolds34
import Derived.WalkKit
import Derived.ProofKit
import Derived.OpenShut
import Derived.Carry
namespace Go.Proofs.YtkndkeeleaoooaaGreat
open Go.ChangeShapes Go.WideShapes Go.ChangeAt Go.RowKit
set_option linter.unusedVariables false
set_option linter.unusedSimpArgs false
set_option maxRecDepth 100000

theorem own_knob : ownKnob Tryz.prog.godebug = none := by kernel_rfl
theorem laid_out : laidOutB Tryz.prog = true := by kernel_rfl
/-- The row's last step, for a law that names no variables, where below the heap's old size nothing has turned. -/
theorem post_law {H : Type} {enc : TypeId × Value → H} {P : Program} {f : Func} {s : ChangeSpec} {apart fresh handsOn again : Bool} {W W' : World} {args : Array Value} {v : Value} {ds gs : List (DataW H)} {ps : List MemPlace}
    (hW : DataW.Whole enc P f.params.toList s.vars apart W args.toList ds gs ps) (hb : Below W.heap.size W W')
    (hr : ∀ (b : Nat) (sp : Nat → Bool) (hd : Bool), DataW.TrodAll enc P W' b sp hd f.resultTypes.toList (v.resultList f.resultTypes.size) (s.fn H (ds ++ gs)).results [])
    (ha : ∀ sp : Nat → Bool, (∀ p ∈ ps, sp p.block = true) → DataW.TrodAll enc P W' 0 sp true f.params.toList args.toList (s.fn H (ds ++ gs)).args ps)
    (hv : ∀ sp : Nat → Bool, DataW.TrodVars enc P W' sp s.vars (s.fn H (ds ++ gs)).vars [])
    (hok : ∀ (j : Nat) (t : TypeId) (r : Value), f.resultTypes[j]? = some t → (v.resultList f.resultTypes.size)[j]? = some r → Value.okWide P W' .any 0 t r) :
    s.post enc P f apart fresh handsOn again W args v W' := by
  have lt := fun p (hp : p ∈ ps) => hW.lt p hp
  have hs : ∀ p ∈ ps, (fun b => decide (b < W.heap.size)) p.block = true := fun p hp => by simpa using lt p hp
  refine ⟨ds, gs, ps, [], ps, [], hW, hr _ _ _, ha _ hs, hv _, World.keptBut_mono (fun p hp => ⟨hp, .inr (.inl hp)⟩) (hb.frame (· ∈ ps)), fun _ => ?_⟩
  obtain ⟨_, _, _, _, _, hz, hn⟩ := hW
  have hap : ([] ++ ps) ++ ([] : List MemPlace) = ps := by simp
  refine ⟨hok, _, _, ([] ++ ps) ++ [], ⟨[] ++ ps, [], trodAll_append (ha _ (fun _ _ => rfl)) (hr _ _ _), hv _, rfl, fun b off hp => ?_, fun h => ?_⟩, fun p hp _ => ?_⟩
  · rw [hap] at hp
    rw [hb.frozen (lt _ hp)]
    exact hz b off hp
  · rw [hap]
    exact hn h
  · simpa using hp
section
variable {H : Type} {enc : TypeId × Value → H} {w : World} {base : Nat} {spare : Nat → Bool} {held : Bool}
theorem int_at {n : Nat} {cs : List Value} {x : Option (DataW H × List MemPlace)} (h : DataW.trod enc Tryz.prog w base spare held n 3 cs = x) (hx : ∃ y, x = some y) : ∃ k, cs = [.int .i64 k] := by
  obtain ⟨y, rfl⟩ := hx
  obtain ⟨k, h1, _, _⟩ := DataW.trod_int Tryz.underlying3 h
  exact ⟨k, h1⟩
theorem some_at {α : Type} {xs : List α} {n i : Nat} (h : xs.length = n) (hi : i < n) : ∃ y, xs[i]? = some y := ⟨xs[i], List.getElem?_eq_getElem (by omega)⟩
theorem cells_int : Tryz.prog.cellsOf 3 = 1 := by kernel_rfl
theorem cells_qy : Tryz.prog.cellsOf 23 = 6 := by kernel_rfl
/-- A query's six numbers. -/
theorem qy_at {n : Nat} {cs : List Value} {x : Option (DataW H × List MemPlace)} (h : DataW.trod enc Tryz.prog w base spare held n 23 cs = x) (hx : ∃ y, x = some y) : ∃ q : Qy, cs = (qC' q).toList := by
  obtain ⟨y, rfl⟩ := hx
  obtain ⟨xs, n2, _, _, hl, hlen, hg⟩ := DataW.trod_struct Tryz.underlying23 h
  rw [cells_qy] at hl
  match cs, hl with
  | [c0, c1, c2, c3, c4, c5], _ =>
    obtain ⟨k0, e0⟩ := int_at (hg 0 _ rfl) (some_at hlen (by decide))
    obtain ⟨k1, e1⟩ := int_at (hg 1 _ rfl) (some_at hlen (by decide))
    obtain ⟨k2, e2⟩ := int_at (hg 2 _ rfl) (some_at hlen (by decide))
    obtain ⟨k3, e3⟩ := int_at (hg 3 _ rfl) (some_at hlen (by decide))
    obtain ⟨k4, e4⟩ := int_at (hg 4 _ rfl) (some_at hlen (by decide))
    obtain ⟨k5, e5⟩ := int_at (hg 5 _ rfl) (some_at hlen (by decide))
    simp [cells_int] at e0 e1 e2 e3 e4 e5
    exact ⟨⟨k0, k1, k2, k3, k4, k5⟩, by simp [e0, e1, e2, e3, e4, e5]⟩
theorem cells_case : Tryz.prog.cellsOf 30 = 15 := by kernel_rfl
theorem open_case {b0 : Nat} {v : Value} {d : DataW H} {p : List MemPlace} (hv : Value.okWide Tryz.prog w .any b0 30 v) (h : DataW.Trod enc Tryz.prog w base spare held 30 v d p) :
    ∃ (q : Qy) (c6 c7 c8 c9 c10 c11 : Value) (b n m : Int), v = .agg (caC q c6 c7 c8 c9 c10 c11 b n m) := by
  obtain ⟨cs, rfl, hsz⟩ := okWide_struct Tryz.underlying30 hv
  rw [cells_case] at hsz
  obtain ⟨l⟩ := cs
  match l, hsz with
  | [c0, c1, c2, c3, c4, c5, c6, c7, c8, c9, c10, c11, c12, c13, c14], _ =>
    obtain ⟨fuel, hf⟩ := h
    obtain ⟨xs, n1, _, _, _, hlen, hg⟩ := DataW.trod_struct Tryz.underlying30 hf
    obtain ⟨q, eq⟩ := qy_at (hg 0 _ rfl) (some_at hlen (by decide))
    obtain ⟨b, e2⟩ := int_at (hg 2 _ rfl) (some_at hlen (by decide))
    obtain ⟨n, e3⟩ := int_at (hg 3 _ rfl) (some_at hlen (by decide))
    obtain ⟨m, e4⟩ := int_at (hg 4 _ rfl) (some_at hlen (by decide))
    simp [Value.cells, cells_int, cells_qy] at eq e2 e3 e4
    obtain ⟨rfl, rfl, rfl, rfl, rfl, rfl⟩ := eq
    subst e2 e3 e4
    exact ⟨q, c6, c7, c8, c9, c10, c11, b, n, m, rfl⟩
end

theorem lintHolds_lifted (os : Os) (started : os.Started) (H : Type) (enc : TypeId × Value → H) :
    ReturnsInHanded {} Tryz.checked os 3 .any (Rows.lintHoldsSpec.pre6 enc Tryz.prog Tryz.f3 Rows.lintHoldsRow.domain false) (Rows.lintHoldsSpec.post enc Tryz.prog Tryz.f3 false true false false) := by
  refine returnsInHanded_of_change (C := Tryz.checked) own_knob started (by kernel_rfl) Tryz.func3
    (ChangeSpec.witness6 (enc := enc) (C := Tryz.checked) false ⟨#[], #[.agg #[.int .i64 0, .int .i64 0, .int .i64 0, .int .i64 0, .int .i64 0, .int .i64 0, .int .i64 0, .int .i64 0, .int .i64 0, .int .i64 0, .int .i64 0, .int .i64 0, .int .i64 0, .int .i64 0, .int .i64 0]], []⟩ 8 (by kernel_rfl) (by kernel_rfl) (by kernel_rfl) (by kernel_rfl)) ?_
  intro W base args ds gs before hval0 hW hcnd _
  have hval : ∀ (j : Nat) t v, Tryz.f3.params[j]? = some t → args[j]? = some v → Value.okWide Tryz.prog W .any base t v := hval0
  have hW' := hW
  obtain ⟨p, q, hA0, hV, rfl, hfz, hnd⟩ := hW
  have hA : DataW.TrodAll enc Tryz.prog W 0 (fun _ => true) true Tryz.f3.params.toList args.toList ds p := hA0
  rw [Tryz.params3] at hA hval
  obtain ⟨v0, vs0, d0, ds0, p0, q0, hargs, rfl, rfl, h0, r0⟩ := trodAll_cons hA
  obtain ⟨rfl, rfl, rfl⟩ := trodAll_nil r0
  obtain rfl : args = #[v0] := by cases args; simp_all
  obtain ⟨rfl, rfl⟩ := trodVars_none hV
  obtain ⟨qy, c6, c7, c8, c9, c10, c11, b, n, m, rfl⟩ := open_case (hval 0 30 v0 rfl rfl) h0
  have hlt : ∀ x ∈ p0, x.block < W.heap.size := fun x hx => hW'.lt x (by simp [hx])
  clear hA0 hval0
  simp only [List.append_nil] at hW'
  refine (law34_LintHolds qy c6 c7 c8 c9 c10 c11 b n m W).mono fun e W' ⟨he, hb⟩ => ?_
  subst he
  have hargs : ∀ sp : Nat → Bool, (∀ x ∈ p0, sp x.block = true) → DataW.TrodAll enc Tryz.prog W' 0 sp true Tryz.f3.params.toList [.agg (caC qy c6 c7 c8 c9 c10 c11 b n m)] [d0] p0 := fun sp hsp => by
    have h := trodAll_cons_mk (WideElems.Trod_stays laid_out (by kernel_rfl) (of_decide_eq_true (by kernel_rfl)) h0 (fun x hx => hb.same (hlt x hx)) hsp) (trodAll_mk0 (base := 0) (spare := sp) (held := true))
    rw [List.append_nil] at h
    exact h
  exact ⟨_, rfl, post_law (ps := p0) hW' hb (fun _ _ _ => trodAll_cons_mk (shut_bool Tryz.underlying4 _) trodAll_mk0) (fun sp hsp => hargs sp hsp) (fun _ => rfl) (ok_one (by kernel_rfl) rfl (okWide_bool_mk Tryz.underlying4 _))⟩

theorem lintHolds_over : Rows.lintHoldsRow.holds Tryz.pinned (OpenSpec.ofChange Rows.lintHoldsSpec) :=
  OpenClaim.holds_of_wide 3 Tryz.f3 rfl rfl rfl rfl rfl rfl rfl ⟨rfl, rfl, rfl, rfl, rfl⟩ rfl rfl rfl rfl rfl (by kernel_rfl) Tryz.func3 (by kernel_rfl)
    (of_decide_eq_true (by kernel_rfl)) (by unfold Func.isWrapper; first | (rw [if_pos (by decide +kernel)]; kernel_rfl) | (rw [if_neg (by decide +kernel)]; exact ⟨rfl, rfl⟩))
    (fun os started H enc _ => lintHolds_lifted os started H enc)

theorem lintHolds_holds : Rows.LintHoldsSaid := lintHolds_over
#print axioms lintHolds_holds
end Go.Proofs.YtkndkeeleaoooaaGreat
