/- The sum's mixing: 64 rounds over eight words. -/
import Derived.Test.YtkndkeeleaoooaaGreatMix
import Derived.Deep.CutRange
namespace Go.Proofs.YtkndkeeleaoooaaGreat
open Go.RowKit
set_option linter.unusedVariables false
set_option linter.unusedSimpArgs false
set_option maxRecDepth 100000
set_option maxHeartbeats 1000000


theorem wpOp_in {P : Program} {ops : Array Oper} {Q : Exit → Act → World → Prop} {i : Nat} {o : Oper} {K : Act → World → Prop} {a : Act} {w : World} (hi : ops[i]? = some o) (hg : o.guard = none) (h : o.wp P a w K Q) : wpOp P ops Q i K a w := by
  unfold wpOp
  simp only [hi, Region.wanted, hg, if_true]
  exact .inl h
def left (n : Nat) (L : Array Bool) : Nat := ((List.range n).filter fun i => !L.getD i true).length
theorem ready_lt {md : Region.Mode} {ops : Array Oper} {L : Array Bool} {i : Nat} (h : i ∈ Region.ready md ops L) : i ∈ (List.range ops.size).filter fun i => !L.getD i true := by
  obtain ⟨h0, o, ho, _⟩ := mem_ready.1 h
  rw [List.mem_filter]
  exact ⟨List.mem_range.2 (Array.getElem?_eq_some_iff.1 ho).1, by rw [h0]; rfl⟩
theorem left_set {md : Region.Mode} {ops : Array Oper} {L : Array Bool} {i : Nat} (h : i ∈ Region.ready md ops L) : left ops.size (L.setIfInBounds i true) < left ops.size L := by
  unfold left
  have hi := ready_lt h
  have h0 := (List.mem_filter.1 hi).2
  have hsub : ((List.range ops.size).filter fun j => !(L.setIfInBounds i true).getD j true) = (((List.range ops.size).filter fun j => !L.getD j true).filter fun j => j != i) := by
    rw [List.filter_filter]
    refine List.filter_congr fun j _ => ?_
    by_cases e : i = j
    · subst e
      have : (L.setIfInBounds i true).getD i true = true := by
        rcases Nat.lt_or_ge i L.size with hl | hl
        · simp [hl]
        · simp [Array.getElem?_eq_none hl]
      rw [this]; simp
    · rw [getD_set_ne true e]
      simp [Ne.symm e]
  rw [hsub]
  have := List.length_filter_lt_length_iff_exists (p := fun j => j != i) (l := (List.range ops.size).filter fun j => !L.getD j true)
  exact this.2 ⟨i, hi, by simp⟩
/-- Any order, by what holds of each set of those that came up. -/
theorem wpAny_inv {P : Program} {ops : Array Oper} {Q : Exit → Act → World → Prop} {md : Region.Mode} (I : Array Bool → Act → World → Prop)
    (hstep : ∀ L a w, L.size = ops.size → I L a w → ∀ i ∈ Region.ready md ops L, wpOp P ops Q i (I (L.setIfInBounds i true)) a w)
    (hdone : ∀ L a w, L.size = ops.size → I L a w → Region.ready md ops L = [] → Q .normal a w) :
    ∀ fuel L a w, L.size = ops.size → left ops.size L ≤ fuel → I L a w → wpAny P md ops Q fuel L a w
  | 0, L, a, w, hs, hl, h => by
    have hr : Region.ready md ops L = [] := List.eq_nil_iff_forall_not_mem.2 fun i hi => by
      have := ready_lt hi
      have : 0 < left ops.size L := List.length_pos_of_mem this
      omega
    exact ⟨hr, hdone L a w hs h hr⟩
  | fuel + 1, L, a, w, hs, hl, h => ⟨fun hr => hdone L a w hs h hr, fun i hi => wpOp_mono (fun a' w' h' => wpAny_inv I hstep hdone fuel _ a' w' (by simpa using hs) (by have := left_set hi; omega) h') (hstep L a w hs h i hi)⟩
/-- 'It came up.' -/
abbrev Dn (L : Array Bool) (i : Nat) : Prop := L.getD i false = true
theorem Dn.set {L : Array Bool} {i j : Nat} (h : Dn (L.setIfInBounds i true) j) : i = j ∨ Dn L j := by
  by_cases e : i = j
  · exact .inl e
  · exact .inr (by unfold Dn at *; rwa [getD_set_ne false e] at h)

theorem Dn.ne {L : Array Bool} {i j : Nat} (h : Dn (L.setIfInBounds i true) j) (e : i ≠ j) : Dn L j := h.set.resolve_left e
theorem after_of {md : Region.Mode} {ops : Array Oper} {L : Array Bool} {i j : Nat} {o : Oper} {e : Edge} (hi : i ∈ Region.ready md ops L) (ho : ops[i]? = some o) (he : o.after[j]? = some e) (hb : Region.binds md e = true) : Dn L e.on := by
  obtain ⟨_, o', ho', hall⟩ := mem_ready.1 hi
  obtain rfl : o = o' := Option.some.inj (ho.symm.trans ho')
  exact hall e (Array.mem_of_getElem? he) hb
theorem Dn.more {L : Array Bool} {j : Nat} (h : Dn L j) (i : Nat) : Dn (L.setIfInBounds i true) j := by
  by_cases e : i = j
  · subst e
    unfold Dn at *
    rcases Nat.lt_or_ge i L.size with hl | hl
    · simp [hl]
    · simp [Array.getElem?_eq_none hl] at h
  · unfold Dn at *; rwa [getD_set_ne false e]
theorem not_dn {md : Region.Mode} {ops : Array Oper} {L : Array Bool} {i : Nat} (hi : i ∈ Region.ready md ops L) (h : Dn L i) : False := by
  obtain ⟨h0, _⟩ := mem_ready.1 hi
  unfold Dn at h
  rcases Nat.lt_or_ge i L.size with hl | hl
  · simp [hl] at h0 h; rw [h] at h0; cases h0
  · simp [Array.getElem?_eq_none hl] at h
theorem dn_of {md : Region.Mode} {ops : Array Oper} {L : Array Bool} {i : Nat} {o : Oper} (hr : Region.ready md ops L = []) (hs : L.size = ops.size) (ho : ops[i]? = some o) (hall : ∀ e ∈ o.after, Region.binds md e = true → Dn L e.on) : Dn L i := by
  cases hn : L.getD i true
  · have : i ∈ Region.ready md ops L := mem_ready.2 ⟨hn, o, ho, hall⟩
    rw [hr] at this
    cases this
  · have hl : i < L.size := hs ▸ (Array.getElem?_eq_some_iff.1 ho).1
    unfold Dn
    simp [hl] at hn ⊢
    exact hn
/-- Every operation came up, if none may. Each edge goes to an earlier one, but those that bind nothing. -/
def downward (md : Region.Mode) (ops : Array Oper) : Bool := (List.range ops.size).all fun i => ((ops[i]?).map fun o => o.after.all fun e => !Region.binds md e || decide (e.on < i)).getD true
theorem all_dn {md : Region.Mode} {ops : Array Oper} {L : Array Bool} (hr : Region.ready md ops L = []) (hs : L.size = ops.size) (hb : downward md ops = true) : ∀ n, ∀ i < n, i < ops.size → Dn L i
  | 0, i, h, _ => by omega
  | n + 1, i, h, hi => by
    refine dn_of hr hs (Array.getElem?_eq_getElem hi) (fun e he hbi => ?_)
    have h1 := List.all_eq_true.1 hb i (List.mem_range.2 hi)
    rw [Array.getElem?_eq_getElem hi] at h1
    have := Array.all_eq_true_iff_forall_mem.1 h1 e he
    rw [hbi] at this
    have hlt : e.on < i := by simpa using this
    exact all_dn hr hs hb n e.on (by omega) (by omega)
theorem wp_move {P : Program} {o : Oper} {a : Act} {w : World} {K : Act → World → Prop} {Q : Exit → Act → World → Prop} (x : Operand) (ho : o.op = .move x) (h : K (a.put o.dst (a.eval x)) w) : o.wp P a w K Q := by
  unfold Oper.wp execOp
  simp only [ho, Sem.run_pure]
  exact h
theorem wp_enter {P : Program} {o : Oper} {a : Act} {w : World} {K : Act → World → Prop} {Q : Exit → Act → World → Prop} {f : FuncId} {args : Array Value} (he : (execOp a.eval o).run P w = .ok (.enter f args) w)
    (h : Calls P f args w fun e w' => ∃ v, e = .returned v ∧ K (a.put o.dst v) w') : o.wp P a w K Q := by
  unfold Oper.wp
  rw [he, Oper.upon_enter]
  exact Calls.mono h fun e w' ⟨v, hv, hk⟩ => by subst hv; exact hk
theorem wp_made {P : Program} {o : Oper} {a : Act} {w : World} {K : Act → World → Prop} {Q : Exit → Act → World → Prop} (cs : Array Value) (t : TypeId) (he : (execOp a.eval o).run P w = .ok (.value (.pointer (some ⟨w.heap.size, 0, none⟩))) (w.alloc (.cells cs t)))
    (h : K (a.put o.dst (.pointer (some ⟨w.heap.size, 0, none⟩))) (w.alloc (.cells cs t))) : o.wp P a w K Q := by
  unfold Oper.wp
  rw [he]
  exact h
/-- A pointer to a whole block above 'lo', of type t, of n cells, of which R holds. -/
def At (lo : Nat) (w : World) (v : Value) (t n : Nat) (R : Array Value → Prop) : Prop := ∃ g, v = .pointer (some ⟨g, 0, none⟩) ∧ lo ≤ g ∧ ∃ cs, cs.size = n ∧ Blk w g t cs ∧ R cs
theorem At.move {lo t n : Nat} {w w' : World} {v : Value} {R R' : Array Value → Prop} (h : At lo w v t n R) (hm : ∀ g cs, v = .pointer (some ⟨g, 0, none⟩) → Blk w g t cs → Blk w' g t cs) (hR : ∀ cs, R cs → R' cs) : At lo w' v t n R' := by
  obtain ⟨g, hv, hl, cs, hn, hb, hr⟩ := h
  exact ⟨g, hv, hl, cs, hn, hm g cs hv hb, hR cs hr⟩
theorem At.new {lo t n : Nat} {w : World} {R : Array Value → Prop} (cs : Array Value) (hl : lo ≤ w.heap.size) (hn : cs.size = n) (hR : R cs) : At lo (w.alloc (.cells cs t)) (.pointer (some ⟨w.heap.size, 0, none⟩)) t n R := ⟨_, rfl, hl, cs, hn, Blk.new w t cs, hR⟩
theorem At.lt {lo t n : Nat} {w : World} {v : Value} {R : Array Value → Prop} (h : At lo w v t n R) : v ≠ .pointer (some ⟨w.heap.size, 0, none⟩) := by
  obtain ⟨g, hv, hl, cs, hn, hb, hr⟩ := h
  have := hb.lt
  rintro rfl
  cases hv
  omega
/-- A store of a whole value into such a block. -/
theorem wp_fill {P : Program} {o : Oper} {a : Act} {w : World} {K : Act → World → Prop} {Q : Exit → Act → World → Prop} (ty : TypeId) (x y : Operand) (ho : o.op = .store ty x y) (g t : Nat) (cs cells : Array Value)
    (hx : a.eval x = .pointer (some ⟨g, 0, none⟩)) (hy : a.eval y = .agg cells) (hb : Blk w g t cs) (hn : cs.size = cells.size) (hi : (P.info? ty).map (·.size) = some cells.size) (h1 : cells.all (·.oneCell') = true)
    (h : ∀ w', Blk w' g t cells → w.grownBy w' (some g) → K (a.put o.dst undef) w') : o.wp P a w K Q := by
  refine wp_store_mid ty x y ho g 0 cells hx hy (fun i hi' => ⟨?_, hb.free _⟩) hi h1 (h _ ?_ (grown_setCells _ _ _ _))
  · rw [hb.cell, Array.getElem?_eq_getElem (by omega)]; rfl
  · have := Blk.setCells cells.toList 0 w cs hb (by simp; omega)
    rwa [splice_all _ _ (by simpa using hn)] at this
theorem quiet_same {P : Program} {f : FuncId} {args : Array Value} {w : World} {n : Nat} {v : Value} (h : Calls P f args (w.drewN n) fun e w' => e = .returned v ∧ w.drewN n = w') : Calls P f args (w.drewN n) fun e w'' => e = .returned v ∧ ∃ m, w'' = w.drewN m := Calls.quiet_of_same (h.mono fun _ _ ⟨a, b⟩ => ⟨a, b.symm⟩)
theorem and_neg (n : Int) (h1 : 1 ≤ n) (h2 : n ≤ 31) : bits BinOp.and IntKind.u64 (IntKind.u64.wrap (-n)) 31 = (((32 - n).toNat : Nat) : Int) := by
  have key : ∀ k : Fin 31, bits BinOp.and IntKind.u64 (IntKind.u64.wrap (-((k.val : Int) + 1))) 31 = (((32 - ((k.val : Int) + 1)).toNat : Nat) : Int) := by decide +kernel
  have := key ⟨n.toNat - 1, by omega⟩
  have e : (((n.toNat - 1 : Nat) : Int) + 1) = n := by omega
  simp only at this
  rwa [e] at this
theorem down_gen (x n : Int) (w : World) (h1 : 1 ≤ n) (h2 : n ≤ 31) : Calls Tryz.prog 100 #[.int .u32 x, .int .i64 n] w fun e w' => e = .returned (.int .u32 (rot (32 - n).toNat x)) ∧ w = w' :=
  down_any x n _ w (by omega) h2 (by omega) (by omega) (and_neg n h1 h2)
structure V8 where
  a : Int
  b : Int
  c : Int
  d : Int
  e : Int
  f : Int
  g : Int
  h : Int
abbrev V8.v (s : V8) : Array Value := #[.int .u32 s.a, .int .u32 s.b, .int .u32 s.c, .int .u32 s.d, .int .u32 s.e, .int .u32 s.f, .int .u32 s.g, .int .u32 s.h]
theorem V8.one (s : V8) : s.v.all (·.oneCell') = true := by simp [V8.v, Value.oneCell']
def zero8 : V8 := ⟨0, 0, 0, 0, 0, 0, 0, 0⟩

/-- The two new words' rows and the eight's: made, and then written, in whatever order. -/
structure MixI (s : V8) (V C : Array Value) (x : Value) (w0 : World) (L : Array Bool) (v5 v6 v7 v14 v15 v16 v17 : Value) (w : World) : Prop where
  b : Below w0.heap.size w0 w
  d0 : Dn L 0 → v14 = x
  d1 : Dn L 1 → v15 = .agg V
  d2 : Dn L 2 → v16 = .agg C
  d3 : Dn L 3 → v17 = .agg s.v
  d4 : Dn L 4 → At w0.heap.size w v5 150 64 fun cs => Dn L 7 → cs = V
  d5 : Dn L 5 → At w0.heap.size w v6 150 64 fun cs => Dn L 8 → cs = C
  d6 : Dn L 6 → At w0.heap.size w v7 142 8 fun cs => Dn L 9 → cs = s.v
  d45 : Dn L 4 → Dn L 5 → v5 ≠ v6
  o7 : Dn L 7 → Dn L 4
  o8 : Dn L 8 → Dn L 5
  o9 : Dn L 9 → Dn L 6
/-- A step that leaves what was made. -/
theorem MixI.step {s : V8} {V C : Array Value} {x : Value} {w0 w w' : World} {L : Array Bool} {v5 v6 v7 v14 v15 v16 v17 : Value} (h : MixI s V C x w0 L v5 v6 v7 v14 v15 v16 v17 w) (i : Nat) (hb : Below w0.heap.size w0 w') (h4 : i ≠ 4) (h5 : i ≠ 5) (h6 : i ≠ 6) (h7 : i ≠ 7) (h8 : i ≠ 8) (h9 : i ≠ 9)
    (hm : ∀ g t cs, Blk w g t cs → Blk w' g t cs) (u14 u15 u16 u17 : Value) (e0 : i = 0 ∧ u14 = x ∨ i ≠ 0 ∧ u14 = v14) (e1 : i = 1 ∧ u15 = .agg V ∨ i ≠ 1 ∧ u15 = v15) (e2 : i = 2 ∧ u16 = .agg C ∨ i ≠ 2 ∧ u16 = v16) (e3 : i = 3 ∧ u17 = .agg s.v ∨ i ≠ 3 ∧ u17 = v17) :
    MixI s V C x w0 (L.setIfInBounds i true) v5 v6 v7 u14 u15 u16 u17 w' where
  b := hb
  d0 := fun hd => e0.elim (fun e => e.2) (fun e => e.2.trans (h.d0 (hd.ne e.1)))
  d1 := fun hd => e1.elim (fun e => e.2) (fun e => e.2.trans (h.d1 (hd.ne e.1)))
  d2 := fun hd => e2.elim (fun e => e.2) (fun e => e.2.trans (h.d2 (hd.ne e.1)))
  d3 := fun hd => e3.elim (fun e => e.2) (fun e => e.2.trans (h.d3 (hd.ne e.1)))
  d4 := fun hd => (h.d4 (hd.ne h4)).move (fun g cs _ => hm g _ cs) (fun cs hr hd => hr (hd.ne h7))
  d5 := fun hd => (h.d5 (hd.ne h5)).move (fun g cs _ => hm g _ cs) (fun cs hr hd => hr (hd.ne h8))
  d6 := fun hd => (h.d6 (hd.ne h6)).move (fun g cs _ => hm g _ cs) (fun cs hr hd => hr (hd.ne h9))
  d45 := fun ha hb => h.d45 (ha.ne h4) (hb.ne h5)
  o7 := fun hd => (h.o7 (hd.ne h7)).more i
  o8 := fun hd => (h.o8 (hd.ne h8)).more i
  o9 := fun hd => (h.o9 (hd.ne h9)).more i
def t1of (X : V8) (k w : Int) : Int :=
  (((X.h + bits BinOp.xor IntKind.u32 (bits BinOp.xor IntKind.u32 (rot 26 X.e) (rot 21 X.e)) (rot 7 X.e) + bits BinOp.xor IntKind.u32 (bits BinOp.and IntKind.u32 X.e X.f) (bits BinOp.and IntKind.u32 (bits BinOp.xor IntKind.u32 (if IntKind.u32.signed = true then -1 else IntKind.u32.max) X.e) X.g) + k) % 4294967296 + w) % 4294967296)
def t2of (X : V8) : Int :=
  ((bits BinOp.xor IntKind.u32 (bits BinOp.xor IntKind.u32 (rot 30 X.a) (rot 19 X.a)) (rot 10 X.a) + bits BinOp.xor IntKind.u32 (bits BinOp.xor IntKind.u32 (bits BinOp.and IntKind.u32 X.a X.b) (bits BinOp.and IntKind.u32 X.a X.c)) (bits BinOp.and IntKind.u32 X.b X.c)) % 4294967296)
def rnd (v : V8) (k w : Int) : V8 := ⟨(t1of v k w + t2of v) % 4294967296, v.a, v.b, v.c, (v.d + t1of v k w) % 4294967296, v.e, v.f, v.g⟩
def V8.l (s : V8) : List Int := [s.a, s.b, s.c, s.d, s.e, s.f, s.g, s.h]
def V8.of (l : List Int) : V8 := ⟨l.getD 0 0, l.getD 1 0, l.getD 2 0, l.getD 3 0, l.getD 4 0, l.getD 5 0, l.getD 6 0, l.getD 7 0⟩
theorem V8.us_l (s : V8) : s.v = us s.l := rfl
theorem V8.us_of (l : List Int) (h : l.length = 8) : us l = (V8.of l).v := by
  match l, h with
  | [a, b, c, d, e, f, g, h], _ => rfl
def addUp (ys ss : List Int) : Nat → List Int
  | 0 => ys
  | i + 1 => (addUp ys ss i).set i (((addUp ys ss i).getD i 0 + ss.getD i 0) % 4294967296)
theorem addUp_len (ys ss : List Int) : ∀ i, (addUp ys ss i).length = ys.length
  | 0 => rfl
  | i + 1 => by rw [addUp, List.length_set, addUp_len]
def rounds (ds : List Int) (s : V8) : Nat → V8
  | 0 => s
  | t + 1 => rnd (rounds ds s t) (constL.getD t 0) ((sch ds 64).getD t 0)
def mixed (ds : List Int) (s : V8) : V8 := V8.of (addUp (rounds ds s 64).l s.l 8)
theorem sha_mix (s : V8) (ds : List Int) (A : Option Addr) (c B : Nat) (w : World) (hr : Rds w B 1 A 64 c (nums8 ds)) (hB : B ≤ w.heap.size) (hl : ds.length = 64) :
    Calls Tryz.prog 90 #[.agg s.v, .slice A 64 c] w fun e w' => e = .returned (.agg (mixed ds s).v) ∧ Below w.heap.size w w' := by
  have HR := hid hr
  have HL := hid hl
  clear hr hl
  have hszV : (us (sch ds 64)).size = 64 := by simp [us, sch_len]
  have HSV := hid hszV
  clear hszV
  go_enter Tryz.func90, Tryz.ntmps90
  go_wp2
  have hk0 := (Blk.new w 142 s.v).alloc (.cells #[.int .u32 0, .int .u32 0, .int .u32 0, .int .u32 0, .int .u32 0, .int .u32 0, .int .u32 0, .int .u32 0] 142)
  have hk1 := Blk.new (w.alloc (.cells s.v 142)) 142 #[.int .u32 0, .int .u32 0, .int .u32 0, .int .u32 0, .int .u32 0, .int .u32 0, .int .u32 0, .int .u32 0]
  have hbl : Below w.heap.size w ((w.alloc (.cells s.v 142)).alloc (.cells #[.int .u32 0, .int .u32 0, .int .u32 0, .int .u32 0, .int .u32 0, .int .u32 0, .int .u32 0, .int .u32 0] 142)) := ((Below.refl _ w).alloc (Nat.le_refl _) _).alloc (by simp) _
  have hz0 : ((w.alloc (.cells s.v 142)).alloc (.cells #[.int .u32 0, .int .u32 0, .int .u32 0, .int .u32 0, .int .u32 0, .int .u32 0, .int .u32 0, .int .u32 0] 142)).heap.size = w.heap.size + 2 := by simp
  have hz1 : (w.alloc (.cells s.v 142)).heap.size = w.heap.size + 1 := by simp
  rw [hz1] at hk1
  generalize (w.alloc (.cells s.v 142)).alloc (.cells #[.int .u32 0, .int .u32 0, .int .u32 0, .int .u32 0, .int .u32 0, .int .u32 0, .int .u32 0, .int .u32 0] 142) = W0 at *
  clear hz1
  have HK0 := hid hk0
  have HK1 := hid hk1
  have HB := hid hbl
  have hlt : w.heap.size < W0.heap.size := by omega
  have HZ0 := hid hz0
  clear hk0 hk1 hbl hz0
  have hlt0 := hid hlt
  clear hlt
  refine wp_region_any (by kernel_rfl) ?_
  refine wpAny_inv (fun L a' w' => ∃ v5 v6 v7 v14 v15 v16 v17 : Value, a' = ⟨#[.agg s.v, .slice A 64 c, .pointer (some ⟨w.heap.size, 0, none⟩), undef, .pointer (some ⟨w.heap.size + 1, 0, none⟩), v5, v6, v7, undef, undef, undef, undef, undef, undef, v14, v15, v16, v17, undef, undef, undef, undef, undef, undef, undef, undef, undef, undef, undef, undef, undef, undef, undef, undef, undef, undef, undef, undef, undef, undef, undef, undef, undef, undef, undef, undef, undef, undef, undef, undef, undef, undef, undef, undef, undef, undef, undef, undef, undef, undef, undef, undef, undef, undef, undef, undef, undef, undef, undef, undef, undef, undef, undef, undef, undef, undef, undef, undef, undef, undef, undef, undef, undef, undef, undef, undef, undef, undef, undef, undef, undef, undef, undef, undef, undef, undef, undef, undef, undef, undef, undef, undef, undef, undef, undef, undef, undef, undef, undef, undef, undef], []⟩ ∧ MixI s (us (sch ds 64)) (us constL) (.slice A 64 c) W0 L v5 v6 v7 v14 v15 v16 v17 w') ?step ?done _ _ _ _ (by rfl) (by decide) ?start
  case start => exact ⟨_, _, _, _, _, _, _, rfl, (Below.refl _ W0).drew, nofun, nofun, nofun, nofun, nofun, nofun, nofun, nofun, nofun, nofun, nofun⟩
  case done =>
    rintro L a' w' hs ⟨v5, v6, v7, v14, v15, v16, v17, rfl, h⟩ hr
    have al := all_dn hr hs (by kernel_rfl) 10
    have e4 : Dn L 4 := al 4 (by omega) (by decide)
    have e5 : Dn L 5 := al 5 (by omega) (by decide)
    have e6 : Dn L 6 := al 6 (by omega) (by decide)
    have e7 : Dn L 7 := al 7 (by omega) (by decide)
    have e8 : Dn L 8 := al 8 (by omega) (by decide)
    have e9 : Dn L 9 := al 9 (by omega) (by decide)
    obtain ⟨p, rfl, hp, cs, hpn, hpb, hpv⟩ := h.d4 e4
    obtain rfl := hpv e7
    obtain ⟨q, rfl, hq, cs, hqn, hqb, hqv⟩ := h.d5 e5
    obtain rfl := hqv e8
    obtain ⟨r, rfl, hr', cs, hrn, hrb, hrv⟩ := h.d6 e6
    obtain rfl := hrv e9
    have hpq : p ≠ q := fun e => h.d45 e4 e5 (by rw [e])
    have hb := h.b
    clear h hr e4 e5 e6 e7 e8 e9 al hpn hqn hrn hs hpv hqv hrv L
    have hbl := HB.out.trans (hb.mono (Nat.le_of_lt hlt0.out))
    have hs0 := HK0.out.below hb hlt0.out
    have hs1 := HK1.out.below hb (by have := HZ0.out; omega)
    have HP := hid hpb
    have HQ := hid hqb
    have HS0 := hid hs0
    have HS1 := hid hs1
    have HP1 := hid hp
    have HQ1 := hid hq
    have HR1 := hid hr'
    have HPQ := hid hpq
    have HBL := hid hbl
    clear hpb hqb hs0 hs1 hp hq hr' hpq hbl HK0 HK1
    go_wp2
    go_loopw [18] (fun n wr => ∃ (t : Nat) (X : V8), t ≤ 64 ∧ n = .int .i64 t ∧ X = rounds ds s t ∧ Blk wr p 150 (us (sch ds 64)) ∧ Blk wr q 150 (us constL) ∧ Blk wr r 142 X.v ∧ Blk wr w.heap.size 142 s.v ∧ Blk wr (w.heap.size + 1) 142 zero8.v ∧ Below w.heap.size w wr) (fun n _ => 64 - (intOf n).toNat)
    case atStart => exact ⟨0, s, by omega, rfl, rfl, HP.out, HQ.out, hrb, HS0.out, HS1.out, HBL.out⟩
    case round =>
      clear hrb HP HQ HS0 HS1 HBL
      obtain ⟨t, X, ht, rfl, hX, hp, hq, hr, hs0, hs1, hbl⟩ := hrel
      by_cases hlt : t < 64
      · obtain ⟨wt, hwt⟩ : ∃ wt : Int, wt = (sch ds 64).getD t 0 := ⟨_, rfl⟩
        obtain ⟨kt, hkt⟩ : ∃ kt : Int, kt = constL.getD t 0 := ⟨_, rfl⟩
        have HW := hid hwt
        have HKT := hid hkt
        clear hwt hkt
        have xw : wr.cell? ⟨p, t, none⟩ = some (.int .u32 wt) := by rw [HW.out]; exact us_at hp (j := t) (by rw [sch_len]; omega)
        have xk : wr.cell? ⟨q, t, none⟩ = some (.int .u32 kt) := by rw [HKT.out]; exact us_at hq (j := t) (by rw [constL_len]; omega)
        have x0 : wr.cell? ⟨r, 0, none⟩ = some (.int .u32 X.a) := hr.cell 0
        have x1 : wr.cell? ⟨r, 1, none⟩ = some (.int .u32 X.b) := hr.cell 1
        have x2 : wr.cell? ⟨r, 2, none⟩ = some (.int .u32 X.c) := hr.cell 2
        have x3 : wr.cell? ⟨r, 3, none⟩ = some (.int .u32 X.d) := hr.cell 3
        have x4 : wr.cell? ⟨r, 4, none⟩ = some (.int .u32 X.e) := hr.cell 4
        have x5 : wr.cell? ⟨r, 5, none⟩ = some (.int .u32 X.f) := hr.cell 5
        have x6 : wr.cell? ⟨r, 6, none⟩ = some (.int .u32 X.g) := hr.cell 6
        have x7 : wr.cell? ⟨r, 7, none⟩ = some (.int .u32 X.h) := hr.cell 7
        have G1 := hid hp
        have G2 := hid hq
        have G3 := hid hr
        have G4 := hid hs0
        have G5 := hid hs1
        have G6 := hid hbl
        have GX := hid hX
        clear hp hq hr hs0 hs1 hbl hX
        have p0 : (0 : Int) ≤ (t : Int) := by omega
        have p1 : (t : Int) < 64 := by omega
        have p3 : ((t : Int)).toNat = t := by omega
        go_wp2
        go_quiet (fail)
        have N1 := hid (show Blk (wr.drewN nq) p 150 (us (sch ds 64)) from G1.out)
        have N2 := hid (show Blk (wr.drewN nq) q 150 (us constL) from G2.out)
        have N3 := hid (show Blk (wr.drewN nq) r 142 X.v from G3.out)
        have N4 := hid (show Blk (wr.drewN nq) w.heap.size 142 s.v from G4.out)
        have N5 := hid (show Blk (wr.drewN nq) (w.heap.size + 1) 142 zero8.v from G5.out)
        have N6 := hid (below_drewN' G6.out nq)
        clear G1 G2 G3 G4 G5 G6 xw xk x0 x1 x2 x3 x4 x5 x6 x7
        generalize wr.drewN nq = w5 at *
        clear nq
        have G1 := N1
        have G2 := N2
        have G3 := N3
        have G4 := N4
        have G5 := N5
        have G6 := N6
        clear N1 N2 N3 N4 N5 N6
        have xw : w5.cell? ⟨p, t, none⟩ = some (.int .u32 wt) := by rw [HW.out]; exact us_at G1.out (j := t) (by rw [sch_len]; omega)
        have xk : w5.cell? ⟨q, t, none⟩ = some (.int .u32 kt) := by rw [HKT.out]; exact us_at G2.out (j := t) (by rw [constL_len]; omega)
        have x0 : w5.cell? ⟨r, 0, none⟩ = some (.int .u32 X.a) := G3.out.cell 0
        have x1 : w5.cell? ⟨r, 1, none⟩ = some (.int .u32 X.b) := G3.out.cell 1
        have x2 : w5.cell? ⟨r, 2, none⟩ = some (.int .u32 X.c) := G3.out.cell 2
        have x3 : w5.cell? ⟨r, 3, none⟩ = some (.int .u32 X.d) := G3.out.cell 3
        have x4 : w5.cell? ⟨r, 4, none⟩ = some (.int .u32 X.e) := G3.out.cell 4
        have x5 : w5.cell? ⟨r, 5, none⟩ = some (.int .u32 X.f) := G3.out.cell 5
        have x6 : w5.cell? ⟨r, 6, none⟩ = some (.int .u32 X.g) := G3.out.cell 6
        have x7 : w5.cell? ⟨r, 7, none⟩ = some (.int .u32 X.h) := G3.out.cell 7
        go_upto_region 6 with fail
        go_cut [11] from 25 to 54 (fun v wx => v = .int .u32 (t1of X kt wt) ∧ Blk wx p 150 (us (sch ds 64)) ∧ Blk wx q 150 (us constL) ∧ Blk wx r 142 X.v ∧ Blk wx w.heap.size 142 s.v ∧ Blk wx (w.heap.size + 1) 142 zero8.v ∧ Below w.heap.size w wx)
        case first =>
          go_quiet (first | (go_at_call 100; exact quiet_same (down_gen _ _ _ (by omega) (by omega))))
          have N1 : Blk (w5.drewN nq) p 150 (us (sch ds 64)) := G1.out
          have N2 : Blk (w5.drewN nq) q 150 (us constL) := G2.out
          have N3 : Blk (w5.drewN nq) r 142 X.v := G3.out
          have N4 : Blk (w5.drewN nq) w.heap.size 142 s.v := G4.out
          have N5 : Blk (w5.drewN nq) (w.heap.size + 1) 142 zero8.v := G5.out
          have N6 := below_drewN' G6.out nq
          go_step
          go_step
          go_meet
          exact ⟨rfl, N1, N2, N3, N4, N5, N6⟩
        case rest =>
        clear G1 G2 G3 G4 G5 G6 xw xk x0 x1 x2 x3 x4 x5 x6 x7
        obtain ⟨rfl, g1, g2, g3, g4, g5, g6⟩ := hcut
        obtain ⟨w6, rfl⟩ : ∃ wy : World, wy = wc := ⟨_, rfl⟩
        have G1 := hid g1
        have G2 := hid g2
        have G3 := hid g3
        have G4 := hid g4
        have G5 := hid g5
        have G6 := hid g6
        clear g1 g2 g3 g4 g5 g6
        have xw : w6.cell? ⟨p, t, none⟩ = some (.int .u32 wt) := by rw [HW.out]; exact us_at G1.out (j := t) (by rw [sch_len]; omega)
        have xk : w6.cell? ⟨q, t, none⟩ = some (.int .u32 kt) := by rw [HKT.out]; exact us_at G2.out (j := t) (by rw [constL_len]; omega)
        have x0 : w6.cell? ⟨r, 0, none⟩ = some (.int .u32 X.a) := G3.out.cell 0
        have x1 : w6.cell? ⟨r, 1, none⟩ = some (.int .u32 X.b) := G3.out.cell 1
        have x2 : w6.cell? ⟨r, 2, none⟩ = some (.int .u32 X.c) := G3.out.cell 2
        have x3 : w6.cell? ⟨r, 3, none⟩ = some (.int .u32 X.d) := G3.out.cell 3
        have x4 : w6.cell? ⟨r, 4, none⟩ = some (.int .u32 X.e) := G3.out.cell 4
        have x5 : w6.cell? ⟨r, 5, none⟩ = some (.int .u32 X.f) := G3.out.cell 5
        have x6 : w6.cell? ⟨r, 6, none⟩ = some (.int .u32 X.g) := G3.out.cell 6
        have x7 : w6.cell? ⟨r, 7, none⟩ = some (.int .u32 X.h) := G3.out.cell 7
        obtain ⟨T1, hT1⟩ : ∃ T1 : Int, T1 = t1of X kt wt := ⟨_, rfl⟩
        rw [← hT1]
        have HT1 := hid hT1
        clear hT1
        go_upto_region 7 with fail
        go_cut [12] from 55 to 78 (fun v wx => v = .int .u32 (t2of X) ∧ Blk wx p 150 (us (sch ds 64)) ∧ Blk wx q 150 (us constL) ∧ Blk wx r 142 X.v ∧ Blk wx w.heap.size 142 s.v ∧ Blk wx (w.heap.size + 1) 142 zero8.v ∧ Below w.heap.size w wx)
        case first =>
          go_quiet (first | (go_at_call 100; exact quiet_same (down_gen _ _ _ (by omega) (by omega))))
          have N1 : Blk (w6.drewN nq) p 150 (us (sch ds 64)) := G1.out
          have N2 : Blk (w6.drewN nq) q 150 (us constL) := G2.out
          have N3 : Blk (w6.drewN nq) r 142 X.v := G3.out
          have N4 : Blk (w6.drewN nq) w.heap.size 142 s.v := G4.out
          have N5 : Blk (w6.drewN nq) (w.heap.size + 1) 142 zero8.v := G5.out
          have N6 := below_drewN' G6.out nq
          go_step
          go_step
          go_meet
          exact ⟨rfl, N1, N2, N3, N4, N5, N6⟩
        case rest =>
        clear G1 G2 G3 G4 G5 G6 xw xk x0 x1 x2 x3 x4 x5 x6 x7
        obtain ⟨rfl, g1, g2, g3, g4, g5, g6⟩ := hcut
        obtain ⟨w7, rfl⟩ : ∃ wy : World, wy = wc := ⟨_, rfl⟩
        have G1 := hid g1
        have G2 := hid g2
        have G3 := hid g3
        have G4 := hid g4
        have G5 := hid g5
        have G6 := hid g6
        clear g1 g2 g3 g4 g5 g6
        have xw : w7.cell? ⟨p, t, none⟩ = some (.int .u32 wt) := by rw [HW.out]; exact us_at G1.out (j := t) (by rw [sch_len]; omega)
        have xk : w7.cell? ⟨q, t, none⟩ = some (.int .u32 kt) := by rw [HKT.out]; exact us_at G2.out (j := t) (by rw [constL_len]; omega)
        have x0 : w7.cell? ⟨r, 0, none⟩ = some (.int .u32 X.a) := G3.out.cell 0
        have x1 : w7.cell? ⟨r, 1, none⟩ = some (.int .u32 X.b) := G3.out.cell 1
        have x2 : w7.cell? ⟨r, 2, none⟩ = some (.int .u32 X.c) := G3.out.cell 2
        have x3 : w7.cell? ⟨r, 3, none⟩ = some (.int .u32 X.d) := G3.out.cell 3
        have x4 : w7.cell? ⟨r, 4, none⟩ = some (.int .u32 X.e) := G3.out.cell 4
        have x5 : w7.cell? ⟨r, 5, none⟩ = some (.int .u32 X.f) := G3.out.cell 5
        have x6 : w7.cell? ⟨r, 6, none⟩ = some (.int .u32 X.g) := G3.out.cell 6
        have x7 : w7.cell? ⟨r, 7, none⟩ = some (.int .u32 X.h) := G3.out.cell 7
        obtain ⟨T2, hT2⟩ : ∃ T2 : Int, T2 = t2of X := ⟨_, rfl⟩
        rw [← hT2]
        have HT2 := hid hT2
        clear hT2
        go_wp2_with (first | (refine storeB (by rfl) 142 _ _ (by rfl) r 0 142 X.v (V8.mk ((T1 + T2) % 4294967296) X.a X.b X.c ((X.d + T1) % 4294967296) X.e X.f X.g).v (by rfl) (by rfl) G3.out (by simp) (by kernel_rfl) (by simp [Value.oneCell']) ?_))
        intro w8 hk hg
        have M0 : p ≠ r := G1.out.ne G3.out (by decide)
        have M1 : q ≠ r := G2.out.ne G3.out (by decide)
        have hlo : w.heap.size + 2 ≤ r := by have := HR1.out; have := HZ0.out; omega
        have N1 := hid (G1.out.grown hg (fun e => M0 (Option.some.inj e).symm))
        have N2 := hid (G2.out.grown hg (fun e => M1 (Option.some.inj e).symm))
        have N3 := hid (show Blk w8 r 142 (rnd X kt wt).v from by rw [splice_all _ _ (by simp)] at hk; rw [HT1.out, HT2.out] at hk; exact hk)
        have N4 := hid (G4.out.grown hg (fun e => by have := Option.some.inj e; omega))
        have N5 := hid (G5.out.grown hg (fun e => by have := Option.some.inj e; omega))
        have N6 := hid (G6.out.grown hg G6.out.size (fun k e => by have := Option.some.inj e; omega))
        have NX := hid (show rnd X kt wt = rounds ds s (t + 1) from by rw [rounds, HW.out, HKT.out, GX.out])
        clear hk hg G1 G2 G3 G4 G5 G6 xw xk x0 x1 x2 x3 x4 x5 x6 x7 M0 M1 hlo
        go_wp2
        go_roundw
        case rel => exact ⟨t + 1, _, by omega, by go_num, NX.out, N1.out, N2.out, N3.out, N4.out, N5.out, N6.out⟩
        case measure => simp [intOf]; omega
      · obtain ⟨t0, rfl⟩ : ∃ t0 : Nat, t0 = t := ⟨_, rfl⟩
        have e64 : t0 = 64 := by omega
        rw [e64] at hX
        have E64 := hid e64
        have HX := hid hX
        clear e64 hp hq hX
        have HR3 := hid hr
        have HS3 := hid hs0
        have HS4 := hid hs1
        have HB3 := hid hbl
        clear hr hs0 hs1 hbl
        have n1 : decide ((t0 : Int) < 64) = false := decide_eq_false (by omega)
        have n2 : (64 : Int) ≤ (t0 : Int) := by omega
        clear hlt
        obtain ⟨wo, rfl⟩ : ∃ wo : World, wo = wr := ⟨_, rfl⟩
        go_wp2
        go_loopw [98] (fun n wx => ∃ i : Nat, i ≤ 8 ∧ n = .int .i64 i ∧ Blk wx r 142 (us (addUp X.l s.l i)) ∧ Blk wx w.heap.size 142 (us s.l) ∧ Blk wx (w.heap.size + 1) 142 zero8.v ∧ Below w.heap.size w wx) (fun n _ => 8 - (intOf n).toNat)
        case atStart => exact ⟨0, by omega, rfl, HR3.out, HS3.out, HS4.out, HB3.out⟩
        case round =>
          clear HR3 HS3 HS4 HB3 ht n1 n2
          obtain ⟨t, ht, rfl, hr, hs0, hs1, hbl⟩ := hrel
          by_cases hlt : t < 8
          · have xa := us_at hr (j := t) (by rw [addUp_len]; simp [V8.l]; omega)
            have xb := us_at hs0 (j := t) (by simp [V8.l]; omega)
            have fr := hr.free t
            have G3 := hid hr
            have G4 := hid hs0
            have G5 := hid hs1
            have G6 := hid hbl
            clear hr hs0 hs1 hbl
            have p0 : (0 : Int) ≤ (t : Int) := by omega
            have p1 : (t : Int) < 8 := by omega
            have p3 : ((t : Int)).toNat = t := by omega
            have hlo : w.heap.size + 2 ≤ r := by have := HR1.out; have := HZ0.out; omega
            go_wp2
            go_still_tail 8, (by kernel_rfl)
            change wpList _ _ _ _ _ wr.drew
            clear p0 p1 p3
            go_wp2
            go_roundw
            case rel => exact ⟨t + 1, by omega, by go_num, us_set G3.out t _, (G4.out.far (p := ⟨r, t, none⟩) (by simp; omega) _), (G5.out.far (p := ⟨r, t, none⟩) (by simp; omega) _), (G6.out.setCell (p := ⟨r, t, none⟩) (by simp; omega) _).drew⟩
            case measure => simp [intOf]; omega
          · have e8 : t = 8 := by omega
            subst e8
            have n3 : decide (((8 : Nat) : Int) < 8) = false := by decide
            have hs2 := hbl.size
            have HR4 := hid hr
            have HS5 := hid hs1
            have HB5 := hid hbl
            have HL8 := hid (show (addUp X.l s.l 8).length = 8 from by rw [addUp_len]; rfl)
            clear hr hs0 hs1 hbl
            go_wp2_with (first | (refine wpList_load_row (by rfl) 142 _ (by rfl) r (by rfl) 142 (us (addUp X.l s.l 8)) (0, 0) _ HR4.out Tryz.underlying142 rfl (by rw [show (us (addUp X.l s.l 8)).size = 8 from by simp [us, HL8.out]]; kernel_rfl) ?_) | (refine storeB (by rfl) 142 _ _ (by rfl) (w.heap.size + 1) 0 142 zero8.v (us (addUp X.l s.l 8)) (by rfl) (by rfl) HS5.out (by simp [us, HL8.out]) (by rw [show (us (addUp X.l s.l 8)).size = 8 from by simp [us, HL8.out]]; kernel_rfl) (by simpa using ints_oneCell .u32 (addUp X.l s.l 8)) ?_))
            intro w9 hk9 hg9
            go_wp2
            have hk10 : Blk w9 (w.heap.size + 1) 142 (mixed ds s).v := by
              rw [splice_all _ _ (by simp [us, HL8.out])] at hk9
              rw [mixed, ← V8.us_of _ (by rw [addUp_len]; rfl), ← HX.out]
              exact hk9
            refine bodyPost_ret (results_cell_row rfl _ w9 (w.heap.size + 1) 142 (mixed ds s).v (0, 0) _ (by rfl) hk10 Tryz.underlying142 rfl (by kernel_rfl)) rfl ⟨rfl, ?_⟩
            exact HB5.out.grown hg9 hs2 (fun k e => by have := Option.some.inj e; omega)
  case step =>
    rintro L a' w' hs ⟨v5, v6, v7, v14, v15, v16, v17, rfl, h⟩ i hi
    have hlt : i < 10 := by
      obtain ⟨_, o, ho, _⟩ := mem_ready.1 hi
      exact (Array.getElem?_eq_some_iff.1 ho).1
    have hd : ∀ {g t : Nat} {cs : Array Value}, Blk w' g t cs → g < w'.heap.size := fun hb => hb.lt
    have hi' : i = 0 ∨ i = 1 ∨ i = 2 ∨ i = 3 ∨ i = 4 ∨ i = 5 ∨ i = 6 ∨ i = 7 ∨ i = 8 ∨ i = 9 := by omega
    rcases hi' with rfl | rfl | rfl | rfl | rfl | rfl | rfl | rfl | rfl | rfl
    · refine wpOp_in (by rfl) rfl (wp_move _ rfl ?_)
      exact ⟨v5, v6, v7, _, v15, v16, v17, rfl, h.step 0 h.b (by decide) (by decide) (by decide) (by decide) (by decide) (by decide) (fun g t cs hb => hb) _ _ _ _ (.inl ⟨rfl, rfl⟩) (.inr ⟨by decide, rfl⟩) (.inr ⟨by decide, rfl⟩) (.inr ⟨by decide, rfl⟩)⟩
    · have e0 : Dn L 0 := after_of hi (j := 0) (by rfl) (by rfl) (by rfl)
      have := h.d0 e0
      subst this
      refine wpOp_in (by rfl) rfl (wp_enter (f := 98) (args := #[.slice A 64 c]) (by kernel_rfl) ?_)
      refine (sha_schedule ds A c B w' (HR.out.below ((HB.out.trans (h.b.mono (Nat.le_of_lt hlt0.out))).mono hB)) (Nat.le_trans hB (Nat.le_of_lt (Nat.lt_of_lt_of_le hlt0.out h.b.size))) HL.out).mono ?_
      rintro e w1 ⟨rfl, hb1⟩
      have hb2 : Below W0.heap.size W0 w1 := h.b.trans (hb1.mono h.b.size)
      exact ⟨_, rfl, v5, v6, v7, _, _, v16, v17, rfl, h.step 1 hb2 (by decide) (by decide) (by decide) (by decide) (by decide) (by decide) (fun g t cs hb => hb.below hb1 hb.lt) _ _ _ _ (.inr ⟨by decide, rfl⟩) (.inl ⟨rfl, rfl⟩) (.inr ⟨by decide, rfl⟩) (.inr ⟨by decide, rfl⟩)⟩
    · refine wpOp_in (by rfl) rfl (wp_enter (f := 99) (args := #[]) (by kernel_rfl) ?_)
      refine (sha_constants w').mono ?_
      rintro e w1 ⟨rfl, hb1⟩
      have hb2 : Below W0.heap.size W0 w1 := h.b.trans (hb1.mono h.b.size)
      exact ⟨_, rfl, v5, v6, v7, v14, v15, _, v17, rfl, h.step 2 hb2 (by decide) (by decide) (by decide) (by decide) (by decide) (by decide) (fun g t cs hb => hb.below hb1 hb.lt) _ _ _ _ (.inr ⟨by decide, rfl⟩) (.inr ⟨by decide, rfl⟩) (.inl ⟨rfl, rfl⟩) (.inr ⟨by decide, rfl⟩)⟩
    · refine wpOp_in (by rfl) rfl (wp_load_row 142 _ (by rfl) w.heap.size (by rfl) 142 s.v (0, 0) _ (HK0.out.below h.b hlt0.out) Tryz.underlying142 rfl (by kernel_rfl) ?_)
      exact ⟨v5, v6, v7, v14, v15, v16, _, rfl, h.step 3 h.b (by decide) (by decide) (by decide) (by decide) (by decide) (by decide) (fun g t cs hb => hb) _ _ _ _ (.inr ⟨by decide, rfl⟩) (.inr ⟨by decide, rfl⟩) (.inr ⟨by decide, rfl⟩) (.inl ⟨rfl, rfl⟩)⟩
    · refine wpOp_in (by rfl) rfl (wp_made (us zeros64) 150 (by rfl) ?_)
      have hb2 : Below W0.heap.size W0 (w'.alloc (.cells (us zeros64) 150)) := h.b.alloc h.b.size _
      exact ⟨_, v6, v7, v14, v15, v16, v17, rfl, hb2, fun hd => h.d0 (hd.ne (by decide)), fun hd => h.d1 (hd.ne (by decide)), fun hd => h.d2 (hd.ne (by decide)), fun hd => h.d3 (hd.ne (by decide)),
        fun _ => At.new _ h.b.size (by simp [us, zeros64_len]) (fun hd => (not_dn hi (h.o7 (hd.ne (by decide)))).elim),
        fun hd => (h.d5 (hd.ne (by decide))).move (fun g cs _ hb => hb.alloc _) (fun cs hr hd => hr (hd.ne (by decide))),
        fun hd => (h.d6 (hd.ne (by decide))).move (fun g cs _ hb => hb.alloc _) (fun cs hr hd => hr (hd.ne (by decide))),
        fun _ hd => (h.d5 (hd.ne (by decide))).lt.symm,
        fun hd => (h.o7 (hd.ne (by decide))).more _, fun hd => (h.o8 (hd.ne (by decide))).more _, fun hd => (h.o9 (hd.ne (by decide))).more _⟩
    · refine wpOp_in (by rfl) rfl (wp_made (us zeros64) 150 (by rfl) ?_)
      have hb2 : Below W0.heap.size W0 (w'.alloc (.cells (us zeros64) 150)) := h.b.alloc h.b.size _
      exact ⟨v5, _, v7, v14, v15, v16, v17, rfl, hb2, fun hd => h.d0 (hd.ne (by decide)), fun hd => h.d1 (hd.ne (by decide)), fun hd => h.d2 (hd.ne (by decide)), fun hd => h.d3 (hd.ne (by decide)),
        fun hd => (h.d4 (hd.ne (by decide))).move (fun g cs _ hb => hb.alloc _) (fun cs hr hd => hr (hd.ne (by decide))),
        fun _ => At.new _ h.b.size (by simp [us, zeros64_len]) (fun hd => (not_dn hi (h.o8 (hd.ne (by decide)))).elim),
        fun hd => (h.d6 (hd.ne (by decide))).move (fun g cs _ hb => hb.alloc _) (fun cs hr hd => hr (hd.ne (by decide))),
        fun hd _ => (h.d4 (hd.ne (by decide))).lt,
        fun hd => (h.o7 (hd.ne (by decide))).more _, fun hd => (h.o8 (hd.ne (by decide))).more _, fun hd => (h.o9 (hd.ne (by decide))).more _⟩
    · refine wpOp_in (by rfl) rfl (wp_made (#[.int .u32 0, .int .u32 0, .int .u32 0, .int .u32 0, .int .u32 0, .int .u32 0, .int .u32 0, .int .u32 0]) 142 (by rfl) ?_)
      have hb2 : Below W0.heap.size W0 (w'.alloc (.cells (#[.int .u32 0, .int .u32 0, .int .u32 0, .int .u32 0, .int .u32 0, .int .u32 0, .int .u32 0, .int .u32 0]) 142)) := h.b.alloc h.b.size _
      exact ⟨v5, v6, _, v14, v15, v16, v17, rfl, hb2, fun hd => h.d0 (hd.ne (by decide)), fun hd => h.d1 (hd.ne (by decide)), fun hd => h.d2 (hd.ne (by decide)), fun hd => h.d3 (hd.ne (by decide)),
        fun hd => (h.d4 (hd.ne (by decide))).move (fun g cs _ hb => hb.alloc _) (fun cs hr hd => hr (hd.ne (by decide))),
        fun hd => (h.d5 (hd.ne (by decide))).move (fun g cs _ hb => hb.alloc _) (fun cs hr hd => hr (hd.ne (by decide))),
        fun _ => At.new _ h.b.size (rfl) (fun hd => (not_dn hi (h.o9 (hd.ne (by decide)))).elim),
        fun ha hb => h.d45 (ha.ne (by decide)) (hb.ne (by decide)),
        fun hd => (h.o7 (hd.ne (by decide))).more _, fun hd => (h.o8 (hd.ne (by decide))).more _, fun hd => (h.o9 (hd.ne (by decide))).more _⟩
    · have ed : Dn L 4 := after_of hi (j := 0) (by rfl) (by rfl) (by rfl)
      have ev : Dn L 1 := after_of hi (j := 1) (by rfl) (by rfl) (by rfl)
      have := h.d1 ev
      subst this
      obtain ⟨g, hv, hl, cs, hn, hb, hr⟩ := h.d4 ed
      subst hv
      refine wpOp_in (by rfl) rfl (wp_fill 150 _ _ (by rfl) g 150 cs (us (sch ds 64)) (by rfl) (by rfl) hb (by rw [hn, HSV.out]) (by rw [HSV.out]; kernel_rfl) (Array.all_eq_true_iff_forall_mem.2 (fun v hv => ints_oneCell .u32 (sch ds 64) v (by simpa using hv))) ?_)
      intro w1 hk hg
      have hb2 : Below W0.heap.size W0 w1 := h.b.grown hg h.b.size (by simpa using hl)
      exact ⟨_, v6, v7, v14, _, v16, v17, rfl, hb2, fun hd => h.d0 (hd.ne (by decide)), fun hd => h.d1 (hd.ne (by decide)), fun hd => h.d2 (hd.ne (by decide)), fun hd => h.d3 (hd.ne (by decide)),
        fun _ => ⟨g, rfl, hl, _, HSV.out, hk, fun _ => rfl⟩,
        fun hd => (h.d5 (hd.ne (by decide))).move (fun g' cs' hv' hb' => hb'.grown hg (fun e => h.d45 ed (hd.ne (by decide)) (by cases e; exact hv'.symm))) (fun cs hr hd => hr (hd.ne (by decide))),
        fun hd => (h.d6 (hd.ne (by decide))).move (fun g' cs' hv' hb' => hb'.grown hg (fun e => hb'.ne hb (by decide) (by cases e; rfl))) (fun cs hr hd => hr (hd.ne (by decide))),
        fun ha hb => h.d45 (ha.ne (by decide)) (hb.ne (by decide)),
        fun _ => ed.more _,        fun hd => (h.o8 (hd.ne (by decide))).more _,        fun hd => (h.o9 (hd.ne (by decide))).more _⟩
    · have ed : Dn L 5 := after_of hi (j := 0) (by rfl) (by rfl) (by rfl)
      have ev : Dn L 2 := after_of hi (j := 1) (by rfl) (by rfl) (by rfl)
      have := h.d2 ev
      subst this
      obtain ⟨g, hv, hl, cs, hn, hb, hr⟩ := h.d5 ed
      subst hv
      refine wpOp_in (by rfl) rfl (wp_fill 150 _ _ (by rfl) g 150 cs (us constL) (by rfl) (by rfl) hb (by rw [hn]; simp [us, constL_len]) (by kernel_rfl) (Array.all_eq_true_iff_forall_mem.2 (fun v hv => ints_oneCell .u32 constL v (by simpa using hv))) ?_)
      intro w1 hk hg
      have hb2 : Below W0.heap.size W0 w1 := h.b.grown hg h.b.size (by simpa using hl)
      exact ⟨v5, _, v7, v14, v15, _, v17, rfl, hb2, fun hd => h.d0 (hd.ne (by decide)), fun hd => h.d1 (hd.ne (by decide)), fun hd => h.d2 (hd.ne (by decide)), fun hd => h.d3 (hd.ne (by decide)),
        fun hd => (h.d4 (hd.ne (by decide))).move (fun g' cs' hv' hb' => hb'.grown hg (fun e => h.d45 (hd.ne (by decide)) ed (by cases e; exact hv'))) (fun cs hr hd => hr (hd.ne (by decide))),
        fun _ => ⟨g, rfl, hl, _, by simp [us, constL_len], hk, fun _ => rfl⟩,
        fun hd => (h.d6 (hd.ne (by decide))).move (fun g' cs' hv' hb' => hb'.grown hg (fun e => hb'.ne hb (by decide) (by cases e; rfl))) (fun cs hr hd => hr (hd.ne (by decide))),
        fun ha hb => h.d45 (ha.ne (by decide)) (hb.ne (by decide)),
        fun hd => (h.o7 (hd.ne (by decide))).more _,        fun _ => ed.more _,        fun hd => (h.o9 (hd.ne (by decide))).more _⟩
    · have ed : Dn L 6 := after_of hi (j := 0) (by rfl) (by rfl) (by rfl)
      have ev : Dn L 3 := after_of hi (j := 1) (by rfl) (by rfl) (by rfl)
      have := h.d3 ev
      subst this
      obtain ⟨g, hv, hl, cs, hn, hb, hr⟩ := h.d6 ed
      subst hv
      refine wpOp_in (by rfl) rfl (wp_fill 142 _ _ (by rfl) g 142 cs (s.v) (by rfl) (by rfl) hb hn (by kernel_rfl) s.one ?_)
      intro w1 hk hg
      have hb2 : Below W0.heap.size W0 w1 := h.b.grown hg h.b.size (by simpa using hl)
      exact ⟨v5, v6, _, v14, v15, v16, _, rfl, hb2, fun hd => h.d0 (hd.ne (by decide)), fun hd => h.d1 (hd.ne (by decide)), fun hd => h.d2 (hd.ne (by decide)), fun hd => h.d3 (hd.ne (by decide)),
        fun hd => (h.d4 (hd.ne (by decide))).move (fun g' cs' hv' hb' => hb'.grown hg (fun e => hb'.ne hb (by decide) (by cases e; rfl))) (fun cs hr hd => hr (hd.ne (by decide))),
        fun hd => (h.d5 (hd.ne (by decide))).move (fun g' cs' hv' hb' => hb'.grown hg (fun e => hb'.ne hb (by decide) (by cases e; rfl))) (fun cs hr hd => hr (hd.ne (by decide))),
        fun _ => ⟨g, rfl, hl, _, rfl, hk, fun _ => rfl⟩,
        fun ha hb => h.d45 (ha.ne (by decide)) (hb.ne (by decide)),
        fun hd => (h.o7 (hd.ne (by decide))).more _,        fun hd => (h.o8 (hd.ne (by decide))).more _,        fun _ => ed.more _⟩
