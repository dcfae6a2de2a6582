/- Small lemmas on worlds, owned rows and appends, over any program: what the walks of this claim share. -/
import Derived.WalkKit
import Derived.WalkLawsBesides
import Derived.WalkSpells
import Derived.Below
import Derived.Outline
import Derived.Deep.AppendLies
import Derived.Deep.LoopGhost
import Derived.Deep.DeepMust
import Derived.Deep.QuietTactic
import Derived.BigQuiet
import Derived.Deep.RegionHeld3
import Derived.Deep.DeepCutAuto
import Derived.OwnWalk
import Derived.OneCell
import Derived.Deep.Draws
import Derived.KernelRfl
import Derived.Maps.AppendAt
import Derived.Laws.AppendOwnNone
import Derived.Lib.ConvBytes
import Derived.Deep.MidRow
import Derived.Deep.Upon
import Derived.Laws.Rows
namespace Go.Proofs.YtkndkeeleaoooaaGreat
open Go.RowKit
set_option linter.unusedVariables false

theorem hid {p : Prop} (h : p) : Hid p := h

/-- A block that is known whole. -/
def Blk (w : World) (g t : Nat) (cs : Array Value) : Prop := w.heap[g]? = some (.cells cs t (0, 0))

section
variable {w w' : World} {g t base e size n : Nat} {cs : Array Value} {v : Value} {xs : List Value}
theorem Blk.lt (h : Blk w g t cs) : g < w.heap.size := lt_of_block h
theorem Blk.cell (h : Blk w g t cs) (i : Nat) : w.cell? ⟨g, i, none⟩ = cs[i]? := cell_of_row w g i cs t (0, 0) h
theorem Blk.free (h : Blk w g t cs) (i : Nat) : w.frozen? ⟨g, i, none⟩ = false := by
  unfold Blk at h
  simp [World.frozen?, h]
theorem Blk.new (w : World) (t : Nat) (cs : Array Value) : Blk (w.alloc (.cells cs t)) w.heap.size t cs := heap_alloc_new w _
theorem Blk.drewN (h : Blk w g t cs) (k : Nat) : Blk (w.drewN k) g t cs := h
theorem Blk.drew (h : Blk w g t cs) : Blk w.drew g t cs := h
theorem Blk.alloc (h : Blk w g t cs) (o : Obj) : Blk (w.alloc o) g t cs := (Below.heap_alloc w o g h.lt).trans h
theorem Blk.below {B : Nat} (h : Blk w g t cs) (hb : Below B w w') (hg : g < B) : Blk w' g t cs := (hb.block g hg).trans h
theorem Blk.grown {row : Option Nat} (h : Blk w g t cs) (hb : w.grownBy w' row) (hg : row ≠ some g) : Blk w' g t cs := (hb.block g h.lt (fun e => hg e.symm)).trans h
theorem Blk.set (h : Blk w g t cs) (i : Nat) (u : Value) : Blk (w.setCell ⟨g, i, none⟩ u) g t (cs.setIfInBounds i u) := by
  unfold Blk at h ⊢
  simp [World.setCell, Array.getElem?_modify, h]
theorem Blk.far (h : Blk w g t cs) {p : Addr} (hp : g ≠ p.block) (u : Value) : Blk (w.setCell p u) g t cs := (Below.heap_setCell w p u g hp).trans h
theorem Blk.ne {g' t' : Nat} {cs' : Array Value} (h : Blk w g t cs) (h' : Blk w g' t' cs') (hne : t ≠ t') : g ≠ g' := by
  rintro rfl
  unfold Blk at h h'
  rw [h] at h'
  injection h' with h'
  injection h' with _ ht
  exact hne ht
/-- Two rows whose elements' types differ never share a block. -/
theorem own_ne (h : w.ownsRow base e size v n xs) (hg : Blk w g t cs) (hne : e ≠ t) : v.ownBlock ≠ some g := by
  rcases h.2 with ⟨rfl, _⟩ | ⟨g', cap, cur, rfl, _, hh, _⟩
  · simp [Value.ownBlock]
  · intro he
    have : g' = g := by simpa [Value.ownBlock] using he
    subst this
    exact Blk.ne (t := e) hh hg hne rfl
theorem own_drewN (h : w.ownsRow base e size v n xs) (k : Nat) : (w.drewN k).ownsRow base e size v n xs := h
theorem own_set (h : w.ownsRow base e size v n xs) {p : Addr} (hp : v.ownBlock ≠ some p.block) (u : Value) : (w.setCell p u).ownsRow base e size v n xs := ownsRow_setCell_other h hp u
theorem own_below {B : Nat} (h : w.ownsRow base e size v n xs) (hb : Below B w w') (hv : ∀ k, v.ownBlock = some k → k < B) : w'.ownsRow base e size v n xs := by
  refine ⟨h.1, ?_⟩
  rcases h.2 with hn | ⟨g, cap, cur, rfl, hb0, hgg, rest⟩
  · exact .inl hn
  · exact .inr ⟨g, cap, cur, rfl, hb0, (hb.block g (hv g rfl)).trans hgg, rest⟩
theorem own_lt (h : w.ownsRow base e size v n xs) : ∀ k, v.ownBlock = some k → k < w.heap.size := fun k hk => (h.lt k hk).2
theorem own_base (h : w.ownsRow base e size v n xs) : ∀ k, v.ownBlock = some k → base ≤ k := fun k hk => (h.lt k hk).1
theorem own_low {base' : Nat} (h : w.ownsRow base e size v n xs) (hb : base' ≤ base) : w.ownsRow base' e size v n xs := by
  refine ⟨h.1, ?_⟩
  rcases h.2 with hn | ⟨g, cap, cur, rfl, hb0, rest⟩
  · exact .inl hn
  · exact .inr ⟨g, cap, cur, rfl, Nat.le_trans hb hb0, rest⟩
theorem own_form (h : w.ownsRow base e size v n xs) : ∃ A c, v = .slice A n c ∧ n ≤ c ∧ c ≤ maxLen ∧ (A = none → n = 0 ∧ c = 0) ∧ ∀ ad, A = some ad → ad.off = 0 ∧ ad.spot = none ∧ base ≤ ad.block ∧ ad.block < w.heap.size ∧ ∀ j u, xs[j]? = some u → w.cell? (ad.add j) = some u := by
  rcases h.2 with ⟨rfl, rfl⟩ | ⟨g, cap, cur, rfl, hb, hg, hn, hm, _⟩
  · exact ⟨none, 0, rfl, Nat.le_refl _, by simp [maxLen], fun _ => ⟨rfl, rfl⟩, (fun ad h => by cases h)⟩
  · refine ⟨some ⟨g, 0, none⟩, cap, rfl, hn, hm, (fun h => by cases h), fun ad hh => ?_⟩
    injection hh with hh
    subst hh
    exact ⟨rfl, rfl, hb, (Array.getElem?_eq_some_iff.1 hg).1, h.cells (g := g) rfl⟩
theorem own_len (h : w.ownsRow base e size v n xs) : xs.length = n * size := h.1
end

/-- Blocks whose elements' type is none of T are as they were. -/
def Far (T : List Nat) (w w' : World) : Prop := ∀ (k : Nat) (cs : Array Value) (t : TypeId) (fr : Nat × Nat), w.heap[k]? = some (Obj.cells cs t fr) → t ∉ T → w'.heap[k]? = w.heap[k]?
theorem Far.refl (T : List Nat) (w : World) : Far T w w := fun _ _ _ _ _ _ => rfl
theorem Far.trans {T : List Nat} {a b c : World} (h : Far T a b) (k : Far T b c) : Far T a c := fun i cs t fr hi ht => by
  have h1 := h i cs t fr hi ht
  exact (k i cs t fr (h1.trans hi) ht).trans h1
theorem Far.drewN {T : List Nat} {a b : World} (h : Far T a b) (n : Nat) : Far T a (b.drewN n) := h
theorem Far.alloc {T : List Nat} {a b : World} (h : Far T a b) (o : Obj) : Far T a (b.alloc o) := h.trans fun i cs t fr hi _ => Below.heap_alloc b o i (lt_of_block hi)
theorem Far.below {T : List Nat} {a b : World} (h : Below a.heap.size a b) : Far T a b := fun i cs t fr hi _ => h.block i (lt_of_block hi)
theorem Far.step {T : List Nat} {a b c : World} (h : Far T a b) (k : Below b.heap.size b c) : Far T a c := h.trans (Far.below k)
theorem Far.more {T T' : List Nat} {a b : World} (h : Far T a b) (hT : ∀ t, t ∈ T → t ∈ T') : Far T' a b := fun i cs t fr hi ht => h i cs t fr hi (fun hm => ht (hT t hm))
theorem Blk.keep {T : List Nat} {w w' : World} {g t : Nat} {cs : Array Value} (h : Blk w g t cs) (hf : Far T w w') (ht : t ∉ T) : Blk w' g t cs := (hf g cs t (0, 0) h ht).trans h
theorem Far.grown {T : List Nat} {w w' : World} {base e size n : Nat} {v : Value} {xs : List Value} (ho : w.ownsRow base e size v n xs) (hg : w.grownBy w' v.ownBlock) (he : e ∈ T) : Far T w w' := fun i cs t fr hi ht => by
  refine hg.block i (lt_of_block hi) (fun e1 => ?_)
  rcases ho.2 with ⟨rfl, _⟩ | ⟨g, cap, cur, rfl, _, hh, _⟩
  · cases e1
  · have e2 : i = g := by simpa [Value.ownBlock] using e1
    subst e2
    rw [hh] at hi
    injection hi with hi
    injection hi with _ hi
    exact ht (hi ▸ he)
theorem Far.set {T : List Nat} {w : World} {g t : Nat} {cs : Array Value} (hb : Blk w g t cs) (ht : t ∈ T) (j : Nat) (u : Value) : Far T w (w.setCell ⟨g, j, none⟩ u) := fun i cs' t' fr hi ht' => by
  refine Below.heap_setCell w _ u i (fun e => ?_)
  have e : i = g := e
  subst e
  unfold Blk at hb
  rw [hb] at hi
  injection hi with hi
  injection hi with _ hi
  exact ht' (hi ▸ ht)
theorem own_keep {T : List Nat} {w w' : World} {base e size n : Nat} {v : Value} {xs : List Value} (h : w.ownsRow base e size v n xs) (hf : Far T w w') (he : e ∉ T) : w'.ownsRow base e size v n xs := by
  refine ⟨h.1, ?_⟩
  rcases h.2 with hn | ⟨g, cap, cur, rfl, hb0, hgg, rest⟩
  · exact .inl hn
  · exact .inr ⟨g, cap, cur, rfl, hb0, (hf g cur e (0, 0) hgg he).trans hgg, rest⟩

theorem grown_below {w w' : World} {row : Option Nat} {B : Nat} (hg : w.grownBy w' row) (hB : B ≤ w.heap.size) (hr : ∀ k, row = some k → B ≤ k) : Below B w w' := (Below.refl B w).grown hg hB hr
theorem below_drewN' {B : Nat} {a w : World} (h : Below B a w) (n : Nat) : Below B a (w.drewN n) := ⟨h.os, h.tape, h.output, h.size, h.block⟩
theorem bcell {B : Nat} {W w1 : World} (hb : Below B W w1) : (∀ b o, b < B → w1.cell? ⟨b, o, none⟩ = W.cell? ⟨b, o, none⟩) ∧ (∀ b o, b < B → w1.frozen? ⟨b, o, none⟩ = W.frozen? ⟨b, o, none⟩) :=
  ⟨fun b o h => hb.cell (p := ⟨b, o, none⟩) h, fun b o h => hb.frozen (p := ⟨b, o, none⟩) h⟩
theorem cell_add (g j : Nat) : (⟨g, 0, none⟩ : Addr).add j = ⟨g, j, none⟩ := by unfold Addr.add; split <;> simp_all
theorem cell_add' (g o j : Nat) : (⟨g, o, none⟩ : Addr).add j = ⟨g, o + j, none⟩ := by unfold Addr.add; split <;> simp_all

section
variable {P : Program} {ops : Array Oper} {rest : List Oper} {o : Oper} {a : Act} {Q : Exit → Act → World → Prop}
/-- 'out = append(out, x)': x lies in the block that was made just before. -/
theorem app1 {W : World} (hgd : o.guard = none) (s x : Operand) (t : TypeId) (ho : o.op = .call { callee := .builtin .append, args := #[s, x], argTypes := #[t, t] })
    (e : TypeId) (z : Value) (size bytes : Nat) (ht : P.underlying t = some (.slice e)) (hinfo : (P.info? e).map (fun i => (i.zero, i.size, i.bytes)) = some (some z, size, bytes)) (hzs : z.cells.size = size) (hsz : 0 < size)
    (base : Nat) (v : Value) (n : Nat) (xs : List Value) (hown : W.ownsRow base e size v n xs) (hs : a.eval s = v) (cs : Array Value) (hx : a.eval x = .slice (some ⟨W.heap.size, 0, none⟩) 1 1)
    (hcs : cs.size = size) (h1 : ∀ u ∈ cs.toList, u.oneCell' = true) (hn : n ≤ 1000000000000) (hby : bytes ≤ 120) (hbase : base ≤ W.heap.size)
    (h : ∀ g cap w', w'.ownsRow base e size (.slice (some ⟨g, 0, none⟩) (n + 1) cap) (n + 1) (xs ++ cs.toList) → W.grownBy w' v.ownBlock → (v.ownBlock = some g ∨ W.heap.size ≤ g) → g < w'.heap.size →
      wpList P ops Q rest (a.put o.dst (.slice (some ⟨g, 0, none⟩) (n + 1) cap)) w') : wpList P ops Q (o :: rest) a (W.alloc (.cells cs e)) := by
  obtain ⟨i0, hi, hz0, hz1, hz2⟩ := info_parts hinfo
  have hb : (n + 1) * bytes ≤ 140737488355328 := Nat.le_trans (Nat.mul_le_mul (by omega : n + 1 ≤ 1000000000001) hby) (by omega)
  refine wpList_append_lies (W.alloc (.cells cs e)) hgd s x t ho base e i0 z size bytes ht hi hz0 hz1 hz2 hzs hsz v n xs hs (hown.alloc _) ⟨W.heap.size, 0, none⟩ 1 1 cs.toList hx (by simp [hcs])
    (World.news_of_block (heap_alloc_new W _)) h1 (by omega) (by simp only [maxLen]; omega) hb (by simp; omega) (W.heap.size + 1) (by simp) ?_
  intro g cap w' ho' hg hat hlt
  refine h g cap w' ho' ⟨hg.os, hg.tape, hg.output, Nat.le_trans (by simp) hg.size, fun k hk hne => (hg.block k (by simp; omega) hne).trans (Below.heap_alloc W _ k hk)⟩ ?_ hlt
  rcases hat with h1 | h1
  · exact .inl h1
  · exact .inr (by omega)
/-- The same for an element of one cell. -/
theorem app1c {W : World} (hgd : o.guard = none) (s x : Operand) (t : TypeId) (ho : o.op = .call { callee := .builtin .append, args := #[s, x], argTypes := #[t, t] })
    (e : TypeId) (z : Value) (bytes : Nat) (ht : P.underlying t = some (.slice e)) (hinfo : (P.info? e).map (fun i => (i.zero, i.size, i.bytes)) = some (some z, 1, bytes)) (hzs : z.cells.size = 1)
    (base : Nat) (v : Value) (n : Nat) (xs : List Value) (hown : W.ownsRow base e 1 v n xs) (hs : a.eval s = v) (u : Value) (hx : a.eval x = .slice (some ⟨W.heap.size, 0, none⟩) 1 1)
    (h1 : u.oneCell' = true) (hn : n ≤ 1000000000000) (hby : bytes ≤ 120) (hbase : base ≤ W.heap.size)
    (h : ∀ g cap w', w'.ownsRow base e 1 (.slice (some ⟨g, 0, none⟩) (n + 1) cap) (n + 1) (xs ++ [u]) → W.grownBy w' v.ownBlock → (v.ownBlock = some g ∨ W.heap.size ≤ g) → g < w'.heap.size →
      wpList P ops Q rest (a.put o.dst (.slice (some ⟨g, 0, none⟩) (n + 1) cap)) w') : wpList P ops Q (o :: rest) a (W.alloc (.cells #[u] e)) :=
  app1 hgd s x t ho e z 1 bytes ht hinfo hzs (by omega) base v n xs hown hs #[u] hx rfl (fun q hq => by simp at hq; subst hq; exact h1) hn hby hbase h
end
#print axioms app1c

/-- A slice that is read: nil, or its cells lie below block B. -/
def Rds (w : World) (B size : Nat) (A : Option Addr) (n c : Nat) (xs : List Value) : Prop :=
  xs.length = n * size ∧ n ≤ c ∧ c ≤ maxLen ∧ (A = none → n = 0 ∧ c = 0) ∧ ∀ ad, A = some ad → ad.block < B ∧ ∀ j u, xs[j]? = some u → w.cell? (ad.add j) = some u
section
variable {w w' : World} {B B' size n c : Nat} {A : Option Addr} {xs : List Value}
theorem block_add (a : Addr) (n : Nat) : (a.add n).block = a.block := by unfold Addr.add; split <;> rfl
theorem Rds.keep (h : Rds w B size A n c xs) (hk : ∀ p : Addr, p.block < B → w'.cell? p = w.cell? p) : Rds w' B size A n c xs :=
  ⟨h.1, h.2.1, h.2.2.1, h.2.2.2.1, fun ad e => ⟨(h.2.2.2.2 ad e).1, fun j u hu => (hk _ (by rw [block_add]; exact (h.2.2.2.2 ad e).1)).trans ((h.2.2.2.2 ad e).2 j u hu)⟩⟩
theorem Rds.moved (h : Rds w B size A n c xs) (hk : ∀ ad, A = some ad → ∀ k, w'.heap[(ad.add k).block]? = w.heap[(ad.add k).block]?) : Rds w' B size A n c xs :=
  ⟨h.1, h.2.1, h.2.2.1, h.2.2.2.1, fun ad e => ⟨(h.2.2.2.2 ad e).1, fun j u hu => (World.cell?_of_block (hk ad e j)).trans ((h.2.2.2.2 ad e).2 j u hu)⟩⟩
theorem Rds.more (h : Rds w B size A n c xs) (hB : B ≤ B') : Rds w B' size A n c xs := ⟨h.1, h.2.1, h.2.2.1, h.2.2.2.1, fun ad e => ⟨Nat.lt_of_lt_of_le (h.2.2.2.2 ad e).1 hB, (h.2.2.2.2 ad e).2⟩⟩
theorem Rds.below (h : Rds w B size A n c xs) (hb : Below B w w') : Rds w' B size A n c xs := h.keep fun _ hp => hb.cell hp
theorem Rds.drewN (h : Rds w B size A n c xs) (k : Nat) : Rds (w.drewN k) B size A n c xs := h
theorem Rds.alloc (h : Rds w B size A n c xs) (hB : B ≤ w.heap.size) (o : Obj) : Rds (w.alloc o) B size A n c xs := h.keep fun p hp => World.cell?_alloc_lt w o p (by omega)
theorem Rds.set (h : Rds w B size A n c xs) {p : Addr} (hB : B ≤ p.block) (u : Value) : Rds (w.setCell p u) B size A n c xs := h.keep fun q hq => World.cell?_setCell_other w p q u (fun e => by subst e; omega)
theorem Rds.nil (w : World) (B size : Nat) : Rds w B size none 0 0 [] := ⟨by simp, Nat.le_refl _, by simp [maxLen], fun _ => ⟨rfl, rfl⟩, fun ad h => by cases h⟩
theorem Rds.of_own {base : Nat} {e : TypeId} (h : w.ownsRow base e size (.slice A n c) n xs) : Rds w w.heap.size size A n c xs := by
  obtain ⟨A', c', hv, h1, h2, h3, h4⟩ := own_form h
  injection hv with e1 _ e2
  subst e1 e2
  exact ⟨h.1, h1, h2, h3, fun ad e => ⟨(h4 ad e).2.2.2.1, (h4 ad e).2.2.2.2⟩⟩
theorem Rds.at_ {k : Nat} (h : Rds w B 1 A n c xs) (hk : k < n) : ∃ ad u, A = some ad ∧ ad.block < B ∧ xs[k]? = some u ∧ w.cell? (ad.add k) = some u := by
  obtain ⟨h1, h2, h3, h4, h5⟩ := h
  rcases A with _ | ad
  · have := (h4 rfl).1; omega
  · have hl : k < xs.length := by omega
    exact ⟨ad, xs[k], rfl, (h5 ad rfl).1, List.getElem?_eq_getElem hl, (h5 ad rfl).2 k _ (List.getElem?_eq_getElem hl)⟩
theorem Rds.elem (h : Rds w B size A n c xs) {k : Nat} (hk : k < n) (hs : 0 < size) : ∃ b off, A = some ⟨b, off, none⟩ ∧ b < B ∧ ∀ j u, j < size → xs[k * size + j]? = some u → w.cell? ⟨b, off + k * size + j, none⟩ = some u := by
  obtain ⟨h1, h2, h3, h4, h5⟩ := h
  rcases A with _ | ad
  · have := (h4 rfl).1; omega
  · obtain ⟨b, off, spot⟩ := ad
    have h6 := (h5 _ rfl).2
    have hlen : 0 < xs.length := by rw [h1]; exact Nat.mul_pos (by omega) hs
    have hc0 := h6 0 xs[0] (List.getElem?_eq_getElem hlen)
    have hsp : spot = none := by simpa [Addr.add] using World.cell?_spot hc0
    subst hsp
    refine ⟨b, off, rfl, (h5 _ rfl).1, fun j u hj hu => ?_⟩
    have := h6 _ u hu
    rwa [cell_add', ← Nat.add_assoc] at this
theorem flat_len {α : Type} (f : α → List Value) (s : Nat) (hf : ∀ x, (f x).length = s) (l : List α) : (l.flatMap f).length = l.length * s := by
  induction l with
  | nil => simp
  | cons x l ih => rw [List.flatMap_cons, List.length_append, ih, hf, List.length_cons, Nat.add_mul]; omega
theorem flat_at {α : Type} (f : α → List Value) (s : Nat) (hf : ∀ x, (f x).length = s) (l : List α) (k j : Nat) (hk : k < l.length) (hj : j < s) : (l.flatMap f)[k * s + j]? = (f l[k])[j]? := by
  induction l generalizing k with
  | nil => simp at hk
  | cons x l ih =>
    rw [List.flatMap_cons]
    rcases k with _ | k
    · simp only [Nat.zero_mul, Nat.zero_add, List.getElem_cons_zero]
      rw [List.getElem?_append_left (by rw [hf]; exact hj)]
    · rw [List.getElem?_append_right (by rw [hf, Nat.add_mul]; omega), hf]
      have e : (k + 1) * s + j - s = k * s + j := by rw [Nat.add_mul]; omega
      rw [e, List.getElem_cons_succ]
      exact ih k (by simpa using hk)
theorem flat_one {α : Type} (f : α → List Value) (hf : ∀ x, ∀ u ∈ f x, u.oneCell' = true) (l : List α) : ∀ u ∈ l.flatMap f, u.oneCell' = true := by
  intro u hu
  obtain ⟨x, _, hx⟩ := List.mem_flatMap.1 hu
  exact hf x u hx
theorem ownA {base : Nat} {e : TypeId} {v : Value} (h : w.ownsRow base e size v n xs) : ∃ A c, v = .slice A n c ∧ w.ownsRow base e size (.slice A n c) n xs ∧ Rds w w.heap.size size A n c xs := by
  obtain ⟨A, c, rfl, _⟩ := own_form h
  exact ⟨A, c, rfl, h, Rds.of_own h⟩
end

section
variable {P : Program} {ops : Array Oper} {rest : List Oper} {o : Oper} {a : Act} {Q : Exit → Act → World → Prop}
/-- 'out = append(out, xs...)', xs nil or not. -/
theorem appR {W : World} (hgd : o.guard = none) (s x : Operand) (t : TypeId) (ho : o.op = .call { callee := .builtin .append, args := #[s, x], argTypes := #[t, t] })
    (e : TypeId) (z : Value) (size bytes : Nat) (ht : P.underlying t = some (.slice e)) (hinfo : (P.info? e).map (fun i => (i.zero, i.size, i.bytes)) = some (some z, size, bytes)) (hzs : z.cells.size = size) (hsz : 0 < size)
    (base : Nat) (v : Value) (n : Nat) (xs : List Value) (hown : W.ownsRow base e size v n xs) (hs : a.eval s = v) (B : Nat) (A : Option Addr) (m c : Nat) (news : List Value) (hr : Rds W B size A m c news) (hx : a.eval x = .slice A m c)
    (h1 : ∀ u ∈ news, u.oneCell' = true) (hn : n + m ≤ 1000000000000) (hby : bytes ≤ 120) (hbase : base ≤ W.heap.size)
    (h : ∀ A' c' w', w'.ownsRow base e size (.slice A' (n + m) c') (n + m) (xs ++ news) → W.grownBy w' v.ownBlock → ((Value.slice A' (n + m) c').ownBlock = v.ownBlock ∨ (Value.slice A' (n + m) c').ownBlock = some W.heap.size) →
      wpList P ops Q rest (a.put o.dst (.slice A' (n + m) c')) w') : wpList P ops Q (o :: rest) a W := by
  obtain ⟨i0, hi, hz0, hz1, hz2⟩ := info_parts hinfo
  rcases A with _ | ad
  · obtain ⟨rfl, rfl⟩ := hr.2.2.2.1 rfl
    have hn0 : news = [] := List.eq_nil_of_length_eq_zero (by simpa using hr.1)
    subst hn0
    refine wpList_append_own_none hgd s x t ho base e i0 size ht hi v n xs hs hown hx ?_
    obtain ⟨A', c', rfl, ho', _⟩ := ownA hown
    exact h A' c' W (by simpa using ho') (World.grownBy.refl W _) (.inl rfl)
  · have hb : (n + m) * bytes ≤ 140737488355328 := Nat.le_trans (Nat.mul_le_mul hn hby) (by omega)
    refine wpList_append_own_at W hgd s x t ho base e i0 z size bytes ht hi hz0 hz1 hz2 hzs hsz v n xs hs hown ad m c news hx hr.1 (hr.2.2.2.2 ad rfl).2 h1 (by simp only [maxLen]; omega) hb hbase ?_
    intro v' w' ho' hg _ hat
    obtain ⟨A', c', rfl, ho2, _⟩ := ownA ho'
    exact h A' c' w' ho2 hg hat
end
#print axioms appR

section
variable {P : Program} {ops : Array Oper} {rest : List Oper} {o : Oper} {a : Act} {Q : Exit → Act → World → Prop}
def strNums (s : ByteArray) : List Int := s.data.toList.map fun b => (b.toNat : Int)
theorem bytesW_below (W : World) (e : TypeId) (s : ByteArray) : Below W.heap.size W (Lib.bytesWorld W e s) :=
  ⟨by simp [Lib.bytesWorld, World.freeze, World.alloc, World.drew, -World.alloc_eq, -World.drew_eq], by simp [Lib.bytesWorld, World.freeze, World.alloc, World.drew, -World.alloc_eq, -World.drew_eq],
    by simp [Lib.bytesWorld, World.freeze, World.alloc, World.drew, -World.alloc_eq, -World.drew_eq], by rw [Lib.bytesWorld_size]; omega, fun k hk => Lib.bytesWorld_at_old W e s k hk⟩
theorem strNums_len (s : ByteArray) : (strNums s).length = s.size := by simp [strNums]
/-- '[]byte(s)': the string's bytes in a new block. -/
theorem convB {W : World} (hgd : o.guard = none) (src dst : TypeId) (x : Operand) (ho : o.op = .convert src dst x) (e : TypeId) (hs : P.underlying src = some .string) (hd : P.underlying dst = some (.slice e)) (he : P.underlying e = some (.int .u8))
    (s : ByteArray) (hx : a.eval x = .string s) (hl : s.size ≤ maxLen)
    (h : ∀ c w', Below W.heap.size W w' → w'.heap.size = W.heap.size + 1 → Rds w' (W.heap.size + 1) 1 (some ⟨W.heap.size, 0, none⟩) s.size c ((strNums s).map (Value.int .u8)) →
      wpList P ops Q rest (a.put o.dst (.slice (some ⟨W.heap.size, 0, none⟩) s.size c)) w') : wpList P ops Q (o :: rest) a W := by
  refine wpList_plain hgd fun K hK => ?_
  unfold Oper.wp execOp
  simp only [ho, hx, Sem.run_bind, Sem.run_pure, Lib.run_convert_string_bytes W src dst e s hs hd he, Result.andThen_ok]
  refine hK _ _ (h _ _ (bytesW_below W e s) (Lib.bytesWorld_size W e s) ⟨?_, grownCap_ge _ _ _ _, grownCap_le_maxLen _ _ _ _ hl, fun h => (by cases h), fun ad had => ?_⟩)
  · simp [strNums]
  · injection had with had
    subst had
    refine ⟨Nat.lt_succ_self _, fun j u hu => ?_⟩
    have hj : j < s.size := by
      have := (List.getElem?_eq_some_iff.1 hu).1
      simpa [strNums] using this
    rw [cell_add, Lib.bytesWorld_cell W e s j hj]
    simp only [List.getElem?_map, strNums] at hu
    rw [List.getElem?_eq_getElem (by simpa using hj)] at hu
    simp at hu
    rw [← hu]
    simp [List.getD, hj]
end
#print axioms convB

/-! Whole arrays and structs, out of a block and into it. -/
def splice (cs : Array Value) (o : Nat) (vs : List Value) : Array Value := (cs.toList.take o ++ vs ++ cs.toList.drop (o + vs.length)).toArray
theorem splice_nil (cs : Array Value) (o : Nat) : splice cs o [] = cs := by simp [splice]
theorem splice_cons (cs : Array Value) (o : Nat) (v : Value) (r : List Value) (h : o < cs.size) : splice (cs.setIfInBounds o v) (o + 1) r = splice cs o (v :: r) := by
  unfold splice
  have hl : o < cs.toList.length := by simpa using h
  simp only [Array.toList_setIfInBounds, List.length_cons]
  congr 1
  rw [List.take_succ_eq_append_getElem (by simpa using hl), List.getElem_set_self, List.take_set_of_le (Nat.le_refl _), List.drop_set_of_lt (by omega)]
  simp [Nat.add_assoc, Nat.add_comm 1]
theorem splice_all (cs : Array Value) (vs : List Value) (h : cs.size = vs.length) : splice cs 0 vs = vs.toArray := by
  unfold splice
  rw [List.drop_eq_nil_of_le (by simp [h])]
  simp
theorem splice_size (cs : Array Value) (o : Nat) (vs : List Value) (h : o + vs.length ≤ cs.size) : (splice cs o vs).size = cs.size := by
  simp [splice]; omega
theorem Blk.setCells {g t : Nat} : ∀ (vs : List Value) (o : Nat) (w : World) (cs : Array Value), Blk w g t cs → o + vs.length ≤ cs.size → Blk (w.setCells g o vs) g t (splice cs o vs)
  | [], o, w, cs, h, _ => by rw [splice_nil]; exact h
  | v :: r, o, w, cs, h, hl => by
    simp only [List.length_cons] at hl
    rw [← splice_cons cs o v r (by omega)]
    exact Blk.setCells r (o + 1) _ _ (h.set o v) (by simp; omega)
theorem grown_setCells (w : World) (g o : Nat) (vs : List Value) : w.grownBy (w.setCells g o vs) (some g) := by
  induction vs generalizing w o with
  | nil => exact World.grownBy.refl w _
  | cons v r ih =>
    exact World.grownBy.trans (b := w.setCell ⟨g, o, none⟩ v) ⟨rfl, rfl, rfl, by simp [World.setCell], fun k _ hne => Below.heap_setCell w _ v k (fun e => hne (by simp [e]))⟩ (ih _ _)
section
variable {P : Program} {ops : Array Oper} {rest : List Oper} {o : Oper} {a : Act} {Q : Exit → Act → World → Prop}
theorem storeB {w : World} (hgd : o.guard = none) (ty : TypeId) (x y : Operand) (ho : o.op = .store ty x y) (g j t : Nat) (cs cells : Array Value) (hx : a.eval x = .pointer (some ⟨g, j, none⟩)) (hy : a.eval y = .agg cells)
    (hb : Blk w g t cs) (hfit : j + cells.size ≤ cs.size) (hi : (P.info? ty).map (·.size) = some cells.size) (h1 : ∀ u ∈ cells.toList, u.oneCell' = true)
    (h : ∀ w', Blk w' g t (splice cs j cells.toList) → w.grownBy w' (some g) → wpList P ops Q rest (a.put o.dst undef) w') : wpList P ops Q (o :: rest) a w := by
  refine wpList_store_mid hgd ty x y ho g j cells hx hy (fun i hi' => ⟨?_, hb.free _⟩) hi (Array.all_eq_true_iff_forall_mem.2 (fun v hv => h1 v (by simpa using hv))) (h _ (Blk.setCells _ _ _ _ hb (by simpa using hfit)) (grown_setCells _ _ _ _))
  rw [hb.cell, Array.getElem?_eq_getElem (by omega)]
  rfl
end
#print axioms storeB
end Go.Proofs.YtkndkeeleaoooaaGreat
