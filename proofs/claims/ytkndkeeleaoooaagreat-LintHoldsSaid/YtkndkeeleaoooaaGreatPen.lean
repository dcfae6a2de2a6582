/- The pen: what the functions that write numbers and texts do, as lists of bytes. -/
import Derived.Test.YtkndkeeleaoooaaGreatProg
import Derived.Test.YtkndkeeleaoooaaGreatBase
import Derived.Laws.BitsAllLaws
import Derived.Laws.BitsLemmas
namespace Go.Proofs.YtkndkeeleaoooaaGreat
open Go.RowKit
set_option linter.unusedVariables false
set_option maxRecDepth 100000
set_option maxHeartbeats 2000000

abbrev nums8 (l : List Int) : List Value := l.map (Value.int .u8)
/-- A pen in block gp that has written the bytes bs; all that it owns lies from base on. -/
def PenAt (w : World) (base gp : Nat) (bs : List Int) : Prop :=
  base ≤ gp ∧ ∃ v, Blk w gp 55 #[v] ∧ w.ownsRow base 5 1 v bs.length (nums8 bs)
theorem PenAt.open {w : World} {base gp : Nat} {bs : List Int} (h : PenAt w base gp bs) : ∃ v, w.cell? ⟨gp, 0, none⟩ = some v ∧ w.frozen? ⟨gp, 0, none⟩ = false ∧ w.ownsRow base 5 1 v bs.length (nums8 bs) ∧ gp < w.heap.size ∧ v.ownBlock ≠ some gp ∧ Blk w gp 55 #[v] := by
  obtain ⟨_, v, hb, ho⟩ := h
  exact ⟨v, hb.cell 0, hb.free 0, ho, hb.lt, own_ne ho hb (by decide), hb⟩
theorem PenAt.drewN {w : World} {base gp : Nat} {bs : List Int} (h : PenAt w base gp bs) (k : Nat) : PenAt (w.drewN k) base gp bs := h
theorem PenAt.alloc {w : World} {base gp : Nat} {bs : List Int} (h : PenAt w base gp bs) (o : Obj) : PenAt (w.alloc o) base gp bs := by
  obtain ⟨h0, v, hb, ho⟩ := h
  exact ⟨h0, v, hb.alloc _, ho.alloc _⟩
theorem PenAt.below {w w' : World} {base gp : Nat} {bs : List Int} (h : PenAt w base gp bs) (hb : Below w.heap.size w w') : PenAt w' base gp bs := by
  obtain ⟨h0, v, hk, ho⟩ := h
  exact ⟨h0, v, hk.below hb hk.lt, own_below ho hb (own_lt ho)⟩
theorem PenAt.low {w : World} {base base' gp : Nat} {bs : List Int} (h : PenAt w base gp bs) (hb : base' ≤ base) : PenAt w base' gp bs := by
  obtain ⟨h0, v, hk, ho⟩ := h
  exact ⟨Nat.le_trans hb h0, v, hk, own_low ho hb⟩
/-- Behind an append onto the pen's row, and the store of the new row. -/
theorem PenAt.stored {w w' : World} {base gp n : Nat} {v u : Value} {bs ds : List Int} (h0 : base ≤ gp) (hb : Blk w gp 55 #[v]) (ho : w.ownsRow base 5 1 v bs.length (nums8 bs)) (hg : w.grownBy w' v.ownBlock)
    (ho' : w'.ownsRow base 5 1 u n (nums8 ds)) (hn : n = ds.length) : PenAt (w'.setCell ⟨gp, 0, none⟩ u) base gp ds := by
  have hb' := hb.grown hg (own_ne ho hb (by decide))
  subst hn
  exact ⟨h0, u, hb'.set 0 u, own_set ho' (own_ne ho' hb' (by decide)) _⟩

/-- The block of a pen's row. -/
def PenRow (w : World) (gp k : Nat) : Prop := ∃ v, Blk w gp 55 #[v] ∧ v.ownBlock = some k
/-- What a pen's writing leaves: all old blocks but its own two are as they were; its row is the elder one, or a new one. -/
structure PK (gp : Nat) (w w' : World) : Prop where
  os : w'.os = w.os
  tape : w'.tape = w.tape
  output : w'.output = w.output
  size : w.heap.size ≤ w'.heap.size
  block : ∀ k, k < w.heap.size → k ≠ gp → ¬ PenRow w gp k → w'.heap[k]? = w.heap[k]?
  row : ∀ k, PenRow w' gp k → PenRow w gp k ∨ w.heap.size ≤ k
theorem PK.refl (gp : Nat) (w : World) : PK gp w w := ⟨rfl, rfl, rfl, Nat.le_refl _, fun _ _ _ _ => rfl, fun _ h => .inl h⟩
theorem PK.trans {gp : Nat} {a b c : World} (h : PK gp a b) (k : PK gp b c) : PK gp a c :=
  ⟨k.os.trans h.os, k.tape.trans h.tape, k.output.trans h.output, Nat.le_trans h.size k.size,
    fun i hi hg hr => (k.block i (Nat.lt_of_lt_of_le hi h.size) hg (fun hb => by rcases h.row i hb with h1 | h1; exact hr h1; omega)).trans (h.block i hi hg hr),
    fun i hi => by
      rcases k.row i hi with h1 | h1
      · exact h.row i h1
      · exact .inr (Nat.le_trans h.size h1)⟩
theorem penRow_of {w : World} {gp k : Nat} {v : Value} (hb : Blk w gp 55 #[v]) (h : PenRow w gp k) : v.ownBlock = some k := by
  obtain ⟨v', hb', hk⟩ := h
  unfold Blk at hb hb'
  rw [hb] at hb'
  injection hb' with e
  injection e with e _
  have : v = v' := by simpa using e
  rw [this]; exact hk
theorem hat_some {v : Value} {g n c m : Nat} (h : v.ownBlock = some g ∨ m ≤ g) : (Value.slice (some ⟨g, 0, none⟩) n c).ownBlock = v.ownBlock ∨ ∀ k, (Value.slice (some ⟨g, 0, none⟩) n c).ownBlock = some k → m ≤ k := by
  rcases h with h | h
  · exact .inl h.symm
  · exact .inr (fun k hk => by simp [Value.ownBlock] at hk; omega)
theorem hat_any {u v : Value} {m : Nat} (h : u.ownBlock = v.ownBlock ∨ u.ownBlock = some m) : u.ownBlock = v.ownBlock ∨ ∀ k, u.ownBlock = some k → m ≤ k := by
  rcases h with h | h
  · exact .inl h
  · exact .inr (fun k hk => by rw [h] at hk; injection hk with hk; omega)
theorem PK.stored {w a w' : World} {base gp : Nat} {v u : Value} {bs : List Int} (h : PK gp a w) (hb : Blk w gp 55 #[v]) (ho : w.ownsRow base 5 1 v bs.length (nums8 bs)) (hg : w.grownBy w' v.ownBlock)
    (hat : u.ownBlock = v.ownBlock ∨ ∀ k, u.ownBlock = some k → w.heap.size ≤ k) : PK gp a (w'.setCell ⟨gp, 0, none⟩ u) := by
  have hlt := hb.lt
  have hb' := (hb.grown hg (own_ne ho hb (by decide))).set 0 u
  refine h.trans ⟨hg.os, hg.tape, hg.output, by simpa [World.setCell] using hg.size, fun k hk hne hr => ?_, fun k hk => ?_⟩
  · rw [Below.heap_setCell _ _ _ _ (by simpa using hne)]
    exact hg.block k hk (fun e => hr ⟨v, hb, e.symm⟩)
  · have hu := penRow_of hb' hk
    rcases hat with h1 | h1
    · exact .inl ⟨v, hb, h1 ▸ hu⟩
    · exact .inr (h1 k hu)
theorem PK.below {base gp : Nat} {w w' : World} {bs : List Int} (h : PK gp w w') (hp : PenAt w base gp bs) : Below base w w' := by
  obtain ⟨h0, v, hb, ho⟩ := hp
  have hlt := hb.lt
  exact ⟨h.os, h.tape, h.output, h.size, fun k hk => h.block k (by omega) (by omega) (fun hr => by have := own_base ho k (penRow_of hb hr); omega)⟩
theorem PK.far {base gp : Nat} {w w' : World} {bs : List Int} (h : PK gp w w') (hp : PenAt w base gp bs) : Far [55, 5] w w' := by
  obtain ⟨h0, v, hb, ho⟩ := hp
  intro k cs t fr hk ht
  refine h.block k (lt_of_block hk) (fun e => ?_) (fun hr => ?_)
  · subst e
    unfold Blk at hb
    rw [hb] at hk
    injection hk with hk
    injection hk with _ hk
    exact ht (hk ▸ by decide)
  · have e := penRow_of hb hr
    rcases ho.2 with ⟨rfl, _⟩ | ⟨g, cap, cur, rfl, _, hh, _⟩
    · cases e
    · have e2 : g = k := by simpa [Value.ownBlock] using e
      subst e2
      rw [hh] at hk
      injection hk with hk
      injection hk with _ hk
      exact ht (hk ▸ by decide)
theorem PK.alloc {gp : Nat} {a w : World} (h : PK gp a w) (hg : gp < w.heap.size) (o : Obj) : PK gp a (w.alloc o) :=
  h.trans ⟨rfl, rfl, rfl, by simp, fun k hk _ _ => Below.heap_alloc w o k hk, fun k hk => by
    obtain ⟨v, hb, e⟩ := hk
    exact .inl ⟨v, (Below.heap_alloc w o gp hg).symm.trans hb, e⟩⟩
theorem PK.step {gp : Nat} {a b c : World} (h : PK gp a b) (hg : gp < b.heap.size) (k : Below b.heap.size b c) : PK gp a c :=
  h.trans ⟨k.os, k.tape, k.output, k.size, fun i hi _ _ => k.block i hi, fun i hi => by
    obtain ⟨v, hb, e⟩ := hi
    exact .inl ⟨v, (k.block gp hg).symm.trans hb, e⟩⟩
theorem PenAt.row_lt {w : World} {base gp k : Nat} {bs : List Int} (h : PenAt w base gp bs) (hr : PenRow w gp k) : k < w.heap.size := by
  obtain ⟨h0, v, hb, ho⟩ := h
  exact own_lt ho k (penRow_of hb hr)
theorem PenAt.lt {w : World} {base gp : Nat} {bs : List Int} (h : PenAt w base gp bs) : gp < w.heap.size := by
  obtain ⟨h0, v, hb, ho⟩ := h
  exact hb.lt
theorem PenRow.step {w w' : World} {gp k : Nat} (h : PenRow w' gp k) (hg : gp < w.heap.size) (hb : Below w.heap.size w w') : PenRow w gp k := by
  obtain ⟨v, hk, e⟩ := h
  exact ⟨v, (hb.block gp hg).symm.trans hk, e⟩

/-- A number's bytes, seven bits each. -/
def varint (x : Nat) : List Int := if h : x < 128 then [(x : Int)] else ((x : Int) % 128 + 128) :: varint (x / 128)
termination_by x
decreasing_by omega
theorem varint_lo {x : Nat} (h : x < 128) : varint x = [(x : Int)] := by rw [varint, dif_pos h]
theorem varint_hi {x : Nat} (h : ¬ x < 128) : varint x = ((x : Int) % 128 + 128) :: varint (x / 128) := by rw [varint, dif_neg h]
theorem varint_len_aux (k : Nat) : ∀ x, x < 128 ^ (k + 1) → (varint x).length ≤ k + 1 := by
  induction k with
  | zero => intro x h; rw [varint_lo (by omega)]; simp
  | succ k ih =>
    intro x h
    by_cases h1 : x < 128
    · rw [varint_lo h1]; simp
    · rw [varint_hi h1]
      have := ih (x / 128) (by rw [Nat.pow_succ] at h; exact Nat.div_lt_of_lt_mul (by omega))
      simp only [List.length_cons]; omega
theorem varint_len (x : Nat) (h : x < 18446744073709551616) : (varint x).length ≤ 10 := varint_len_aux 9 x (Nat.lt_of_lt_of_le h (by decide))
theorem varint_pos (x : Nat) : 1 ≤ (varint x).length := by
  by_cases h : x < 128
  · rw [varint_lo h]; simp
  · rw [varint_hi h]; simp

theorem info_u8 : (Tryz.prog.info? 5).map (fun i => (i.zero, i.size, i.bytes)) = some (some (.int .u8 0), 1, 1) := by kernel_rfl

theorem or_more (k : Nat) : bits BinOp.or IntKind.u8 ((k : Int) % 256) 128 = (k : Int) % 128 + 128 := by
  have h : ∀ n : Fin 256, bits BinOp.or IntKind.u8 ((n.val : Nat) : Int) 128 = ((n.val % 128 + 128 : Nat) : Int) := by decide +kernel
  have h2 := h ⟨k % 256, Nat.mod_lt _ (by omega)⟩
  simp only [Int.natCast_emod, Int.natCast_add] at h2
  rw [show ((k : Int) % 256) = ((k : Int) % ((256 : Nat) : Int)) from rfl, h2]
  omega

theorem pen_word (base gp : Nat) (x : Nat) (bs : List Int) (w : World) (hp : PenAt w base gp bs) (hx : x < 18446744073709551616) (hl : bs.length ≤ 900000000000) :
    Calls Tryz.prog 37 #[.pointer (some ⟨gp, 0, none⟩), .int .u64 x] w fun e w' => e = .returned (.tuple #[]) ∧ PenAt w' base gp (bs ++ varint x) ∧ PK gp w w' := by
  go_enter Tryz.func37, Tryz.ntmps37
  go_wp2
  go_loopw [1] (fun v wr => ∃ (k : Nat) (ds : List Int), v = .int .u64 k ∧ k ≤ x ∧ PenAt wr base gp ds ∧ Hid (ds ++ varint k = bs ++ varint x) ∧ ds.length + (varint k).length ≤ 10 + bs.length ∧ PK gp w wr) (fun v _ => (intOf v).toNat)
  case atStart => exact ⟨x, bs, rfl, Nat.le_refl _, hp, rfl, by have := varint_len x hx; omega, PK.refl _ _⟩
  case round =>
    obtain ⟨k, ds, rfl, hk, hpr, hds, hln, hbr⟩ := hrel
    obtain ⟨v, hc, hf, ho, hlt, hne, hblk⟩ := hpr.open
    have hgb : base ≤ gp := hpr.1
    have HNE := hid hne
    have HX := hid hx
    have HL := hid hl
    have HLN := hid hln
    clear hne hx hl hln
    have hl2 : ds.length ≤ 950000000000 := by have := HLN.out; have := HL.out; omega
    have HR := hid hbr
    clear hbr
    by_cases h128 : k < 128
    · have h1 : (k : Int) < 128 := by omega
      go_wp2_with (first | (at_builtin; refine app1c (W := wr) (by rfl) _ _ _ (by rfl) 5 _ 1 Tryz.underlying53 info_u8 rfl base v ds.length (nums8 ds) ho (by rfl) (.int .u8 k) (by rfl) rfl (by omega) (by decide) (by omega) ?_))
      intro g cap w1 ho1 hg1 hat1 hlt1
      have hb1 := hblk.grown hg1 HNE.out
      have hc1 := hb1.cell 0
      have hf1 := hb1.free 0
      go_wp2
      go_end0
      have hd : bs ++ varint x = ds ++ [(k : Int)] := by rw [← hds.out, varint_lo h128]
      rw [hd]
      exact ⟨rfl, PenAt.stored hgb hblk ho hg1 (by simpa using ho1) (by simp), HR.out.stored hblk ho hg1 (hat_some hat1)⟩
    · have h1 : ¬ (k : Int) < 128 := by omega
      have hb := or_more k
      go_wp2_with (first | (at_builtin; refine app1c (W := wr) (by rfl) _ _ _ (by rfl) 5 _ 1 Tryz.underlying53 info_u8 rfl base v ds.length (nums8 ds) ho (by rfl) (.int .u8 ((k : Int) % 128 + 128)) (by rfl) rfl (by omega) (by decide) (by omega) ?_))
      intro g cap w1 ho1 hg1 hat1 hlt1
      have hb1 := hblk.grown hg1 HNE.out
      have hc1 := hb1.cell 0
      have hf1 := hb1.free 0
      clear hb
      go_wp2
      go_roundw
      case rel =>
        have hv := varint_hi h128
        refine ⟨k / 128, ds ++ [(k : Int) % 128 + 128], by go_num, by omega, PenAt.stored hgb hblk ho hg1 (by simpa using ho1) (by simp), ?_, ?_, HR.out.stored hblk ho hg1 (hat_some hat1)⟩
        · show _ = _
          rw [← hds.out, hv]; simp
        · have := HLN.out; rw [hv] at this; simp at this ⊢; omega
      case measure => simp [intOf]; omega

theorem word_of_int (n : Int) (h0 : 0 ≤ n) (h1 : n ≤ 9223372036854775807) : IntKind.u64.wrap n = n := by
  rw [IntKind.wrap_u64]
  omega

/-- A number is written: its bytes. -/
theorem pen_Number (base gp : Nat) (n : Int) (bs : List Int) (w : World) (hp : PenAt w base gp bs) (h0 : 0 ≤ n) (h1 : n ≤ 9223372036854775807) (hl : bs.length ≤ 900000000000) :
    Calls Tryz.prog 24 #[.pointer (some ⟨gp, 0, none⟩), .int .i64 n] w fun e w' => e = .returned (.bool true) ∧ PenAt w' base gp (bs ++ varint n.toNat) ∧ PK gp w w' := by
  have H1 := hid h1
  have hu := word_of_int n h0 h1
  clear h1
  go_enter Tryz.func24, Tryz.ntmps24
  go_wp2_with (first | (go_at_call 37; rw [show (n : Int) = ((n.toNat : Nat) : Int) from by omega]; refine (pen_word base gp n.toNat bs _ hp (by have := H1.out; omega) hl).mono ?_; rintro e w' ⟨rfl, hp1, hb1⟩))
  go_ret
  exact ⟨rfl, hp1, hb1⟩

/-- .. a negative one isn't. -/
theorem pen_Number_no (gp : Nat) (n : Int) (w : World) (h0 : n < 0) :
    Calls Tryz.prog 24 #[.pointer (some ⟨gp, 0, none⟩), .int .i64 n] w fun e w' => e = .returned (.bool false) ∧ w = w' := by
  go_enter Tryz.func24, Tryz.ntmps24
  go_wp2
  go_ret
  exact ⟨rfl, rfl⟩

theorem u64_not (a : Nat) (ha : a < 18446744073709551616) : bits .xor .u64 IntKind.u64.max (a : Int) = 18446744073709551615 - (a : Int) := by
  show IntKind.u64.wrap ((BitVec.ofInt 64 IntKind.u64.max ^^^ BitVec.ofInt 64 (a : Int)).toNat : Int) = _
  have h1 : BitVec.ofInt 64 IntKind.u64.max = BitVec.allOnes 64 := by decide
  have h2 : (BitVec.ofInt 64 (a : Int)).toNat = a := by rw [BitVec.ofInt_natCast, BitVec.toNat_ofNat]; exact Nat.mod_eq_of_lt ha
  rw [h1, BitVec.allOnes_xor, BitVec.toNat_not, h2, IntKind.wrap_u64]
  omega

/-- A signed number as a word. -/
def zig (n : Int) : Nat := if n < 0 then (-(2 * n) - 1).toNat else (2 * n).toNat
theorem zig_pos (n : Int) (h0 : 0 ≤ n) (h1 : n ≤ 9223372036854775807) : IntKind.u64.wrap (IntKind.u64.wrap n * 2) = ((zig n : Nat) : Int) := by
  unfold zig
  rw [if_neg (by omega), IntKind.wrap_u64, IntKind.wrap_u64]
  omega
theorem zig_neg (n : Int) (h0 : -9223372036854775808 ≤ n) (h1 : n < 0) : bits BinOp.xor IntKind.u64 IntKind.u64.max (IntKind.u64.wrap (IntKind.u64.wrap n * 2)) = ((zig n : Nat) : Int) := by
  have h : IntKind.u64.wrap (IntKind.u64.wrap n * 2) = (((2 * n) % 18446744073709551616).toNat : Int) := by rw [IntKind.wrap_u64, IntKind.wrap_u64]; omega
  rw [h, u64_not _ (by omega)]
  unfold zig
  rw [if_pos h1]
  omega
theorem zig_lt (n : Int) (h0 : -9223372036854775808 ≤ n) (h1 : n ≤ 9223372036854775807) : zig n < 18446744073709551616 := by
  unfold zig
  split <;> omega

theorem pen_Signed (base gp : Nat) (n : Int) (bs : List Int) (w : World) (hp : PenAt w base gp bs) (h0 : -9223372036854775808 ≤ n) (h1 : n ≤ 9223372036854775807) (hl : bs.length ≤ 900000000000) :
    Calls Tryz.prog 23 #[.pointer (some ⟨gp, 0, none⟩), .int .i64 n] w fun e w' => e = .returned (.tuple #[]) ∧ PenAt w' base gp (bs ++ varint (zig n)) ∧ PK gp w w' := by
  have HZ := hid (zig_lt n h0 h1)
  by_cases hn : n < 0
  · have hz := zig_neg n h0 hn
    clear h0 h1
    go_enter Tryz.func23, Tryz.ntmps23
    go_wp2_with fail
    refine (pen_word base gp (zig n) bs _ hp HZ.out hl).mono ?_; rintro e w' ⟨rfl, hp1, hb1⟩
    go_wp2
    go_end0
    exact ⟨rfl, hp1, hb1⟩
  · have hz := zig_pos n (by omega) h1
    clear h0 h1
    go_enter Tryz.func23, Tryz.ntmps23
    go_wp2_with (first | (go_at_call 37; refine (pen_word base gp (zig n) bs _ hp HZ.out hl).mono ?_; rintro e w' ⟨rfl, hp1, hb1⟩))
    go_end0
    exact ⟨rfl, hp1, hb1⟩

/-- Bytes are written as they are. -/
theorem pen_Fixed (base gp : Nat) (bs ds : List Int) (A : Option Addr) (n c B : Nat) (hn : n = ds.length) (w : World) (hp : PenAt w base gp bs) (hr : Rds w B 1 A n c (nums8 ds)) (hl : bs.length + ds.length ≤ 900000000000) :
    Calls Tryz.prog 58 #[.pointer (some ⟨gp, 0, none⟩), .slice A n c] w fun e w' => e = .returned (.tuple #[]) ∧ PenAt w' base gp (bs ++ ds) ∧ PK gp w w' := by
  subst hn
  obtain ⟨v, hc, hf, ho, hlt, hne, hblk⟩ := hp.open
  have hgb : base ≤ gp := hp.1
  have HNE := hid hne
  have h1 : ∀ u ∈ nums8 ds, u.oneCell' = true := ints_oneCell _ _
  clear hne
  go_enter Tryz.func58, Tryz.ntmps58
  go_wp2_with (first | (at_builtin; refine appR (W := w) (by rfl) _ _ _ (by rfl) 5 _ 1 1 Tryz.underlying53 info_u8 rfl (by omega) base v bs.length (nums8 bs) ho (by rfl) B A ds.length c (nums8 ds) hr (by rfl) h1 (by omega) (by decide) (by omega) ?_))
  intro A' c' w1 ho1 hg1 hat1
  have hb1 := hblk.grown hg1 HNE.out
  have hc1 := hb1.cell 0
  have hf1 := hb1.free 0
  go_wp2
  go_end0
  exact ⟨rfl, PenAt.stored hgb hblk ho hg1 (by simpa using ho1) (by simp), (PK.refl gp w).stored hblk ho hg1 (hat_any hat1)⟩

/-- A text: its length, its bytes. -/
theorem pen_Text (base gp : Nat) (bs ds : List Int) (A : Option Addr) (n c : Nat) (hn : n = ds.length) (w : World) (hp : PenAt w base gp bs) (B : Nat) (hr : Rds w B 1 A n c (nums8 ds)) (hB : B ≤ w.heap.size) (hsrc : ∀ ad, A = some ad → ad.block ≠ gp ∧ ¬ PenRow w gp ad.block) (hd : ds.length ≤ 4096) (hl : bs.length ≤ 800000000000) :
    Calls Tryz.prog 39 #[.pointer (some ⟨gp, 0, none⟩), .slice A n c] w fun e w' => e = .returned (.bool true) ∧ PenAt w' base gp (bs ++ varint n ++ ds) ∧ PK gp w w' := by
  subst hn
  have hu := word_of_int (ds.length : Int) (by omega) (by omega)
  have h1 : ∀ u ∈ nums8 ds, u.oneCell' = true := ints_oneCell _ _
  have hvl := varint_len ds.length (by omega)
  go_enter Tryz.func39, Tryz.ntmps39
  go_wp2_with fail
  refine (pen_word base gp ds.length bs _ hp (by omega) (by omega)).mono ?_
  rintro e w1 ⟨rfl, hp1, hb1⟩
  obtain ⟨v, hc, hf, ho, hlt, hne, hblk⟩ := hp1.open
  have hr1 : Rds w1 B 1 A ds.length c (nums8 ds) := hr.moved fun ad e k => by rw [block_add]; exact hb1.block _ (Nat.lt_of_lt_of_le (hr.2.2.2.2 ad e).1 hB) (hsrc ad e).1 (hsrc ad e).2
  have hgb : base ≤ gp := hp.1
  have HNE := hid hne
  have HB1 := hid hb1
  clear hne hb1
  go_wp2_with (first | (at_builtin; refine appR (W := w1) (by rfl) _ _ _ (by rfl) 5 _ 1 1 Tryz.underlying53 info_u8 rfl (by omega) base v (bs ++ varint ds.length).length (nums8 (bs ++ varint ds.length)) ho (by rfl) B A ds.length c (nums8 ds) hr1 (by rfl) h1 (by simp; omega) (by decide) (by omega) ?_))
  intro A' c' w2 ho1 hg1 hat1
  have hb2 := hblk.grown hg1 HNE.out
  have hc1 := hb2.cell 0
  have hf1 := hb2.free 0
  go_wp2
  go_ret
  exact ⟨rfl, PenAt.stored hgb hblk ho hg1 (by simpa using ho1) (by simp; omega), HB1.out.stored hblk ho hg1 (hat_any hat1)⟩

/-- bytes.Clone: the same bytes, in a row of the call's own. -/
theorem bytes_Clone (ds : List Int) (A : Option Addr) (n c B : Nat) (hn : n = ds.length) (w : World) (hr : Rds w B 1 A n c (nums8 ds)) (hB : B ≤ w.heap.size) (hl : ds.length ≤ 900000000000) :
    Calls Tryz.prog 38 #[.slice A n c] w fun e w' => ∃ A' c', e = .returned (.slice A' n c') ∧ w'.ownsRow w.heap.size 5 1 (.slice A' n c') n (nums8 ds) ∧ Below w.heap.size w w' := by
  subst hn
  have h1 : ∀ u ∈ nums8 ds, u.oneCell' = true := ints_oneCell _ _
  rcases A with _ | ad
  · obtain ⟨h0, rfl⟩ := hr.2.2.2.1 rfl
    have hd : ds = [] := List.eq_nil_of_length_eq_zero h0
    subst hd
    have q := fun (W : World) => Lib.run_eql_slice_nil (P := Tryz.prog) W 53 5 none 0 0 0 0 Tryz.underlying53
    go_enter Tryz.func38, Tryz.ntmps38
    go_wp2
    go_ret
    exact ⟨_, _, rfl, World.ownsRow_nil _ _ _ _, Below.refl _ _⟩
  · have q := fun (W : World) => Lib.run_eql_slice_nil (P := Tryz.prog) W 53 5 (some ad) ds.length c 0 0 Tryz.underlying53
    go_enter Tryz.func38, Tryz.ntmps38
    go_wp2_with (first | (at_builtin; refine appR (W := w.alloc (.cells #[] 5)) (by rfl) _ _ _ (by rfl) 5 _ 1 1 Tryz.underlying53 info_u8 rfl (by omega) w.heap.size (.slice (some ⟨w.heap.size, 0, none⟩) 0 0) 0 [] (World.ownsRow_made w #[] 0 (Nat.le_refl _) (by simp [maxLen]) rfl) (by rfl) w.heap.size (some ad) ds.length c (nums8 ds) ((hr.more hB).alloc (Nat.le_refl _) _) (by rfl) h1 (by omega) (by decide) (by simp) ?_))
    intro A' c' w1 ho1 hg1 _
    go_wp2
    go_ret
    exact ⟨_, _, rfl, ho1, ((Below.refl _ w).alloc (Nat.le_refl _) _).grown hg1 (by simp) (by simp [Value.ownBlock])⟩

/-- The bytes that were written, in a row of the call's own. -/
theorem pen_Bytes (base gp : Nat) (bs : List Int) (w : World) (hp : PenAt w base gp bs) (hl : bs.length ≤ 900000000000) :
    Calls Tryz.prog 25 #[.pointer (some ⟨gp, 0, none⟩)] w fun e w' => ∃ A' c', e = .returned (.slice A' bs.length c') ∧ w'.ownsRow w.heap.size 5 1 (.slice A' bs.length c') bs.length (nums8 bs) ∧ Below w.heap.size w w' := by
  obtain ⟨v, hc, hf, ho, hlt, hne, hblk⟩ := hp.open
  obtain ⟨A, c, rfl, ho, hr⟩ := ownA ho
  clear hne
  go_enter Tryz.func25, Tryz.ntmps25
  go_wp2_with fail
  refine (bytes_Clone bs A _ c _ rfl w hr (Nat.le_refl _) hl).mono ?_
  rintro e w1 ⟨A', c', rfl, ho1, hb1⟩
  go_wp2
  go_ret
  exact ⟨_, _, rfl, ho1, hb1⟩
