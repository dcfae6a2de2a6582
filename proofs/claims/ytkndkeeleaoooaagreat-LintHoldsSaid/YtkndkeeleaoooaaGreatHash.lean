/- The sum: a hash, what is written into it. -/
import Derived.Test.YtkndkeeleaoooaaGreatMixing
import Derived.Deep.RegionWith
namespace Go.Proofs.YtkndkeeleaoooaaGreat
open Go.RowKit
set_option linter.unusedVariables false
set_option linter.unusedSimpArgs false
set_option maxRecDepth 100000
set_option maxHeartbeats 1000000

theorem grown_refl (w : World) (row : Option Nat) : w.grownBy w row := ⟨rfl, rfl, rfl, Nat.le_refl _, fun _ _ _ => rfl⟩
theorem grown_trans {a b c : World} {row : Option Nat} (h : a.grownBy b row) (k : b.grownBy c row) : a.grownBy c row :=
  ⟨k.os.trans h.os, k.tape.trans h.tape, k.output.trans h.output, Nat.le_trans h.size k.size, fun i hi hn => (k.block i (Nat.lt_of_lt_of_le hi h.size) hn).trans (h.block i hi hn)⟩
theorem grown_of_below {a b : World} {row : Option Nat} (h : Below a.heap.size a b) : a.grownBy b row := ⟨h.os, h.tape, h.output, h.size, fun k hk _ => h.block k hk⟩
theorem grown_drew {a b : World} {row : Option Nat} (h : a.grownBy b row) : a.grownBy b.drew row := ⟨h.os, h.tape, h.output, h.size, h.block⟩
theorem grown_drewN {a b : World} {row : Option Nat} (h : a.grownBy b row) (n : Nat) : a.grownBy (b.drewN n) row := ⟨h.os, h.tape, h.output, h.size, h.block⟩
theorem grown_set {w : World} {g j : Nat} (u : Value) : w.grownBy (w.setCell ⟨g, j, none⟩ u) (some g) := grown_setCells w g j [u]

abbrev hC (st : V8) (A : Option Addr) (k c : Nat) (n : Int) (on : Bool) : Array Value := #[.int .u32 st.a, .int .u32 st.b, .int .u32 st.c, .int .u32 st.d, .int .u32 st.e, .int .u32 st.f, .int .u32 st.g, .int .u32 st.h, .slice A k c, .int .i64 n, .bool on]
def init8 : V8 := ⟨1779033703, 3144134277, 1013904242, 2773480762, 1359893119, 2600822924, 528734635, 1541459225⟩

theorem sha_New (w : World) :
    Calls Tryz.prog 81 #[] w fun e w' => e = .returned (.pointer (some ⟨w.heap.size, 0, none⟩)) ∧ Blk w' w.heap.size 144 (hC zero8 none 0 0 0 false) ∧ Below w.heap.size w w' ∧ w'.heap.size = w.heap.size + 1 := by
  go_enter Tryz.func81, Tryz.ntmps81
  go_wp2
  go_ret
  exact ⟨rfl, Blk.new w 144 (hC zero8 none 0 0 0 false), (Below.refl _ w).alloc (Nat.le_refl _) _, by simp⟩

theorem sha_lay (g : Nat) (st : V8) (A : Option Addr) (k c : Nat) (n : Int) (on : Bool) (w : World) (h : Blk w g 144 (hC st A k c n on)) :
    Calls Tryz.prog 89 #[.pointer (some ⟨g, 0, none⟩)] w fun e w' => e = .returned (.tuple #[]) ∧ Blk w' g 144 (hC (if on then st else init8) A k c n true) ∧ w.grownBy w' (some g) := by
  have c10 : w.cell? ⟨g, 10, none⟩ = some (.bool on) := h.cell 10
  have f10 := h.free 10
  have HB := hid h
  clear h
  cases on with
  | true =>
    go_enter Tryz.func89, Tryz.ntmps89
    go_wp2
    go_end0
    exact ⟨rfl, HB.out, grown_refl _ _⟩
  | false =>
    go_enter Tryz.func89, Tryz.ntmps89
    have h1 := HB.out.set 10 (.bool true)
    have HB1 := hid h1
    clear h1
    go_wp2_with (first | (refine storeB (by rfl) 142 _ _ (by rfl) g 0 144 (hC st A k c n true) init8.v (by rfl) (by rfl) HB1.out (by simp) (by kernel_rfl) (by simp [Value.oneCell']) ?_))
    intro w1 hk hg
    go_wp2
    go_end0
    exact ⟨rfl, hk, grown_trans (grown_set _) hg⟩

def absorb (st : V8) (l : List Int) : V8 × List Int :=
  if h : 64 ≤ l.length then absorb (mixed (l.take 64) st) (l.drop 64) else (st, l)
termination_by l.length
decreasing_by simp; omega
theorem absorb_ge (st : V8) (l : List Int) (h : 64 ≤ l.length) : absorb st l = absorb (mixed (l.take 64) st) (l.drop 64) := by
  rw [absorb, dif_pos h]
theorem absorb_lt (st : V8) (l : List Int) (h : ¬ 64 ≤ l.length) : absorb st l = (st, l) := by
  rw [absorb, dif_neg h]
theorem absorb_len (st : V8) (l : List Int) : (absorb st l).2.length < 64 := by
  rw [absorb]
  split
  · exact absorb_len _ _
  · simp; omega
termination_by l.length
decreasing_by simp; omega

structure Hs where
  st : V8
  rest : List Int
  n : Nat
  on : Bool
def Hs.start (h : Hs) : V8 := if h.on then h.st else init8
def Hs.write (h : Hs) (bs : List Int) : Hs := ⟨(absorb h.start (h.rest ++ bs)).1, (absorb h.start (h.rest ++ bs)).2, h.n + bs.length, true⟩
def Hs.new : Hs := ⟨zero8, [], 0, false⟩
/-- A hash lies here. -/
def HsAt (w : World) (g : Nat) (h : Hs) : Prop := ∃ A k c B, k = h.rest.length ∧ Blk w g 144 (hC h.st A k c h.n h.on) ∧ Rds w B 1 A k c (nums8 h.rest) ∧ B ≤ w.heap.size ∧ ∀ ad, A = some ad → ad.block ≠ g
theorem HsAt.new {w : World} {g : Nat} (h : Blk w g 144 (hC zero8 none 0 0 0 false)) : HsAt w g Hs.new := ⟨none, 0, 0, 0, rfl, h, Rds.nil _ _ _, Nat.zero_le _, nofun⟩
theorem HsAt.below {w w' : World} {g : Nat} {h : Hs} (hh : HsAt w g h) (hb : Below w.heap.size w w') : HsAt w' g h := by
  obtain ⟨A, k, c, B, e, hblk, hr, hB, hne⟩ := hh
  exact ⟨A, k, c, B, e, hblk.below hb hblk.lt, hr.below (hb.mono hB), Nat.le_trans hB hb.size, hne⟩
theorem HsAt.lt {w : World} {g : Nat} {h : Hs} (hh : HsAt w g h) : g < w.heap.size := by
  obtain ⟨A, k, c, B, e, hblk, _⟩ := hh
  exact hblk.lt

theorem nums8_take (l : List Int) (k : Nat) : nums8 (l.take k) = (nums8 l).take k := by simp [nums8, List.map_take]
theorem nums8_drop (l : List Int) (k : Nat) : nums8 (l.drop k) = (nums8 l).drop k := by simp [nums8, List.map_drop]
theorem Rds.take {w : World} {B n c : Nat} {A : Option Addr} {l : List Int} (h : Rds w B 1 A n c (nums8 l)) (k : Nat) (hk : k ≤ n) (hA : A ≠ none ∨ k = 0 ∧ c = 0) : Rds w B 1 A k c (nums8 (l.take k)) := by
  obtain ⟨h1, h2, h3, h4, h5⟩ := h
  refine ⟨?_, Nat.le_trans hk h2, h3, fun e => by rcases hA with hA | hA; exact absurd e hA; exact hA, fun ad e => ⟨(h5 ad e).1, fun j u hu => (h5 ad e).2 j u ?_⟩⟩
  · rw [nums8_take, List.length_take, h1]; omega
  · rw [nums8_take, List.getElem?_take] at hu
    split at hu
    · exact hu
    · cases hu
theorem Rds.drop {w : World} {B n c b off : Nat} {l : List Int} (h : Rds w B 1 (some ⟨b, off, none⟩) n c (nums8 l)) (k : Nat) (hk : k ≤ n) : Rds w B 1 (if c = k then some ⟨b, off, none⟩ else some ⟨b, off + k, none⟩) (n - k) (c - k) (nums8 (l.drop k)) := by
  obtain ⟨h1, h2, h3, h4, h5⟩ := h
  have hl : l.length = n := by simpa [nums8] using h1
  refine ⟨by simp [nums8, hl], by omega, by omega, (fun e => by split at e <;> cases e), fun ad e => ?_⟩
  split at e
  · obtain rfl := Option.some.inj e
    refine ⟨(h5 _ rfl).1, fun j u hu => ?_⟩
    have : j < (l.drop k).length := by
      have := (List.getElem?_eq_some_iff.1 hu).1
      simpa [nums8] using this
    rw [List.length_drop] at this
    omega
  · obtain rfl := Option.some.inj e
    refine ⟨(h5 _ rfl).1, fun j u hu => ?_⟩
    have := (h5 _ rfl).2 (k + j) u (by rw [nums8_drop, List.getElem?_drop] at hu; exact hu)
    rw [cell_add'] at this ⊢
    rw [Nat.add_assoc]
    exact this
theorem addr_add_add (a : Addr) (i j : Nat) (h : a.spot = none) : (a.add i).add j = a.add (i + j) := by
  obtain ⟨b, o, s⟩ := a
  simp at h; subst h
  simp [cell_add', Nat.add_assoc]
theorem grown_ne {w w' : World} {g B n c : Nat} {A : Option Addr} {xs : List Value} (h : Rds w B 1 A n c xs) (hg : w.grownBy w' (some g)) (hB : B ≤ w.heap.size) (hne : ∀ ad, A = some ad → ad.block ≠ g) : Rds w' B 1 A n c xs :=
  h.moved fun ad e k => hg.block _ (by rw [block_add]; exact Nat.lt_of_lt_of_le (h.2.2.2.2 ad e).1 hB) (fun e' => hne ad e (by rw [block_add] at e'; exact (Option.some.inj e').symm ▸ rfl))

def lenOf : Value → Nat
  | .slice _ n _ => n
  | _ => 0
theorem sha_Write (g : Nat) (h : Hs) (bs : List Int) (A : Option Addr) (n c B : Nat) (hn : n = bs.length) (w : World) (hh : HsAt w g h) (hr : Rds w B 1 A n c (nums8 bs)) (hB : B ≤ w.heap.size) (hsrc : ∀ ad, A = some ad → ad.block ≠ g) (hl : h.n + h.rest.length + bs.length ≤ 100000000000) :
    Calls Tryz.prog 82 #[.pointer (some ⟨g, 0, none⟩), .slice A n c] w fun e w' => e = .returned (.int .i64 n) ∧ HsAt w' g (h.write bs) ∧ w.grownBy w' (some g) := by
  subst hn
  obtain ⟨A0, k0, c0, B0, hk0, hblk, hr0, hB0, hne0⟩ := hh
  have h1 : ∀ u ∈ nums8 bs, u.oneCell' = true := ints_oneCell _ _
  have h2 : ∀ u ∈ nums8 h.rest, u.oneCell' = true := ints_oneCell _ _
  have H1 := hid h1
  have H2 := hid h2
  have HBLK := hid hblk
  have HR0 := hid hr0
  have HR := hid hr
  have HN0 := hid hne0
  have HS := hid hsrc
  have HB := hid hB
  have HB0 := hid hB0
  have HK0 := hid hk0
  clear h1 h2 hblk hr0 hr hne0 hsrc hB hB0 hk0
  go_enter Tryz.func82, Tryz.ntmps82
  go_wp2_with fail
  refine (sha_lay g h.st A0 k0 c0 h.n h.on w HBLK.out).mono ?_
  rintro e w1 ⟨rfl, hb1, hg1⟩
  rw [show (if h.on = true then h.st else init8) = h.start from rfl] at hb1
  obtain ⟨st0, hst0⟩ : ∃ st0, st0 = h.start := ⟨_, rfl⟩
  rw [← hst0] at hb1
  obtain ⟨n0, hn0⟩ : ∃ n0 : Nat, n0 = h.n := ⟨_, rfl⟩
  rw [← hn0] at hb1
  have hlt := hb1.lt
  have R0 := hid (grown_ne HR0.out hg1 HB0.out HN0.out)
  have R := hid (grown_ne HR.out hg1 HB.out HS.out)
  have c9 : w1.cell? ⟨g, 9, none⟩ = some (.int .i64 n0) := hb1.cell 9
  have c8 : w1.cell? ⟨g, 8, none⟩ = some (.slice A0 k0 c0) := hb1.cell 8
  have f9 := hb1.free 9
  have HB1 := hid hb1
  have HG1 := hid hg1
  have HST := hid hst0
  have HNN := hid hn0
  have HLT := hid hlt
  have HL := hid hl
  clear hb1 hg1 hst0 hn0 hlt hl
  have E1 : IntKind.i64.wrap ((n0 : Int) + (bs.length : Int)) = ((n0 : Int) + (bs.length : Int)) := IntWalk.i64_in _ (by have := HNN.out; have := HL.out; omega)
  have HBa := hid (HB1.out.set 9 (.int .i64 ((n0 : Int) + (bs.length : Int))))
  have HGa := hid (grown_set (w := w1) (g := g) (j := 9) (.int .i64 ((n0 : Int) + (bs.length : Int))))
  have Ra0 := hid (grown_ne R0.out HGa.out (Nat.le_trans HB0.out HG1.out.size) HN0.out)
  have Ra := hid (grown_ne R.out HGa.out (Nat.le_trans HB.out HG1.out.size) HS.out)
  have c8' : (w1.setCell ⟨g, 9, none⟩ (.int .i64 ((n0 : Int) + (bs.length : Int)))).cell? ⟨g, 8, none⟩ = some (.slice A0 k0 c0) := HBa.out.cell 8
  obtain ⟨w2, hw2⟩ : ∃ w2, w2 = w1.setCell ⟨g, 9, none⟩ (.int .i64 ((n0 : Int) + (bs.length : Int))) := ⟨_, rfl⟩
  have HSZ := hid (show w2.heap.size = w1.heap.size from by rw [hw2]; simp)
  have HBz := hid (show w1.heap.size ≤ w2.heap.size from by rw [HSZ.out]; exact Nat.le_refl _)
  rw [← hw2] at HBa HGa Ra0 Ra c8'
  have HW2 := hid hw2
  clear hw2 c8
  go_upto_region 5 with fail
  rw [show w1.setCell ⟨g, 9, none⟩ (.int .i64 ((n0 : Int) + (bs.length : Int))) = w2 from HW2.out.symm]
  clear E1 c9 f9 c8'
  have c8b : (w2.alloc (.cells #[] 5)).cell? ⟨g, 8, none⟩ = some (.slice A0 k0 c0) := (HBa.out.alloc (.cells #[] 5)).cell 8
  go_wp2_with (first | (at_builtin; refine appR (W := w2.alloc (.cells #[] 5)) (by rfl) _ _ _ (by rfl) 5 _ 1 1 Tryz.underlying53 info_u8 rfl (by omega) w2.heap.size (.slice (some ⟨w2.heap.size, 0, none⟩) 0 0) 0 [] (World.ownsRow_made w2 #[] 0 (Nat.le_refl _) (by simp [maxLen]) rfl) (by rfl) w2.heap.size A0 k0 c0 (nums8 h.rest) ((Ra0.out.more (Nat.le_trans HB0.out (Nat.le_trans HG1.out.size HBz.out))).alloc (Nat.le_refl _) _) (by rfl) H2.out (by have := HK0.out; have := HL.out; omega) (by decide) (by simp) ?_))
  intro A3 c3 w3 ho3 hg3 _
  have HA3 := hid ho3
  have HG3 := hid hg3
  have Rb := hid ((Ra.out.more (Nat.le_trans HB.out (Nat.le_trans HG1.out.size HBz.out))).alloc (Nat.le_refl _) (.cells #[] 5))
  have Rc := hid (Rb.out.moved (w' := w3) fun ad e k => HG3.out.block _ (by simp; have := (Rb.out.2.2.2.2 ad e).1; rw [block_add]; omega) (by have := (Rb.out.2.2.2.2 ad e).1; rw [block_add]; simp [Value.ownBlock]; omega))
  clear hg3 ho3 c8b
  go_wp2_with (first | (at_builtin; refine appR (W := w3) (by rfl) _ _ _ (by rfl) 5 _ 1 1 Tryz.underlying53 info_u8 rfl (by omega) w2.heap.size (.slice A3 k0 c3) k0 (nums8 h.rest) HA3.out (by rfl) w2.heap.size A bs.length c (nums8 bs) Rc.out (by rfl) H1.out (by have := HK0.out; have := HL.out; omega) (by decide) (by have := HG3.out.size; simp at this; omega) ?_))
  intro A4 c4 w4 ho4 hg4 hat4
  have hgl : g < w2.heap.size := by have := HLT.out; have := HSZ.out; omega
  have hrow : (Value.slice A3 k0 c3).ownBlock ≠ some g := fun e => by have := own_base HA3.out _ e; omega
  have HBb := hid (show Blk w4 g 144 (hC st0 A0 k0 c0 ((n0 : Int) + (bs.length : Int)) true) from by
    have q1 := (HBa.out.alloc (.cells #[] 5)).grown HG3.out (by simp [Value.ownBlock]; omega)
    exact q1.grown hg4 hrow)
  have hbl : Below w2.heap.size w2 w4 := (((Below.refl _ w2).alloc (Nat.le_refl _) (.cells #[] 5)).grown HG3.out (by simp) (by simp [Value.ownBlock])).grown hg4 (by have := HG3.out.size; simp at this; omega) (own_base HA3.out)
  have hg5 : w.grownBy w4 (some g) := grown_trans (grown_trans HG1.out HGa.out) (grown_of_below hbl)
  obtain ⟨A', c', hv, q1, q2, q3, q4⟩ := own_form ho4
  injection hv with e1 _ e2
  subst e1 e2
  have hr4 := Rds.of_own ho4
  rw [← show nums8 (h.rest ++ bs) = nums8 h.rest ++ nums8 bs from by simp [nums8]] at hr4
  have hbig : ∀ ad, A4 = some ad → w2.heap.size ≤ ad.block ∧ ad.spot = none := fun ad e => ⟨(q4 ad e).2.2.1, (q4 ad e).2.1⟩
  have hsz4 : w2.heap.size ≤ w4.heap.size := hbl.size
  obtain ⟨l0, hl0⟩ : ∃ l0, l0 = h.rest ++ bs := ⟨_, rfl⟩
  have hkk : k0 + bs.length = l0.length := by rw [hl0, List.length_append, HK0.out]
  rw [← hl0] at hr4
  rw [hkk] at hr4
  obtain ⟨kk, hk2⟩ : ∃ kk, kk = l0.length := ⟨_, rfl⟩
  rw [hkk, ← hk2]
  rw [← hk2] at hr4
  have K1 := hid hr4
  have K2 := hid hbig
  have K3 := hid hg5
  have K4 := hid hk2
  have K5 := hid hl0
  have K6 := hid hgl
  have K7 := hid hsz4
  have K8 := hid (show kk ≤ 100000000000 from by rw [hk2, hl0, List.length_append]; have := HL.out; omega)
  clear hr4 hbig hg5 hk2 hl0 hgl hsz4 hkk ho4 hg4 hat4 q1 q2 q3 q4 hbl hrow HG3 HA3 Rb Rc Ra Ra0 HGa HBa
  obtain ⟨BB, hBB⟩ : ∃ BB, BB = w4.heap.size := ⟨_, rfl⟩
  rw [← hBB] at K1 K7
  have K9 := hid (show BB ≤ w4.heap.size from by omega)
  clear hBB
  go_wp2
  go_loopw [5] (fun v wr => ∃ (A : Option Addr) (k c : Nat) (l : List Int) (st : V8), v = .slice A k c ∧ k = l.length ∧ k ≤ 100000000000 ∧ Blk wr g 144 (hC st A0 k0 c0 ((n0 : Int) + (bs.length : Int)) true) ∧ Rds wr BB 1 A k c (nums8 l) ∧ (∀ ad, A = some ad → w2.heap.size ≤ ad.block ∧ ad.spot = none) ∧ absorb st l = absorb st0 l0 ∧ w.grownBy wr (some g) ∧ BB ≤ wr.heap.size) (fun v _ => lenOf v)
  case atStart => exact ⟨_, _, _, _, _, rfl, K4.out, K8.out, HBb.out, K1.out, K2.out, rfl, K3.out, K9.out⟩
  case round =>
    clear K1 K2 K3 K4 K8 K9 HBb
    obtain ⟨A, k, c, l, st, rfl, hk, hk8, hb, hr, hbig, hab, hg, hBB⟩ := hrel
    have G1 := hid hb
    have G2 := hid hr
    have G3 := hid hbig
    have G4 := hid hab
    have G5 := hid hg
    have G6 := hid hBB
    have G7 := hid hk
    by_cases hlt : 64 ≤ k
    · have x0 : wr.cell? ⟨g, 0, none⟩ = some (.int .u32 st.a) := hb.cell 0
      have x1 : wr.cell? ⟨g, 1, none⟩ = some (.int .u32 st.b) := hb.cell 1
      have x2 : wr.cell? ⟨g, 2, none⟩ = some (.int .u32 st.c) := hb.cell 2
      have x3 : wr.cell? ⟨g, 3, none⟩ = some (.int .u32 st.d) := hb.cell 3
      have x4 : wr.cell? ⟨g, 4, none⟩ = some (.int .u32 st.e) := hb.cell 4
      have x5 : wr.cell? ⟨g, 5, none⟩ = some (.int .u32 st.f) := hb.cell 5
      have x6 : wr.cell? ⟨g, 6, none⟩ = some (.int .u32 st.g) := hb.cell 6
      have x7 : wr.cell? ⟨g, 7, none⟩ = some (.int .u32 st.h) := hb.cell 7
      have hc : k ≤ c := hr.2.1
      have hc64 : 64 ≤ c := Nat.le_trans hlt hc
      clear hb hr hbig hab hg hBB hk
      have p1 : (64 : Int) ≤ (k : Int) := by omega
      have p2 : (64 : Int) ≤ (c : Int) := by omega
      go_wp2
      have Q1 := hid (show Rds wr.drew BB 1 A 64 c (nums8 (l.take 64)) from G2.out.take 64 hlt (.inl (fun e => by have := (G2.out.2.2.2.1 e).1; omega)))
      have Q2 := hid (show (l.take 64).length = 64 from by rw [List.length_take]; have := G7.out; omega)
      go_region_with (go_at_call 90; refine (sha_mix st (l.take 64) A c BB wr.drew Q1.out G6.out Q2.out).mono ?_; rintro e w5 ⟨rfl, hb5⟩; have HB5 := (G1.out.drew).below hb5 G1.out.lt; have y0 : w5.cell? ⟨g, 0, none⟩ = some (.int .u32 st.a) := HB5.cell 0; have z0 := HB5.free 0; have y1 : w5.cell? ⟨g, 1, none⟩ = some (.int .u32 st.b) := HB5.cell 1; have z1 := HB5.free 1; have y2 : w5.cell? ⟨g, 2, none⟩ = some (.int .u32 st.c) := HB5.cell 2; have z2 := HB5.free 2; have y3 : w5.cell? ⟨g, 3, none⟩ = some (.int .u32 st.d) := HB5.cell 3; have z3 := HB5.free 3; have y4 : w5.cell? ⟨g, 4, none⟩ = some (.int .u32 st.e) := HB5.cell 4; have z4 := HB5.free 4; have y5 : w5.cell? ⟨g, 5, none⟩ = some (.int .u32 st.f) := HB5.cell 5; have z5 := HB5.free 5; have y6 : w5.cell? ⟨g, 6, none⟩ = some (.int .u32 st.g) := HB5.cell 6; have z6 := HB5.free 6; have y7 : w5.cell? ⟨g, 7, none⟩ = some (.int .u32 st.h) := HB5.cell 7; have z7 := HB5.free 7; have G8 := hid HB5; clear HB5)
      obtain ⟨M, hM⟩ : ∃ M, M = mixed (l.take 64) st := ⟨_, rfl⟩
      rw [← hM]
      have hk6 : Blk (w5.setCells g 0 M.v.toList) g 144 (hC M A0 k0 c0 ((n0 : Int) + (bs.length : Int)) true) := by
        have := Blk.setCells M.v.toList 0 w5 _ G8.out (by simp)
        exact this
      have hg6 := grown_setCells w5 g 0 M.v.toList
      change Exit.then _ _ _ _ (w5.setCells g 0 M.v.toList)
      have HM := hid hM
      have HK6 := hid hk6
      have HG6 := hid hg6
      have HB5 := hid hb5
      clear hM hk6 hg6 hb5 x0 x1 x2 x3 x4 x5 x6 x7 y0 z0 y1 z1 y2 z2 y3 z3 y4 z4 y5 z5 y6 z6 y7 z7 p1 p2
      generalize w5.setCells g 0 M.v.toList = w6 at *
      have p1 : (64 : Int) ≤ (k : Int) := by omega
      have p2 : (64 : Int) ≤ (c : Int) := by omega
      have p3 : (k : Int) ≤ (c : Int) := by omega
      have p4 : ((k : Int) - 64).toNat = k - 64 := by omega
      have p5 : ((c : Int) - 64).toNat = c - 64 := by omega
      obtain ⟨b, off, rfl, hb, hby⟩ := G2.out.byte (k := 0) (by omega)
      have HBY := hid hby
      clear hby
      go_wp2
      have gne : ∀ ad : Addr, (some ⟨b, off, none⟩ : Option Addr) = some ad → ad.block ≠ g := fun ad e => by have := (G3.out ad e).1; have := K6.out; omega
      have hb5 : Below wr.heap.size wr w5 := ⟨HB5.out.os, HB5.out.tape, HB5.out.output, HB5.out.size, HB5.out.block⟩
      have S1 : Rds w5 BB 1 (some ⟨b, off, none⟩) k c (nums8 l) := G2.out.below (hb5.mono G6.out)
      have S2 : Rds w6 BB 1 (some ⟨b, off, none⟩) k c (nums8 l) := grown_ne S1 HG6.out (Nat.le_trans G6.out HB5.out.size) gne
      have S3 := Rds.drop S2 64 hlt
      have S4 : w.grownBy w6 (some g) := grown_trans (grown_trans G5.out (grown_of_below hb5)) HG6.out
      have S5 : BB ≤ w6.heap.size := Nat.le_trans G6.out (Nat.le_trans HB5.out.size HG6.out.size)
      have S6 : absorb M (l.drop 64) = absorb st0 l0 := by rw [← G4.out, absorb_ge st l (by have := G7.out; omega), HM.out]
      go_roundw
      case rel =>
        refine ⟨_, _, _, l.drop 64, M, rfl, by rw [List.length_drop, G7.out], by omega, HK6.out, S3, fun ad e => ?_, S6, S4, S5⟩
        split at e
        · exact G3.out ad e
        · obtain rfl := Option.some.inj e
          exact ⟨(G3.out _ rfl).1, rfl⟩
      case measure => show k - 64 < k; omega
    · have hab2 : absorb st0 l0 = (st, l) := by rw [← hab, absorb_lt st l (by omega)]
      have f8 := hb.free 8
      have c8 : wr.cell? ⟨g, 8, none⟩ = some (.slice A0 k0 c0) := hb.cell 8
      have p1 : ¬ ((64 : Int) ≤ (k : Int)) := by omega
      have p2 : (k : Int) < 64 := by omega
      have HAB := hid hab2
      clear hb hr hbig hab hg hBB hk hab2
      obtain ⟨wo, rfl⟩ : ∃ wo : World, wo = wr := ⟨_, rfl⟩
      go_wp2
      go_ret
      have hk6 := G1.out.set 8 (.slice A k c)
      have hg6 := grown_set (w := wo) (g := g) (j := 8) (.slice A k c)
      refine ⟨rfl, ?_, grown_trans G5.out hg6⟩
      have hw : h.write bs = ⟨st, l, h.n + bs.length, true⟩ := by unfold Hs.write; rw [← HST.out, ← K5.out, HAB.out]
      rw [hw]
      refine ⟨A, k, c, BB, G7.out, ?_, grown_ne G2.out hg6 G6.out (fun ad e => by have := (G3.out ad e).1; have := K6.out; omega), by have := hg6.size; have := G6.out; omega, fun ad e => by have := (G3.out ad e).1; have := K6.out; omega⟩
      rw [← HNN.out]
      simpa using hk6
