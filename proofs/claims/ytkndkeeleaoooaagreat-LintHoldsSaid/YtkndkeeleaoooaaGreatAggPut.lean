/- The bytes of what is known longest. -/
import Derived.Test.YtkndkeeleaoooaaGreatAgg
namespace Go.Proofs.YtkndkeeleaoooaaGreat
open Go.RowKit
set_option linter.unusedVariables false
set_option linter.unusedSimpArgs false
set_option maxRecDepth 100000
set_option maxHeartbeats 1000000

def sgs (l : List Int) : List Int := l.flatMap fun n => varint (zig n)
def lgB (q : Qy) : List Int :=
  varint (1073741824 : Int).toNat ++ if q.agg = 1 then [] else if q.agg = 6 then varint (lgT q).length ++ sgs (lgT q) else if q.agg = 7 then varint (zig 1073741824) ++ varint (zig 1073741824) else varint (zig (lgA q.agg))
theorem sgs_snoc (l : List Int) (k : Nat) (h : k < l.length) : sgs (l.take (k + 1)) = sgs (l.take k) ++ varint (zig l[k]) := by
  rw [sgs, List.take_succ_eq_append_getElem h, List.flatMap_append]
  simp [sgs]
theorem sgs_len (l : List Int) (h : ∀ v ∈ l, -9223372036854775808 ≤ v ∧ v ≤ 9223372036854775807) : (sgs l).length ≤ l.length * 10 := by
  induction l with
  | nil => simp [sgs]
  | cons x l ih =>
    have h1 := varint_len (zig x) (zig_lt x (h x (by simp)).1 (h x (by simp)).2)
    have h2 := ih (fun y hy => h y (by simp [hy]))
    rw [sgs, List.flatMap_cons, List.length_append, List.length_cons]
    rw [sgs] at h2
    omega
theorem lgT_len (q : Qy) (hq : QOk q) : (lgT q).length ≤ 8 := by
  unfold lgT
  split
  · rw [List.length_replicate]; unfold QOk at hq; omega
  · simp
theorem lgT_mem (q : Qy) : ∀ v ∈ lgT q, v = 1099511627776 := by
  intro v hv
  unfold lgT at hv
  split at hv
  · exact (List.mem_replicate.1 hv).2
  · cases hv
theorem lgA_bd (g : Int) : 0 ≤ lgA g ∧ lgA g ≤ 4398046511104 := by
  unfold lgA
  split
  · omega
  · split <;> omega
theorem agg_Put (base gp : Nat) (q : Qy) (hq : QOk q) (T : Option Addr) (n c bt : Nat) (hn : n = (lgT q).length) (bs : List Int) (w : World) (hp : PenAt w base gp bs) (ho : w.ownsRow bt 3 1 (.slice T n c) n (nums (lgT q))) (hl : bs.length ≤ 700000000000) :
    Calls Tryz.prog 40 #[.pointer (some ⟨gp, 0, none⟩), q.v, aggV 1073741824 (lgA q.agg) T n c (lgZ q.agg)] w fun e w' => e = .returned (.bool true) ∧ PenAt w' base gp (bs ++ lgB q) ∧ PK gp w w' := by
  obtain ⟨A, hA⟩ : ∃ A, A = lgA q.agg := ⟨_, rfl⟩
  obtain ⟨Z, hZ⟩ : ∃ Z, Z = lgZ q.agg := ⟨_, rfl⟩
  rw [← hA, ← hZ]
  have HA := hid hA
  have HZ := hid hZ
  have HN := hid hn
  have HQ := hid hq
  have HL := hid hl
  have HN8 := hid (show n ≤ 8 from hn ▸ lgT_len q hq)
  have hlt := hp.lt
  have P1 := hid ((hp.alloc (.cells (qC' q) 23)).alloc (.cells (aggC 1073741824 A T n c Z) 89))
  have O1 := hid ((ho.alloc (.cells (qC' q) 23)).alloc (.cells (aggC 1073741824 A T n c Z) 89))
  have K1 := hid (((PK.refl gp w).alloc hlt (.cells (qC' q) 23)).alloc (by simp; omega) (.cells (aggC 1073741824 A T n c Z) 89))
  have B1 := hid ((Blk.new w 23 (qC' q)).alloc (.cells (aggC 1073741824 A T n c Z) 89))
  have A1 := hid (Blk.new' (w.alloc (.cells (qC' q) 23)) 89 (aggC 1073741824 A T n c Z) (g := w.heap.size + 1) (by simp))
  clear hq hn hA hZ hp ho hlt hl
  go_enter Tryz.func40, Tryz.ntmps40
  go_upto_region 1 with fail
  change Code.wp _ _ _ _ ((w.alloc (.cells (qC' q) 23)).alloc (.cells (aggC 1073741824 A T n c Z) 89))
  generalize (w.alloc (.cells (qC' q) 23)).alloc (.cells (aggC 1073741824 A T n c Z) 89) = w1 at *
  have b0 : w1.cell? ⟨w.heap.size, 0, none⟩ = some (.int .i64 q.kind) := B1.out.cell 0
  have b1 : w1.cell? ⟨w.heap.size, 1, none⟩ = some (.int .i64 q.size) := B1.out.cell 1
  have b2 : w1.cell? ⟨w.heap.size, 2, none⟩ = some (.int .i64 q.slide) := B1.out.cell 2
  have b3 : w1.cell? ⟨w.heap.size, 3, none⟩ = some (.int .i64 q.late) := B1.out.cell 3
  have b4 : w1.cell? ⟨w.heap.size, 4, none⟩ = some (.int .i64 q.agg) := B1.out.cell 4
  have b5 : w1.cell? ⟨w.heap.size, 5, none⟩ = some (.int .i64 q.k) := B1.out.cell 5
  have a0 : w1.cell? ⟨w.heap.size + 1, 0, none⟩ = some (.int .i64 1073741824) := A1.out.cell 0
  have a1 : w1.cell? ⟨w.heap.size + 1, 1, none⟩ = some (.int .i64 A) := A1.out.cell 1
  have a2 : w1.cell? ⟨w.heap.size + 1, 2, none⟩ = some (.slice T n c) := A1.out.cell 2
  have a3 : w1.cell? ⟨w.heap.size + 1, 3, none⟩ = some Z := A1.out.cell 3
  go_wp2_with fail
  have key := agg_Right q HQ.out T n c w1.heap.size HN.out w1 (Rds.of_own O1.out) (Nat.le_refl _)
  rw [← HA.out, ← HZ.out] at key
  refine key.mono ?_
  clear key
  rintro e w2 ⟨rfl, hb2⟩
  have P2 := hid (P1.out.below hb2)
  have O2 := hid (own_below O1.out hb2 (own_lt O1.out))
  have K2 := hid (K1.out.step P1.out.lt hb2)
  have B2 := hid (B1.out.below hb2 B1.out.lt)
  have A2 := hid (A1.out.below hb2 A1.out.lt)
  clear hb2 b0 b1 b2 b3 b4 b5 a0 a1 a2 a3 P1 O1 K1 B1 A1
  have b0 : w2.cell? ⟨w.heap.size, 0, none⟩ = some (.int .i64 q.kind) := B2.out.cell 0
  have b1 : w2.cell? ⟨w.heap.size, 1, none⟩ = some (.int .i64 q.size) := B2.out.cell 1
  have b2 : w2.cell? ⟨w.heap.size, 2, none⟩ = some (.int .i64 q.slide) := B2.out.cell 2
  have b3 : w2.cell? ⟨w.heap.size, 3, none⟩ = some (.int .i64 q.late) := B2.out.cell 3
  have b4 : w2.cell? ⟨w.heap.size, 4, none⟩ = some (.int .i64 q.agg) := B2.out.cell 4
  have b5 : w2.cell? ⟨w.heap.size, 5, none⟩ = some (.int .i64 q.k) := B2.out.cell 5
  have a0 : w2.cell? ⟨w.heap.size + 1, 0, none⟩ = some (.int .i64 1073741824) := A2.out.cell 0
  have a1 : w2.cell? ⟨w.heap.size + 1, 1, none⟩ = some (.int .i64 A) := A2.out.cell 1
  have a2 : w2.cell? ⟨w.heap.size + 1, 2, none⟩ = some (.slice T n c) := A2.out.cell 2
  have a3 : w2.cell? ⟨w.heap.size + 1, 3, none⟩ = some Z := A2.out.cell 3
  go_wp2_with fail
  refine (pen_Number base gp 1073741824 bs w2 P2.out (by omega) (by omega) (by have := HL.out; omega)).mono ?_
  rintro e w3 ⟨rfl, hp3, pk3⟩
  have hf := pk3.far P2.out
  have P3 := hid hp3
  have O3 := hid (own_keep O2.out hf (by decide))
  have K3 := hid (K2.out.trans pk3)
  have B3 := hid (B2.out.keep hf (by decide))
  have A3 := hid (A2.out.keep hf (by decide))
  have HL3 := hid (show (bs ++ varint (1073741824 : Int).toNat).length ≤ 700000000010 from by have := HL.out; have := varint_len (1073741824 : Int).toNat (by decide); rw [List.length_append]; omega)
  clear hf hp3 pk3 b0 b1 b2 b3 b4 b5 a0 a1 a2 a3 P2 O2 K2 B2 A2
  have b0 : w3.cell? ⟨w.heap.size, 0, none⟩ = some (.int .i64 q.kind) := B3.out.cell 0
  have b1 : w3.cell? ⟨w.heap.size, 1, none⟩ = some (.int .i64 q.size) := B3.out.cell 1
  have b2 : w3.cell? ⟨w.heap.size, 2, none⟩ = some (.int .i64 q.slide) := B3.out.cell 2
  have b3 : w3.cell? ⟨w.heap.size, 3, none⟩ = some (.int .i64 q.late) := B3.out.cell 3
  have b4 : w3.cell? ⟨w.heap.size, 4, none⟩ = some (.int .i64 q.agg) := B3.out.cell 4
  have b5 : w3.cell? ⟨w.heap.size, 5, none⟩ = some (.int .i64 q.k) := B3.out.cell 5
  have a0 : w3.cell? ⟨w.heap.size + 1, 0, none⟩ = some (.int .i64 1073741824) := A3.out.cell 0
  have a1 : w3.cell? ⟨w.heap.size + 1, 1, none⟩ = some (.int .i64 A) := A3.out.cell 1
  have a2 : w3.cell? ⟨w.heap.size + 1, 2, none⟩ = some (.slice T n c) := A3.out.cell 2
  have a3 : w3.cell? ⟨w.heap.size + 1, 3, none⟩ = some Z := A3.out.cell 3
  cases c1 : (q.agg == 1)
  · cases c6 : (q.agg == 6)
    · cases c7 : (q.agg == 7)
      · have HB := hid (show lgB q = varint (1073741824 : Int).toNat ++ varint (zig A) from by unfold lgB; rw [if_neg (by simpa using c1), if_neg (by simpa using c6), if_neg (by simpa using c7), HA.out])
        go_wp2_with fail
        refine (pen_Signed base gp A _ w3 P3.out (by have := lgA_bd q.agg; rw [HA.out]; omega) (by have := lgA_bd q.agg; rw [HA.out]; omega) (by have := HL3.out; omega)).mono ?_
        rintro e w4 ⟨rfl, hp4, pk4⟩
        have K4 := hid (K3.out.trans pk4)
        have P4 := hid (show PenAt w4 base gp (bs ++ lgB q) from by rw [HB.out, ← List.append_assoc]; exact hp4)
        clear hp4 pk4
        go_wp2
        go_ret
        exact ⟨rfl, P4.out, K4.out⟩
      · have HB := hid (show lgB q = varint (1073741824 : Int).toNat ++ (varint (zig 1073741824) ++ varint (zig 1073741824)) from by unfold lgB; rw [if_neg (by simpa using c1), if_neg (by simpa using c6), if_pos (by simpa using c7)])
        have e : Z = zBig := by rw [HZ.out]; unfold lgZ; rw [if_pos (by simpa using c7)]
        subst e
        go_wp2_with fail
        refine (gPut_big base gp _ w3 P3.out (by have := HL3.out; omega)).mono ?_
        rintro e w4 ⟨rfl, hp4, pk4⟩
        have K4 := hid (K3.out.trans pk4)
        have P4 := hid (show PenAt w4 base gp (bs ++ lgB q) from by rw [HB.out, ← List.append_assoc, ← List.append_assoc]; exact hp4)
        clear hp4 pk4
        go_wp2
        go_ret
        exact ⟨rfl, P4.out, K4.out⟩
    · have HB := hid (show lgB q = varint (1073741824 : Int).toNat ++ (varint n ++ sgs (lgT q)) from by unfold lgB; rw [if_neg (by simpa using c1), if_pos (by simpa using c6), HN.out])
      have hn8 := HN8.out
      go_wp2_with fail
      refine (pen_Number base gp n _ w3 P3.out (by omega) (by omega) (by have := HL3.out; omega)).mono ?_
      rintro e w4 ⟨rfl, hp4, pk4⟩
      have hf := pk4.far P3.out
      have P4 := hid (show PenAt w4 base gp (bs ++ varint (1073741824 : Int).toNat ++ varint n) from by simpa using hp4)
      have O4 := hid (own_keep O3.out hf (by decide))
      have K4 := hid (K3.out.trans pk4)
      have A4 := hid (A3.out.keep hf (by decide))
      have HL4 := hid (show (bs ++ varint (1073741824 : Int).toNat ++ varint n).length ≤ 700000000020 from by have := HL3.out; have := varint_len n (by omega); rw [List.length_append]; omega)
      clear hf hp4 pk4 b0 b1 b2 b3 b4 b5 a0 a1 a2 a3 P3 O3 K3 B3 A3
      have a2 : w4.cell? ⟨w.heap.size + 1, 2, none⟩ = some (.slice T n c) := A4.out.cell 2
      obtain ⟨ds, hds⟩ : ∃ ds, ds = bs ++ varint (1073741824 : Int).toNat ++ varint n := ⟨_, rfl⟩
      rw [← hds] at P4 HL4
      have HD := hid hds.symm
      clear hds
      go_wp2
      go_loopw [8, 39] (fun v i wr => ∃ k : Nat, k ≤ n ∧ i = .int .i64 k ∧ PenAt wr base gp (ds ++ sgs ((lgT q).take k)) ∧ wr.ownsRow bt 3 1 (.slice T n c) n (nums (lgT q)) ∧ PK gp w wr) (fun _ i _ => n - (intOf i).toNat)
      case atStart => exact ⟨0, Nat.zero_le _, rfl, by simpa [sgs] using P4.out, O4.out, K4.out⟩
      case round =>
        obtain ⟨k, hk, rfl, hpr, hor, hkr⟩ := hrel
        by_cases hlt : k < n
        · have hkl : k < (lgT q).length := by have := HN.out; omega
          have p0 : (0 : Int) ≤ (k : Int) := by omega
          have p1 : (k : Int) < (n : Int) := by omega
          obtain ⟨g, hT, _, _, _, hcs⟩ := own_at hor (by omega)
          have c0 : wr.cell? ⟨g, k, none⟩ = some (.int .i64 1099511627776) := hcs k _ (by simp [List.getElem?_eq_getElem hkl, lgT_mem q _ (List.getElem_mem hkl)])
          have HE := hid (show ds ++ sgs ((lgT q).take (k + 1)) = ds ++ sgs ((lgT q).take k) ++ varint (zig 1099511627776) from by rw [sgs_snoc _ _ hkl, lgT_mem q _ (List.getElem_mem hkl), List.append_assoc])
          have HLK := hid (show (ds ++ sgs ((lgT q).take k)).length ≤ 700000000200 from by
            have h1 := sgs_len ((lgT q).take k) (fun v hv => by rw [lgT_mem q v (List.mem_of_mem_take hv)]; omega)
            have h2 : ((lgT q).take k).length ≤ 8 := by rw [List.length_take]; omega
            have := HL4.out
            rw [List.length_append]
            omega)
          subst hT
          have PR := hid hpr
          have OR := hid hor
          have KR := hid hkr
          clear hpr hor hkr hcs P4 O4 K4
          generalize ds ++ sgs ((lgT q).take k) = es at *
          go_wp2_with fail
          refine (pen_Signed base gp 1099511627776 es wr PR.out (by omega) (by omega) (by have := HLK.out; omega)).mono ?_
          rintro e w5 ⟨rfl, hp5, pk5⟩
          have hf := pk5.far PR.out
          have O5 := hid (own_keep OR.out hf (by decide))
          have K5 := hid (KR.out.trans pk5)
          have P5 := hid hp5
          clear hf hp5 pk5 c0
          go_wp2
          go_roundw
          case rel => exact ⟨k + 1, by omega, by go_num, by rw [HE.out]; exact P5.out, O5.out, K5.out⟩
          case measure => simp [intOf]; omega
        · have hkn : k = n := by omega
          subst hkn
          have n1 : decide (k < k) = false := decide_eq_false (by omega)
          have HE := hid (show ds ++ sgs ((lgT q).take k) = ds ++ sgs (lgT q) from by rw [List.take_of_length_le (by have := HN.out; omega)])
          have PR := hid (show PenAt wr base gp (ds ++ sgs (lgT q)) from by rw [← HE.out]; exact hpr)
          have KR := hid hkr
          clear hpr hor hkr P4 O4 K4
          go_wp2
          go_ret
          exact ⟨rfl, by rw [HB.out, ← List.append_assoc, ← List.append_assoc, HD.out]; exact PR.out, KR.out⟩
  · have HB := hid (show lgB q = varint (1073741824 : Int).toNat from by unfold lgB; rw [if_pos (by simpa using c1), List.append_nil])
    go_wp2
    go_ret
    exact ⟨rfl, by rw [HB.out]; exact P3.out, K3.out⟩
