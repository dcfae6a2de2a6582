/- A record, sealed, and its size in blocks. -/
import Derived.Test.YtkndkeeleaoooaaGreatSeal
import Derived.Test.YtkndkeeleaoooaaGreatZeros
namespace Go.Proofs.YtkndkeeleaoooaaGreat
open Go.RowKit
set_option linter.unusedVariables false
set_option linter.unusedSimpArgs false
set_option maxRecDepth 100000
set_option maxHeartbeats 1600000

section
variable {P : Program}
theorem results_tmp_row {fn : Func} {s p : Tmp} {ty : TypeId} (h : fn.results = #[.tmp s, .cell p ty]) (tmps : Array Value) (w : World) (g : Nat) (t : TypeId) (cs : Array Value) (fr : Nat × Nat) (d : TypeDesc) (u : Value)
    (hs : tmps.getD s undef = u) (hp : tmps.getD p undef = .pointer (some ⟨g, 0, none⟩)) (hg : w.heap[g]? = some (.cells cs t fr))
    (hu : P.underlying ty = some d) (hd : (match d with | .struct _ | .array _ _ => true | _ => false) = true) (hi : (P.info? ty).map (·.size) = some cs.size) :
    (results fn tmps).run P w = .ok (.tuple #[u, .agg cs]) w := by
  have hp' : tmps[p]?.getD undef = .pointer (some ⟨g, 0, none⟩) := by simpa using hp
  have hs' : tmps[s]?.getD undef = u := by simpa using hs
  simp [results, h, hp', hs', asAddr, run_loadVar_row w g t ty cs fr d hg hu hd hi]
theorem wpAnyH_one {md : Region.Mode} {ops : Array Oper} {Q : Exit → Act → World → Prop} {S : World → Prop} {i fuel : Nat} {listed : Array Bool} {a : Act} {w : World} (hr : Region.ready md ops listed = [i])
    (h : wpOp P ops Q i (fun a' w' => S w' ∧ wpAnyH P md ops Q S fuel (listed.setIfInBounds i true) a' w') a w) : wpAnyH P md ops Q S (fuel + 1) listed a w :=
  wpAnyH_all hr (by simp) (fun j hj => by rw [List.mem_singleton] at hj; subst hj; exact h)
theorem wp_appN_own {o : Oper} {a : Act} {w : World} {K : Act → World → Prop} {Q : Exit → Act → World → Prop} (s x : Operand) (t ti : TypeId) (ho : o.op = .call { callee := .builtin .append, args := #[s, x], argTypes := #[t, ti] })
    (e : TypeId) {k : IntKind} (ht : P.underlying t = some (.slice e)) (hti : P.underlying ti = some (.int k)) (hinfo : (P.info? e).map (fun i => (i.zero, i.size, i.bytes)) = some (some (.int .u8 0), 1, 1))
    (base : Nat) (v : Value) (n : Nat) (xs : List Value) (hown : w.ownsRow base e 1 v n xs) (m : Nat) (hm : n + m ≤ 1000000000000) (hbase : base ≤ w.heap.size) (hs : a.eval s = v) (hx : a.eval x = .int .i64 m)
    (h : ∀ v' w', w'.ownsRow base e 1 v' (n + m) (xs ++ List.replicate m (.int .u8 0)) → w.grownBy w' v.ownBlock → K (a.put o.dst v') w') : o.wp P a w K Q := by
  obtain ⟨v', w', hr, h2, h3⟩ := run_noughts_own (P := P) w t ti o.type e ht hti hinfo base v n xs hown m hm hbase
  unfold Oper.wp execOp
  simp only [ho, resolve, invoke, builtin, Sem.run_bind, Sem.run_pure, Result.andThen_ok, List.map_toArray, List.map_cons, List.map_nil, hs, hx, hr]
  exact h v' w' h2 h3
theorem wp_fill_tail {o : Oper} {a : Act} {w : World} {K : Act → World → Prop} {Q : Exit → Act → World → Prop} (v : Value) (x : Operand) (ho : o.op = .assign x) (hx : a.eval x = v) (h : K (a.put o.dst v) w) : o.wp P a w K Q := by
  unfold Oper.wp execOp
  simp only [ho, hx, Sem.run_pure]
  exact h
end

/-- How many bytes a record takes that is sealed, ahead of the noughts. -/
def sealedN (seq : Int) (l : List It) : Nat := (varint (bodyL seq l).length ++ bodyL seq l).length + 32
def sealedB (seq : Int) (l : List It) : Nat := (sealedN seq l + 127) / 128
theorem bodyL_len (seq : Int) (l : List It) (h0 : 0 ≤ seq) (h2 : seq ≤ 1099511627776) (hl : l.length ≤ 64) (hg : ∀ x ∈ l, ItOk x) : (bodyL seq l).length ≤ 4096 := by
  have h1 := flat_le l hg
  have h3 := varint_len l.length (by omega)
  have h4 := varint_len (1 : Int).toNat (by decide)
  have h5 := varint_len seq.toNat (by omega)
  rw [bodyL, itsBytes, List.length_append, List.length_append, List.length_append, List.length_append, List.length_nil]
  omega

theorem record_Seal (hd : List Int) (hh : hd.length = 32) (seq : Int) (l : List It) (A : Option Addr) (n c B : Nat) (hn : n = l.length) (w : World) (hr : Rds w B 4 A n c (itsC l)) (hB : B ≤ w.heap.size) (hl : l.length ≤ 64) (hgood : ∀ x ∈ l, ItOk x ∧ x.kind = 1) (h1 : 1 ≤ seq) (h2 : seq ≤ 1099511627776) :
    Calls Tryz.prog 44 #[.slice none 0 0, .agg (u8s hd), .agg (rC seq A n c)] w fun e w' => ∃ A' c' cs, e = .returned (.tuple #[.slice A' (sealedB seq l * 128) c', .agg cs]) ∧ (cs.size = 32 ∧ ∀ u ∈ cs.toList, u.oneCell' = true) ∧ Below w.heap.size w w' := by
  subst hn
  have HG := hid hgood
  have HH := hid hh
  have B1 := hid (((Blk.new w 62 (u8s hd)).alloc (.cells (rC seq A l.length c) 64)).alloc (.cells (u8s zeros32) 62))
  have B2 := hid (show Blk (((w.alloc (.cells (u8s hd) 62)).alloc (.cells (rC seq A l.length c) 64)).alloc (.cells (u8s zeros32) 62)) (w.heap.size + 1) 64 (rC seq A l.length c) from (by simpa using Blk.new (w.alloc (.cells (u8s hd) 62)) 64 (rC seq A l.length c) : Blk ((w.alloc (.cells (u8s hd) 62)).alloc (.cells (rC seq A l.length c) 64)) (w.heap.size + 1) 64 (rC seq A l.length c)).alloc _)
  have B3 := hid (show Blk (((w.alloc (.cells (u8s hd) 62)).alloc (.cells (rC seq A l.length c) 64)).alloc (.cells (u8s zeros32) 62)) (w.heap.size + 2) 62 (u8s zeros32) from (by simpa using Blk.new ((w.alloc (.cells (u8s hd) 62)).alloc (.cells (rC seq A l.length c) 64)) 62 (u8s zeros32)))
  have R1 := hid (((hr.alloc hB (.cells (u8s hd) 62)).alloc (by simp; omega) (.cells (rC seq A l.length c) 64)).alloc (by simp; omega) (.cells (u8s zeros32) 62))
  have Q1 := hid ((((Below.refl _ w).alloc (Nat.le_refl _) (.cells (u8s hd) 62)).alloc (by simp) (.cells (rC seq A l.length c) 64)).alloc (by simp; omega) (.cells (u8s zeros32) 62))
  have S1 := hid (show (((w.alloc (.cells (u8s hd) 62)).alloc (.cells (rC seq A l.length c) 64)).alloc (.cells (u8s zeros32) 62)).heap.size = w.heap.size + 3 from by simp)
  have HBB := hid hB
  have HI := hid (show (Tryz.prog.info? 64).map (·.size) = some (rC seq A l.length c).size from by kernel_rfl)
  clear hgood hr hB hh
  go_enter Tryz.func44, Tryz.ntmps44
  go_upto_region 1 with fail
  change Code.wp _ _ _ _ (((w.alloc (.cells (u8s hd) 62)).alloc (.cells (rC seq A l.length c) 64)).alloc (.cells (u8s zeros32) 62))
  generalize ((w.alloc (.cells (u8s hd) 62)).alloc (.cells (rC seq A l.length c) 64)).alloc (.cells (u8s zeros32) 62) = w1 at *
  go_wp2_with (first | (refine wpList_load_row (w := w1) (by rfl) 64 _ (by rfl) (w.heap.size + 1) (by rfl) 64 (rC seq A l.length c) (0, 0) _ B2.out Tryz.underlying64 rfl HI.out ?_))
  refine (record_Right seq l A l.length c B rfl w1 R1.out (by have := HBB.out; have := S1.out; omega) hl (fun x hx => (HG.out x hx).1) h1 h2).mono ?_
  rintro e w2 ⟨rfl, hb2⟩
  have L1 := hid (show w.heap.size + 3 ≤ w1.heap.size from by have := S1.out; omega)
  have Q2 := hid (Q1.out.trans (hb2.mono Q1.out.size))
  have R2 := hid (R1.out.below (hb2.mono (by have := HBB.out; have := S1.out; omega)))
  have A2 := hid (B1.out.below hb2 B1.out.lt)
  have C2 := hid (B2.out.below hb2 B2.out.lt)
  have D2 := hid (B3.out.below hb2 B3.out.lt)
  have L2 := hid (show w.heap.size + 3 ≤ w2.heap.size from Nat.le_trans L1.out hb2.size)
  clear hb2 Q1 R1 B1 B2 B3 S1
  go_wp2_with (first | (refine wpList_load_row (w := w2) (by rfl) 64 _ (by rfl) (w.heap.size + 1) (by rfl) 64 (rC seq A l.length c) (0, 0) _ C2.out Tryz.underlying64 rfl HI.out ?_))
  refine (record_Body seq l A l.length c B rfl w2 R2.out (by have := HBB.out; have := L2.out; omega) hl HG.out h1 h2).mono ?_
  rintro e w3 ⟨A3, m3, c3, hm3, rfl, ho3, hb3⟩
  obtain ⟨bl, hbl⟩ : ∃ bl, bl = bodyL seq l := ⟨_, rfl⟩
  rw [← hbl] at ho3 hm3
  subst hm3
  have HN := hid (show sealedB seq l = ((varint bl.length ++ bl).length + 32 + 127) / 128 from by rw [hbl]; rfl)
  have HL := hid (show bl.length ≤ 4096 from by rw [hbl]; exact bodyL_len seq l (by omega) h2 hl (fun x hx => (HG.out x hx).1))
  have O3 := hid ho3
  have Q3 := hid (Q2.out.trans (hb3.mono Q2.out.size))
  have AB3 := hid (A2.out.below hb3 A2.out.lt)
  have D3 := hid (D2.out.below hb3 D2.out.lt)
  have L3 := hid (show w.heap.size + 3 ≤ w3.heap.size from Nat.le_trans L2.out hb3.size)
  have RB3 := hid (Rds.of_own ho3)
  clear hb3 ho3 hbl Q2 R2 A2 C2 D2 L2 HG HI HBB
  have HSZ := hid (show (Tryz.prog.info? 62).map (·.size) = some (u8s hd).size from by rw [show (u8s hd).size = 32 from by simp [u8s, nums8, HH.out]]; kernel_rfl)
  go_wp2_with (first | (refine wpList_load_row (w := w3) (by rfl) 62 _ (by rfl) w.heap.size (by rfl) 62 (u8s hd) (0, 0) _ AB3.out Tryz.underlying62 rfl HSZ.out ?_))
  refine (record_Head hd HH.out bl A3 bl.length c3 w3.heap.size rfl w3 RB3.out (Nat.le_refl _) (by have := HL.out; omega)).mono ?_
  rintro e w4 ⟨rfl, hb4⟩
  obtain ⟨H1, hH1⟩ : ∃ H1, H1 = headL hd bl := ⟨_, rfl⟩
  rw [← hH1]
  have HL1 := hid (show H1.length = 32 from by rw [hH1]; exact sumL_len _)
  have hlt4 : w3.heap.size ≤ w4.heap.size := hb4.size
  have L4 := hid (show w.heap.size + 3 ≤ w4.heap.size from Nat.le_trans L3.out hlt4)
  have O4 := hid ((own_below O3.out hb4 (own_lt O3.out)).alloc (.cells (u8s zeros32) 62))
  have Q4 := hid (Q3.out.trans (hb4.mono Q3.out.size))
  have Q4a := hid (Q4.out.alloc Q4.out.size (.cells (u8s zeros32) 62))
  have D4 := hid ((D3.out.below hb4 D3.out.lt).alloc (.cells (u8s zeros32) 62))
  have N4 := hid (Blk.new w4 62 (u8s zeros32))
  have HL0 := hid (show H1.length = 32 from HL1.out)
  have FB := hid (show ∀ k, (Value.slice A3 bl.length c3).ownBlock = some k → k < w4.heap.size from fun k hk => Nat.lt_of_lt_of_le (own_lt O3.out k hk) hlt4)
  clear hb4 hH1 hlt4 O3 Q3 AB3 D3 RB3 HSZ Q4
  obtain ⟨g9, hg9⟩ : ∃ g9 : Nat, g9 = w4.heap.size := ⟨_, rfl⟩
  rw [← hg9] at N4 L4 FB
  have HG9 := hid hg9
  clear hg9
  obtain ⟨V, hV⟩ : ∃ V, V = u8s H1 := ⟨_, rfl⟩
  rw [← hV]
  have HSV := hid (show V.size = 32 from by rw [hV]; simp [u8s, nums8, HL1.out])
  have HV1 := hid (show ∀ u ∈ V.toList, u.oneCell' = true from by rw [hV]; simpa using ints_oneCell .u8 H1)
  have HIV := hid (show (Tryz.prog.info? 62).map (·.size) = some V.size from by rw [HSV.out]; kernel_rfl)
  have HVE := hid hV
  clear hV
  go_wp2_with (first | (refine storeB (w := w4.alloc (.cells (u8s zeros32) 62)) (by rfl) 62 _ _ (by rfl) w4.heap.size 0 62 (u8s zeros32) V (by rfl) (by rfl) (by rw [← HG9.out]; exact N4.out) (by rw [HSV.out]; simp [u8s, nums8, zeros32]) HIV.out HV1.out ?_))
  intro w5 hk5 hg5
  rw [splice_all _ _ (by rw [Array.length_toList, HSV.out]; simp [u8s, nums8, zeros32])] at hk5
  rw [← HG9.out] at hk5 hg5 ⊢
  have hL4 := L4.out
  have O5 := hid (O4.out.kept hg5 (.inr (fun e => by have := FB.out _ e; omega)))
  have Q5 := hid (Q4a.out.grown hg5 (Q4a.out.size) (fun k e => by have := Option.some.inj e; omega))
  have D5 := hid (D4.out.grown hg5 (fun e => by have := Option.some.inj e; omega))
  have N5 := hid hk5
  have L5 := hid (show g9 < w5.heap.size from hk5.lt)
  clear hk5 hg5 hL4 O4 Q4a D4 N4 HG9 FB
  have HIB := hid (show (Tryz.prog.info? 62).map (·.size) = some V.size from HIV.out)
  go_wp2_with (first | (refine wpList_load_row (w := w5) (by rfl) 62 _ (by rfl) g9 (by rfl) 62 V (0, 0) _ N5.out Tryz.underlying62 rfl HIB.out ?_))
  rw [HVE.out]
  refine (record_tag H1 HL1.out [] none 0 0 0 rfl w5 (Rds.nil w5 0 1) (Nat.zero_le _) (by simp)).mono ?_
  rintro e w6 ⟨rfl, hb6⟩
  rw [← HVE.out]
  obtain ⟨T1, hT1⟩ : ∃ T1, T1 = tagHL [] H1 := ⟨_, rfl⟩
  rw [← hT1]
  have HTL := hid (show T1.length = 32 from by rw [hT1]; simp [tagHL, tagL, macSum_len])
  have O6 := hid ((own_below O5.out hb6 (own_lt O5.out)).alloc (.cells (u8s zeros32) 62))
  have Q6 := hid ((Q5.out.trans (hb6.mono Q5.out.size)).alloc (Q5.out.trans (hb6.mono Q5.out.size)).size (.cells (u8s zeros32) 62))
  have D6 := hid ((D5.out.below hb6 D5.out.lt).alloc (.cells (u8s zeros32) 62))
  have M6 := hid ((N5.out.below hb6 N5.out.lt).alloc (.cells (u8s zeros32) 62))
  have N6 := hid (Blk.new w6 62 (u8s zeros32))
  have FB := hid (show ∀ k, (Value.slice A3 bl.length c3).ownBlock = some k → k < w6.heap.size from fun k hk => Nat.lt_of_lt_of_le (own_lt O5.out k hk) hb6.size)
  have L6 := hid (show g9 < w6.heap.size from Nat.lt_of_lt_of_le L5.out hb6.size)
  clear hb6 hT1 O5 Q5 D5 N5 L5
  obtain ⟨g10, hg10⟩ : ∃ g10 : Nat, g10 = w6.heap.size := ⟨_, rfl⟩
  rw [← hg10] at N6 L6 FB
  have HG10 := hid hg10
  clear hg10
  obtain ⟨U, hU⟩ : ∃ U, U = u8s T1 := ⟨_, rfl⟩
  rw [← hU]
  have HSU := hid (show U.size = 32 from by rw [hU]; simp [u8s, nums8, HTL.out])
  have HU1 := hid (show ∀ u ∈ U.toList, u.oneCell' = true from by rw [hU]; simpa using ints_oneCell .u8 T1)
  have HIU := hid (show (Tryz.prog.info? 62).map (·.size) = some U.size from by rw [HSU.out]; kernel_rfl)
  have HUE := hid hU
  clear hU
  go_wp2_with (first | (refine storeB (w := w6.alloc (.cells (u8s zeros32) 62)) (by rfl) 62 _ _ (by rfl) w6.heap.size 0 62 (u8s zeros32) U (by rfl) (by rfl) (by rw [← HG10.out]; exact N6.out) (by rw [HSU.out]; simp [u8s, nums8, zeros32]) HIU.out HU1.out ?_))
  intro w7 hk7 hg7
  rw [splice_all _ _ (by rw [Array.length_toList, HSU.out]; simp [u8s, nums8, zeros32])] at hk7
  rw [← HG10.out] at hk7 hg7 ⊢
  have O7 := hid ((O6.out.kept hg7 (.inr (fun e => by have := FB.out _ e; omega))).alloc (.cells #[.slice none 0 0] 55))
  have q7 := Q6.out.grown hg7 Q6.out.size (fun k e => by have := Option.some.inj e; have := L4.out; have := L6.out; omega)
  have Q7 := hid (q7.alloc q7.size (.cells #[.slice none 0 0] 55))
  have D7 := hid ((D6.out.grown hg7 (fun e => by have := Option.some.inj e; have := L4.out; have := L6.out; omega)).alloc (.cells #[.slice none 0 0] 55))
  have M7 := hid ((M6.out.grown hg7 (fun e => by have := Option.some.inj e; have := L6.out; omega)).alloc (.cells #[.slice none 0 0] 55))
  have N7 := hid (hk7.alloc (.cells #[.slice none 0 0] 55))
  have L7 := hid (show g10 < w7.heap.size from hk7.lt)
  have FB7 := hid (show ∀ k, (Value.slice A3 bl.length c3).ownBlock = some k → k < g10 from FB.out)
  obtain ⟨gp, hgp⟩ : ∃ gp : Nat, gp = w7.heap.size := ⟨_, rfl⟩
  have P7 := hid (show PenAt (w7.alloc (.cells #[.slice none 0 0] 55)) gp gp [] from ⟨Nat.le_refl _, .slice none 0 0, by rw [hgp]; exact Blk.new w7 55 #[.slice none 0 0], World.ownsRow_nil _ _ _ _⟩)
  rw [← hgp] at L7
  have HGP := hid hgp
  clear q7 hg7 hk7 hgp O6 Q6 D6 M6 N6 FB
  go_upto_region 7 with fail
  rw [← HGP.out]
  clear HGP
  generalize w7.alloc (.cells #[.slice none 0 0] 55) = w8 at *
  go_wp2_with fail
  refine (pen_Text gp gp [] bl A3 bl.length c3 rfl w8 P7.out w8.heap.size (Rds.of_own O7.out) (Nat.le_refl _) (fun ad e => ?_) HL.out (by simp)).mono ?_
  · have hlt : ad.block < g10 := FB7.out ad.block (by
      obtain ⟨A', c', hv, _, _, _, h4⟩ := own_form O7.out
      injection hv with e1 _ e2
      subst e1 e2
      obtain ⟨h5, h6, _⟩ := h4 ad e
      subst e
      rfl)
    refine ⟨by have := L7.out; omega, fun hr => ?_⟩
    obtain ⟨h0, v, hb, ho⟩ := P7.out
    have := own_base ho _ (penRow_of hb hr)
    have := L7.out
    omega
  rintro e w9 ⟨rfl, hp9, pk9⟩
  have b9 := pk9.below P7.out
  have P9 := hid (show PenAt w9 gp gp ([] ++ varint bl.length ++ bl) from hp9)
  have hL7 := L7.out
  have hL6 := L6.out
  have hL4 := L4.out
  have Q9 := hid (Q7.out.trans (b9.mono (by omega)))
  have D9 := hid (D7.out.below b9 (by omega))
  have M9 := hid (M7.out.below b9 (by omega))
  have N9 := hid (N7.out.below b9 (by omega))
  clear hp9 pk9 b9 P7 Q7 D7 M7 N7 O7 FB7 hL7 hL6 hL4
  have HV0 := hid (show (varint bl.length).length ≤ 10 from varint_len _ (by have := HL.out; omega))
  go_wp2_with fail
  have RT := hid (show Rds w9 (g10 + 1) 1 (some ⟨g10, 0, none⟩) 32 32 (nums8 T1) from Rds.blk (by rw [← HUE.out]; exact N9.out) 32 HTL.out (by simp [maxLen]) (Nat.lt_succ_self _))
  refine (pen_Fixed gp gp _ T1 (some ⟨g10, 0, none⟩) 32 32 (g10 + 1) HTL.out.symm w9 P9.out RT.out (by have := HV0.out; have := HL.out; have := HTL.out; simp only [List.length_append, List.length_nil]; omega)).mono ?_
  rintro e w10 ⟨rfl, hp10, pk10⟩
  have b10 := pk10.below P9.out
  have hL7 := L7.out
  have hL6 := L6.out
  have hL4 := L4.out
  have P10 := hid (show PenAt w10 gp gp ([] ++ varint bl.length ++ bl ++ T1) from hp10)
  have Q10 := hid (Q9.out.trans (b10.mono (by omega)))
  have D10 := hid (D9.out.below b10 (by omega))
  have M10 := hid (M9.out.below b10 (by omega))
  clear hp10 pk10 b10 P9 Q9 D9 M9 N9 RT hL7 hL6 hL4
  obtain ⟨ol, hol⟩ : ∃ ol, ol = [] ++ varint bl.length ++ bl ++ T1 := ⟨_, rfl⟩
  rw [← hol] at P10
  have HN2 := hid (show ol.length = (varint bl.length ++ bl).length + 32 from by rw [hol]; simp [HTL.out]; omega)
  have HOL := hid (show ol.length ≤ 5000 from by have := HV0.out; have := HL.out; have := HTL.out; rw [hol]; simp only [List.length_append, List.length_nil]; omega)
  clear hol
  go_wp2_with fail
  refine (pen_Bytes gp gp ol w10 P10.out (by have := HOL.out; omega)).mono ?_
  rintro e w11 ⟨A11, c11, rfl, ho11, hb11⟩
  have O11 := hid ho11
  have Q11 := hid (Q10.out.trans (hb11.mono Q10.out.size))
  have D11 := hid (D10.out.below hb11 D10.out.lt)
  have M11 := hid (M10.out.below hb11 M10.out.lt)
  have F11 := hid (show ∀ k, (Value.slice A11 ol.length c11).ownBlock = some k → w10.heap.size ≤ k from fun k hk => own_base ho11 k hk)
  have L11 := hid (show w.heap.size + 2 < w10.heap.size ∧ g9 < w10.heap.size from ⟨D10.out.lt, M10.out.lt⟩)
  have L12 := hid (show w10.heap.size ≤ w11.heap.size from hb11.size)
  clear ho11 hb11 P10 Q10 D10 M10
  generalize ol.length = N at *
  go_upto_region 10 with fail
  refine wp_region_noPanic (wp_region_held (S := fun w' => w'.rangeAt g9 0 V.toList) (by kernel_rfl) ?_)
  change wpAnyH _ _ _ _ _ 12 _ _ w11.drew
  have O12 := hid (show w11.drew.ownsRow w10.heap.size 5 1 (.slice A11 N c11) N (nums8 ol) from O11.out)
  have Q12 := hid (show Below w.heap.size w w11.drew from Q11.out.drew)
  have D12 := hid (show Blk w11.drew (w.heap.size + 2) 62 (u8s zeros32) from D11.out)
  have M12 := hid (show Blk w11.drew g9 62 V from M11.out)
  have L13 := hid (show w10.heap.size ≤ w11.drew.heap.size from L12.out)
  clear O11 Q11 D11 M11 L12
  generalize w11.drew = w12 at *
  have hS12 : w12.rangeAt g9 0 V.toList := fun j v hv => by rw [Nat.zero_add, M12.out.cell j]; simpa using hv
  obtain ⟨k, hk⟩ : ∃ k : Nat, k = (N + 127) / 128 := ⟨_, rfl⟩
  have hm1 : IntKind.i64.wrap ((k : Int) * 128) = (k : Int) * 128 := IntWalk.i64_in _ (by have := HOL.out; omega)
  have hm2 : IntKind.i64.wrap ((k : Int) * 128 - N) = ((k * 128 - N : Nat) : Int) := by rw [IntWalk.i64_in _ (by have := HOL.out; omega)]; omega
  have hkN : N ≤ k * 128 := by omega
  refine wpAnyH_take (i := 0) (v := .slice A11 N c11) (by rfl) (by kernel_rfl) (by kernel_rfl) (by kernel_rfl) (fun _ _ _ h => h) (.inl ⟨rfl, fun w _ => by rfl⟩) hS12 ?_
  simp only [Act.put, List.getElem_toArray, List.getElem_cons_zero, List.getElem_cons_succ, List.setIfInBounds_toArray, List.set_cons_zero, List.set_cons_succ]
  refine wpAnyH_take (i := 1) (v := .slice A11 N c11) (by rfl) (by kernel_rfl) (by kernel_rfl) (by kernel_rfl) (fun _ _ _ h => h) (.inl ⟨rfl, fun w _ => by rfl⟩) hS12 ?_
  simp only [Act.put, List.getElem_toArray, List.getElem_cons_zero, List.getElem_cons_succ, List.setIfInBounds_toArray, List.set_cons_zero, List.set_cons_succ]
  refine wpAnyH_take (i := 2) (v := .int .i64 N) (by rfl) (by kernel_rfl) (by kernel_rfl) (by kernel_rfl) (fun _ _ _ h => h) (.inl ⟨rfl, fun w _ => by go_simp⟩) hS12 ?_
  simp only [Act.put, List.getElem_toArray, List.getElem_cons_zero, List.getElem_cons_succ, List.setIfInBounds_toArray, List.set_cons_zero, List.set_cons_succ]
  refine wpAnyH_take (i := 5) (v := .slice A11 N c11) (by rfl) (by kernel_rfl) (by kernel_rfl) (by kernel_rfl) (fun _ _ _ h => h) (.inl ⟨rfl, fun w _ => by rfl⟩) hS12 ?_
  simp only [Act.put, List.getElem_toArray, List.getElem_cons_zero, List.getElem_cons_succ, List.setIfInBounds_toArray, List.set_cons_zero, List.set_cons_succ]
  refine wpAnyH_take (i := 6) (v := .int .i64 N) (by rfl) (by kernel_rfl) (by kernel_rfl) (by kernel_rfl) (fun _ _ _ h => h) (.inl ⟨rfl, fun w _ => by go_simp⟩) hS12 ?_
  simp only [Act.put, List.getElem_toArray, List.getElem_cons_zero, List.getElem_cons_succ, List.setIfInBounds_toArray, List.set_cons_zero, List.set_cons_succ]
  have HIL := hid (show (Tryz.prog.info? 62).map (·.size) = some V.toList.length from by rw [Array.length_toList, HIV.out])
  refine wpAnyH_take (i := 9) (v := .agg V.toList.toArray) (by rfl) (by kernel_rfl) (by kernel_rfl) (by kernel_rfl) (fun _ _ _ h => h) (yieldsIf_load_mid (by rfl) 62 _ (by rfl) g9 0 (by rfl) V.toList _ (fun w h => h) Tryz.underlying62 rfl HIL.out) hS12 ?_
  simp only [Act.put, List.getElem_toArray, List.getElem_cons_zero, List.getElem_cons_succ, List.setIfInBounds_toArray, List.set_cons_zero, List.set_cons_succ]
  refine wpAnyH_one (i := 3) (by kernel_rfl) (wpOp_in (by rfl) rfl (wp_enter (f := 59) (args := #[.int .i64 N]) (by kernel_rfl) ?_))
  refine (record_blocks N w12 (by have := HOL.out; omega)).mono ?_
  rintro e w13 ⟨rfl, rfl⟩
  refine ⟨_, rfl, hS12, ?_⟩
  simp only [Act.put, List.getElem_toArray, List.getElem_cons_zero, List.getElem_cons_succ, List.setIfInBounds_toArray, List.set_cons_zero, List.set_cons_succ]
  rw [← hk]
  refine wpAnyH_take (i := 4) (v := .int .i64 (IntKind.i64.wrap ((k : Int) * 128))) (by rfl) (by kernel_rfl) (by kernel_rfl) (by kernel_rfl) (fun _ _ _ h => h) (.inl ⟨rfl, fun w _ => by go_simp⟩) hS12 ?_
  simp only [Act.put, List.getElem_toArray, List.getElem_cons_zero, List.getElem_cons_succ, List.setIfInBounds_toArray, List.set_cons_zero, List.set_cons_succ]
  rw [hm1]
  refine wpAnyH_take (i := 7) (v := .int .i64 (IntKind.i64.wrap ((k : Int) * 128 - N))) (by rfl) (by kernel_rfl) (by kernel_rfl) (by kernel_rfl) (fun _ _ _ h => h) (.inl ⟨rfl, fun w _ => by go_simp⟩) hS12 ?_
  simp only [Act.put, List.getElem_toArray, List.getElem_cons_zero, List.getElem_cons_succ, List.setIfInBounds_toArray, List.set_cons_zero, List.set_cons_succ]
  rw [hm2]
  have hmm : N + (k * 128 - N) ≤ 1000000000000 := by have := HOL.out; omega
  refine wpAnyH_one (i := 8) (by kernel_rfl) ?_
  refine wpOp_in (by rfl) rfl ?_
  refine wp_appN_own (.tmp 35) (.tmp 42) 53 3 (by rfl) 5 Tryz.underlying53 Tryz.underlying3 info_u8 w10.heap.size (.slice A11 N c11) N (nums8 ol) O12.out (k * 128 - N) hmm L13.out ?hs ?hx ?_
  case hs =>
    kernel_rfl
  case hx =>
    kernel_rfl
  intro v' w14 ho14 hg14
  obtain ⟨A14, c14, rfl, _⟩ := own_form ho14
  have hL11 := L11.out
  have Q14 := hid (Q12.out.grown hg14 (Q12.out.size) (fun k hk => by have := F11.out k hk; omega))
  have D14 := hid (D12.out.grown hg14 (fun e => by have := F11.out _ e; omega))
  have M14 := hid (M12.out.grown hg14 (fun e => by have := F11.out _ e; omega))
  have hS14 : w14.rangeAt g9 0 V.toList := fun j v hv => by rw [Nat.zero_add, M14.out.cell j]; simpa using hv
  refine ⟨hS14, ?_⟩
  simp only [Act.put, List.getElem_toArray, List.getElem_cons_zero, List.getElem_cons_succ, List.setIfInBounds_toArray, List.set_cons_zero, List.set_cons_succ]
  refine wpAnyH_take (i := 10) (v := .slice A14 (N + (k * 128 - N)) c14) (by rfl) (by kernel_rfl) (by kernel_rfl) (by kernel_rfl) (fun _ _ _ h => h) (.inl ⟨rfl, fun w _ => by kernel_rfl⟩) hS14 ?_
  simp only [Act.put, List.getElem_toArray, List.getElem_cons_zero, List.getElem_cons_succ, List.setIfInBounds_toArray, List.set_cons_zero, List.set_cons_succ]
  refine wpAnyH_one (i := 11) (by kernel_rfl) (wpOp_in (by rfl) rfl (wp_fill 62 _ _ (by rfl) (w.heap.size + 2) 62 (u8s zeros32) V (by kernel_rfl) (by kernel_rfl) D14.out (by rw [HSV.out]; simp [u8s, nums8, zeros32]) HIV.out (Array.all_eq_true_iff_forall_mem.2 (fun v hv => HV1.out v (by simpa using hv))) ?_))
  intro w15 hk15 hg15
  have hL4 := L4.out
  have M15 := hid (M14.out.grown hg15 (fun e => by have := Option.some.inj e; omega))
  have hS15 : w15.rangeAt g9 0 V.toList := fun j v hv => by rw [Nat.zero_add, M15.out.cell j]; simpa using hv
  refine ⟨hS15, ?_⟩
  simp only [Act.put, List.getElem_toArray, List.getElem_cons_zero, List.getElem_cons_succ, List.setIfInBounds_toArray, List.set_cons_zero, List.set_cons_succ]
  refine wpAnyH_done (by kernel_rfl) (NoPanic.normal ?_) _
  go_wp2
  refine bodyPost_ret (results_tmp_row (u := .slice A14 (N + (k * 128 - N)) c14) (by rfl) _ w15 (w.heap.size + 2) 62 V (0, 0) _ (by rfl) (by rfl) hk15 Tryz.underlying62 rfl HIV.out) rfl ⟨A14, c14, V, ?_, ⟨HSV.out, HV1.out⟩, ?_⟩
  · have : N + (k * 128 - N) = sealedB seq l * 128 := by rw [HN.out, ← HN2.out, ← hk]; omega
    rw [this]
  · exact Q14.out.grown hg15 Q14.out.size (fun k e => by have := Option.some.inj e; omega)
