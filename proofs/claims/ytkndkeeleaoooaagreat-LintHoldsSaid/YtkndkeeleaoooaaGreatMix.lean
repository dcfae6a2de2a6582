/- The sum's mixing. -/
import Derived.Test.YtkndkeeleaoooaaGreatSha
namespace Go.Proofs.YtkndkeeleaoooaaGreat
open Go.RowKit
set_option linter.unusedVariables false
set_option linter.unusedSimpArgs false
set_option maxRecDepth 100000
set_option maxHeartbeats 1000000

def constL : List Int := [1116352408, 1899447441, 3049323471, 3921009573, 961987163, 1508970993, 2453635748, 2870763221, 3624381080, 310598401, 607225278, 1426881987, 1925078388, 2162078206, 2614888103, 3248222580,
  3835390401, 4022224774, 264347078, 604807628, 770255983, 1249150122, 1555081692, 1996064986, 2554220882, 2821834349, 2952996808, 3210313671, 3336571891, 3584528711, 113926993, 338241895,
  666307205, 773529912, 1294757372, 1396182291, 1695183700, 1986661051, 2177026350, 2456956037, 2730485921, 2820302411, 3259730800, 3345764771, 3516065817, 3600352804, 4094571909, 275423344,
  430227734, 506948616, 659060556, 883997877, 958139571, 1322822218, 1537002063, 1747873779, 1955562222, 2024104815, 2227730452, 2361852424, 2428436474, 2756734187, 3204031479, 3329325298]
theorem constL_len : constL.length = 64 := rfl
theorem sha_constants (w : World) :
    Calls Tryz.prog 99 #[] w fun e w' => e = .returned (.agg (us constL)) ∧ Below w.heap.size w w' := by
  have hi : (Tryz.prog.info? 150).map (·.size) = some (us constL).size := by kernel_rfl
  have HI := hid hi
  clear hi
  have hone : ∀ u ∈ (us constL).toList, u.oneCell' = true := by simpa using ints_oneCell .u32 constL
  have HO := hid hone
  clear hone
  have hz := Blk.new w 150 (us zeros64)
  have HZ := hid hz
  clear hz
  go_enter Tryz.func99, Tryz.ntmps99
  go_wp2_with (first | (refine storeB (w := w.alloc (.cells (us zeros64) 150)) (by rfl) 150 _ _ (by rfl) w.heap.size 0 150 (us zeros64) (us constL) (by rfl) (by rfl) HZ.out (by simp [us, zeros64_len, constL_len]) HI.out HO.out ?_))
  intro w1 hk1 hg1
  go_wp2
  have hk2 : Blk w1 w.heap.size 150 (us constL) := by
    rw [splice_all _ _ (by simp [us, zeros64_len, constL_len])] at hk1
    exact hk1
  refine bodyPost_ret (results_cell_row rfl _ w1 w.heap.size 150 (us constL) (0, 0) _ (by rfl) hk2 Tryz.underlying150 rfl HI.out) rfl ⟨rfl, ?_⟩
  exact ((Below.refl _ w).alloc (Nat.le_refl _) _).grown hg1 (by simp) (by simp)
