/-
  The walk of BareOnce: it gives true.
  Its conditions: the slices read as bytes, the number is a byte.
-/
import Derived.Test.YtacgmmpdichlmaaGreatOnce
import Derived.Test.YtacgmmpdichlmaaGreatM39
import Derived.Test.YtacgmmpdichlmaaGreatM30
namespace Go.Proofs.YtacgmmpdichlmaaGreat
open Go.RowKit
attribute [local go_sem ↓] Go.wp_at_zero Go.wp_at_succ

set_option maxRecDepth 100000 in
set_option maxHeartbeats 8000000 in
theorem onceW_any (a : Option Addr) (m cap : Nat) (c : List Int) (a' : Option Addr) (m' cap' : Nat) (c' : List Int) (k : Int) (w : World) (hI : IsBytes w (· < w.heap.size) a m c) (hJ : IsBytes w (· < w.heap.size) a' m' c') (hcap : m' ≤ cap') (hk0 : 0 ≤ k) (hk1 : k ≤ 255) : Calls Tryz.prog 4 #[.slice a m cap, .slice a' m' cap', .int .u8 k] w (Says true w) := by
  have HI := hide hI
  have HJ := hide hJ
  clear hI hJ
  go_enter Tryz.func4, Tryz.ntmps4
  go_wp2_with fail
  refine (known_any w).mono ?_
  rintro e w1 ⟨rfl, hb1⟩
  have HS1 := hide ((St.nil w).call hb1)
  clear hb1
  go_wp2_with fail
  refine (tree_any a m cap c w1 (HI.out.below HS1.out.below)).mono ?_
  rintro e w2 ⟨d, hcnt, kd, sd, yd, md, cd, rfl, hn2, hb2⟩
  have HS2 := hide (HS1.out.call hb2)
  have HN2 := hide (Is.of_new hn2)
  clear hn2 hb2 HS1
  go_wp2_with fail
  refine (once_any (w := w2) HN2.out (by omega) hk0 hk1).mono ?_
  rintro e w3 ⟨rfl, hb3⟩
  have HS3 := hide (HS2.out.call hb3)
  clear hb3 HS2 HN2
  go_wp2_with fail
  refine (parsedLaw_any a' m' cap' c' k w3 (HJ.out.below HS3.out.below) hcap hk0 hk1).mono ?_
  rintro e w4 ⟨rfl, hb4⟩
  have HS4 := hide (HS3.out.call hb4)
  clear hb4 HS3
  go_wp2_with fail
  go_ret
  exact ⟨rfl, HS4.out.below⟩
end Go.Proofs.YtacgmmpdichlmaaGreat
