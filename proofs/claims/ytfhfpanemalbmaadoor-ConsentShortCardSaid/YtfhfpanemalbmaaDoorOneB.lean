/- The walk of the reference's oneByte. -/
import Derived.Test.YtfhfpanemalbmaaDoorProg
import Derived.Test.YtfhfpanemalbmaaDoorMem
import Derived.WalkKit
import Derived.WalkLawsBesides
import Derived.Laws.IdiomStrings
namespace Go.Proofs.YtfhfpanemalbmaaDoor.OneB
open Go.RowKit Mem
set_option maxHeartbeats 1000000 in
theorem oneByte_any (n : Int) (w : World) (h0 : 0 ≤ n) (h1 : n < 256) :
    Calls Tryd.prog 53 #[.int .i64 n] w (Gives (.string ⟨#[UInt8.ofNat n.toNat]⟩) w) := by
  have hn : ((UInt8.ofNat n.toNat).toNat : Int) = n := by rw [UInt8.toNat_ofNat']; omega
  have kb : (convert 68 9 (.slice (some ⟨w.heap.size, 0, none⟩) 1 1)).run Tryd.prog (w.alloc (.cells #[.int .u8 n] 5)) = .ok (.string ⟨#[UInt8.ofNat n.toNat]⟩) (w.alloc (.cells #[.int .u8 n] 5)) :=
    run_convert_bytes_back (P := Tryd.prog) _ 68 9 5 ⟨w.heap.size, 0, none⟩ 1 [UInt8.ofNat n.toNat] Tryd.underlying68 Tryd.underlying5 Tryd.underlying9 (fun j hj => by
      obtain rfl : j = 0 := by simpa using hj
      simp only [List.getElem_cons_zero, hn]
      simp [Addr.add, World.cell?_alloc_new])
  generalize UInt8.ofNat n.toNat = c at kb ⊢
  clear hn
  go_enter Tryd.func53, Tryd.ntmps53
  go_wp2_with fail
  go_ret
  exact ⟨rfl, (Below.refl _ _).alloc (Nat.le_refl _) _⟩
end Go.Proofs.YtfhfpanemalbmaaDoor.OneB
