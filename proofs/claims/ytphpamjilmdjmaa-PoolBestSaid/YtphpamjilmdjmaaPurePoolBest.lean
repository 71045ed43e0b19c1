/- PROVED: PoolBest: for every count the law answers true. No condition. -/
import Derived.Test.YtphpamjilmdjmaaPPoolBestx1
import Derived.OpenShut
namespace Go.Proofs.Ytphpamjilmdjmaa.Pure
set_option linter.unusedVariables false
set_option linter.unusedSimpArgs false
open Go.RowKit Go.Proofs.Ytphpamjilmdjmaa.PPoolBest Go.Proofs.YtphpamjilmdjmaaW.PrintWords Go.Proofs.YtphpamjilmdjmaaW.PrintLast

theorem best_byte : ∀ n : Fin 256, keyeventlaw24_PoolBest.f 60 (n.val : Int) = some true := by decide +kernel

theorem PoolBest : keyeventlaw24_PoolBest.Pure := by
  intro a0 h0
  have hb : 0 ≤ a0 ∧ a0 ≤ 255 := bounds_u8 h0
  obtain ⟨n, rfl⟩ := Int.eq_ofNat_of_zero_le hb.1
  exact ⟨60, best_byte ⟨n, by omega⟩⟩

end Go.Proofs.Ytphpamjilmdjmaa.Pure
