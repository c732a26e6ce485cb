/- The plain law VintTurns. -/
import Derived.Test.YtgphhcakkoaipaaVintLawsA
import Derived.Test.YtgphhcakkoaipaaPVintx4
namespace Go.Proofs.Ytgphhcakkoaipaa.VB
open Go Go.Lib Go.RowKit Go.Proofs.Ytgphhcakkoaipaa.VM Go.Proofs.Ytgphhcakkoaipaa.PVint Go.Proofs.YtgphhcakkoaipaaW.PrintWords Go.Proofs.YtgphhcakkoaipaaW.PrintLast Go.Proofs.YtgphhcakkoaipaaW.PrintMore
set_option linter.unusedVariables false
set_option linter.unusedSimpArgs false

/-! ### VintTurns -/
theorem vintTurns : lapidarylaw01_VintTurns.Pure := by
  intro a0 a1 h0 h1
  have h0 := wf_i64 h0
  have h1 := wf_u64 h1
  apply Ev.rounds
  refine Ev.congr (fun k => ?_) known_then
  unfold lapidarylaw01_VintTurns.f
  rw [zig_f h0]; simp only [Option.bind_some]
  rw [zag_f (zig_range h0.1 h0.2)]; simp only [Option.bind_some]
  rw [if_pos (zag_zig a0), zag_f h1]; simp only [Option.bind_some]
  rw [zig_f (zag_range h1.1 h1.2)]; simp only [Option.bind_some]
  rw [if_pos (zig_zag a1 h1.1), rzag_f h1]; simp only [Option.bind_some]
  rw [if_pos trivial]

end Go.Proofs.Ytgphhcakkoaipaa.VB
