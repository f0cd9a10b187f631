/- The plain law of TreeNames: the law's contract has it already. -/
import Derived.Test.YtdmbnlpcfgphpaaStTreeNames
namespace Go.Proofs.Ytdmbnlpcfgphpaa.Pure
theorem TreeNames : Go.Proofs.Ytdmbnlpcfgphpaa.StTreeNames.Pure := fun _ _ _ _ _ _ _ _ _ _ _ => ⟨0, rfl⟩
end Go.Proofs.Ytdmbnlpcfgphpaa.Pure
