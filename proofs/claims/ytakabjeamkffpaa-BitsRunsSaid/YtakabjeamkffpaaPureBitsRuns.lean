/- Chapter 4's runs of bits come out as the document says. No condition. -/
import Derived.Test.YtakabjeamkffpaaPBitsRunsx1
namespace Go.Proofs.Ytakabjeamkffpaa.Pure
open Go.RowKit Go.Proofs.Ytakabjeamkffpaa.PBitsRuns Go.Proofs.YtakabjeamkffpaaW.PrintWords Go.Proofs.YtakabjeamkffpaaW.PrintLast Go.Proofs.YtakabjeamkffpaaW.PrintMore
theorem BitsRuns : assentlaw4_BitsRuns.Pure := ⟨70, by decide +kernel⟩
end Go.Proofs.Ytakabjeamkffpaa.Pure
