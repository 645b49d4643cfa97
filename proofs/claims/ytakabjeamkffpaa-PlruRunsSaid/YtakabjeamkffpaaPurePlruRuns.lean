/- Chapter 5's runs of plru.Touch and plru.Victim come out as the document says. No condition. -/
import Derived.Test.YtakabjeamkffpaaPPlruRunsx1
namespace Go.Proofs.Ytakabjeamkffpaa.Pure
open Go.RowKit Go.Proofs.Ytakabjeamkffpaa.PPlruRuns Go.Proofs.YtakabjeamkffpaaW.PrintWords Go.Proofs.YtakabjeamkffpaaW.PrintLast Go.Proofs.YtakabjeamkffpaaW.PrintMore
theorem PlruRuns : assentlaw5_PlruRuns.Pure := ⟨10, by decide +kernel⟩
end Go.Proofs.Ytakabjeamkffpaa.Pure
