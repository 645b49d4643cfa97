/- Chapter 13's runs of the table of states come out as the document says. No condition. -/
import Derived.Test.YtdpcnfdjpbbgjaaPStateRunsx1
namespace Go.Proofs.Ytdpcnfdjpbbgjaa.Pure
open Go.RowKit Go.Proofs.Ytdpcnfdjpbbgjaa.PStateRuns Go.Proofs.YtdpcnfdjpbbgjaaW.PrintWords Go.Proofs.YtdpcnfdjpbbgjaaW.PrintLast Go.Proofs.YtdpcnfdjpbbgjaaW.PrintMore
theorem StateRuns : assentlaw13_StateRuns.Pure := ⟨10, by decide +kernel⟩
end Go.Proofs.Ytdpcnfdjpbbgjaa.Pure
