/- The law FnExactConstants holds: each constant of the program is the reference's; no condition. -/
import Derived.Test.YtaajnjflcpdbkaaPFnExactConstantsx1
namespace Go.Proofs.Ytaajnjflcpdbkaa.Pure
open Go.RowKit Go.Proofs.Ytaajnjflcpdbkaa.PFnExactConstants Go.Proofs.YtaajnjflcpdbkaaW.PrintWords Go.Proofs.YtaajnjflcpdbkaaW.PrintLast Go.Proofs.YtaajnjflcpdbkaaW.PrintMore
namespace FnExactConstants
end FnExactConstants
open FnExactConstants
theorem FnExactConstants : laws_FnExactConstants.Pure := rfl

end Go.Proofs.Ytaajnjflcpdbkaa.Pure
