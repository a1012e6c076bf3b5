/- AuditReplays, the plain law: Replay and Replies answer as the reference's. -/
import Derived.Test.YtokiphiakdfipaaGreatDoorAuFa
import Derived.Test.YtokiphiakdfipaaGreatDoorTa
set_option linter.unusedVariables false
set_option maxRecDepth 100000
namespace Go.Proofs.YtokiphiakdfipaaGreatDoor
open Go.Proofs.Model Go Go.Gx Go.Mx Go.Sx
theorem law(x:El (zce [.sl .u8]))(hw:Wf (zce [.sl .u8]) x):∃ N,qF N x.1=some (true,()):=⟨200000,zoi x.1⟩
end Go.Proofs.YtokiphiakdfipaaGreatDoor
