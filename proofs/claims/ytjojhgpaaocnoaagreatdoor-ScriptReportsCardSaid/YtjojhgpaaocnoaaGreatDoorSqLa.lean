/- ScriptReports, the plain law at this seat. -/
import Derived.Test.YtjojhgpaaocnoaaGreatDoorSqFa
import Derived.Test.YtjojhgpaaocnoaaGreatDoorB6
namespace Go.Proofs.YtjojhgpaaocnoaaGreatDoor
open Go.Proofs.Model Go Go.Gx Go.Mx Go.Sx
theorem law(x:El (zba [.sl (.sl .u8),.sl (.int .u16)]))(hw:Wf (zba [.sl (.sl .u8),.sl (.int .u16)]) x):∃ N,zy N x.1 x.2.1=some (true,()):=zgY x hw
end Go.Proofs.YtjojhgpaaocnoaaGreatDoor
