/- What holds of the package variables at a call of a statement. -/
import Derived.Test.YtjojhgpaaocnoaaGreatDoorSqAl
set_option maxRecDepth 100000
set_option linter.unusedVariables false
namespace Go.Proofs.YtjojhgpaaocnoaaGreatDoor
open Go Go.Gx Go.Mx
theorem zq0{W:World}(hL:laidMet Tryz.prog Rows.scriptReportsRow.laid W)(hS:W.ShapedOpen Tryz.prog):Pi W:=by
 have hn:Tryz.prog.globals.size<=W.heap.size:=zhe hS (by kernel_rfl)
 obtain⟨m,c,T,fr,h1,h2,h3,h4,h5⟩:=ziW (g:=0) (zero:=#[.int .i64 0]) (t:=3) (k:=.i64) hS (of_decide_eq_true (by kernel_rfl)) (by kernel_rfl) rfl (by kernel_rfl) (by kernel_rfl) (by kernel_rfl)
 have h4':-9223372036854775808<=m:=h4
 have h5':m<=9223372036854775807:=h5
 rcases(show m<2\/2<=m by omega) with h|h
 ·obtain⟨Gg,hG⟩:=zjU (g:=0) (lo:=-9223372036854775808) (hi:=1) hn hL rfl lays (by kernel_rfl) (by kernel_rfl) h1 h2 h3 h4' (by omega)
  exact⟨hgA,Gg,hG,alA⟩
 ·obtain⟨Gg,hG⟩:=zjU (g:=0) (lo:=2) (hi:=9223372036854775807) hn hL rfl lays (by kernel_rfl) (by kernel_rfl) h1 h2 h3 h h5'
  exact⟨hgB,Gg,hG,alB⟩
theorem lo:laidOutB Tryz.prog=true:=by kernel_rfl
theorem mr:mapsRowed Tryz.prog=true:=by kernel_rfl
theorem full:((List.range Tryz.prog.types.size).all fun t=>match Tryz.prog.underlying t with|some (.slice e)=>decide (0<Tryz.prog.cellsOf e)|_=>true)=true:=by kernel_rfl
theorem own:ownKnob Tryz.prog.godebug=none:=by kernel_rfl
end Go.Proofs.YtjojhgpaaocnoaaGreatDoor
