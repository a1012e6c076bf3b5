import Derived.Test.YtfkgbpkgggaphaaGreatDoorGxJ
import Derived.KernelRfl
namespace Go.Gx
open Go
theorem self_upds {E : Env} {l : List (Nat × Value)} (h : Agr E l) : E = upds E l := (upds_self h).symm
def small {α : Type} (l : List α) : Option Unit := if l.length < 549755813888 then some () else none
theorem bindG {α β : Type} {l : List α} {f : Unit → Option β} {r : β} (h : (small l).bind f = some r) : ∃ u : Unit, l.length < 549755813888 ∧ f u = some r := by
  unfold small at h; split at h
  · exact ⟨(), by assumption, h⟩
  · cases h
theorem sl_shape {τ : Type} {r : Rp τ} {O : List Nat} {w : World} {v : Value} {l : List τ} (h : r.sl.rel O w [v] l) : ∃ a c, v = .slice a l.length c := by
  obtain ⟨a, c, xs, hc, _⟩ := h
  simp only [List.cons.injEq, and_true] at hc
  exact ⟨a, c, hc⟩
theorem Ctx.immAt {O0 K O : List Nat} {w0 w : World} {L : List Fact} (h : Ctx O0 K w0 O w L) {τ : Type} {r : Rp τ} {cs : List Value} {x : τ} {i : Nat} (hi : L[i]? = some (.imm r cs x)) : r.rel O w cs x := h.at hi
def rGlob : Rp Unit := rUnit
def u8of (a : Int) : UInt8 := UInt8.ofNat (IntKind.u8.wrap a).toNat
section
variable {P : Program} {n : Nat} {Q : Exit → Env → World → Prop} {ρ : Env} {w w' : World} {ops : Array Oper} {rest : List Oper} {d : Nat} {ty : TypeId} {pos : String} {after : Array Edge} {x : Operand} {t t' : TypeId}
theorem WL_bconv {a : UInt8} (hs : (P.underlying t).isSome = true) (ht : P.underlying t' = some (.int .u8)) (hd : d < n) (hx : ev ρ x = .int .u8 a.toNat) (h : WL P n ops rest Q (upd ρ d (.int .u8 a.toNat)) w) : WL P n ops (⟨some d, .convert t t' x, ty, pos, after, none⟩ :: rest) Q ρ w :=
  WL_iconv hs ht hd hx (by rw [u8wrap]; exact h)
theorem WL_ibconv {k : IntKind} {a : Int} (hs : (P.underlying t).isSome = true) (ht : P.underlying t' = some (.int .u8)) (hd : d < n) (hx : ev ρ x = .int k a) (h : WL P n ops rest Q (upd ρ d (.int .u8 (u8of a).toNat)) w) : WL P n ops (⟨some d, .convert t t' x, ty, pos, after, none⟩ :: rest) Q ρ w :=
  WL_iconv hs ht hd hx (by
    rw [show (IntKind.u8.wrap a) = ((u8of a).toNat : Int) from by
      unfold u8of
      have h1 : 0 ≤ IntKind.u8.wrap a ∧ IntKind.u8.wrap a < 256 := by rw [IntKind.wrap_u8]; omega
      rw [UInt8.toNat_ofNat_of_lt' (by show _ < 256; omega)]; omega]
    exact h)
end
end Go.Gx
