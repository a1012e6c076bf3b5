/- ReplyCounts: for every list of responses, the numbers of the responses of all kinds add up to the number of those of a known kind (the law returns true), and the list is left as it was. Conditions: the listed package variables hold what the program's text lays. -/
import Derived.Test.YtbdmcannoljafaaGreatDoorCards
import Derived.Test.YtbdmcannoljafaaGreatDoorTie
import Derived.Test.YtbdmcannoljafaaGreatDoorPi
import Derived.Test.YtbdmcannoljafaaGreatDoorWi
import Derived.Test.YtbdmcannoljafaaGreatDoorLa
import Derived.WalkKit
import Derived.ProofKit
import Derived.OpenShut
import Derived.Deep.DeepHandedRow
set_option linter.unusedVariables false
namespace Go.Proofs.YtbdmcannoljafaaGreatDoor
open Go Go.Gx Go.Mx Go.ChangeShapes Go.WideShapes Go.ChangeAt Go.RowKit

section
variable {H : Type} {enc : TypeId × Value → H} {W : World}
theorem rd_resp : Rds enc Tryz.prog W rApiResponse 30 (fun _ => True) := by
  obtain ⟨h1, h2⟩ := rds_struct (f := fun x : ApiResponse => (x.Kind, x.N, x.Tag, x.Status, x.Text, x.Items, x.Flags, x.UID, x.Size, x.Body)) Tryz.underlying30 (by kernel_rfl)
    (rsq_pair (rds_int (enc := enc) (W := W) (k := .i64) (t := 3) (by kernel_rfl) (by kernel_rfl)) <| rsq_pair (rds_int (k := .u32) (by kernel_rfl) (by kernel_rfl)) <| rsq_pair (rds_str (by kernel_rfl) (by kernel_rfl)) <| rsq_pair (rds_int (k := .i64) (by kernel_rfl) (by kernel_rfl)) <|
      rsq_pair (rds_str (by kernel_rfl) (by kernel_rfl)) <| rsq_pair (rds_int (k := .i64) (by kernel_rfl) (by kernel_rfl)) <| rsq_pair (rds_u8 (by kernel_rfl) (by kernel_rfl)) <| rsq_pair (rds_int (k := .u32) (by kernel_rfl) (by kernel_rfl)) <|
      rsq_pair (rds_int (k := .u32) (by kernel_rfl) (by kernel_rfl)) <| rsq_one (rds_sl (e := 5) (rds_u8 (by kernel_rfl) (by kernel_rfl)) (by kernel_rfl) (by kernel_rfl) (of_decide_eq_true (by kernel_rfl)))) (by kernel_rfl)
    (fun a => ⟨⟨a.1, a.2.1, a.2.2.1, a.2.2.2.1, a.2.2.2.2.1, a.2.2.2.2.2.1, a.2.2.2.2.2.2.1, a.2.2.2.2.2.2.2.1, a.2.2.2.2.2.2.2.2.1, a.2.2.2.2.2.2.2.2.2⟩, rfl⟩)
  exact ⟨h1, fun n cs d p h => let ⟨x, hx, _⟩ := h2 n cs d p h; ⟨x, hx, trivial⟩⟩
theorem rd_resps : Rds enc Tryz.prog W (Rp.sl rApiResponse) 22 (fun l => l.length ≤ maxLen ∧ ∀ x ∈ l, True) := rds_sl rd_resp Tryz.underlying22 (by kernel_rfl) (of_decide_eq_true (by kernel_rfl))
end

set_option maxRecDepth 100000 in
theorem contract (H : Type) (enc : TypeId × Value → H) (W : World) (args : Array Value) (ds gs : List (DataW H)) (before : List MemPlace) (base : Nat)
    (hval : ∀ (j : Nat) t v, Tryz.f3.params[j]? = some t → args[j]? = some v → Value.okWide Tryz.prog W .any base t v) (hW : DataW.Whole enc Tryz.prog Tryz.f3.params.toList Rows.replyCountsSpec.vars false W args.toList ds gs before) (hL : laidMetH Tryz.prog Rows.replyCountsRow.laid W) (hS : W.ShapedOpen Tryz.prog) :
    Calls Tryz.prog 3 args W fun e W' => ∃ v, e = .returned v ∧ Rows.replyCountsSpec.post enc Tryz.prog Tryz.f3 false true false false W args v W' := by
  have hW0 := hW
  obtain ⟨p, q, hA0, hV, rfl, hfz, hnd⟩ := hW
  have hA : DataW.TrodAll enc Tryz.prog W 0 (fun _ => true) true Tryz.f3.params.toList args.toList ds p := hA0
  rw [Tryz.params3] at hA hval
  obtain ⟨v0, vs0, d0, ds0, p0, q0, hargs, rfl, ⟨n0, h0⟩, r0⟩ := trodAll1 hA
  obtain ⟨rfl, rfl⟩ := trodAll0 r0
  obtain rfl : args = #[v0] := by cases args; simp_all
  obtain ⟨l, hl, hlen, _⟩ := rd_resps.2 _ _ _ _ h0
  obtain ⟨a, cp, xs, hcs, hrest⟩ := hl
  have hv0 : v0 = .slice a l.length cp := val_one (by kernel_rfl) (hval 0 22 v0 rfl rfl) hcs
  subst hv0
  obtain ⟨N, hN⟩ := counts_true l hlen
  refine (f3_ok N (O0 := []) (w0 := W) (by simp) (glob_of (pi_of hL hS)) a cp l ⟨a, cp, xs, rfl, hrest⟩ true hN).mono ?_
  rintro e W' ⟨_, rfl, hk, _⟩
  exact ⟨_, rfl, post_true lo mr full (by kernel_rfl) (tb := 4) (by kernel_rfl) (by kernel_rfl) rfl rfl hW0 ⟨hk.os, hk.output, hk.size, fun b hb => hk.block b hb (by simp)⟩⟩

theorem reads (os : Os) {H : Type} (enc : TypeId × Value → H) : ∃ places, DataW.whole enc Tryz.prog ((laidWorld os).forCall (fun _ _ => 0) ⟨#[], #[.slice none 0 0], []⟩).memory Tryz.f3.params.toList Rows.replyCountsSpec.vars false #[Value.slice none 0 0].toList 8 = some ([.nil], [], places) :=
  ⟨[], by kernel_rfl⟩

set_option maxRecDepth 100000 in
theorem lifted (os : Os) (started : os.Started) (H : Type) (enc : TypeId × Value → H) (F : Stop.Interp) :
    ReturnsInHanded {} Tryz.checked os 3 .any ((OpenSpec.ofChange Rows.replyCountsSpec).preRow enc Tryz.prog Tryz.f3 Rows.replyCountsRow.domain false Rows.replyCountsRow.laid) (((OpenSpec.ofChange Rows.replyCountsSpec).at F).post enc Tryz.prog Tryz.f3 false true false false) := by
  obtain ⟨places, hx⟩ := reads os enc
  refine returnsInHanded_of_row (C := Tryz.checked) (s := OpenSpec.ofChange Rows.replyCountsSpec) own started (by kernel_rfl) Tryz.func3
    (witness_row_atRef (enc := enc) (C := Tryz.checked) false (laidWorld os) #[.slice none 0 0] rfl (by kernel_rfl) (by kernel_rfl) (by kernel_rfl)
      (OpenSpec.preRow_of_cond 8 hx (by kernel_rfl) (fun k hk => by cases hk) (by kernel_rfl) (laid_met os _))) ?_
  intro W base args ds gs before hval hW _ _ _ hL hS _
  exact contract H enc W args ds gs before base hval hW hL hS
theorem said : Rows.ReplyCountsSaid :=
  OpenClaim.holds_of_cond 3 Tryz.f3 rfl rfl rfl rfl rfl rfl rfl ⟨rfl, rfl, rfl, rfl, rfl⟩ rfl rfl rfl rfl rfl (by kernel_rfl) Tryz.func3 (by kernel_rfl)
    (of_decide_eq_true (by kernel_rfl)) (by unfold Func.isWrapper; first | (rw [if_pos (by decide +kernel)]; kernel_rfl) | (rw [if_neg (by decide +kernel)]; exact ⟨rfl, rfl⟩))
    (fun os started H enc _ F => by rw [OpenClaim.pre_eq_preRow]; exact lifted os started H enc F)
theorem plain (f : FuncId) (fn : Func) (hf : Tryz.pinned.checked.prog.funcNamed "cubbyhole/cubbyholelaw10.ReplyCounts" = some f) (hfn : Tryz.pinned.checked.prog.funcs[f]? = some fn) :
    true = Tryz.pinned.checked.prog.looks [] ∧ ∀ (j : Nat) t, fn.params[j]? = some t → Tryz.pinned.checked.prog.wantsStandIn t = false := by
  obtain rfl : f = 3 := Option.some.inj ((show Tryz.prog.funcNamed "cubbyhole/cubbyholelaw10.ReplyCounts" = some 3 by kernel_rfl).symm.trans hf) |>.symm
  obtain rfl : fn = Tryz.f3 := (Option.some.inj (Tryz.func3.symm.trans hfn)).symm
  refine ⟨by kernel_rfl, fun j t ht => ?_⟩
  have hall : (Tryz.f3.params.toList.all fun t => !(Tryz.prog.wantsStandIn t)) = true := by kernel_rfl
  have := List.all_eq_true.1 hall t (by rw [Array.mem_toList_iff]; exact Array.mem_of_getElem? ht)
  show Tryz.prog.wantsStandIn t = false
  simpa using this
/-- THE CARD. -/
theorem replyCounts_holds : Rows.ReplyCountsCardSaid :=
  Claim7.holds_tied_plain_at .later [] _ _ _ _ said (fun _ h => by cases h) (by kernel_rfl) (fun _ h => by cases h) replyCounts_row_tie rfl ⟨rfl, rfl⟩ (by kernel_rfl) rfl plain (by kernel_rfl)
#print axioms replyCounts_holds
end Go.Proofs.YtbdmcannoljafaaGreatDoor
