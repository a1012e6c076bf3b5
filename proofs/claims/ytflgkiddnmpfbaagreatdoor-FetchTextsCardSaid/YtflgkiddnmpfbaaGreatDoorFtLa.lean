/- FetchTexts, the plain law. -/
import Derived.Test.YtflgkiddnmpfbaaGreatDoorFtFa
set_option linter.unusedVariables false
namespace Go.Proofs.YtflgkiddnmpfbaaGreatDoor
open Go Go.Gx Go.Mx
theorem texts_eq (N : Nat) (e : Int) : F_fetch_Text N e = F_ref19_Text N e := rfl
theorem text_some (N : Nat) (e : Int) : ∃ t, F_fetch_Text N e = some t := by
  unfold F_fetch_Text
  repeat' split
  all_goals exact ⟨_, rfl⟩
theorem status_eq (N : Nat) (e : Int) : F_fetch_Status N e = F_ref19_Status N e := by
  unfold F_fetch_Status F_ref19_Status F_fetch_Status_j2 F_ref19_Status_j2
  by_cases h0 : e = 0
  · simp [h0]
  · by_cases h5 : e = 5
    · simp [h5]
    · by_cases h6 : e = 6
      · simp [h6]
      · by_cases h7 : e = 7
        · simp [h7]
        · simp only [h0, h5, h6, h7, beq_iff_eq, if_false]
          rfl
theorem status_some (N : Nat) (e : Int) : ∃ t, F_fetch_Status N e = some t := by
  unfold F_fetch_Status F_fetch_Status_j2 F_fetch_Status_j1
  repeat' split
  all_goals exact ⟨_, rfl⟩
/-- THE LAW. -/
theorem texts_true (e : Int) : ∃ N, F_law19_FetchTexts N e = some true := by
  refine ⟨0, ?_⟩
  unfold F_law19_FetchTexts F_law19_FetchTexts_j1
  obtain ⟨s, hs⟩ := status_some 0 e
  obtain ⟨t, ht⟩ := text_some 0 e
  have hs' := (status_eq 0 e).symm.trans hs
  have ht' := (texts_eq 0 e).symm.trans ht
  simp [hs, ht, hs', ht', F_law19_alive]
end Go.Proofs.YtflgkiddnmpfbaaGreatDoor
namespace Go.Proofs.YtflgkiddnmpfbaaGreatDoor
open Go Go.Gx Go.Mx
theorem law (e : Int) (he : IntKind.min .i64 ≤ e ∧ e ≤ IntKind.max .i64) : ∃ N, F_law19_FetchTexts N e = some true := texts_true e
end Go.Proofs.YtflgkiddnmpfbaaGreatDoor
