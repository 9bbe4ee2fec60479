/- Plain laws, on: the examples at each statement's head; two lists that are the same. -/
import Derived.Test.YtmblnpgeaihebaaPlain
import Derived.Test.YtmblnpgeaihebaaGx11
namespace Go.Proofs.Ytmblnpgeaihebaa.Pure
open Go.RowKit Go.Proofs.Ytmblnpgeaihebaa.G Go.Proofs.YtmblnpgeaihebaaW.PrintWords Go.Proofs.YtmblnpgeaihebaaW.PrintLast

theorem up {α : Type} {f : Nat → Option α} (h : ∀ k, LeO (f k) (f (k + 1))) {k m : Nat} (hk : k ≤ m) {r : α} (hr : f k = some r) : f m = some r := by
  induction m with
  | zero => rw [show k = 0 from by omega] at hr; exact hr
  | succ m ih =>
    rcases Nat.lt_or_ge m k with h1 | h1
    · rw [show k = m + 1 from by omega] at hr; exact hr
    · exact h m r (ih h1)
set_option maxRecDepth 100000 in
theorem shown10 : inclinelaw03_shown.f 10 = some true := by decide +kernel
theorem shown_is (k : Nat) (hk : 10 ≤ k) : inclinelaw03_shown.f k = some true := up (f := fun k => inclinelaw03_shown.f k) inclinelaw03_shown.mono hk shown10
theorem same_self (l : List Int) (hl : l.length ≤ 17592186044416) : ∀ (d : Nat) (i : Nat) (k : Nat), l.length ≤ i + d → d < k → inclinelaw03_same.l0 k l l i = some true := by
  intro d
  induction d with
  | zero =>
    intro i k h2 hk
    obtain ⟨k, rfl⟩ : ∃ m, k = m + 1 := ⟨k - 1, by omega⟩
    simp only [inclinelaw03_same.l0]
    rw [if_neg (by omega)]
  | succ d ih =>
    intro i k h2 hk
    obtain ⟨k, rfl⟩ : ∃ m, k = m + 1 := ⟨k - 1, by omega⟩
    simp only [inclinelaw03_same.l0]
    by_cases hlt : i < l.length
    · rw [if_pos (by omega), if_pos (by omega), if_pos (by omega), if_pos trivial, w64 (by omega) (by omega)]
      exact ih (i + 1) k (by omega) (by omega)
    · rw [if_neg (by omega)]
theorem same_f (l : List Int) (hl : l.length ≤ 17592186044416) (k : Nat) (hk : l.length < k) : inclinelaw03_same.f k l l = some true := by
  unfold inclinelaw03_same.f
  rw [if_pos rfl]
  exact same_self l hl l.length 0 k (by omega) hk
end Go.Proofs.Ytmblnpgeaihebaa.Pure
