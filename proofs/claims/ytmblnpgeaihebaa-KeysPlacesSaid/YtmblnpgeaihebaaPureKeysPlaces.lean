/- P3.6 at the program: where a key is: the keys ahead of its rank are below it, the others are not; each key's own rank is its place; ranks do not fall where keys rise. -/
import Derived.Test.YtmblnpgeaihebaaGx16
import Derived.Test.YtmblnpgeaihebaaPlain2
namespace Go.Proofs.Ytmblnpgeaihebaa.Pure
open Go.RowKit Go.Proofs.Ytmblnpgeaihebaa.G Go.Proofs.YtmblnpgeaihebaaW.PrintWords Go.Proofs.YtmblnpgeaihebaaW.PrintLast

theorem rank_self (l : List Int) (hr : Rises l) (i : Nat) (hi : i < l.length) : rankOf l (l.getD i 0) = i :=
  rank_split l _ i (by omega) (fun j hj => hr j i hj hi) (fun j hj hj' => by
    rcases Nat.lt_or_ge i j with h | h
    · exact Int.le_of_lt (hr i j h hj')
    · rw [show j = i from by omega]; exact Int.le_refl _)
theorem rank_mono (l : List Int) {p q : Int} (h : p ≤ q) : rankOf l p ≤ rankOf l q := by
  unfold rankOf
  refine List.countP_mono_left fun x _ hx => ?_
  have := of_decide_eq_true hx
  exact decide_eq_true (by omega)

theorem places_loop (l : List Int) (q p : Int) (hl : l.length ≤ 17592186044416) (hr : Rises l) : ∀ (d : Nat) (i : Nat) (k : Nat), l.length ≤ i + d → l.length + d + 1 < k →
    inclinelaw03_KeysPlaces.l0 k l q p true (rankOf l q) i = some true := by
  intro d
  have hR := (rises_iff l).2 hr
  induction d with
  | zero =>
    intro i k h2 hk
    obtain ⟨k, rfl⟩ : ∃ m, k = m + 1 := ⟨k - 1, by omega⟩
    simp only [inclinelaw03_KeysPlaces.l0]
    rw [if_neg (by omega), rank_is l p hl _ (by omega), if_pos hR]
    simp only [Option.bind_some, if_true]
    by_cases h1 : p > q
    · rw [if_pos h1, if_neg (by omega)]
      have := rank_mono l (show q ≤ p by omega)
      rw [decide_eq_true (by omega)]
    · rw [if_neg h1]
      have h3 := rank_mono l (show p ≤ q by omega)
      rw [if_pos (by omega)]
      by_cases h2 : p < q
      · rw [if_pos h2]
      · rw [if_neg h2]
        have : p = q := by omega
        subst this
        rw [decide_eq_true (by omega)]
  | succ d ih =>
    intro i k h2 hk
    by_cases hlt : i < l.length
    · obtain ⟨k, rfl⟩ : ∃ m, k = m + 1 := ⟨k - 1, by omega⟩
      simp only [inclinelaw03_KeysPlaces.l0]
      obtain ⟨ha, hb⟩ := rank_lt l q hr
      have e1 : rd l (i : Int) = l.getD i 0 := rfl
      rw [if_pos (by omega), if_pos (by omega), e1]
      have hd : (decide (l.getD i 0 < q) != decide ((i : Int) < (rankOf l q : Int))) = false := by
        rw [bne_eq_false_iff_eq, decide_eq_decide]
        constructor
        · intro h
          rcases Nat.lt_or_ge i (rankOf l q) with h3 | h3
          · omega
          · have := hb i h3 hlt; omega
        · intro h
          exact ha i (by omega)
      rw [hd, if_neg (by simp), rank_is l _ hl _ (by omega), if_pos hR, rank_self l hr i hlt]
      simp only [Option.bind_some, if_true]
      have hc : l.contains (l.getD i 0) = true := by rw [List.contains_iff_mem]; exact getD_mem l i hlt
      rw [hc, if_pos rfl, w64 (by omega) (by omega)]
      exact ih (i + 1) k (by omega) (by omega)
    · exact ih i k (by omega) (by omega)

theorem KeysPlaces : inclinelaw03_KeysPlaces.Pure := by
  intro l q p _ hl _ _ _
  have hl1 : l.length < 17592186044416 - 1 := by omega
  refine ⟨2 * l.length + 13, ?_⟩
  unfold inclinelaw03_KeysPlaces.f
  rw [shown_is _ (by omega)]
  simp only [Option.bind_some, if_true, keys_Rising.f]
  rw [rank_is l q (by omega) _ (by omega)]
  by_cases h : risesTo l l.length = true
  · have hr := (rises_iff l).1 h
    have ht := there_iff l q hr
    have hle := rankOf_le l q
    rw [if_pos h, h]
    simp only [Option.bind_some, if_true]
    rw [if_neg (by omega), if_neg (by omega)]
    have e1 : rd l (rankOf l q : Int) = l.getD (rankOf l q) 0 := rfl
    have hj : ∀ b, b = false → inclinelaw03_KeysPlaces.j0 (2 * l.length + 13) l q p true (rankOf l q) b = some true := by
      rintro b rfl
      simp only [inclinelaw03_KeysPlaces.j0]
      rw [if_neg (by simp)]
      exact places_loop l q p (by omega) hr l.length 0 _ (by omega) (by omega)
    by_cases hlt : (rankOf l q : Int) < (l.length : Int)
    · rw [if_pos hlt, if_pos (by omega)]
      refine hj _ ?_
      rw [bne_eq_false_iff_eq, e1, Bool.eq_iff_iff, ht, beq_iff_eq]
      exact ⟨fun h => h.2, fun h => ⟨by omega, h⟩⟩
    · rw [if_neg hlt]
      refine hj _ ?_
      rw [bne_eq_false_iff_eq, Bool.eq_false_iff]
      intro h'
      have := (ht.1 h').1
      omega
  · rw [if_neg h]
    have h' : risesTo l l.length = false := by rw [Bool.eq_false_iff]; exact h
    rw [h']
    simp
end Go.Proofs.Ytmblnpgeaihebaa.Pure
