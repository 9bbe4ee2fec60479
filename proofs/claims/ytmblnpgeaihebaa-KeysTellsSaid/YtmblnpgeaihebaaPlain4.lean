/- Plain laws, on: the references' Check, Live and Of. -/
import Derived.Test.YtmblnpgeaihebaaPlain3
import Derived.Test.YtmblnpgeaihebaaGx20
import Derived.Test.YtmblnpgeaihebaaGx21
import Derived.Test.YtmblnpgeaihebaaGx23
namespace Go.Proofs.Ytmblnpgeaihebaa.Pure
open Go.RowKit Go.Proofs.Ytmblnpgeaihebaa.G Go.Proofs.YtmblnpgeaihebaaW.PrintWords Go.Proofs.YtmblnpgeaihebaaW.PrintLast

theorem refLive_is (l : List S35) (hl : l.length ≤ 17592186044416) : ∀ (d : Nat) (i : Nat) (k : Nat), l.length ≤ i + d → i ≤ l.length → d < k →
    inclineref03_Live.l0 k l (liveN (l.take i)) i = some (liveN l : Int) := by
  intro d
  induction d with
  | zero =>
    intro i k h1 h2 hk
    obtain ⟨k, rfl⟩ : ∃ m, k = m + 1 := ⟨k - 1, by omega⟩
    simp only [inclineref03_Live.l0]
    rw [if_neg (by omega), List.take_of_length_le (by omega)]
  | succ d ih =>
    intro i k h1 h2 hk
    by_cases hlt : i < l.length
    · obtain ⟨k, rfl⟩ : ∃ m, k = m + 1 := ⟨k - 1, by omega⟩
      have := ih (i + 1) k (by omega) (by omega) (by omega)
      rw [liveN_take l i hlt] at this
      have hle := liveN_le (l.take i)
      rw [List.length_take] at hle
      simp only [inclineref03_Live.l0]
      rw [if_pos (by omega), if_pos (by omega), w64 (i := (i : Int) + 1) (by omega) (by omega), w64 (i := (liveN (l.take i) : Int) + 1) (by omega) (by omega)]
      by_cases hq : (rd_T35 l (i : Int)).f2 = true
      · rw [if_pos hq] at this ⊢
        simpa using this
      · rw [if_neg hq] at this ⊢
        simpa using this
    · exact ih i k (by omega) h2 (by omega)
theorem refLive_f (l : List S35) (hl : l.length ≤ 17592186044416) (k : Nat) (hk : l.length < k) : inclineref03_Live.f k l = some (liveN l : Int) := by
  have := refLive_is l hl l.length 0 k (by omega) (by omega) hk
  simpa [inclineref03_Live.f, liveN] using this

theorem refOf_is (l : List S35) (hl : l.length < 17592186044416) : ∀ (d : Nat) (i : Nat) (k : Nat), l.length ≤ i + d → i ≤ l.length → d < k →
    inclineref03_Of.l0 k l ((keysOf l).take i) i = some (keysOf l) := by
  intro d
  induction d with
  | zero =>
    intro i k h1 h2 hk
    obtain ⟨k, rfl⟩ : ∃ m, k = m + 1 := ⟨k - 1, by omega⟩
    simp only [inclineref03_Of.l0]
    rw [if_neg (by omega), List.take_of_length_le (by simp [keysOf]; omega)]
  | succ d ih =>
    intro i k h1 h2 hk
    by_cases hlt : i < l.length
    · obtain ⟨k, rfl⟩ : ∃ m, k = m + 1 := ⟨k - 1, by omega⟩
      have := ih (i + 1) k (by omega) (by omega) (by omega)
      have hk' : i < (keysOf l).length := by simpa [keysOf] using hlt
      rw [List.take_succ_eq_append_getElem hk'] at this
      have e : (keysOf l)[i] = (rd_T35 l (i : Int)).f0 := by rw [rd_get l i hlt]; simp [keysOf]
      rw [e] at this
      have hle : ((keysOf l).take i).length < 17592186044416 := by rw [List.length_take]; omega
      simp only [inclineref03_Of.l0]
      rw [if_pos (by omega), if_pos (by omega), if_pos hle, w64 (by omega) (by omega)]
      exact this
    · exact ih i k (by omega) h2 (by omega)
theorem refOf_f (l : List S35) (hl : l.length < 17592186044416) (k : Nat) (hk : l.length < k) : inclineref03_Of.f k l = some (keysOf l) := by
  have := refOf_is l hl l.length 0 k (by omega) (by omega) hk
  simpa [inclineref03_Of.f] using this

theorem idxBad_first (l : List S35) (i : Nat) (h : ∀ j, j < i → badB (l.getD j z35) = false) : idxBad l = -1 ∨ (i : Int) ≤ idxBad l := by
  induction l generalizing i with
  | nil => exact .inl rfl
  | cons x l ih =>
    cases i with
    | zero => have := idxBad_ge (x :: l); omega
    | succ i =>
      have h0 := h 0 (by omega)
      simp only [List.getD_cons_zero] at h0
      have h1 := ih i (fun j hj => by have := h (j + 1) (by omega); simpa using this)
      unfold idxBad
      rw [h0]
      simp only [Bool.false_eq_true, if_false]
      split <;> omega

theorem refCheck_is (l : List S35) (hl : l.length ≤ 17592186044416) : ∀ (d : Nat) (i : Nat) (k : Nat), l.length ≤ i + d → i ≤ l.length → 2 * d < k → risesTo (keysOf l) i = true → (∀ j, j < i → badB (l.getD j z35) = false) →
    inclineref03_Check.l0 k l i = some (checkOf l) := by
  have hlen : (keysOf l).length = l.length := by simp [keysOf]
  intro d
  induction d with
  | zero =>
    intro i k h1 h2 hk hr hb
    obtain ⟨k, rfl⟩ : ∃ m, k = m + 1 := ⟨k - 1, by omega⟩
    simp only [inclineref03_Check.l0]
    rw [if_neg (by omega)]
    have e : i = l.length := by omega
    subst e
    have hm := idxBad_miss l hb
    unfold checkOf
    rw [hm]
    simp only [show ¬ (0 : Int) ≤ -1 by omega, if_false]
    rw [if_pos hr]
  | succ d ih =>
    intro i k h1 h2 hk hr hb
    by_cases hlt : i < l.length
    · have hgo : ∀ k, 2 * d < k → ∀ b : Bool, (b = true ↔ ¬ risesTo (keysOf l) (i + 1) = true) → inclineref03_Check.j1 (k + 1) l i b = some (checkOf l) := by
        intro k hk b hbb
        simp only [inclineref03_Check.j1]
        cases b with
        | true =>
          rw [if_pos rfl]
          have hn := hbb.1 rfl
          have h3 : ∀ m, i + 1 ≤ m → ¬ risesTo (keysOf l) m = true := fun m hm h => hn (risesTo_le _ hm h)
          unfold checkOf
          rcases idxBad_first l i hb with h4 | h4
          · rw [h4]
            simp only [show ¬ (0 : Int) ≤ -1 by omega, if_false]
            rw [if_neg (h3 _ (by omega))]
          · rw [if_pos (show 0 ≤ idxBad l by omega), if_neg (h3 _ (by omega))]
        | false =>
          have hn : risesTo (keysOf l) (i + 1) = true := by
            rcases Bool.eq_false_or_eq_true (risesTo (keysOf l) (i + 1)) with h | h
            · exact h
            · have := hbb.2 (by rw [h]; simp)
              cases this
          have e : rd_T35 l (i : Int) = l.getD i z35 := by unfold rd_T35; rw [Int.toNat_natCast]
          have next : badB (l.getD i z35) = false → inclineref03_Check.l0 k l (wrap64 ((i : Int) + 1)) = some (checkOf l) := fun hbi => by
            rw [w64 (by omega) (by omega)]
            exact ih (i + 1) k (by omega) (by omega) (by omega) hn (fun j hj => by
              rcases Nat.lt_or_ge j i with h | h
              · exact hb j h
              · rw [show j = i from by omega]; exact hbi)
          rw [if_neg (by simp), if_pos (by omega), if_pos (by omega), e]
          by_cases h5 : (l.getD i z35).f2 = true
          · rw [if_pos h5]
            by_cases h6 : (l.getD i z35).f1 = 0
            · rw [if_pos h6]
              exact next (by unfold badB; rw [h5, h6]; rfl)
            · rw [if_neg h6]
              have hbi : badB (l.getD i z35) = true := by unfold badB; rw [h5, beq_eq_false_iff_ne.2 h6]; rfl
              have hi := idxBad_hit l i hlt hb hbi
              unfold checkOf
              rw [hi, if_pos (show (0 : Int) ≤ (i : Int) by omega), if_pos (show (0 : Int) ≤ (i : Int) by omega), Int.toNat_natCast, if_pos hn]
          · rw [if_neg h5]
            exact next (by unfold badB; rw [Bool.eq_false_iff.2 h5]; rfl)
      obtain ⟨k, rfl⟩ : ∃ m, k = m + 2 := ⟨k - 2, by omega⟩
      simp only [inclineref03_Check.l0]
      rw [if_pos (by omega)]
      by_cases h0 : (i : Int) > 0
      · rw [if_pos h0, if_pos (by omega), w64 (by omega) (by omega), if_pos (by omega), if_pos (by omega)]
        refine hgo k (by omega) _ ?_
        rw [decide_eq_true_iff, risesTo_succ, hr]
        have e1 : (rd_T35 l (i : Int)).f0 = (keysOf l).getD i 0 := by rw [← rd_keysOf _ _ (by omega)]; rfl
        have e2 : (rd_T35 l ((i : Int) - 1)).f0 = (keysOf l).getD (i - 1) 0 := by
          rw [← rd_keysOf _ _ (by omega)]
          unfold rd
          congr 1
          omega
        rw [e1, e2]
        have e3 : (i == 0) = false := by rw [beq_eq_false_iff_ne]; omega
        simp only [e3, Bool.true_and, Bool.false_or, decide_eq_true_eq]
        omega
      · rw [if_neg h0]
        refine hgo k (by omega) _ ?_
        have : i = 0 := by omega
        subst this
        simp [risesTo_succ, risesTo_zero]
    · exact ih i k (by omega) h2 (by omega) hr hb
theorem refCheck_f (l : List S35) (hl : l.length ≤ 17592186044416) (k : Nat) (hk : 2 * l.length < k) : inclineref03_Check.f k l = some (checkOf l) :=
  refCheck_is l hl l.length 0 k (by omega) (by omega) hk (risesTo_zero _) (fun j hj => by omega)
end Go.Proofs.Ytmblnpgeaihebaa.Pure
