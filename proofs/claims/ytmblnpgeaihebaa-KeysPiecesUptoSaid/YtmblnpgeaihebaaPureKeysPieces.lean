/- P3.7 at the program: how many are live adds up; what is put together is right just where both pieces are and meet; what is right is right piece by piece. -/
import Derived.Test.YtmblnpgeaihebaaPlain3
import Derived.Test.YtmblnpgeaihebaaGx17
namespace Go.Proofs.Ytmblnpgeaihebaa.Pure
open Go.RowKit Go.Proofs.Ytmblnpgeaihebaa.G Go.Proofs.YtmblnpgeaihebaaW.PrintWords Go.Proofs.YtmblnpgeaihebaaW.PrintLast

theorem end_is (a : List S35) (x2 : Int) (k : Nat) (ha : a.length ≤ 1048576) (h2 : -9223372036854775808 ≤ x2 ∧ x2 ≤ 9223372036854775807) : inclinelaw03_KeysPieces.j2 (k + 1) a x2 true (checkOf a) false = some true := by
  simp only [inclinelaw03_KeysPieces.j2]
  rw [if_neg (by simp), w64 (i := (a.length : Int) + 1) (by omega) (by omega)]
  have fin : ∀ j : Int, 0 ≤ j → j ≤ a.length → checkOf a = 0 → ((keys_Check.f (a.take j.toNat)).bind fun t => if t = 0 then (keys_Check.f (a.drop j.toNat)).bind fun u => some (u == 0) else none) = some true := fun j _ _ hc => by
    obtain ⟨h3, h4⟩ := check_take a j.toNat hc
    simp only [keys_Check.f, Option.bind_some, h3, h4]
    rfl
  have hm : ∀ y : Int, 0 ≤ y → 0 ≤ Int.tmod y ((a.length : Int) + 1) ∧ Int.tmod y ((a.length : Int) + 1) ≤ a.length := fun y hy => by
    rw [Int.tmod_eq_emod_of_nonneg hy]
    have h5 := Int.emod_nonneg y (show (a.length : Int) + 1 ≠ 0 by omega)
    have h6 := Int.emod_lt_of_pos y (show (0 : Int) < (a.length : Int) + 1 by omega)
    omega
  by_cases hn : x2 < 0
  · rw [if_pos hn, if_neg (by omega), if_pos trivial, w64 (i := x2 + 1) (by omega) (by omega), w64 (i := -(x2 + 1)) (by omega) (by omega)]
    by_cases hc : checkOf a = 0
    · obtain ⟨h5, h6⟩ := hm (-(x2 + 1)) (by omega)
      rw [if_pos hc, if_pos h5, if_pos h6]
      exact fin _ h5 h6 hc
    · rw [if_neg hc]
  · rw [if_neg hn, if_neg (by omega), if_pos trivial]
    by_cases hc : checkOf a = 0
    · obtain ⟨h5, h6⟩ := hm x2 (by omega)
      rw [if_pos hc, if_pos h5, if_pos h6]
      exact fin _ h5 h6 hc
    · rw [if_neg hc]

theorem mid_is (a b : List S35) (x2 : Int) (k : Nat) (ha : a.length ≤ 1048576) (h2 : -9223372036854775808 ≤ x2 ∧ x2 ≤ 9223372036854775807) (hk : a.length < k) (m : Bool)
    (hm : m = true ↔ a = [] ∨ b = [] ∨ (rd_T35 a ((a.length : Int) - 1)).f0 < (rd_T35 b 0).f0) :
    inclinelaw03_KeysPieces.j1 (k + 1) a x2 true (checkOf a) (checkOf b) (checkOf (a ++ b)) m = some true := by
  have hca := check_append a b
  obtain ⟨k, rfl⟩ : ∃ q, k = q + 1 := ⟨k - 1, by omega⟩
  have hE := end_is a x2 k ha h2
  simp only [inclinelaw03_KeysPieces.j1]
  have hcases : ∀ r : Bool, (checkOf (a ++ b) == 0) = r → (r = true ↔ checkOf a = 0 ∧ checkOf b = 0 ∧ m = true) := fun r hr => by
    rw [← hr, beq_iff_eq, hca, hm]
  by_cases h1 : checkOf a = 0
  · rw [if_pos h1]
    have hof : keys_Of.f (k + 1) a = some (keysOf a) := of_f a (by omega) _ hk
    have hri : keys_Rising.f (keysOf a) = some true := by
      unfold keys_Rising.f
      rw [(rises_iff _).2 ((check_ok a).1 h1).1]
    by_cases h3 : checkOf b = 0
    · rw [if_pos h3]
      have e : ((checkOf (a ++ b) == 0) != m) = false := by
        rw [bne_eq_false_iff_eq, Bool.eq_iff_iff, hcases _ rfl]
        exact ⟨fun h => h.2.2, fun h => ⟨h1, h3, h⟩⟩
      rw [e, if_neg (by simp), hof]
      simp only [Option.bind_some, hri, Bool.not_true]
      exact hE
    · rw [if_neg h3]
      have e : ((checkOf (a ++ b) == 0) != false) = false := by
        rw [bne_eq_false_iff_eq, Bool.eq_false_iff]
        exact fun h => h3 ((hcases _ rfl).1 h).2.1
      rw [e, if_neg (by simp), hof]
      simp only [Option.bind_some, hri, Bool.not_true]
      exact hE
  · rw [if_neg h1]
    have e : ((checkOf (a ++ b) == 0) != false) = false := by
      rw [bne_eq_false_iff_eq, Bool.eq_false_iff]
      exact fun h => h1 ((hcases _ rfl).1 h).1
    rw [e, if_neg (by simp)]
    exact hE

theorem wf_i64 {x : Int} (h : (Lit.int .i64 x).wf = true) : -9223372036854775808 ≤ x ∧ x ≤ 9223372036854775807 := by
  simp [Lit.wf, IntKind.min, IntKind.max, IntKind.signed, IntKind.bits] at h
  omega
theorem j0_is (a b : List S35) (x2 : Int) (K : Nat) (ha : a.length ≤ 1048576) (hb : b.length ≤ 1048576) (h2' : -9223372036854775808 ≤ x2 ∧ x2 ≤ 9223372036854775807) (hK : a.length < K) :
    inclinelaw03_KeysPieces.j0 (K + 2) a b x2 true (checkOf a) (checkOf b) (checkOf (a ++ b)) false = some true := by
  have hmid := mid_is a b x2 K ha h2' hK
  simp only [inclinelaw03_KeysPieces.j0]
  rw [if_neg (by simp)]
  by_cases h0 : (a.length : Int) = 0
  · rw [if_pos h0]
    exact hmid _ ⟨fun _ => .inl (List.eq_nil_of_length_eq_zero (by omega)), fun _ => rfl⟩
  · rw [if_neg h0]
    by_cases h1 : (b.length : Int) = 0
    · rw [if_pos h1]
      exact hmid _ ⟨fun _ => .inr (.inl (List.eq_nil_of_length_eq_zero (by omega))), fun _ => rfl⟩
    · rw [if_neg h1, w64 (i := (a.length : Int) - 1) (by omega) (by omega), if_pos (by omega), if_pos (by omega), if_pos (by omega)]
      refine hmid _ ?_
      rw [decide_eq_true_iff]
      constructor
      · exact fun h => .inr (.inr h)
      · rintro (rfl | rfl | h)
        · simp at h0
        · simp at h1
        · exact h
theorem KeysPieces (a b : List S35) (x2 : Int) (ha : a.length ≤ 1048576) (hb : b.length ≤ 1048576) (h2 : (Lit.int .i64 x2).wf = true) : ∃ k, inclinelaw03_KeysPieces.f k a b x2 = some true := by
  have h2' := wf_i64 h2
  obtain ⟨K, hK⟩ : ∃ K, a.length + b.length + 11 ≤ K := ⟨_, Nat.le_refl _⟩
  refine ⟨K + 2, ?_⟩
  have hl : (a ++ b).length = a.length + b.length := List.length_append
  have la := liveN_le a
  have lb := liveN_le b
  unfold inclinelaw03_KeysPieces.f
  rw [shown_is _ (by omega)]
  have hc : ∀ l, keys_Check.f l = some (checkOf l) := fun _ => rfl
  have h0 : ¬ (liveN a : Int) < 0 := by omega
  have h1 : ¬ (liveN a : Int) > (a.length : Int) := by omega
  have h2 : ((liveN a + liveN b : Nat) : Int) = wrap64 ((liveN a : Int) + (liveN b : Int)) := by rw [w64 (by omega) (by omega)]; omega
  rw [Option.bind_some, if_pos rfl, Option.bind_some, if_pos (by simp; omega), Option.bind_some, if_pos (by simp; omega), Option.bind_some, List.nil_append]
  rw [hc, Option.bind_some, hc, Option.bind_some, hc, Option.bind_some, live_f (a ++ b) (by omega) _ (by omega), Option.bind_some, live_f a (by omega) _ (by omega), Option.bind_some, live_f b (by omega) _ (by omega), Option.bind_some, liveN_append]
  rw [if_pos h2, Option.bind_some, if_neg h0, Option.bind_some, decide_eq_false h1]
  exact j0_is a b x2 K ha hb h2' (by omega)
end Go.Proofs.Ytmblnpgeaihebaa.Pure
