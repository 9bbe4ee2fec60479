/- Plain laws of layer 3's functions: what the walks' functions compute, in lists and numbers. -/
import Derived.Test.YtmblnpgeaihebaaGx10
import Derived.Test.YtmblnpgeaihebaaGx12
import Derived.Test.YtmblnpgeaihebaaGx13
import Derived.Test.YtmblnpgeaihebaaGx14
import Derived.Test.YtmblnpgeaihebaaGiven2
namespace Go.Proofs.Ytmblnpgeaihebaa.Pure
open Go.RowKit Go.Proofs.Ytmblnpgeaihebaa.G Go.Proofs.YtmblnpgeaihebaaW.PrintWords Go.Proofs.YtmblnpgeaihebaaW.PrintLast

theorem w64 {i : Int} (h0 : -9223372036854775808 ≤ i) (h1 : i ≤ 9223372036854775807) : wrap64 i = i := by unfold wrap64; omega

/-- How many keys are below q. -/
def rankOf (l : List Int) (q : Int) : Nat := l.countP fun x => decide (x < q)
theorem rankOf_le (l : List Int) (q : Int) : rankOf l q ≤ l.length := List.countP_le_length
def Rises (l : List Int) : Prop := ∀ i j, i < j → j < l.length → l.getD i 0 < l.getD j 0
theorem rises_iff (l : List Int) : risesTo l l.length = true ↔ Rises l := by
  constructor
  · intro h i j hij hj
    have step : ∀ m, 0 < m → m < l.length → l.getD (m - 1) 0 < l.getD m 0 := fun m h0 hm => by
      have h1 := risesTo_le l (show m + 1 ≤ l.length from hm) h
      rw [risesTo_succ, Bool.and_eq_true, Bool.or_eq_true] at h1
      rcases h1.2 with h2 | h2
      · have : m = 0 := by simpa using h2
        omega
      · exact of_decide_eq_true h2
    induction j with
    | zero => omega
    | succ j ih =>
      have h2 := step (j + 1) (by omega) hj
      simp only [Nat.add_sub_cancel] at h2
      rcases Nat.lt_or_ge i j with h3 | h3
      · have := ih h3 (by omega)
        omega
      · have : i = j := by omega
        subst this
        exact h2
  · intro h
    unfold risesTo
    rw [List.all_eq_true]
    intro i hi
    rw [List.mem_range] at hi
    rw [Bool.or_eq_true]
    rcases Nat.eq_zero_or_pos i with h0 | h0
    · left; simp [h0]
    · right; exact decide_eq_true (h _ _ (by omega) hi)
theorem rises_false (l : List Int) (h : ¬ Rises l) : risesTo l l.length = false := by
  rw [Bool.eq_false_iff]
  exact fun h' => h ((rises_iff l).1 h')
theorem getD_mem (l : List Int) (i : Nat) (h : i < l.length) : l.getD i 0 ∈ l := by
  rw [List.getD_eq_getElem?_getD, List.getElem?_eq_getElem h]
  exact List.getElem_mem h
theorem mem_getD (l : List Int) (x : Int) (h : x ∈ l) : ∃ i, i < l.length ∧ l.getD i 0 = x := by
  obtain ⟨i, hi, e⟩ := List.getElem_of_mem h
  exact ⟨i, hi, by rw [List.getD_eq_getElem?_getD, List.getElem?_eq_getElem hi]; exact e⟩
theorem rank_split (l : List Int) (q : Int) (i : Nat) (hi : i ≤ l.length) (h0 : ∀ j, j < i → l.getD j 0 < q) (h1 : ∀ j, i ≤ j → j < l.length → q ≤ l.getD j 0) : rankOf l q = i := by
  unfold rankOf
  rw [← List.take_append_drop i l, List.countP_append]
  have a : (l.take i).countP (fun x => decide (x < q)) = (l.take i).length := by
    rw [List.countP_eq_length]
    intro x hx
    obtain ⟨j, hj, rfl⟩ := mem_getD _ _ hx
    rw [List.length_take] at hj
    have := h0 j (by omega)
    rw [List.getD_eq_getElem?_getD, List.getElem?_take, if_pos (by omega), ← List.getD_eq_getElem?_getD]
    exact decide_eq_true this
  have b : (l.drop i).countP (fun x => decide (x < q)) = 0 := by
    rw [List.countP_eq_zero]
    intro x hx
    obtain ⟨j, hj, rfl⟩ := mem_getD _ _ hx
    rw [List.length_drop] at hj
    have := h1 (i + j) (by omega) (by omega)
    rw [List.getD_eq_getElem?_getD, List.getElem?_drop, ← List.getD_eq_getElem?_getD]
    simp only [decide_eq_true_eq]
    omega
  rw [a, b, List.length_take]
  omega
/-- Of keys that rise: those below the rank's place are below, the others are not. -/
theorem rank_lt (l : List Int) (q : Int) (hr : Rises l) : (∀ j, j < rankOf l q → l.getD j 0 < q) ∧ ∀ j, rankOf l q ≤ j → j < l.length → q ≤ l.getD j 0 := by
  have key : ∃ i, i ≤ l.length ∧ (∀ j, j < i → l.getD j 0 < q) ∧ ∀ j, i ≤ j → j < l.length → q ≤ l.getD j 0 := by
    have : ∀ n, n ≤ l.length → ∃ i, i ≤ n ∧ (∀ j, j < i → l.getD j 0 < q) ∧ ∀ j, i ≤ j → j < n → q ≤ l.getD j 0 := by
      intro n
      induction n with
      | zero => exact fun _ => ⟨0, Nat.le_refl _, fun j h => by omega, fun j h h' => by omega⟩
      | succ n ih =>
        intro hn
        obtain ⟨i, hi, h0, h1⟩ := ih (by omega)
        rcases Nat.lt_or_ge i n with hlt | hge
        · refine ⟨i, by omega, h0, fun j hj hj' => ?_⟩
          rcases Nat.lt_or_ge j n with h2 | h2
          · exact h1 j hj h2
          · have e : j = n := by omega
            subst e
            have := h1 i (Nat.le_refl _) hlt
            have := hr i j hlt (by omega)
            omega
        · have e : i = n := by omega
          subst e
          rcases Int.lt_or_le (l.getD i 0) q with h2 | h2
          · refine ⟨i + 1, Nat.le_refl _, fun j hj => ?_, fun j hj hj' => by omega⟩
            rcases Nat.lt_or_ge j i with h3 | h3
            · exact h0 j h3
            · have : j = i := by omega
              subst this
              exact h2
          · refine ⟨i, by omega, h0, fun j hj hj' => ?_⟩
            have : j = i := by omega
            subst this
            exact h2
    exact this l.length (Nat.le_refl _)
  obtain ⟨i, hi, h0, h1⟩ := key
  rw [rank_split l q i hi h0 h1]
  exact ⟨h0, h1⟩
theorem there_iff (l : List Int) (q : Int) (hr : Rises l) : l.contains q = true ↔ rankOf l q < l.length ∧ l.getD (rankOf l q) 0 = q := by
  obtain ⟨h0, h1⟩ := rank_lt l q hr
  rw [List.contains_iff_mem]
  constructor
  · intro h
    obtain ⟨i, hi, e⟩ := mem_getD _ _ h
    have a : rankOf l q ≤ i := by
      rcases Nat.lt_or_ge i (rankOf l q) with h2 | h2
      · have := h0 i h2; omega
      · exact h2
    rcases Nat.lt_or_ge (rankOf l q) i with h2 | h2
    · have := h1 (rankOf l q) (Nat.le_refl _) (by omega)
      have := hr _ _ h2 hi
      omega
    · have : rankOf l q = i := by omega
      rw [this]
      exact ⟨hi, e⟩
  · rintro ⟨h, e⟩
    rw [← e]
    exact getD_mem _ _ h

/-! ### the printed functions -/
theorem notNaN (c : Int) : cmp_isNaN_uint64.f c = some false := by simp [cmp_isNaN_uint64.f]
theorem notNaN' (c : Int) : slices_isNaN_uint64.f c = some false := by simp [slices_isNaN_uint64.f]
theorem less_is (a b : Int) : cmp_Less_uint64.f a b = some (decide (a < b)) := by simp [cmp_Less_uint64.f, notNaN]

theorem search_is (l : List Int) (q : Int) (hl : l.length ≤ 17592186044416) (hr : Rises l) : ∀ (d : Nat) (i j : Int) (k : Nat), 0 ≤ i → i ≤ j → j ≤ l.length → (j - i).toNat ≤ d → d < k →
    (∀ m : Nat, m < i.toNat → l.getD m 0 < q) → (∀ m : Nat, j.toNat ≤ m → m < l.length → q ≤ l.getD m 0) →
    slices_BinarySearch_uint64_uint64.l0 k l q l.length i j = some ((rankOf l q : Int), l.contains q) := by
  intro d
  induction d with
  | zero =>
    intro i j k h0 h1 h2 hd hk ha hb
    obtain ⟨k, rfl⟩ : ∃ m, k = m + 1 := ⟨k - 1, by omega⟩
    have e : i = j := by omega
    subst e
    have hR : rankOf l q = i.toNat := rank_split l q i.toNat (by omega) ha hb
    simp only [slices_BinarySearch_uint64_uint64.l0]
    rw [if_neg (by omega)]
    have ht := there_iff l q hr
    rw [hR] at ht
    by_cases hlt : i < (l.length : Int)
    · rw [if_pos hlt, if_pos h0, if_pos hlt]
      by_cases e : rd l i = q
      · rw [if_pos e, hR, ht.2 ⟨by omega, e⟩, Int.toNat_of_nonneg h0]
      · have hc : l.contains q = false := by
          rw [Bool.eq_false_iff]
          exact fun h => e (ht.1 h).2
        rw [if_neg e, notNaN', hR, hc, Int.toNat_of_nonneg h0]
        simp
    · have hc : l.contains q = false := by
        rw [Bool.eq_false_iff]
        intro h
        have := (ht.1 h).1
        omega
      rw [if_neg hlt, hR, hc, Int.toNat_of_nonneg h0]
  | succ d ih =>
    intro i j k h0 h1 h2 hd hk ha hb
    by_cases e : i = j
    · subst e
      obtain ⟨k, rfl⟩ : ∃ m, k = m + 1 := ⟨k - 1, by omega⟩
      have := ih i i (k + 1) h0 h1 h2 (by omega) (by omega) ha hb
      exact this
    · obtain ⟨k, rfl⟩ : ∃ m, k = m + 1 := ⟨k - 1, by omega⟩
      have hm : wrap64 ((IntKind.u64.wrap (wrap64 (i + j))) / 2) = (i + j) / 2 := by
        rw [w64 (i := i + j) (by omega) (by omega)]
        have : IntKind.u64.wrap (i + j) = i + j := by
          simp only [IntKind.wrap, IntKind.signed, IntKind.bits, Bool.false_and, Bool.false_eq_true, if_false]; omega
        rw [this, w64 (by omega) (by omega)]
      simp only [slices_BinarySearch_uint64_uint64.l0]
      rw [if_pos (by omega), hm, if_pos (by omega), if_pos (by omega), less_is]
      simp only [Option.bind_some]
      by_cases hlt : rd l ((i + j) / 2) < q
      · rw [if_pos (decide_eq_true hlt), w64 (by omega) (by omega)]
        refine ih _ _ _ (by omega) (by omega) h2 (by omega) (by omega) (fun m hm => ?_) hb
        rcases Nat.lt_or_ge m ((i + j) / 2).toNat with h3 | h3
        · have := hr m ((i + j) / 2).toNat h3 (by omega)
          have e' : rd l ((i + j) / 2) = l.getD ((i + j) / 2).toNat 0 := rfl
          omega
        · have : m = ((i + j) / 2).toNat := by omega
          subst this
          exact hlt
      · rw [if_neg (by simp [hlt])]
        refine ih _ _ _ h0 (by omega) (by omega) (by omega) (by omega) ha (fun m hm hm' => ?_)
        have e' : rd l ((i + j) / 2) = l.getD ((i + j) / 2).toNat 0 := rfl
        rcases Nat.lt_or_ge ((i + j) / 2).toNat m with h3 | h3
        · have := hr ((i + j) / 2).toNat m h3 (by omega)
          omega
        · have : m = ((i + j) / 2).toNat := by omega
          subst this
          omega

theorem rank_is (l : List Int) (q : Int) (hl : l.length ≤ 17592186044416) (k : Nat) (hk : l.length < k) :
    keys_Rank.f k l q = some (if risesTo l l.length = true then ((rankOf l q : Int), l.contains q) else (-1, false)) := by
  unfold keys_Rank.f keys_Rising.f
  simp only [Option.bind_some]
  by_cases h : risesTo l l.length = true
  · rw [if_pos h, if_pos h]
    unfold slices_BinarySearch_uint64_uint64.f
    rw [search_is l q hl ((rises_iff l).1 h) l.length 0 l.length k (by omega) (by omega) (by omega) (by omega) hk (fun m hm => by simp at hm) (fun m hm hm' => by omega)]
    simp
  · rw [if_neg h, if_neg h]

theorem refRising_is (l : List Int) (hl : l.length ≤ 17592186044416) : ∀ (d : Nat) (i : Nat) (k : Nat), 1 ≤ i → l.length ≤ i + d → d < k → (risesTo l (min i l.length) = true) →
    inclineref03_Rising.l0 k l i = some (risesTo l l.length) := by
  intro d
  induction d with
  | zero =>
    intro i k h1 h2 hk hr
    obtain ⟨k, rfl⟩ : ∃ m, k = m + 1 := ⟨k - 1, by omega⟩
    simp only [inclineref03_Rising.l0]
    rw [if_neg (by omega)]
    rw [show min i l.length = l.length from by omega] at hr
    rw [hr]
  | succ d ih =>
    intro i k h1 h2 hk hr
    obtain ⟨k, rfl⟩ : ∃ m, k = m + 1 := ⟨k - 1, by omega⟩
    simp only [inclineref03_Rising.l0]
    by_cases hlt : i < l.length
    · rw [if_pos (by omega), if_pos (by omega), w64 (by omega) (by omega), if_pos (by omega), if_pos (by omega)]
      rw [show min i l.length = i from by omega] at hr
      have e1 : rd l (i : Int) = l.getD i 0 := rfl
      have e2 : rd l ((i : Int) - 1) = l.getD (i - 1) 0 := by unfold rd; congr 1; omega
      rw [e1, e2]
      by_cases hle : l.getD i 0 ≤ l.getD (i - 1) 0
      · rw [if_pos hle, risesTo_bad l hlt (by omega) (by omega)]
      · rw [if_neg hle, w64 (by omega) (by omega)]
        have := ih (i + 1) k (by omega) (by omega) (by omega) (by
          rw [show min (i + 1) l.length = i + 1 from by omega, risesTo_succ, hr]
          simp only [Bool.true_and, Bool.or_eq_true]
          right
          exact decide_eq_true (by omega))
        exact this
    · rw [if_neg (by omega)]
      rw [show min i l.length = l.length from by omega] at hr
      rw [hr]
theorem refRising_f (l : List Int) (hl : l.length ≤ 17592186044416) (k : Nat) (hk : l.length < k) : inclineref03_Rising.f k l = some (risesTo l l.length) := by
  refine refRising_is l hl l.length 1 k (by omega) (by omega) hk ?_
  rcases Nat.eq_zero_or_pos l.length with h | h
  · rw [h]; rfl
  · rw [show min 1 l.length = 1 from by omega]; rfl

theorem rankOf_take_succ (l : List Int) (q : Int) (i : Nat) (h : i < l.length) : rankOf (l.take (i + 1)) q = rankOf (l.take i) q + if l.getD i 0 < q then 1 else 0 := by
  unfold rankOf
  rw [List.take_succ_eq_append_getElem h, List.countP_append]
  have : l.getD i 0 = l[i] := by rw [List.getD_eq_getElem?_getD, List.getElem?_eq_getElem h]; rfl
  rw [this]
  simp [List.countP_cons]
theorem contains_take_succ (l : List Int) (q : Int) (i : Nat) (h : i < l.length) : (l.take (i + 1)).contains q = ((l.take i).contains q || (l.getD i 0 == q)) := by
  rw [List.take_succ_eq_append_getElem h]
  have : l.getD i 0 = l[i] := by rw [List.getD_eq_getElem?_getD, List.getElem?_eq_getElem h]; rfl
  rw [this, Bool.eq_iff_iff, Bool.or_eq_true, List.contains_iff_mem, List.contains_iff_mem, List.mem_append, List.mem_singleton, beq_iff_eq]
  constructor
  · rintro (h | h)
    · exact .inl h
    · exact .inr h.symm
  · rintro (h | h)
    · exact .inl h
    · exact .inr h.symm

theorem refRank_is (l : List Int) (q : Int) (hl : l.length ≤ 17592186044416) : ∀ (d : Nat) (i : Nat) (k : Nat), i ≤ l.length → l.length ≤ i + d → d < k →
    inclineref03_Rank.l0 k l q (rankOf (l.take i) q) ((l.take i).contains q) i = some ((rankOf l q : Int), l.contains q) := by
  intro d
  induction d with
  | zero =>
    intro i k h1 h2 hk
    obtain ⟨k, rfl⟩ : ∃ m, k = m + 1 := ⟨k - 1, by omega⟩
    simp only [inclineref03_Rank.l0]
    rw [if_neg (by omega), List.take_of_length_le (by omega)]
  | succ d ih =>
    intro i k h1 h2 hk
    obtain ⟨k, rfl⟩ : ∃ m, k = m + 1 := ⟨k - 1, by omega⟩
    by_cases hlt : i < l.length
    · have := ih (i + 1) k (by omega) (by omega) (by omega)
      rw [rankOf_take_succ l q i hlt, contains_take_succ l q i hlt] at this
      have hle := rankOf_le (l.take i) q
      rw [List.length_take] at hle
      simp only [inclineref03_Rank.l0]
      have e1 : rd l (i : Int) = l.getD i 0 := rfl
      rw [if_pos (by omega), if_pos (by omega), w64 (i := (i : Int) + 1) (by omega) (by omega), w64 (i := (rankOf (l.take i) q : Int) + 1) (by omega) (by omega), e1]
      generalize (l.take i).contains q = b at *
      by_cases hq : l.getD i 0 < q
      · rw [if_pos hq] at this ⊢
        cases b
        · rw [if_neg (by simp)]
          simpa using this
        · rw [if_pos rfl]
          simpa using this
      · rw [if_neg hq] at this ⊢
        cases b
        · rw [if_neg (by simp)]
          simpa using this
        · rw [if_pos rfl]
          simpa using this
    · simp only [inclineref03_Rank.l0]
      rw [if_neg (by omega), List.take_of_length_le (by omega)]
theorem refRank_f (l : List Int) (q : Int) (hl : l.length ≤ 17592186044416) (k : Nat) (hk : l.length < k) :
    inclineref03_Rank.f k l q = some (if risesTo l l.length = true then ((rankOf l q : Int), l.contains q) else (-1, false)) := by
  unfold inclineref03_Rank.f
  rw [refRising_f l hl k hk]
  simp only [Option.bind_some]
  by_cases h : risesTo l l.length = true
  · rw [if_pos h, if_pos h]
    have := refRank_is l q hl l.length 0 k (by omega) (by omega) hk
    simpa [rankOf] using this
  · rw [if_neg h, if_neg h]
end Go.Proofs.Ytmblnpgeaihebaa.Pure
