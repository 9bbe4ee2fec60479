/- Plain laws, on: how many are live; the keys; when nothing is wrong with entries. -/
import Derived.Test.YtmblnpgeaihebaaPlain2
import Derived.Test.YtmblnpgeaihebaaGx3
import Derived.Test.YtmblnpgeaihebaaGx4
namespace Go.Proofs.Ytmblnpgeaihebaa.Pure
open Go.RowKit Go.Proofs.Ytmblnpgeaihebaa.G Go.Proofs.YtmblnpgeaihebaaW.PrintWords Go.Proofs.YtmblnpgeaihebaaW.PrintLast

def liveN (l : List S35) : Nat := l.countP fun x => !x.f2
theorem liveN_le (l : List S35) : liveN l ≤ l.length := List.countP_le_length
theorem liveN_append (a b : List S35) : liveN (a ++ b) = liveN a + liveN b := List.countP_append
theorem rd_get (l : List S35) (i : Nat) (h : i < l.length) : rd_T35 l (i : Int) = l[i] := by
  unfold rd_T35
  rw [Int.toNat_natCast, List.getD_eq_getElem?_getD, List.getElem?_eq_getElem h]; rfl
theorem liveN_take (l : List S35) (i : Nat) (h : i < l.length) : liveN (l.take (i + 1)) = liveN (l.take i) + if (rd_T35 l (i : Int)).f2 = true then 0 else 1 := by
  unfold liveN
  rw [List.take_succ_eq_append_getElem h, List.countP_append, rd_get l i h]
  cases hq : l[i].f2 <;> simp [hq]

theorem live_is (l : List S35) (hl : l.length ≤ 17592186044416) : ∀ (d : Nat) (i : Nat) (k : Nat), l.length ≤ i + d → i ≤ l.length → d < k →
    keys_Live.l0 k (liveN (l.take i)) l l.length i = some (liveN l : Int) := by
  intro d
  induction d with
  | zero =>
    intro i k h1 h2 hk
    obtain ⟨k, rfl⟩ : ∃ m, k = m + 1 := ⟨k - 1, by omega⟩
    simp only [keys_Live.l0]
    rw [if_neg (by omega), List.take_of_length_le (by omega)]
  | succ d ih =>
    intro i k h1 h2 hk
    by_cases hlt : i < l.length
    · obtain ⟨k, rfl⟩ : ∃ m, k = m + 1 := ⟨k - 1, by omega⟩
      have := ih (i + 1) k (by omega) (by omega) (by omega)
      rw [liveN_take l i hlt] at this
      have hle := liveN_le (l.take i)
      rw [List.length_take] at hle
      simp only [keys_Live.l0]
      rw [if_pos (by omega), if_pos (by omega), if_pos (by omega), w64 (i := (i : Int) + 1) (by omega) (by omega), w64 (i := (liveN (l.take i) : Int) + 1) (by omega) (by omega)]
      by_cases hq : (rd_T35 l (i : Int)).f2 = true
      · rw [if_pos hq] at this ⊢
        simpa using this
      · rw [if_neg hq] at this ⊢
        simpa using this
    · exact ih i k (by omega) h2 (by omega)
theorem live_f (l : List S35) (hl : l.length ≤ 17592186044416) (k : Nat) (hk : l.length < k) : keys_Live.f k l = some (liveN l : Int) := by
  have := live_is l hl l.length 0 k (by omega) (by omega) hk
  simpa [keys_Live.f, liveN] using this

theorem of_is (l : List S35) (hl : l.length ≤ 17592186044416) : ∀ (d : Nat) (i : Nat) (k : Nat) (x : List Int), l.length ≤ i + d → i ≤ l.length → d < k → x.length = l.length → x.take i = (keysOf l).take i →
    keys_Of.l0 k x l l.length i = some (keysOf l) := by
  intro d
  induction d with
  | zero =>
    intro i k x h1 h2 hk hx he
    obtain ⟨k, rfl⟩ : ∃ m, k = m + 1 := ⟨k - 1, by omega⟩
    simp only [keys_Of.l0]
    rw [if_neg (by omega)]
    rw [List.take_of_length_le (by omega), List.take_of_length_le (by simp [keysOf]; omega)] at he
    rw [he]
  | succ d ih =>
    intro i k x h1 h2 hk hx he
    by_cases hlt : i < l.length
    · obtain ⟨k, rfl⟩ : ∃ m, k = m + 1 := ⟨k - 1, by omega⟩
      simp only [keys_Of.l0]
      rw [if_pos (by omega), if_pos (by omega), if_pos (by omega), if_pos (by omega), w64 (by omega) (by omega), Int.toNat_natCast]
      refine ih (i + 1) k _ (by omega) (by omega) (by omega) (by simpa using hx) ?_
      have hk' : i < (keysOf l).length := by simpa [keysOf] using hlt
      rw [List.take_succ_eq_append_getElem hk', ← he, List.take_succ_eq_append_getElem (by simp; omega), List.take_set_of_le (by omega)]
      congr 2
      rw [List.getElem_set_self, rd_get l i hlt]
      simp [keysOf]
    · exact ih i k x (by omega) h2 (by omega) hx he
theorem of_f (l : List S35) (hl : l.length ≤ 17592186044416) (k : Nat) (hk : l.length < k) : keys_Of.f k l = some (keysOf l) := by
  unfold keys_Of.f
  rw [if_pos (by omega), if_pos (by omega), Int.toNat_natCast]
  exact of_is l hl l.length 0 k _ (by omega) (by omega) hk (by simp) (by simp)

/-- Nothing is wrong: the keys rise, and no tombstone has a value. -/
theorem check_ok (l : List S35) : checkOf l = 0 ↔ Rises (keysOf l) ∧ ∀ x ∈ l, badB x = false := by
  have hlen : (keysOf l).length = l.length := by simp [keysOf]
  have hbad : idxBad l = -1 ↔ ∀ x ∈ l, badB x = false := by
    constructor
    · intro h
      induction l with
      | nil => intro x hx; cases hx
      | cons y l ih =>
        unfold idxBad at h
        by_cases hy : badB y = true
        · rw [if_pos hy] at h; omega
        · rw [if_neg hy] at h
          intro x hx
          rcases List.mem_cons.1 hx with rfl | hx
          · simpa using hy
          · have hg := idxBad_ge l
            refine ih (by simp [keysOf]) ?_ x hx
            split at h <;> omega
    · intro h
      refine idxBad_miss l fun i hi => h _ ?_
      rw [List.getD_eq_getElem?_getD, List.getElem?_eq_getElem hi]
      exact List.getElem_mem hi
  have hge := idxBad_ge l
  unfold checkOf
  by_cases h0 : 0 ≤ idxBad l
  · rw [if_pos h0, if_pos h0]
    constructor
    · intro h
      split at h <;> omega
    · rintro ⟨_, h⟩
      have := hbad.2 h
      omega
  · rw [if_neg h0, if_neg h0, ← hlen, ← rises_iff]
    constructor
    · intro h
      split at h
      · rename_i hr
        exact ⟨hr, hbad.1 (by omega)⟩
      · omega
    · rintro ⟨hr, _⟩
      rw [if_pos hr]

theorem rises_append (a b : List Int) : Rises (a ++ b) ↔ Rises a ∧ Rises b ∧ (a = [] ∨ b = [] ∨ a.getD (a.length - 1) 0 < b.getD 0 0) := by
  have ga : ∀ i, i < a.length → (a ++ b).getD i 0 = a.getD i 0 := fun i h => by
    rw [List.getD_eq_getElem?_getD, List.getElem?_append_left h, ← List.getD_eq_getElem?_getD]
  have gb : ∀ i, (a ++ b).getD (a.length + i) 0 = b.getD i 0 := fun i => by
    rw [List.getD_eq_getElem?_getD, List.getElem?_append_right (by omega), Nat.add_sub_cancel_left, ← List.getD_eq_getElem?_getD]
  constructor
  · intro h
    refine ⟨fun i j hij hj => ?_, fun i j hij hj => ?_, ?_⟩
    · have := h i j hij (by rw [List.length_append]; omega)
      rw [ga i (by omega), ga j hj] at this
      exact this
    · have := h (a.length + i) (a.length + j) (by omega) (by rw [List.length_append]; omega)
      rw [gb, gb] at this
      exact this
    · rcases Nat.eq_zero_or_pos a.length with h0 | h0
      · exact .inl (List.eq_nil_of_length_eq_zero h0)
      · rcases Nat.eq_zero_or_pos b.length with h1 | h1
        · exact .inr (.inl (List.eq_nil_of_length_eq_zero h1))
        · have := h (a.length - 1) (a.length + 0) (by omega) (by rw [List.length_append]; omega)
          rw [ga _ (by omega), gb] at this
          exact .inr (.inr this)
  · rintro ⟨h1, h2, h3⟩ i j hij hj
    rw [List.length_append] at hj
    rcases Nat.lt_or_ge j a.length with hja | hja
    · rw [ga i (by omega), ga j hja]
      exact h1 i j hij hja
    · obtain ⟨m, rfl⟩ : ∃ m, j = a.length + m := ⟨j - a.length, by omega⟩
      rw [gb]
      rcases Nat.lt_or_ge i a.length with hia | hia
      · rw [ga i hia]
        have h4 : a.getD (a.length - 1) 0 < b.getD 0 0 := by
          rcases h3 with rfl | rfl | h3
          · simp at hia
          · simp at hj; omega
          · exact h3
        have h5 : a.getD i 0 ≤ a.getD (a.length - 1) 0 := by
          rcases Nat.lt_or_ge i (a.length - 1) with h | h
          · exact Int.le_of_lt (h1 i _ h (by omega))
          · rw [show i = a.length - 1 from by omega]; exact Int.le_refl _
        have h6 : b.getD 0 0 ≤ b.getD m 0 := by
          rcases Nat.eq_zero_or_pos m with h | h
          · subst h; exact Int.le_refl _
          · exact Int.le_of_lt (h2 0 m h (by omega))
        omega
      · obtain ⟨q, rfl⟩ : ∃ q, i = a.length + q := ⟨i - a.length, by omega⟩
        rw [gb]
        exact h2 q m (by omega) (by omega)

theorem keysOf_append (a b : List S35) : keysOf (a ++ b) = keysOf a ++ keysOf b := by simp [keysOf]
theorem check_append (a b : List S35) : checkOf (a ++ b) = 0 ↔ checkOf a = 0 ∧ checkOf b = 0 ∧ (a = [] ∨ b = [] ∨ (rd_T35 a ((a.length : Int) - 1)).f0 < (rd_T35 b 0).f0) := by
  rw [check_ok, check_ok, check_ok, keysOf_append, rises_append]
  have e1 : (keysOf a = []) ↔ a = [] := by simp [keysOf]
  have e2 : (keysOf b = []) ↔ b = [] := by simp [keysOf]
  have e3 : a ≠ [] → b ≠ [] → ((keysOf a).getD ((keysOf a).length - 1) 0 = (rd_T35 a ((a.length : Int) - 1)).f0 ∧ (keysOf b).getD 0 0 = (rd_T35 b 0).f0) := fun ha hb => by
    have la : 0 < a.length := List.length_pos_iff.2 ha
    have lb : 0 < b.length := List.length_pos_iff.2 hb
    constructor
    · rw [← rd_keysOf a _ (by omega)]
      unfold rd
      congr 1
      simp [keysOf]
    · rw [← rd_keysOf b _ (by simpa using lb)]
      rfl
  rw [e1, e2]
  constructor
  · rintro ⟨⟨h1, h2, h3⟩, h4⟩
    refine ⟨⟨h1, fun x hx => h4 x (List.mem_append_left _ hx)⟩, ⟨h2, fun x hx => h4 x (List.mem_append_right _ hx)⟩, ?_⟩
    by_cases ha : a = []
    · exact .inl ha
    by_cases hb : b = []
    · exact .inr (.inl hb)
    rcases h3 with h | h | h
    · exact absurd h ha
    · exact absurd h hb
    · rw [(e3 ha hb).1, (e3 ha hb).2] at h
      exact .inr (.inr h)
  · rintro ⟨⟨h1, h2⟩, ⟨h3, h4⟩, h5⟩
    refine ⟨⟨h1, h3, ?_⟩, fun x hx => ?_⟩
    · by_cases ha : a = []
      · exact .inl ha
      by_cases hb : b = []
      · exact .inr (.inl hb)
      rcases h5 with h | h | h
      · exact absurd h ha
      · exact absurd h hb
      · rw [(e3 ha hb).1, (e3 ha hb).2]
        exact .inr (.inr h)
    · rcases List.mem_append.1 hx with hx | hx
      · exact h2 x hx
      · exact h4 x hx
theorem check_take (l : List S35) (n : Nat) (h : checkOf l = 0) : checkOf (l.take n) = 0 ∧ checkOf (l.drop n) = 0 := by
  rw [← List.take_append_drop n l] at h
  have := (check_append _ _).1 h
  exact ⟨this.1, this.2.1⟩
end Go.Proofs.Ytmblnpgeaihebaa.Pure
