/- Some of the claim's own texts, in one file: MergeP. Conditions: each theorem's own. -/
import Derived.Test.YtojbfjfjhfnopaaZBase1
section
/- What a merge of rising lists is: each key once, with the first list's thing. No program in sight. -/
namespace Go.Proofs.Ytojbfjfjhfnopaa.MergeL
set_option linter.unusedVariables false
section
variable {α : Type} (key : α → Int)
def find (k : Int) (xs : List α) : Option α := xs.find? (fun x => key x == k)
def look (k : Int) : List (List α) → Option α
  | [] => none
  | xs :: r => (find key k xs).or (look k r)
def Rise (xs : List α) : Prop := xs.Pairwise (fun x y => key x < key y)
variable {key}
theorem find_none {k : Int} {xs : List α} : find key k xs = none ↔ ∀ x ∈ xs, key x ≠ k := by
  unfold find
  rw [List.find?_eq_none]
  constructor
  · intro h x hx e; exact h x hx (by simp [e])
  · intro h x hx e; exact h x hx (by simpa using e)
theorem find_some {k : Int} {xs : List α} {x : α} (h : find key k xs = some x) : x ∈ xs ∧ key x = k := by
  unfold find at h
  exact ⟨List.mem_of_find?_eq_some h, by simpa using List.find?_some h⟩
theorem find_mem {xs : List α} {x : α} (hr : Rise key xs) (hx : x ∈ xs) : find key (key x) xs = some x := by
  induction xs with
  | nil => cases hx
  | cons y t ih =>
    have hr2 := List.pairwise_cons.1 hr
    rcases List.mem_cons.1 hx with rfl | hx
    · simp [find]
    · have := hr2.1 x hx
      have hn : ¬ key y = key x := by omega
      have := ih hr2.2 hx
      unfold find at this ⊢
      rw [List.find?_cons_of_neg (by simpa using hn)]
      exact this
/-- Two rising lists in which the same is found are the same. -/
theorem rise_ext {xs ys : List α} (hx : Rise key xs) (hy : Rise key ys) (h : ∀ k, find key k xs = find key k ys) : xs = ys := by
  induction xs generalizing ys with
  | nil =>
    cases ys with
    | nil => rfl
    | cons y t =>
      have := h (key y)
      rw [find_mem hy List.mem_cons_self] at this
      simp [find] at this
  | cons x s ih =>
    cases ys with
    | nil =>
      have := h (key x)
      rw [find_mem hx List.mem_cons_self] at this
      simp [find] at this
    | cons y t =>
      have hx2 := List.pairwise_cons.1 hx
      have hy2 := List.pairwise_cons.1 hy
      have e : x = y := by
        have h1 := h (key x)
        rw [find_mem hx List.mem_cons_self] at h1
        have h2 := h (key y)
        rw [find_mem hy List.mem_cons_self] at h2
        rcases List.mem_cons.1 (find_some h1.symm).1 with e | e
        · exact e
        · rcases List.mem_cons.1 (find_some h2).1 with e2 | e2
          · exact e2.symm
          · have := hx2.1 y e2
            have := hy2.1 x e
            omega
      subst e
      congr 1
      refine ih hx2.2 hy2.2 fun k => ?_
      have hk := h k
      by_cases e : key x = k
      · have a : find key k s = none := find_none.2 fun z hz e2 => by have := hx2.1 z hz; omega
        have b : find key k t = none := find_none.2 fun z hz e2 => by have := hy2.1 z hz; omega
        rw [a, b]
      · unfold find at hk ⊢
        rw [List.find?_cons_of_neg (by simpa using e), List.find?_cons_of_neg (by simpa using e)] at hk
        exact hk
theorem pick_le {rem : List (List α)} {y : α} (h : pick key rem = some y) : ∀ xs ∈ rem, ∀ z zs, xs = z :: zs → key y ≤ key z := by
  induction rem generalizing y with
  | nil => simp [pick] at h
  | cons l r ih =>
    intro xs hm z zs e
    cases l with
    | nil =>
      rcases List.mem_cons.1 hm with hm | hm
      · subst hm; cases e
      · exact ih (by simpa [pick] using h) xs hm z zs e
    | cons a t =>
      simp only [pick] at h
      cases hp : pick key r with
      | none =>
        rw [hp] at h
        simp only [Option.some.injEq] at h
        subst h
        rcases List.mem_cons.1 hm with hm | hm
        · subst hm; injection e with e; subst e; exact Int.le_refl _
        · have := (pick_none key).1 hp xs hm
          subst e; cases this
      | some b =>
        rw [hp] at h
        simp only at h
        rcases List.mem_cons.1 hm with hm | hm
        · subst hm; injection e with e; subst e
          split at h <;> (injection h with h; subst h; omega)
        · have := ih hp xs hm z zs e
          split at h <;> (injection h with h; subst h; omega)
theorem head_le {xs : List α} {z : α} {zs : List α} (hr : Rise key (z :: zs)) : ∀ w ∈ z :: zs, key z ≤ key w := by
  intro w hw
  rcases List.mem_cons.1 hw with rfl | hw
  · exact Int.le_refl _
  · exact Int.le_of_lt ((List.pairwise_cons.1 hr).1 w hw)
/-- All keys are at least the least head's. -/
theorem pick_all {rem : List (List α)} {y : α} (hr : ∀ xs ∈ rem, Rise key xs) (h : pick key rem = some y) : ∀ xs ∈ rem, ∀ w ∈ xs, key y ≤ key w := by
  intro xs hm w hw
  cases xs with
  | nil => cases hw
  | cons z zs =>
    have h1 := pick_le h _ hm z zs rfl
    have h2 := head_le (xs := z :: zs) (hr _ hm) w hw
    omega
theorem look_none {k : Int} {rem : List (List α)} : look key k rem = none ↔ ∀ xs ∈ rem, ∀ x ∈ xs, key x ≠ k := by
  induction rem with
  | nil => simp [look]
  | cons xs r ih =>
    rw [List.forall_mem_cons, ← ih, ← find_none]
    simp only [look]
    cases find key k xs <;> simp
/-- The least head is what is found under its key. -/
theorem pick_look {rem : List (List α)} {y : α} (hr : ∀ xs ∈ rem, Rise key xs) (h : pick key rem = some y) : look key (key y) rem = some y := by
  induction rem generalizing y with
  | nil => simp [pick] at h
  | cons l r ih =>
    have hr2 : ∀ xs ∈ r, Rise key xs := fun xs hx => hr xs (List.mem_cons_of_mem _ hx)
    have hall := pick_all hr h
    cases l with
    | nil => simpa [look, find] using ih hr2 (by simpa [pick] using h)
    | cons a t =>
      simp only [pick] at h
      cases hp : pick key r with
      | none =>
        rw [hp] at h
        simp only [Option.some.injEq] at h
        subst h
        simp [look, find]
      | some b =>
        rw [hp] at h
        simp only at h
        split at h
        · rename_i hlt
          injection h with h
          subst h
          have hn : find key (key b) (a :: t) = none := find_none.2 fun z hz e => by
            have := head_le (xs := a :: t) (hr _ List.mem_cons_self) z hz
            omega
          simp only [look, hn, Option.none_or]
          exact ih hr2 hp
        · injection h with h
          subst h
          simp [look, find]
theorem drop1_rise {k : Int} {xs : List α} (h : Rise key xs) : Rise key (drop1 key k xs) := by
  cases xs with
  | nil => exact h
  | cons x t =>
    simp only [drop1]
    split
    · exact (List.pairwise_cons.1 h).2
    · exact h
theorem drop1_find {k : Int} {xs : List α} (hr : Rise key xs) (hk : ∀ x ∈ xs, k ≤ key x) (j : Int) : find key j (drop1 key k xs) = if j = k then none else find key j xs := by
  cases xs with
  | nil => simp [drop1, find]
  | cons x t =>
    have hr2 := List.pairwise_cons.1 hr
    simp only [drop1]
    by_cases e : key x = k
    · rw [if_pos e]
      by_cases ej : j = k
      · rw [if_pos ej]
        exact find_none.2 fun z hz e2 => by have := hr2.1 z hz; omega
      · rw [if_neg ej]
        unfold find
        rw [List.find?_cons_of_neg (by simp; omega)]
    · rw [if_neg e]
      by_cases ej : j = k
      · rw [if_pos ej]
        refine find_none.2 fun z hz e2 => ?_
        have h1 := hk x List.mem_cons_self
        have h2 := head_le (xs := x :: t) hr z hz
        omega
      · rw [if_neg ej]
theorem step_look {k : Int} {rem : List (List α)} (hr : ∀ xs ∈ rem, Rise key xs) (hk : ∀ xs ∈ rem, ∀ x ∈ xs, k ≤ key x) (j : Int) : look key j (step key k rem) = if j = k then none else look key j rem := by
  induction rem with
  | nil => simp [step, look]
  | cons xs r ih =>
    have h1 := drop1_find (hr xs List.mem_cons_self) (hk xs List.mem_cons_self) j
    have h2 := ih (fun ys hy => hr ys (List.mem_cons_of_mem _ hy)) (fun ys hy => hk ys (List.mem_cons_of_mem _ hy))
    unfold step at h2 ⊢
    simp only [List.map_cons, look, h1, h2]
    split <;> simp
theorem len_le_total {rem : List (List α)} {xs : List α} (h : xs ∈ rem) : xs.length ≤ total rem := by
  induction rem with
  | nil => cases h
  | cons l r ih =>
    simp only [total, List.map_cons, List.sum_cons] at ih ⊢
    rcases List.mem_cons.1 h with e | e
    · subst e; omega
    · have := ih e; omega
theorem mergeF_rise (f : Nat) (rem : List (List α)) (hf : total rem ≤ f) (hr : ∀ xs ∈ rem, Rise key xs) : Rise key (mergeF key f rem) ∧ (∀ k, find key k (mergeF key f rem) = look key k rem) := by
  induction f generalizing rem with
  | zero =>
    refine ⟨List.Pairwise.nil, fun k => ?_⟩
    have : look key k rem = none := look_none.2 fun xs hx x hxx => by
      have h1 : xs.length ≤ total rem := len_le_total hx
      have : xs = [] := List.eq_nil_of_length_eq_zero (by omega)
      subst this
      cases hxx
    rw [this]; rfl
  | succ f ih =>
    cases hp : pick key rem with
    | none =>
      have hl : ∀ k, look key k rem = none := fun k => look_none.2 fun xs hx x hxx => by
        have := (pick_none key).1 hp xs hx
        subst this
        cases hxx
      refine ⟨?_, fun k => ?_⟩
      · simp only [mergeF, hp]; exact List.Pairwise.nil
      · simp only [mergeF, hp, hl]; rfl
    | some y =>
      have hall := pick_all hr hp
      have hin : ∃ (i : Nat) (ys : List α), rem[i]? = some (y :: ys) := by
        have hy := pick_look hr hp
        clear hall ih hf
        induction rem with
        | nil => simp [pick] at hp
        | cons l r ih =>
          cases l with
          | nil =>
            obtain ⟨i, ys, h⟩ := ih (fun xs hx => hr xs (List.mem_cons_of_mem _ hx)) (by simpa [pick] using hp) (pick_look (fun xs hx => hr xs (List.mem_cons_of_mem _ hx)) (by simpa [pick] using hp))
            exact ⟨i + 1, ys, by simpa using h⟩
          | cons a t =>
            simp only [pick] at hp
            cases hq : pick key r with
            | none =>
              rw [hq] at hp
              simp only [Option.some.injEq] at hp
              subst hp
              exact ⟨0, t, rfl⟩
            | some b =>
              rw [hq] at hp
              simp only at hp
              split at hp
              · injection hp with hp
                subst hp
                obtain ⟨i, ys, h⟩ := ih (fun xs hx => hr xs (List.mem_cons_of_mem _ hx)) hq (pick_look (fun xs hx => hr xs (List.mem_cons_of_mem _ hx)) hq)
                exact ⟨i + 1, ys, by simpa using h⟩
              · injection hp with hp
                subst hp
                exact ⟨0, t, rfl⟩
      obtain ⟨i, ys, hi⟩ := hin
      have ht := total_step key hi
      have hr2 : ∀ xs ∈ step key (key y) rem, Rise key xs := fun xs hx => by
        obtain ⟨zs, hz, rfl⟩ := List.mem_map.1 hx
        exact drop1_rise (hr zs hz)
      obtain ⟨h1, h2⟩ := ih (step key (key y) rem) (by omega) hr2
      have h3 : ∀ k, find key k (mergeF key f (step key (key y) rem)) = if k = key y then none else look key k rem := fun k => (h2 k).trans (step_look hr hall k)
      simp only [mergeF, hp]
      refine ⟨List.pairwise_cons.2 ⟨fun z hz => ?_, h1⟩, fun k => ?_⟩
      · have h4 := find_mem h1 hz
        rw [h3] at h4
        split at h4
        · cases h4
        · rename_i hne
          have : look key (key z) rem ≠ none := by rw [h4]; simp
          rw [Ne, look_none] at this
          have h5 : ¬ ∀ xs ∈ rem, ∀ x ∈ xs, key x ≠ key z := this
          have : key y ≤ key z := by
            apply Classical.byContradiction
            intro hlt
            exact h5 fun xs hx x hxx e => by have := hall xs hx x hxx; omega
          omega
      · by_cases e : k = key y
        · subst e
          rw [pick_look hr hp]
          simp [find]
        · have := h3 k
          rw [if_neg e] at this
          unfold find at this ⊢
          rw [List.find?_cons_of_neg (by simp; omega)]
          exact this
theorem mergeL_rise {rem : List (List α)} (hr : ∀ xs ∈ rem, Rise key xs) : Rise key (mergeL key rem) := (mergeF_rise _ rem (Nat.le_refl _) hr).1
theorem mergeL_find {rem : List (List α)} (hr : ∀ xs ∈ rem, Rise key xs) (k : Int) : find key k (mergeL key rem) = look key k rem := (mergeF_rise _ rem (Nat.le_refl _) hr).2 k
theorem mergeL_ext {rem : List (List α)} (hr : ∀ xs ∈ rem, Rise key xs) {ys : List α} (hy : Rise key ys) (h : ∀ k, look key k rem = find key k ys) : mergeL key rem = ys := rise_ext (mergeL_rise hr) hy (fun k => (mergeL_find hr k).trans (h k))
theorem mergeF_length (f : Nat) (rem : List (List α)) : (mergeF key f rem).length ≤ f := by
  induction f generalizing rem with
  | zero => exact Nat.le_refl _
  | succ f ih =>
    simp only [mergeF]
    split
    · simp
    · simp only [List.length_cons]; exact Nat.succ_le_succ (ih _)
theorem mergeL_length (rem : List (List α)) : (mergeL key rem).length ≤ total rem := mergeF_length _ _
end
end Go.Proofs.Ytojbfjfjhfnopaa.MergeL
end
