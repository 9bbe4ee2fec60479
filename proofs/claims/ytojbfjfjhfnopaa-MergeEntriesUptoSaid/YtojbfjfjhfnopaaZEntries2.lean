/- The last of the claim's own texts, in one file: RefMerge, RefEnt, WalkEntries, RowMergeEntries. Conditions: each theorem's own. -/
import Derived.Test.YtojbfjfjhfnopaaZEntries1
import Derived.Test.YtojbfjfjhfnopaaRows
import Derived.Test.YtojbfjfjhfnopaaZBase2
import Derived.WalkKit
import Derived.ProofKit
import Derived.OpenShut
import Derived.ShutString
import Derived.ChangeOld
import Derived.Below
import Derived.SizedLaws
import Derived.JoinedCond
import Derived.Deep.CondSized
section
/- The reference's Merge, on lists. -/
namespace Go.Proofs.Ytojbfjfjhfnopaa.Pure
open Go.RowKit Go.Proofs.Ytojbfjfjhfnopaa.G Go.Proofs.YtojbfjfjhfnopaaW.PrintWords Go.Proofs.YtojbfjfjhfnopaaW.PrintLast
open MergeL
set_option linter.unusedVariables false
/-- For all fuel from some on. -/
def EvR {β : Type} (f : Nat → Option β) (r : β) : Prop := ∃ K, ∀ k, K ≤ k → f k = some r
theorem EvR.succ {β : Type} {f g : Nat → Option β} {r : β} (h : EvR g r) (M : Nat) (hf : ∀ k, M ≤ k → g k = some r → f (k + 1) = some r) : EvR f r := by
  obtain ⟨K, hK⟩ := h
  refine ⟨max K M + 1, fun k hk => ?_⟩
  obtain ⟨k, rfl⟩ : ∃ m, k = m + 1 := ⟨k - 1, by omega⟩
  exact hf k (by omega) (hK k (by omega))
theorem EvR.now {β : Type} {f : Nat → Option β} {r : β} (hf : ∀ k, f (k + 1) = some r) : EvR f r := ⟨1, fun k hk => by
  obtain ⟨k, rfl⟩ : ∃ m, k = m + 1 := ⟨k - 1, by omega⟩
  exact hf k⟩
section
variable (ks : List (List Int))
def ln (i : Nat) : Nat := (ks.getD i []).length
def ky (i p : Nat) : Int := (ks.getD i []).getD p 0
def pk (x : S54) : Int := ky ks x.f0.toNat x.f1.toNat
def mk54 (i j : Nat) : S54 := ⟨(i : Int), (j : Int)⟩
def rowAt (i p : Nat) : List S54 := ((List.range (ln ks i)).drop p).map (mk54 i)
def pos (ps : List Nat) (i : Nat) : Nat := ps.getD i 0
theorem pos_get {ps : List Nat} {j : Nat} (h : j < ps.length) : pos ps j = ps[j] := by unfold pos; rw [List.getD_eq_getElem?_getD, List.getElem?_eq_getElem h]; rfl
theorem pos_set_self {ps : List Nat} {j v : Nat} (h : j < ps.length) : pos (ps.set j v) j = v := by unfold pos; rw [List.getD_eq_getElem?_getD, List.getElem?_set_self h]; rfl
theorem pos_set_ne {ps : List Nat} {i j v : Nat} (h : i ≠ j) : pos (ps.set i v) j = pos ps j := by unfold pos; rw [List.getD_eq_getElem?_getD, List.getElem?_set_ne h, ← List.getD_eq_getElem?_getD]
def rem (ps : List Nat) : List (List S54) := (List.range ks.length).map (fun i => rowAt ks i (pos ps i))
theorem pk_mk (i j : Nat) : pk ks (mk54 i j) = ky ks i j := by simp [pk, mk54]
theorem rowAt_cons {i p : Nat} (h : p < ln ks i) : rowAt ks i p = mk54 i p :: rowAt ks i (p + 1) := by
  unfold rowAt
  rw [List.drop_eq_getElem_cons (by simpa using h), List.map_cons]
  simp
theorem rowAt_nil {i p : Nat} (h : ln ks i ≤ p) : rowAt ks i p = [] := by
  unfold rowAt
  rw [List.drop_eq_nil_of_le (by simpa using h)]
  rfl
theorem rem_get (ps : List Nat) {i : Nat} (hi : i < ks.length) : (rem ks ps)[i]? = some (rowAt ks i (pos ps i)) := by
  unfold rem
  rw [List.getElem?_map, List.getElem?_range hi]
  rfl
theorem rem_len (ps : List Nat) : (rem ks ps).length = ks.length := by simp [rem]
variable (ps : List Nat)
def sp (kk : Int) (i : Nat) : List Nat := (List.range ks.length).map (fun j => if j < i ∧ pos ps j < ln ks j ∧ ky ks j (pos ps j) = kk then pos ps j + 1 else pos ps j)
theorem sp_len (kk : Int) (i : Nat) : (sp ks ps kk i).length = ks.length := by simp [sp]
theorem sp_get (kk : Int) (i : Nat) {j : Nat} (hj : j < ks.length) : pos (sp ks ps kk i) j = if j < i ∧ pos ps j < ln ks j ∧ ky ks j (pos ps j) = kk then pos ps j + 1 else pos ps j := by
  unfold pos sp
  rw [List.getD_eq_getElem?_getD, List.getElem?_map, List.getElem?_range hj]
  rfl
theorem sp_zero (kk : Int) (hl : ps.length = ks.length) : sp ks ps kk 0 = ps := by
  apply List.ext_getElem
  · rw [sp_len, hl]
  · intro j h1 h2
    have := sp_get ks ps kk 0 (j := j) (by omega)
    rw [if_neg (by omega)] at this
    rw [pos_get h1, pos_get h2] at this
    exact this
theorem sp_succ (kk : Int) {i : Nat} (hi : i < ks.length) : sp ks ps kk (i + 1) = if pos ps i < ln ks i ∧ ky ks i (pos ps i) = kk then (sp ks ps kk i).set i (pos ps i + 1) else sp ks ps kk i := by
  have key : ∀ j, j < ks.length → pos (sp ks ps kk (i + 1)) j = pos (if pos ps i < ln ks i ∧ ky ks i (pos ps i) = kk then (sp ks ps kk i).set i (pos ps i + 1) else sp ks ps kk i) j := fun j hj => by
    rw [sp_get ks ps kk (i + 1) hj]
    by_cases e : j = i
    · subst e
      by_cases hc : pos ps j < ln ks j ∧ ky ks j (pos ps j) = kk
      · rw [if_pos ⟨by omega, hc⟩, if_pos hc]
        rw [pos_set_self (by rw [sp_len]; exact hj)]
      · rw [if_neg (fun h => hc h.2), if_neg hc, sp_get ks ps kk j hj, if_neg (by omega)]
    · have h1 : pos (if pos ps i < ln ks i ∧ ky ks i (pos ps i) = kk then (sp ks ps kk i).set i (pos ps i + 1) else sp ks ps kk i) j = pos (sp ks ps kk i) j := by
        split
        · exact pos_set_ne (Ne.symm e)
        · rfl
      rw [h1, sp_get ks ps kk i hj]
      by_cases hji : j < i
      · have e1 : (j < i + 1 ∧ pos ps j < ln ks j ∧ ky ks j (pos ps j) = kk) = (j < i ∧ pos ps j < ln ks j ∧ ky ks j (pos ps j) = kk) := by simp [hji, show j < i + 1 from by omega]
        simp only [e1]
      · rw [if_neg (fun h => by omega), if_neg (fun h => hji h.1)]
  have hlen : (if pos ps i < ln ks i ∧ ky ks i (pos ps i) = kk then (sp ks ps kk i).set i (pos ps i + 1) else sp ks ps kk i).length = ks.length := by split <;> simp [sp_len]
  apply List.ext_getElem
  · rw [sp_len, hlen]
  · intro j h1 h2
    have := key j (by rw [sp_len] at h1; exact h1)
    rw [pos_get h1, pos_get h2] at this
    exact this
theorem rem_step (kk : Int) : rem ks (sp ks ps kk ks.length) = MergeL.step (pk ks) kk (rem ks ps) := by
  apply List.ext_getElem?
  intro i
  by_cases hi : i < ks.length
  · unfold MergeL.step
    rw [rem_get ks _ hi, List.getElem?_map, rem_get ks _ hi]
    show some (rowAt ks i (pos (sp ks ps kk ks.length) i)) = some (drop1 (pk ks) kk (rowAt ks i (pos ps i)))
    congr 1
    rw [sp_get ks ps kk ks.length hi]
    by_cases hp : pos ps i < ln ks i
    · rw [rowAt_cons ks hp]
      simp only [drop1, pk_mk]
      by_cases hk : ky ks i (pos ps i) = kk
      · rw [if_pos ⟨hi, hp, hk⟩, if_pos hk]
      · rw [if_neg (fun h => hk h.2.2), if_neg hk, rowAt_cons ks hp]
    · rw [if_neg (fun h => hp h.2.1), rowAt_nil ks (Nat.not_lt.1 hp)]
      rfl
  · rw [List.getElem?_eq_none (by rw [rem_len]; omega), List.getElem?_eq_none (by simp [MergeL.step, rem_len]; omega)]
structure Small : Prop where
  n : ks.length ≤ 1048576
  len : ∀ i, ln ks i ≤ 1048576
variable {ks ps}
abbrev ints (ps : List Nat) : List Int := ps.map (fun p : Nat => (p : Int))
theorem rd_ints (i : Nat) (h : i < ps.length) : rd (ints ps) (i : Int) = (pos ps i : Int) := by
  simp [rd, ints, pos, List.getD_eq_getElem?_getD, List.getElem?_eq_getElem h]
theorem rd_L4_get (i : Nat) : rd_L4 ks (i : Int) = ks.getD i [] := rfl
theorem rd_ky (i p : Nat) : rd (ks.getD i []) (p : Int) = ky ks i p := rfl
/-- The first of the least, among the first i lists. -/
def Fst (first : Int) (i : Nat) : Prop := (first = -1 ∧ ∀ j, j < i → ln ks j ≤ pos ps j) ∨ ∃ f : Nat, first = (f : Int) ∧ f < i ∧ pos ps f < ln ks f ∧ ∀ j, j < i → pos ps j < ln ks j → ky ks f (pos ps f) < ky ks j (pos ps j) ∨ (ky ks f (pos ps f) = ky ks j (pos ps j) ∧ f ≤ j)
theorem ev_l1 (hs : Small ks) (hl : ps.length = ks.length) (hp : ∀ i, pos ps i ≤ 1048576) (out : List S54) (ho : out.length ≤ 2097152) (R : List S54) (hnone : (∀ j, j < ks.length → ln ks j ≤ pos ps j) → R = out)
    (hsome : ∀ f : Nat, f < ks.length → pos ps f < ln ks f → (∀ j, j < ks.length → pos ps j < ln ks j → ky ks f (pos ps f) < ky ks j (pos ps j) ∨ (ky ks f (pos ps f) = ky ks j (pos ps j) ∧ f ≤ j)) → EvR (fun k => inclineref13_Merge.l2 k ks (ints ps) (out ++ [mk54 f (pos ps f)]) (ky ks f (pos ps f)) 0) R) :
    ∀ (d i : Nat) (first : Int), i ≤ ks.length → ks.length ≤ i + d → Fst (ks := ks) (ps := ps) first i → EvR (fun k => inclineref13_Merge.l1 k ks (ints ps) out first i) R := by
  have hn := hs.n
  have hil : (ints ps).length = ks.length := by simp [ints, hl]
  intro d
  induction d with
  | zero =>
    intro i first hi hd hf
    obtain rfl : i = ks.length := by omega
    rcases hf with ⟨rfl, hf⟩ | ⟨f, rfl, hfi, hfp, hmin⟩
    · refine EvR.now fun k => ?_
      simp only [inclineref13_Merge.l1]
      rw [if_neg (by omega), if_pos (by omega), hnone hf]
    · refine (hsome f hfi hfp hmin).succ 0 fun k _ hk => ?_
      have hpf := hp f
      simp only [inclineref13_Merge.l1]
      rw [if_neg (by omega), if_neg (by omega), if_pos (by omega), if_pos (by omega), if_pos (by omega), if_pos (by omega), rd_ints f (by omega), rd_L4_get, if_pos (by omega), if_pos (by unfold ln at hfp; omega), rd_ky]
      exact hk
  | succ d ih =>
    intro i first hi hd hf
    by_cases hlt : i < ks.length
    · have hpi := hp i
      by_cases hpl : pos ps i < ln ks i
      · -- the list has a head
        have hnx : EvR (fun k => inclineref13_Merge.l1 k ks (ints ps) out (if first < 0 then (i : Int) else if ky ks i (pos ps i) < ky ks first.toNat (pos ps first.toNat) then (i : Int) else first) ((i + 1 : Nat) : Int)) R := by
          refine ih (i + 1) _ (by omega) (by omega) ?_
          rcases hf with ⟨rfl, hf⟩ | ⟨f, rfl, hfi, hfp, hmin⟩
          · rw [if_pos (by omega)]
            refine .inr ⟨i, rfl, by omega, hpl, fun j hj hjp => ?_⟩
            rcases Nat.lt_or_ge j i with h | h
            · have := hf j h; omega
            · obtain rfl : j = i := by omega
              exact .inr ⟨rfl, Nat.le_refl _⟩
          · rw [if_neg (by omega), Int.toNat_natCast]
            split
            · rename_i hlt2
              refine .inr ⟨i, rfl, by omega, hpl, fun j hj hjp => ?_⟩
              rcases Nat.lt_or_ge j i with h | h
              · have := hmin j h hjp; left; omega
              · obtain rfl : j = i := by omega
                exact .inr ⟨rfl, Nat.le_refl _⟩
            · rename_i hge
              refine .inr ⟨f, rfl, by omega, hfp, fun j hj hjp => ?_⟩
              rcases Nat.lt_or_ge j i with h | h
              · exact hmin j h hjp
              · obtain rfl : j = i := by omega
                omega
        refine hnx.succ 0 fun k _ hk => ?_
        simp only [inclineref13_Merge.l1]
        rw [if_pos (by omega), if_pos (by omega), if_pos (by omega), rd_ints i (by omega), rd_L4_get, if_pos (by unfold ln at hpl; omega), w64 (by omega) (by omega)]
        rcases hf with ⟨rfl, hf⟩ | ⟨f, rfl, hfi, hfp, hmin⟩
        · rw [if_pos (by omega)]
          rw [if_pos (by omega)] at hk
          exact hk
        · have hpf := hp f
          rw [if_neg (by omega), Int.toNat_natCast] at hk
          rw [if_neg (by omega), if_pos (by omega), if_pos (by omega), if_pos (by omega), if_pos (by omega), rd_ints f (by omega), rd_L4_get, if_pos (by omega), if_pos (by unfold ln at hfp; omega), rd_ky, rd_ky]
          split
          · rename_i h; rw [if_pos h] at hk; exact hk
          · rename_i h; rw [if_neg h] at hk; exact hk
      · have hnx := ih (i + 1) first (by omega) (by omega) (by
          rcases hf with ⟨rfl, hf⟩ | ⟨f, rfl, hfi, hfp, hmin⟩
          · refine .inl ⟨rfl, fun j hj => ?_⟩
            rcases Nat.lt_or_ge j i with h | h
            · exact hf j h
            · obtain rfl : j = i := by omega
              omega
          · refine .inr ⟨f, rfl, by omega, hfp, fun j hj hjp => ?_⟩
            rcases Nat.lt_or_ge j i with h | h
            · exact hmin j h hjp
            · obtain rfl : j = i := by omega
              exact absurd hjp hpl)
        refine hnx.succ 0 fun k _ hk => ?_
        simp only [inclineref13_Merge.l1]
        rw [if_pos (by omega), if_pos (by omega), if_pos (by omega), rd_ints i (by omega), rd_L4_get, if_neg (by unfold ln at hpl; omega), w64 (by omega) (by omega)]
        exact hk
    · exact ih i first hi (by omega) hf
theorem ev_l2 (hs : Small ks) (hl : ps.length = ks.length) (hp : ∀ i, pos ps i ≤ 1048576) (kk : Int) (out : List S54) (R : List S54) (hn : EvR (fun k => inclineref13_Merge.l0 k ks (ints (sp ks ps kk ks.length)) out) R) :
    ∀ (d i : Nat), i ≤ ks.length → ks.length ≤ i + d → EvR (fun k => inclineref13_Merge.l2 k ks (ints (sp ks ps kk i)) out kk i) R := by
  have hnn := hs.n
  intro d
  induction d with
  | zero =>
    intro i hi hd
    obtain rfl : i = ks.length := by omega
    refine hn.succ 0 fun k _ hk => ?_
    simp only [inclineref13_Merge.l2]
    rw [if_neg (by omega)]
    exact hk
  | succ d ih =>
    intro i hi hd
    by_cases hlt : i < ks.length
    · have hpi := hp i
      have hnx := ih (i + 1) (by omega) (by omega)
      rw [sp_succ ks ps kk hlt] at hnx
      have hil : (ints (sp ks ps kk i)).length = ks.length := by simp [ints, sp_len]
      have hg : pos (sp ks ps kk i) i = pos ps i := by rw [sp_get ks ps kk i hlt, if_neg (by omega)]
      have hrd : rd (ints (sp ks ps kk i)) (i : Int) = (pos ps i : Int) := by rw [rd_ints i (by rw [sp_len]; exact hlt), hg]
      refine hnx.succ 0 fun k _ hk => ?_
      simp only [inclineref13_Merge.l2]
      rw [if_pos (by omega), if_pos (by omega), if_pos (by omega), hrd, rd_L4_get]
      by_cases hpl : pos ps i < ln ks i
      · rw [if_pos (by unfold ln at hpl; omega), if_pos (by omega), rd_ky]
        by_cases hk2 : ky ks i (pos ps i) = kk
        · rw [if_pos ⟨hpl, hk2⟩] at hk
          rw [if_pos hk2, w64 (i := (pos ps i : Int) + 1) (by omega) (by omega), w64 (i := (i : Int) + 1) (by omega) (by omega), Int.toNat_natCast]
          have e : (ints (sp ks ps kk i)).set i ((pos ps i : Int) + 1) = ints ((sp ks ps kk i).set i (pos ps i + 1)) := by
            unfold ints
            rw [List.map_set]
            rfl
          rw [e]
          exact hk
        · rw [if_neg (fun h => hk2 h.2)] at hk
          rw [if_neg hk2, w64 (by omega) (by omega)]
          exact hk
      · rw [if_neg (fun h => hpl h.1)] at hk
        rw [if_neg (by unfold ln at hpl; omega), w64 (by omega) (by omega)]
        exact hk
    · exact ih i hi (by omega)
theorem ev_l0 (hs : Small ks) : ∀ (f : Nat) (ps : List Nat) (out : List S54), ps.length = ks.length → (∀ i, pos ps i ≤ 1048576) → (∀ i, i < ks.length → pos ps i ≤ ln ks i) → total (rem ks ps) ≤ f → out.length + f ≤ 1048576 → EvR (fun k => inclineref13_Merge.l0 k ks (ints ps) out) (out ++ mergeF (pk ks) f (rem ks ps)) := by
  intro f
  induction f with
  | zero =>
    intro ps out hl hp hle ht ho
    have hnil : ∀ j, j < ks.length → ln ks j ≤ pos ps j := fun j hj => by
      apply Classical.byContradiction
      intro h
      have h1 := rem_get ks ps hj
      have h2 := len_le_total (List.mem_of_getElem? h1)
      rw [rowAt_cons ks (Nat.not_le.1 h), List.length_cons] at h2
      omega
    refine (ev_l1 hs hl hp out (by omega) (out ++ mergeF (pk ks) 0 (rem ks ps)) (fun _ => by simp [mergeF]) (fun f hf hfp _ => by have := hnil f hf; omega) ks.length 0 (-1) (by omega) (by omega) (.inl ⟨rfl, fun j hj => by omega⟩)).succ 0 fun k _ hk => ?_
    simp only [inclineref13_Merge.l0]
    exact hk
  | succ f ih =>
    intro ps out hl hp hle ht ho
    refine (ev_l1 hs hl hp out (by omega) (out ++ mergeF (pk ks) (f + 1) (rem ks ps)) (fun hn => ?_) (fun g hg hgp hmin => ?_) ks.length 0 (-1) (by omega) (by omega) (.inl ⟨rfl, fun j hj => by omega⟩)).succ 0 fun k _ hk => ?_
    · have : pick (pk ks) (rem ks ps) = none := (pick_none (pk ks)).2 fun xs hx => by
        obtain ⟨i, hi, rfl⟩ := List.getElem_of_mem hx
        rw [rem_len] at hi
        have h1 := rem_get ks ps hi
        rw [List.getElem?_eq_getElem (by rw [rem_len]; exact hi)] at h1
        injection h1 with h1
        rw [h1]
        exact rowAt_nil ks (hn i hi)
      simp [mergeF, this]
    · have hrg : (rem ks ps)[g]? = some (mk54 g (pos ps g) :: rowAt ks g (pos ps g + 1)) := by rw [rem_get ks ps hg, ← rowAt_cons ks hgp]
      have hpick : pick (pk ks) (rem ks ps) = some (mk54 g (pos ps g)) := pick_at (pk ks) hrg fun j z zs hj => by
        have hjl : j < ks.length := by have := (List.getElem?_eq_some_iff.1 hj).1; rwa [rem_len] at this
        rw [rem_get ks ps hjl] at hj
        injection hj with hj
        have hjp : pos ps j < ln ks j := by
          apply Classical.byContradiction
          intro h
          rw [rowAt_nil ks (Nat.not_lt.1 h)] at hj
          cases hj
        rw [rowAt_cons ks hjp] at hj
        injection hj with hj _
        rw [← hj, pk_mk, pk_mk]
        exact hmin j hjl hjp
      obtain ⟨g2, e2, hm, htt⟩ := merge_round (key := pk ks) (f + 1) ht hrg hpick
      obtain rfl : g2 = f := by omega
      rw [pk_mk] at hm htt
      have hsp : ∀ i, i < ks.length → pos (sp ks ps (ky ks g (pos ps g)) ks.length) i ≤ ln ks i := fun i hi => by
        rw [sp_get ks ps _ _ hi]
        have := hle i hi
        split
        · rename_i h; omega
        · exact this
      have hnx := ih (sp ks ps (ky ks g (pos ps g)) ks.length) (out ++ [mk54 g (pos ps g)]) (sp_len ks ps _ _) (fun i => by
          by_cases hi : i < ks.length
          · exact Nat.le_trans (hsp i hi) (hs.len i)
          · unfold pos; rw [List.getD_eq_getElem?_getD, List.getElem?_eq_none (by rw [sp_len]; omega)]; exact Nat.zero_le _) hsp (by rw [rem_step]; exact htt) (by rw [List.length_append, List.length_singleton]; omega)
      rw [rem_step] at hnx
      rw [hm]
      have e : out ++ mk54 g (pos ps g) :: mergeF (pk ks) g2 (MergeL.step (pk ks) (ky ks g (pos ps g)) (rem ks ps)) = (out ++ [mk54 g (pos ps g)]) ++ mergeF (pk ks) g2 (MergeL.step (pk ks) (ky ks g (pos ps g)) (rem ks ps)) := by simp
      rw [e]
      have := ev_l2 hs hl hp (ky ks g (pos ps g)) _ _ hnx ks.length 0 (by omega) (by omega)
      rw [sp_zero ks ps _ hl] at this
      exact this
    · simp only [inclineref13_Merge.l0]
      exact hk
def places (ks : List (List Int)) : List S54 := mergeL (pk ks) (rem ks (List.replicate ks.length 0))
theorem refMerge_ev (hs : Small ks) (ht : total (rem ks (List.replicate ks.length 0)) ≤ 1048576) : EvR (fun k => inclineref13_Merge.f k ks) (places ks) := by
  have h := ev_l0 hs (total (rem ks (List.replicate ks.length 0))) (List.replicate ks.length 0) [] (by simp) (fun i => by
    unfold pos; rw [List.getD_eq_getElem?_getD, List.getElem?_replicate]; split <;> simp) (fun i hi => by
    unfold pos; rw [List.getD_eq_getElem?_getD, List.getElem?_replicate]; split <;> simp) (Nat.le_refl _) (by simpa using ht)
  obtain ⟨K, hK⟩ := h
  refine ⟨K, fun k hk => ?_⟩
  have hn := hs.n
  show inclineref13_Merge.f k ks = _
  unfold inclineref13_Merge.f
  rw [if_pos (by omega), if_pos (by omega), Int.toNat_natCast]
  have e : ints (List.replicate ks.length 0) = List.replicate ks.length (0 : Int) := by simp [ints]
  rw [← e]
  have := hK k hk
  simpa [places, mergeL] using this
end
end Go.Proofs.Ytojbfjfjhfnopaa.Pure
end

section
/- The reference's Entries is the merge. -/
namespace Go.Proofs.Ytojbfjfjhfnopaa.MergeL
set_option linter.unusedVariables false
section
variable {α β : Type} {ka : α → Int} {kb : β → Int} {φ : α → β}
theorem pick_map {rem : List (List α)} (h : ∀ xs ∈ rem, ∀ x ∈ xs, kb (φ x) = ka x) : pick kb (rem.map (List.map φ)) = (pick ka rem).map φ ∧ ∀ y, pick ka rem = some y → kb (φ y) = ka y := by
  induction rem with
  | nil => exact ⟨rfl, fun y h => by simp [pick] at h⟩
  | cons xs r ih =>
    obtain ⟨h1, h2⟩ := ih (fun ys hy => h ys (List.mem_cons_of_mem _ hy))
    cases xs with
    | nil => exact ⟨by simpa [pick] using h1, fun y hy => h2 y (by simpa [pick] using hy)⟩
    | cons x t =>
      have hx := h (x :: t) List.mem_cons_self x List.mem_cons_self
      simp only [List.map_cons, pick, h1]
      cases hp : pick ka r with
      | none =>
        refine ⟨rfl, fun y hy => ?_⟩
        simp only [Option.some.injEq] at hy
        subst hy; exact hx
      | some z =>
        have hz := h2 z hp
        simp only [Option.map_some, hz, hx]
        refine ⟨by split <;> rfl, fun y hy => ?_⟩
        split at hy <;> (injection hy with hy; subst hy; assumption)
theorem step_map {rem : List (List α)} (h : ∀ xs ∈ rem, ∀ x ∈ xs, kb (φ x) = ka x) (k : Int) : step kb k (rem.map (List.map φ)) = (step ka k rem).map (List.map φ) := by
  unfold step
  rw [List.map_map, List.map_map]
  refine List.map_congr_left fun xs hx => ?_
  cases xs with
  | nil => rfl
  | cons x t =>
    have := h (x :: t) hx x List.mem_cons_self
    simp only [Function.comp, List.map_cons, drop1, this]
    split <;> rfl
theorem step_mem {rem : List (List α)} {k : Int} : ∀ xs ∈ step ka k rem, ∀ x ∈ xs, ∃ ys ∈ rem, x ∈ ys := fun xs hx x hxx => by
  obtain ⟨ys, hy, rfl⟩ := List.mem_map.1 hx
  refine ⟨ys, hy, ?_⟩
  cases ys with
  | nil => exact hxx
  | cons y t =>
    simp only [drop1] at hxx
    split at hxx
    · exact List.mem_cons_of_mem _ hxx
    · exact hxx
theorem mergeF_map (f : Nat) {rem : List (List α)} (h : ∀ xs ∈ rem, ∀ x ∈ xs, kb (φ x) = ka x) : mergeF kb f (rem.map (List.map φ)) = (mergeF ka f rem).map φ := by
  induction f generalizing rem with
  | zero => rfl
  | succ f ih =>
    obtain ⟨h1, h2⟩ := pick_map h
    simp only [mergeF, h1]
    cases hp : pick ka rem with
    | none => rfl
    | some y =>
      simp only [Option.map_some, List.map_cons]
      rw [h2 y hp, step_map h, ih (fun xs hx x hxx => by
        obtain ⟨ys, hy, hyy⟩ := step_mem xs hx x hxx
        exact h ys hy x hyy)]
theorem pick_mem {rem : List (List α)} {y : α} (h : pick ka rem = some y) : ∃ xs ∈ rem, y ∈ xs := by
  induction rem generalizing y with
  | nil => simp [pick] at h
  | cons xs r ih =>
    cases xs with
    | nil =>
      obtain ⟨ys, hy, h2⟩ := ih (by simpa [pick] using h)
      exact ⟨ys, List.mem_cons_of_mem _ hy, h2⟩
    | cons x t =>
      simp only [pick] at h
      cases hp : pick ka r with
      | none =>
        rw [hp] at h
        simp only [Option.some.injEq] at h
        subst h
        exact ⟨_, List.mem_cons_self, List.mem_cons_self⟩
      | some z =>
        rw [hp] at h
        simp only at h
        split at h
        · injection h with h
          subst h
          obtain ⟨ys, hy, h2⟩ := ih hp
          exact ⟨ys, List.mem_cons_of_mem _ hy, h2⟩
        · injection h with h
          subst h
          exact ⟨_, List.mem_cons_self, List.mem_cons_self⟩
theorem mergeF_mem (f : Nat) {rem : List (List α)} {x : α} (h : x ∈ mergeF ka f rem) : ∃ xs ∈ rem, x ∈ xs := by
  induction f generalizing rem with
  | zero => simp [mergeF] at h
  | succ f ih =>
    simp only [mergeF] at h
    cases hp : pick ka rem with
    | none => rw [hp] at h; cases h
    | some y =>
      rw [hp] at h
      rcases List.mem_cons.1 h with h | h
      · subst h; exact pick_mem hp
      · obtain ⟨ys, hy, h2⟩ := ih h
        exact step_mem ys hy x h2
end
end Go.Proofs.Ytojbfjfjhfnopaa.MergeL
namespace Go.Proofs.Ytojbfjfjhfnopaa.Pure
open Go.RowKit Go.Proofs.Ytojbfjfjhfnopaa.G Go.Proofs.YtojbfjfjhfnopaaW.PrintWords Go.Proofs.YtojbfjfjhfnopaaW.PrintLast
open MergeL
set_option linter.unusedVariables false
section
variable (l : List (List S32))
def phi (p : S54) : S32 := rd_T32 (rd_L3 l p.f0) p.f1
abbrev kss : List (List Int) := l.map keysOf
variable {l}
theorem kss_ln {i : Nat} (hi : i < l.length) : ln (kss l) i = (l[i]).length := by
  unfold ln kss
  rw [List.getD_eq_getElem?_getD, List.getElem?_map, List.getElem?_eq_getElem hi]
  simp [keysOf]
theorem phi_mk {i j : Nat} (hi : i < l.length) (hj : j < (l[i]).length) : phi l (mk54 i j) = l[i][j] := by
  unfold phi mk54
  rw [rd_L3_get l i hi, rd_get _ _ hj]
theorem key_phi {i j : Nat} (hi : i < l.length) (hj : j < (l[i]).length) : (phi l (mk54 i j)).f0 = pk (kss l) (mk54 i j) := by
  rw [phi_mk hi hj, pk_mk]
  have e : (kss l).getD i [] = keysOf l[i] := by
    unfold kss
    rw [List.getD_eq_getElem?_getD, List.getElem?_map, List.getElem?_eq_getElem hi]
    rfl
  unfold ky
  rw [e]
  unfold keysOf
  rw [List.getD_eq_getElem?_getD, List.getElem?_map, List.getElem?_eq_getElem hj]
  rfl
theorem rem0 : (rem (kss l) (List.replicate (kss l).length 0)).map (List.map (phi l)) = l := by
  apply List.ext_getElem?
  intro i
  by_cases hi : i < l.length
  · rw [List.getElem?_map, rem_get (kss l) _ (by simpa using hi), List.getElem?_eq_getElem hi]
    have e : pos (List.replicate (kss l).length 0) i = 0 := by unfold pos; rw [List.getD_eq_getElem?_getD, List.getElem?_replicate]; split <;> rfl
    rw [e]
    show some ((rowAt (kss l) i 0).map (phi l)) = _
    congr 1
    unfold rowAt
    rw [List.drop_zero, List.map_map, kss_ln hi]
    apply List.ext_getElem
    · simp
    · intro j h1 h2
      rw [List.getElem_map, List.getElem_range]
      exact phi_mk hi h2
  · rw [List.getElem?_eq_none (by rw [List.length_map, rem_len]; simp; omega), List.getElem?_eq_none (by omega)]
theorem rem0_mem {p : S54} {xs : List S54} (hx : xs ∈ rem (kss l) (List.replicate (kss l).length 0)) (hp : p ∈ xs) : ∃ i j : Nat, ∃ hi : i < l.length, p = mk54 i j ∧ j < (l[i]).length := by
  unfold rem at hx
  obtain ⟨i, hi, rfl⟩ := List.mem_map.1 hx
  have hil : i < l.length := by have := List.mem_range.1 hi; simpa using this
  unfold rowAt at hp
  obtain ⟨j, hj, rfl⟩ := List.mem_map.1 hp
  have := List.mem_range.1 (List.mem_of_mem_drop hj)
  rw [kss_ln hil] at this
  exact ⟨i, j, hil, rfl, this⟩
theorem rem0_total : total (rem (kss l) (List.replicate (kss l).length 0)) = total l := by
  conv => rhs; rw [← rem0 (l := l)]
  unfold total
  rw [List.map_map]
  congr 1
  refine List.map_congr_left fun xs _ => ?_
  simp
theorem places_phi : (places (kss l)).map (phi l) = mergeL S32.f0 l := by
  unfold places mergeL
  rw [← mergeF_map (kb := S32.f0) _ (fun xs hx x hxx => by
    obtain ⟨i, j, hi, rfl, hj⟩ := rem0_mem hx hxx
    exact key_phi hi hj), rem0, rem0_total]
theorem places_mem {p : S54} (h : p ∈ places (kss l)) : ∃ i j : Nat, ∃ hi : i < l.length, p = mk54 i j ∧ j < (l[i]).length := by
  obtain ⟨xs, hx, hp⟩ := mergeF_mem _ h
  exact rem0_mem hx hp
theorem rd_T54_get (t : List S54) (i : Nat) (h : i < t.length) : rd_T54 t (i : Int) = t[i] := by
  simp [rd_T54, List.getD_eq_getElem?_getD, List.getElem?_eq_getElem h]
theorem ent_l2 (t : List S54) (ht : ∀ p ∈ t, ∃ i j : Nat, ∃ hi : i < l.length, p = mk54 i j ∧ j < (l[i]).length) (htl : t.length ≤ 1048576) : ∀ (d i : Nat), i ≤ t.length → t.length ≤ i + d → EvR (fun k => inclineref13_Entries.l2 k l t ((t.take i).map (phi l)) i) (t.map (phi l)) := by
  intro d
  induction d with
  | zero =>
    intro i hi hd
    obtain rfl : i = t.length := by omega
    refine EvR.now fun k => ?_
    simp only [inclineref13_Entries.l2]
    rw [if_neg (by omega), List.take_length]
  | succ d ih =>
    intro i hi hd
    by_cases hlt : i < t.length
    · have hnx := ih (i + 1) (by omega) (by omega)
      rw [List.take_succ_eq_append_getElem hlt, List.map_append] at hnx
      obtain ⟨a, b, ha, e, hb⟩ := ht _ (List.getElem_mem hlt)
      refine hnx.succ 0 fun k _ hk => ?_
      have hlen : ((t.take i).map (phi l)).length = i := by rw [List.length_map, List.length_take]; omega
      simp only [inclineref13_Entries.l2]
      rw [rd_T54_get t i hlt, e]
      have e0 : (mk54 a b).f0 = (a : Int) := rfl
      have e1 : (mk54 a b).f1 = (b : Int) := rfl
      rw [if_pos (by omega), if_pos (by omega), e0, e1, if_pos (by omega), if_pos (by omega), if_pos (by omega), rd_L3_get l a ha, if_pos (by omega), if_pos (by omega), w64 (by omega) (by omega)]
      rw [e] at hk
      simp only [List.map_cons, List.map_nil, phi, e0, e1, rd_L3_get l a ha] at hk
      exact hk
    · exact ih i hi (by omega)
theorem ent_l1 (hs : l.length + (l.map List.length).sum ≤ 1048576) (x3 : List (List Int)) (hx : x3.length ≤ 1048576) {i : Nat} (hi : i < l.length) (R : List S32) (hn : EvR (fun k => inclineref13_Entries.l0 k l (x3 ++ [keysOf l[i]]) ((i + 1 : Nat) : Int)) R) :
    ∀ (d j : Nat), j ≤ (l[i]).length → (l[i]).length ≤ j + d → EvR (fun k => inclineref13_Entries.l1 k l x3 i ((keysOf l[i]).take j) j) R := by
  have hsm : (l[i]).length ≤ 1048576 := by
    have h1 := len_le_total (List.getElem_mem hi)
    unfold total at h1
    omega
  have hkl : (keysOf l[i]).length = (l[i]).length := by simp [keysOf]
  intro d
  induction d with
  | zero =>
    intro j hj hd
    obtain rfl : j = (l[i]).length := by omega
    refine hn.succ 0 fun k _ hk => ?_
    simp only [inclineref13_Entries.l1]
    rw [if_pos (by omega), if_pos (by omega), rd_L3_get l i hi, if_neg (by omega), if_pos (by omega), w64 (by omega) (by omega), List.take_of_length_le (by omega)]
    exact hk
  | succ d ih =>
    intro j hj hd
    by_cases hlt : j < (l[i]).length
    · have hnx := ih (j + 1) (by omega) (by omega)
      rw [List.take_succ_eq_append_getElem (by omega)] at hnx
      have e : (keysOf l[i])[j]'(by omega) = (rd_T32 l[i] (j : Int)).f0 := by rw [rd_get _ _ hlt]; simp [keysOf]
      rw [e] at hnx
      refine hnx.succ 0 fun k _ hk => ?_
      have hle : ((keysOf l[i]).take j).length < 17592186044416 := by rw [List.length_take]; omega
      simp only [inclineref13_Entries.l1]
      rw [if_pos (by omega), if_pos (by omega), rd_L3_get l i hi, if_pos (by omega), if_pos (by omega), if_pos hle, w64 (by omega) (by omega)]
      exact hk
    · exact ih j hj (by omega)
theorem refEntries_ev (hs : l.length + (l.map List.length).sum ≤ 1048576) : EvR (fun k => inclineref13_Entries.f k l) (mergeL S32.f0 l) := by
  have hsmall : Small (kss l) := ⟨by simp; omega, fun i => by
    by_cases hi : i < l.length
    · rw [kss_ln hi]
      have h1 := len_le_total (List.getElem_mem hi)
      unfold total at h1
      omega
    · unfold ln; rw [List.getD_eq_getElem?_getD, List.getElem?_eq_none (by simp; omega)]; exact Nat.zero_le _⟩
  have htot : total (rem (kss l) (List.replicate (kss l).length 0)) ≤ 1048576 := by rw [rem0_total]; unfold total; omega
  have hpl : (places (kss l)).length ≤ 1048576 := Nat.le_trans (mergeL_length _) htot
  have hend : EvR (fun k => inclineref13_Entries.l0 k l (kss l) (l.length : Int)) (mergeL S32.f0 l) := by
    obtain ⟨K1, h1⟩ := refMerge_ev hsmall htot
    have h2 := ent_l2 (l := l) (places (kss l)) (fun p hp => places_mem hp) hpl (places (kss l)).length 0 (by omega) (by omega)
    rw [places_phi] at h2
    refine h2.succ K1 fun k hk0 hk => ?_
    simp only [inclineref13_Entries.l0]
    rw [if_neg (by omega), show inclineref13_Merge.f k (kss l) = _ from h1 k hk0]
    exact hk
  have h0 : ∀ (d i : Nat), i ≤ l.length → l.length ≤ i + d → EvR (fun k => inclineref13_Entries.l0 k l ((kss l).take i) i) (mergeL S32.f0 l) := by
    intro d
    induction d with
    | zero =>
      intro i hi hd
      obtain rfl : i = l.length := by omega
      rw [List.take_of_length_le (by simp)]
      exact hend
    | succ d ih =>
      intro i hi hd
      by_cases hlt : i < l.length
      · have hnx := ih (i + 1) (by omega) (by omega)
        rw [List.take_succ_eq_append_getElem (by simpa using hlt)] at hnx
        have e : (kss l)[i]'(by simpa using hlt) = keysOf l[i] := by simp [kss]
        rw [e] at hnx
        have h1 := ent_l1 hs ((kss l).take i) (by rw [List.length_take]; simp; omega) hlt _ hnx (l[i]).length 0 (by omega) (by omega)
        refine h1.succ 0 fun k _ hk => ?_
        simp only [inclineref13_Entries.l0]
        rw [if_pos (by omega)]
        exact hk
      · exact ih i hi (by omega)
  have := h0 l.length 0 (by omega) (by omega)
  simpa [inclineref13_Entries.f] using this
end
end Go.Proofs.Ytojbfjfjhfnopaa.Pure
end

section
/- The walk of MergeEntries. -/
namespace Go.Proofs.Ytojbfjfjhfnopaa.G
open Go.RowKit Go.Shelf RangeD Go.Proofs.YtojbfjfjhfnopaaW.PrintWords Go.Proofs.YtojbfjfjhfnopaaW.PrintLast Go.Proofs.YtojbfjfjhfnopaaW.PrintMore
open SeqE MergeL MergeE
set_option linter.unusedVariables false
/-- While what was answered is overwritten, and appended to: B is the world ahead of the answer. -/
structure SJ (B X : World) (va vw : Value) (n : Nat) (m : List S32) : Prop where
  below : Below B.heap.size B X
  want : ∃ base, X.ownsRow base 32 3 vw m.length (erow S32.f0 S32.f1 S32.f2 m)
  own : ∃ inner, X.ownsRow B.heap.size 32 3 va n inner
  sep : ∀ k, va.ownBlock = some k → B.heap.size ≤ k ∧ vw.ownBlock ≠ some k
section
variable {B X X1 : World} {va vw v8 : Value} {n : Nat} {m : List S32}
theorem SJ.step (h : SJ B X va vw n m) (hb : Below X.heap.size X X1) : SJ B X1 va vw n m :=
  ⟨h.below.trans (hb.mono h.below.size), h.want.imp fun _ hh => ownsRow_keep hh (fun k hk => hb.block k (hh.lt k hk).2), h.own.imp fun _ hh => ownsRow_keep hh (fun k hk => hb.block k (hh.lt k hk).2), h.sep⟩
theorem SJ.drawn (h : SJ B X va vw n m) (d : Nat) : SJ B (X.drewN d) va vw n m := h.step ⟨rfl, rfl, rfl, Nat.le_refl _, fun _ _ => rfl⟩
theorem SJ.set {g c : Nat} (h : SJ B X (.slice (some ⟨g, 0, none⟩) n c) vw n m) (j : Nat) (u : Value) : SJ B (X.setCell ⟨g, j, none⟩ u) (.slice (some ⟨g, 0, none⟩) n c) vw n m := by
  have hb := h.sep g (by simp [Value.ownBlock])
  have hsz : (X.setCell ⟨g, j, none⟩ u).heap.size = X.heap.size := by simp [World.setCell]
  refine ⟨⟨h.below.os, h.below.tape, h.below.output, by rw [hsz]; exact h.below.size, fun k hk => (Below.heap_setCell X ⟨g, j, none⟩ u k (by show k ≠ g; omega)).trans (h.below.block k hk)⟩, h.want.imp fun _ hh => ownsRow_keep hh (fun k hk => Below.heap_setCell X ⟨g, j, none⟩ u k (by show k ≠ g; intro e; subst e; exact hb.2 hk)), ?_, h.sep⟩
  obtain ⟨inner, hi⟩ := h.own
  exact ⟨_, ownsRow_set hi j u⟩
theorem SJ.form (h : SJ B X va vw n m) (hn : 0 < n) : ∃ g c, va = .slice (some ⟨g, 0, none⟩) n c := by
  obtain ⟨inner, hi⟩ := h.own
  obtain ⟨g, c, e, _⟩ := hi.form hn
  exact ⟨g, c, e⟩
theorem SJ.cells {g c : Nat} (h : SJ B X (.slice (some ⟨g, 0, none⟩) n c) vw n m) (j : Nat) (hj : j < n * 3) : (∃ u, X.cell? ⟨g, j, none⟩ = some u) ∧ X.frozen? ⟨g, j, none⟩ = false := by
  obtain ⟨inner, hi⟩ := h.own
  refine ⟨⟨inner[j]'(by rw [hi.1]; exact hj), ?_⟩, ?_⟩
  · rw [World.ownsRow.cellAt hi j hj, List.getElem?_eq_getElem]
  · rcases hi.2 with ⟨e, _⟩ | ⟨gg, cap2, cur, e, _, h2, _⟩
    · cases e
    · injection e with e _ _
      injection e with e
      injection e with e
      subst e
      simp [World.frozen?, h2]
/-- One more is appended. -/
theorem SJ.more {o : Obj} (h : SJ B X va vw n m) (hg : (X.alloc o).grownBy X1 va.ownBlock) : Below B.heap.size B X1 ∧ ∃ base, X1.ownsRow base 32 3 vw m.length (erow S32.f0 S32.f1 S32.f2 m) := by
  have hs := hg.size
  rw [World.size_alloc] at hs
  have hk : ∀ k, k < X.heap.size → va.ownBlock ≠ some k → X1.heap[k]? = X.heap[k]? := fun k hk hn => (hg.block k (by rw [World.size_alloc]; omega) (fun e => hn e.symm)).trans (Below.heap_alloc X o k hk)
  refine ⟨h.below.trans ⟨hg.os, hg.tape, hg.output, by omega, fun k hk2 => hk k (Nat.lt_of_lt_of_le hk2 h.below.size) (fun e => by have := (h.sep k e).1; omega)⟩, h.want.imp fun _ hh => ownsRow_keep hh (fun k hk2 => hk k (hh.lt k hk2).2 (fun e => (h.sep k e).2 hk2))⟩
theorem C_of_lent {g : Nat} {ls : List (List S32)} (h : Lent X g ls) (hl : ls.length ≤ 1048576) (hs : ∀ xs ∈ ls, xs.length ≤ 1048576) : Kd.C (Kd.slice 32 k32) X (some ⟨g, 0, none⟩) ls.length ls := by
  refine ⟨rfl, by omega, fun _ => ⟨⟨g, 0, none⟩, rfl, fun j xs hj => ?_⟩⟩
  obtain ⟨v, h1, ⟨b, cc, cur, rfl, h2, h3, _, _⟩⟩ := h j xs hj
  refine ⟨[.slice (some ⟨b, 0, none⟩) xs.length cc], rfl, ⟨some ⟨b, 0, none⟩, cc, rfl, by omega, C_of_cells h3 (by have := hs xs (List.mem_of_getElem? hj); omega)⟩, fun i u hu => ?_⟩
  match i, hu with
  | 0, hu =>
    simp only [List.getElem?_cons_zero, Option.some.injEq] at hu
    subst hu
    show X.cell? ((⟨g, 0, none⟩ : Addr).add (j * 1 + 0)) = _
    rw [Nat.mul_one, Nat.add_zero, add_plain]
    exact h1
  | i + 1, hu => simp at hu
theorem own_of_R {base : Nat} (h : Kd.R k32 32 X base (fun _ => True) va m) : X.ownsRow base 32 3 va m.length (erow S32.f0 S32.f1 S32.f2 m) := by
  obtain ⟨_, inner, ho, hr⟩ := h
  have e := reps_eq hr
  subst e
  exact ho
end
end Go.Proofs.Ytojbfjfjhfnopaa.G
namespace Go.Proofs.Ytojbfjfjhfnopaa
open Go.RowKit Go.Proofs.YtojbfjfjhfnopaaW.PrintWords Go.Proofs.YtojbfjfjhfnopaaW.PrintLast Go.Proofs.Ytojbfjfjhfnopaa.Reading G MergeL MergeE SeqE
set_option linter.unusedVariables false
set_option linter.unusedSimpArgs false
set_option maxHeartbeats 8000000 in
set_option maxRecDepth 1000000 in
theorem Walks.MergeEntries {w : World} (A0 : Option Addr) (c0 : Nat) (l0 : List (List S32)) (hC0 : Kd.C (Kd.slice 32 k32) w A0 l0.length l0) (hl0 : l0.length ≤ c0) (hg0 : (l0.length * 24 ≤ reach ∧ l0.length ≤ maxLen) ∧ ∀ xs ∈ l0, (xs.length * 24 ≤ reach ∧ xs.length ≤ maxLen) ∧ ∀ x ∈ xs, (Lit.int .u64 x.f0).wf = true ∧ (Lit.int .u64 x.f1).wf = true ∧ True)
    (hb : l0.length + (l0.map List.length).sum ≤ 1048576) :
    Calls Try.prog 3 #[.slice A0 l0.length c0] w fun e w' => e = .returned (.bool true) ∧ Below w.heap.size w w' := by
  have HC0 := Lib.hid hC0
  have HCL := Lib.hid hl0
  have HS : Hid (l0.length ≤ 1048576 ∧ ∀ xs ∈ l0, xs.length ≤ 1048576) := Lib.hid ⟨by omega, fun xs hx => by have h1 := len_le_total hx; unfold total at h1; omega⟩
  have HE := Lib.hid (Pure.entries_small l0 (by omega))
  obtain ⟨K, hK⟩ := Pure.refEntries_ev hb
  have HRE := Lib.hid (hK K (Nat.le_refl _))
  have hml := mergeL_length (key := S32.f0) l0
  obtain ⟨m, hm⟩ : ∃ m, mergeL S32.f0 l0 = m := ⟨_, rfl⟩
  rw [hm] at HE HRE hml
  have HLM : Hid (m.length ≤ 1048576) := Lib.hid (by unfold total at hml; omega)
  obtain ⟨i0, hi0, hz0, hz1, hz2⟩ := info_parts info32e
  clear hC0 hl0 hg0 hb hK hml hm
  go_enter Try.func3, Try.ntmps3
  go_upto_region 4 with (go_at_call 10; go_must (refine (inclinelaw13_shown.calls true _ rfl).mono ?_; rintro e W1 ⟨rfl, hb⟩; have B1 := Lib.hid hb; clear hb))
  go_upto_region 5 with (go_at_call 11; go_must (refine (copied_calls A0 c0 l0 W1 (Kd.C_below HC0.out B1.out) HS.out).mono ?_; rintro e W2 ⟨g, c, rfl, hcap, hlent, hb⟩; have B2 := Lib.hid (B1.out.trans (hb.mono B1.out.size)); have LN2 := Lib.hid hlent; have HCAP := Lib.hid hcap; clear hcap hlent hb))
  go_upto_region 6 with (go_at_call 12; go_must (refine (inclineref13_Entries.calls K A0 c0 l0 m W2 (Kd.C_below HC0.out B2.out) HCL.out HRE.out).mono ?_; rintro e W3 ⟨vw, rfl, h1, hb⟩; obtain ⟨Aw, cw, rfl⟩ := own_slice (own_of_R h1) rfl; have O3 := Lib.hid (own_of_R h1); have B3 := Lib.hid (B2.out.trans (hb.mono B2.out.size)); have LN := Lib.hid (LN2.out.below hb); clear h1 hb))
  go_upto_region 7 with (go_at_call 13; go_must (refine (merge_Entries.calls (some ⟨g, 0, none⟩) c l0 m W3 (C_of_lent LN.out HS.out.1 HS.out.2) HCAP.out HE.out).mono ?_; rintro e W4 ⟨va, rfl, h1, hb⟩; obtain ⟨Aa, ca, rfl⟩ := own_slice (own_of_R h1) rfl; have O4 := Lib.hid (own_of_R h1); have B4 := Lib.hid hb; clear h1 hb))
  have SI4 : Hid (SJ W3 W4 (.slice Aa m.length ca) (.slice Aw m.length cw) m.length m) := Lib.hid ⟨B4.out, ⟨_, ownsRow_keep O3.out (fun k hk => B4.out.block k (O3.out.lt k hk).2)⟩, ⟨_, O4.out⟩, fun k hk => ⟨(O4.out.lt k hk).1, fun e => by have h1 := (O4.out.lt k hk).1; have h2 := (O3.out.lt k e).2; omega⟩⟩
  have HA5 : Hid (RowLit.ok W4 (Aa, ca, m)) := Lib.hid (by
    have h := own_C O4.out
    exact ⟨h.1, h.2.1⟩)
  have HW5 : Hid (∀ X, SJ W3 X (.slice Aa m.length ca) (.slice Aw m.length cw) m.length m → RowLit.ok X (Aw, cw, m)) := Lib.hid (fun X h => by
    obtain ⟨_, hw⟩ := h.want
    have h := own_C hw
    exact ⟨h.1, h.2.1⟩)
  clear O3 O4 B4
  have tok1 : Hid True := Lib.hid trivial
  go_upto_region 9 with (first
    | (go_at_call 14; have _t := tok1; clear _t tok1; go_must (refine (same_rows _ (Aa, ca, m) (Aw, cw, m) HA5.out (HW5.out _ SI4.out) rfl (by show m.length ≤ _; have := HLM.out; omega)).mono ?_; rintro e W6 ⟨rfl, ⟨nd, hz⟩⟩; have SI6 : Hid (SJ W3 W6 (.slice Aa m.length ca) (.slice Aw m.length cw) m.length m) := Lib.hid (by rw [hz]; exact SI4.out.drawn _); clear hz))
    | (go_at_call 15; go_must (refine (asWere_calls g c A0 c0 l0 W6 (LN.out.below SI6.out.below) (Kd.C_below HC0.out (B3.out.trans (SI6.out.below.mono B3.out.size))) HS.out).mono ?_; rintro e W7 ⟨rfl, ⟨nd, hz⟩⟩; have SI7 : Hid (SJ W3 W7 (.slice Aa m.length ca) (.slice Aw m.length cw) m.length m) := Lib.hid (by rw [hz]; exact SI6.out.drawn _); clear hz)))
  go_wp2_with (fail)
  go_loopg [7] m.length (fun kq v7 w' => ∃ i : Nat, v7 = .int .i64 (i : Int) ∧ Hid (i ≤ m.length ∧ m.length ≤ kq + i) ∧ Hid (SJ W3 w' (.slice Aa m.length ca) (.slice Aw m.length cw) m.length m))
  case atStart => exact ⟨0, rfl, Lib.hid ⟨Nat.zero_le _, Nat.le_refl _⟩, SI7⟩
  case round =>
    obtain ⟨i, rfl, HI, SL⟩ := hrel
    by_cases hlt : i < m.length
    · have hd : decide ((i : Int) < (m.length : Int)) = true := decide_eq_true (Int.ofNat_lt.2 hlt)
      have hd2 : decide (i < m.length) = true := decide_eq_true hlt
      have hb1 : (0 : Int) ≤ (i : Int) := Int.natCast_nonneg i
      have hb2 : (i : Int) < (m.length : Int) := Int.ofNat_lt.2 hlt
      obtain ⟨ga, ca2, e⟩ := SL.out.form (by omega)
      injection e with e _ ec
      subst e ec
      obtain ⟨⟨u0, k0⟩, f0⟩ := SL.out.cells (i * 3) (by omega)
      obtain ⟨⟨u1, k1⟩, f1⟩ := SL.out.cells (i * 3 + 1) (by omega)
      obtain ⟨⟨u2, k2⟩, f2⟩ := SL.out.cells (i * 3 + 2) (by omega)
      obtain ⟨i2, hi2⟩ : ∃ i2, i + 1 = i2 := ⟨_, rfl⟩
      have hi3 : (i : Int) + 1 = (i2 : Int) := by rw [← hi2]; rfl
      have HI2 := Lib.hid (loop_nums hi2 hlt HI.out.2)
      have hw2 : IntKind.i64.wrap (i2 : Int) = (i2 : Int) := IntWalk.i64_in _ (by have := HI2.out.1; have := HLM.out; omega)
      clear hlt hi2
      go_wp2_with (fail)
      go_roundg (m.length - i2)
      case measure => exact HI2.out.2.2
      case rel => exact ⟨i2, rfl, Lib.hid ⟨HI2.out.1, HI2.out.2.1⟩, Lib.hid (((SL.out.set (i * 3) (.int .u64 9)).set (i * 3 + 1) (.int .u64 9)).set (i * 3 + 2) (.bool false))⟩
    · have hd : decide ((i : Int) < (m.length : Int)) = false := decide_eq_false (fun h => hlt (Int.ofNat_lt.1 h))
      have hd2 : decide (i < m.length) = false := decide_eq_false hlt
      obtain ⟨inner, hin⟩ := SL.out.own
      have HIN := Lib.hid hin
      obtain ⟨m1, hm1⟩ : ∃ m1, m.length + 1 = m1 := ⟨_, rfl⟩
      have HM1 := Lib.hid hm1
      have hb3 : (0 : Int) ≤ (m.length : Int) := Int.natCast_nonneg _
      have hb4 : (m.length : Int) < (m1 : Int) := by omega
      clear hlt hin hm1
      go_upto_region 14 with (at_builtin; go_must (refine wpList_append_own_at _ rfl (.tmp 39) (.tmp 41) 25 rfl W3.heap.size 32 i0 _ 3 24 Try.underlying25 hi0 hz0 hz1 hz2 rfl (by decide) (.slice Aa m.length ca) m.length inner (by rfl) (HIN.out.alloc _) ⟨wr.heap.size, 0, none⟩ 1 1 [.int .u64 8, .int .u64 0, .bool false] (by rfl) (by rfl) (World.news_of_block (cs := #[.int .u64 8, .int .u64 0, .bool false]) (t := 32) (fr := (0, 0)) (World.alloc_heap_new wr _)) (by intro u hu; simp only [List.mem_cons, List.not_mem_nil, or_false] at hu; rcases hu with hu | hu | hu <;> subst hu <;> rfl) (by have := HLM.out; unfold maxLen; omega) (by have := HLM.out; omega) (by rw [World.size_alloc]; exact Nat.le_succ_of_le SL.out.below.size) ?_; intro v8 w8 ho8 hg8 hn8 hat8; obtain ⟨g8, cg8, e8, _, _⟩ := ho8.form (Nat.succ_pos _); subst e8; have O8 := Lib.hid ho8; have G8 := Lib.hid hg8; rw [HM1.out] at O8 ⊢; clear ho8 hg8 hn8 hat8))
      have SM := Lib.hid (SL.out.more G8.out)
      have h88 : w8.cell? ⟨g8, m.length * 3, none⟩ = some (.int .u64 8) := by
        have hi := HIN.out.1
        have h1 := HM1.out
        rw [World.ownsRow.cellAt O8.out _ (by omega), List.getElem?_append_right (by omega), hi, Nat.sub_self]
        rfl
      have H88 := Lib.hid h88
      clear h88
      go_upto_region 15 with (go_at_call 13; go_must (refine (merge_Entries.calls (some ⟨g, 0, none⟩) c l0 m w8 (C_of_lent (LN.out.below SM.out.1) HS.out.1 HS.out.2) HCAP.out HE.out).mono ?_; rintro e W9 ⟨vb, rfl, h1, hb⟩; obtain ⟨Ab, cb, rfl⟩ := own_slice (own_of_R h1) rfl; have O9 := Lib.hid (own_of_R h1); have B9 := Lib.hid hb; clear h1 hb))
      have R9 : Hid (RowLit.ok W9 (Ab, cb, m) ∧ RowLit.ok W9 (Aw, cw, m)) := Lib.hid (by
        have h := own_C O9.out
        obtain ⟨_, hw⟩ := SM.out.2
        have h2 := own_C (ownsRow_keep hw (fun k hk => B9.out.block k (hw.lt k hk).2))
        exact ⟨⟨h.1, h.2.1⟩, ⟨h2.1, h2.2.1⟩⟩)
      have tok2 : Hid True := Lib.hid trivial
      go_wp2_with (first
        | (go_at_call 14; have _t := tok2; clear _t tok2; go_must (refine (same_rows _ (Ab, cb, m) (Aw, cw, m) R9.out.1 R9.out.2 rfl (by show m.length ≤ _; have := HLM.out; omega)).mono ?_; rintro e V6 ⟨rfl, ⟨nd, hz⟩⟩; have BV : Hid (Below w8.heap.size w8 V6) := Lib.hid (by rw [hz]; exact B9.out.trans ⟨rfl, rfl, rfl, Nat.le_refl _, fun _ _ => rfl⟩); clear hz))
        | (go_at_call 15; go_must (have b36 : Below W3.heap.size W3 V6 := SM.out.1.trans (BV.out.mono SM.out.1.size); refine (asWere_calls g c A0 c0 l0 V6 (LN.out.below b36) (Kd.C_below HC0.out (B3.out.trans (b36.mono B3.out.size))) HS.out).mono ?_; rintro e V7 ⟨rfl, ⟨nd, hz⟩⟩; have BV7 : Hid (Below w8.heap.size w8 V7) := Lib.hid (by rw [hz]; exact BV.out.trans ⟨rfl, rfl, rfl, Nat.le_refl _, fun _ _ => rfl⟩); have k8 : V7.cell? ⟨g8, m.length * 3, none⟩ = some (.int .u64 8) := Below.cell1 BV7.out H88.out; clear hz b36)))
      refine bodyPost_ret (results_tmp rfl _ _ _) rfl ?_
      exact ⟨rfl, B3.out.trans ((SM.out.1.trans (BV7.out.mono SM.out.1.size)).mono B3.out.size)⟩
end Go.Proofs.Ytojbfjfjhfnopaa
end

section
/- The row of MergeEntries: for every input of bulk at most 1048576 the law answers true, and each argument reads as it did. Out of its walk (Walks.MergeEntries). -/
namespace Go.Proofs.Ytojbfjfjhfnopaa.rowMergeEntries
open Go.ChangeShapes Go.WideShapes Go.ChangeAt Go.RowKit Go.Proofs.Ytojbfjfjhfnopaa.Reading
open Go.ChangeMaps (open_string shut_string)
set_option linter.unusedVariables false
theorem own : ownKnob Try.prog.godebug = none := by kernel_rfl
theorem laidOut : laidOutB Try.prog = true := by kernel_rfl
set_option maxRecDepth 100000 in
theorem contract (H : Type) (enc : TypeId × Value → H) (W : World) (base : Nat) (args : Array Value) (ds gs : List (DataW H)) (before : List MemPlace)
    (hval0 : ∀ (j : Nat) t v, Try.f3.params[j]? = some t → args[j]? = some v → Value.okWide Try.prog W .any base t v)
    (hW : DataW.Whole enc Try.prog Try.f3.params.toList Rows.mergeEntriesSpec.vars false W args.toList ds gs before) (hk0 : Rows.uptoSmall H (ds ++ gs) = true)
    (hsz0 : (DataW.weightsEach Try.prog (Try.f3.params.toList ++ Rows.mergeEntriesSpec.plain.varTypes Try.prog) (ds ++ gs)).all (· ≤ reachBytes) = true) :
    Calls Try.prog 3 args W fun e W' => ∃ v, e = .returned v ∧ Rows.mergeEntriesSpec.post enc Try.prog Try.f3 false true false false W args v W' := by
  have hval := hval0
  have hsz := hsz0
  have hW' := hW
  obtain ⟨p, q, hA0, hV, rfl, hfz, hnd⟩ := hW
  have hA : DataW.TrodAll enc Try.prog W 0 (fun _ => true) true Try.f3.params.toList args.toList ds p := hA0
  rw [Try.params3] at hA hval hsz
  obtain ⟨v0, vs0, d0, ds0, p0, q0, hargs, rfl, rfl, h0, r0⟩ := trodAll_cons hA
  obtain ⟨rfl, rfl, rfl⟩ := trodAll_nil r0
  obtain rfl : args = #[v0] := by cases args; simp_all
  obtain ⟨rfl, rfl⟩ := trodVars_none hV
  have hwt := weights_at hsz
  have hk : Rows.uptoBulkAll (d0 :: ([] : List (DataW H))) ≤ 1048576 := by
    have h := of_decide_eq_true hk0
    simpa using h
  have k0 := h0
  have lt0 : ∀ x ∈ p0, x.block < W.heap.size := by obtain ⟨m, hm⟩ := k0; exact DataW.trod_lt m _ _ _ hm
  have wt0 : ∀ n ∈ DataW.weights Try.prog 22 d0, n ≤ reach := fun n hn => hwt n (by simp only [List.cons_append, List.nil_append, List.append_nil, DataW.weightsEach, List.mem_append]; first | exact hn | exact (.inl hn) | exact hn)
  obtain ⟨A0, c0, l0, rfl, hl0, hC0, hg0, hb0⟩ := slice_top (okWide_slice' Try.underlying22 (hval 0 22 v0 rfl rfl)) (open22 enc W 0 (fun _ => true) true) h0 wt0
  simp only [Rows.uptoBulkAll] at hk
  clear hA0 hval0 hsz0 hsz
  refine (Walks.MergeEntries A0 c0 l0 hC0 hl0 hg0 (by omega)).mono fun e W' ⟨he, bel⟩ => ?_
  subst he
  exact ⟨_, rfl, _, _, _, [], _, [], hW', trodAll_mk1 (shut_bool Try.underlying4 _), (trodAll_cons_mk (Below.trod laidOut (by kernel_rfl) (of_decide_eq_true (by kernel_rfl)) k0 bel lt0) trodAll_mk0), rfl, bel.frame _, fun h => by cases h⟩
set_option maxRecDepth 100000 in
theorem lifted (os : Os) (started : os.Started) (H : Type) (enc : TypeId × Value → H) (F : Stop.Interp) :
    ReturnsInHanded {} Try.checked os 3 .any ((Rows.OpenSpec.upto Rows.mergeEntriesSpec).pre6 enc Try.prog Try.f3 Rows.mergeEntriesUptoRow.domain false) (((Rows.OpenSpec.upto Rows.mergeEntriesSpec).at F).post enc Try.prog Try.f3 false true false false) := by
  refine returnsInHanded_of_cond_sized (C := Try.checked) (s := (Rows.OpenSpec.upto Rows.mergeEntriesSpec)) (k := Rows.uptoSmall) rfl own started (by kernel_rfl) Try.func3
    (OpenSpec.witness (enc := enc) (C := Try.checked) (s := (Rows.OpenSpec.upto Rows.mergeEntriesSpec)) (k := Rows.uptoSmall) rfl false ⟨#[], #[.slice none 0 0], []⟩ 8 (by kernel_rfl) (by kernel_rfl) (by kernel_rfl) (x := ([.nil], [], [])) (by kernel_rfl) rfl (by kernel_rfl)) ?_
  intro W base args ds gs before hval hW _ hk hsz _
  exact contract H enc W base args ds gs before hval hW hk hsz
theorem over : Rows.mergeEntriesUptoRow.holds Try.pinned (Rows.OpenSpec.upto Rows.mergeEntriesSpec) :=
  OpenClaim.holds_of_cond 3 Try.f3 rfl rfl rfl rfl rfl rfl rfl ⟨rfl, rfl, rfl, rfl, rfl⟩ rfl rfl rfl rfl rfl (by kernel_rfl) Try.func3 (by kernel_rfl)
    (of_decide_eq_true (by kernel_rfl)) (by unfold Func.isWrapper; first | (rw [if_pos (by decide +kernel)]; kernel_rfl) | (rw [if_neg (by decide +kernel)]; exact ⟨rfl, rfl⟩))
    (fun os started H enc _ F => lifted os started H enc F)
end Go.Proofs.Ytojbfjfjhfnopaa.rowMergeEntries
namespace Go.Proofs.Ytojbfjfjhfnopaa
/-- The row. -/
theorem mergeEntries_holds : Rows.MergeEntriesUptoSaid := rowMergeEntries.over
#print axioms mergeEntries_holds
end Go.Proofs.Ytojbfjfjhfnopaa
end
