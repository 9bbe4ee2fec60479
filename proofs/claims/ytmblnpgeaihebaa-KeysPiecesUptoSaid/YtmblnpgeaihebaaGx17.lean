-- Written by a program of this session (wip/gprint.py: the kit's print, with contracts proved by hand)
import Derived.Test.YtmblnpgeaihebaaGx0
import Derived.Test.YtmblnpgeaihebaaGx3
import Derived.Test.YtmblnpgeaihebaaGx4
import Derived.Test.YtmblnpgeaihebaaGx11
import Derived.Test.YtmblnpgeaihebaaGiven
import Derived.Test.YtmblnpgeaihebaaGiven2
namespace Go.Proofs.Ytmblnpgeaihebaa.G
open Go.RowKit Go.Proofs.YtmblnpgeaihebaaW.PrintWords Go.Proofs.YtmblnpgeaihebaaW.PrintLast Go.Proofs.YtmblnpgeaihebaaW.PrintMore
attribute [local go_sem] max2_int min2_int max_two min_two max_three min_three max_four min_four   -- for this text's walks alone
set_option linter.unusedVariables false
set_option linter.unusedSimpArgs false

/-! ### inclinelaw03_KeysPieces: function 7 -/
mutual
def inclinelaw03_KeysPieces.j0 : Nat → List (S35) → List (S35) → Int → Bool → Int → Int → Int → Bool → Option (Bool)
  | 0, _, _, _, _, _, _, _, _ => none
  | k + 1, x0, x1, x2, x7, x9, x10, x11, x47 => if x47 = true then (none) else (if (x0.length : Int) = 0 then (inclinelaw03_KeysPieces.j1 k x0 x2 x7 x9 x10 x11 true) else (if (x1.length : Int) = 0 then (inclinelaw03_KeysPieces.j1 k x0 x2 x7 x9 x10 x11 true) else (if 0 ≤ (wrap64 ((x0.length : Int) - 1)) then (if (wrap64 ((x0.length : Int) - 1)) < (x0.length : Int) then (if 0 < (x1.length : Int) then (inclinelaw03_KeysPieces.j1 k x0 x2 x7 x9 x10 x11 (decide (((rd_T35 x0 (wrap64 ((x0.length : Int) - 1))).f0) < ((rd_T35 x1 0).f0)))) else (none)) else (none)) else (none))))
def inclinelaw03_KeysPieces.j1 : Nat → List (S35) → Int → Bool → Int → Int → Int → Bool → Option (Bool)
  | 0, _, _, _, _, _, _, _ => none
  | k + 1, x0, x2, x7, x9, x10, x11, x12 => if x9 = 0 then (if x10 = 0 then (if ((x11 == 0) != x12) = true then (inclinelaw03_KeysPieces.j2 k x0 x2 x7 x9 true) else ((keys_Of.f k x0).bind fun t228 => ((keys_Rising.f t228).bind fun t231 => (inclinelaw03_KeysPieces.j2 k x0 x2 x7 x9 (!t231))))) else (if ((x11 == 0) != false) = true then (inclinelaw03_KeysPieces.j2 k x0 x2 x7 x9 true) else ((keys_Of.f k x0).bind fun t232 => ((keys_Rising.f t232).bind fun t235 => (inclinelaw03_KeysPieces.j2 k x0 x2 x7 x9 (!t235)))))) else (if ((x11 == 0) != false) = true then (inclinelaw03_KeysPieces.j2 k x0 x2 x7 x9 true) else (inclinelaw03_KeysPieces.j2 k x0 x2 x7 x9 false))
def inclinelaw03_KeysPieces.j2 : Nat → List (S35) → Int → Bool → Int → Bool → Option (Bool)
  | 0, _, _, _, _, _ => none
  | k + 1, x0, x2, x7, x9, x91 => if x91 = true then (none) else (if x2 < 0 then (if (wrap64 ((x0.length : Int) + 1)) = 0 then (none) else (if x7 = true then (if x9 = 0 then (if 0 ≤ (Int.tmod (wrap64 (-(wrap64 (x2 + 1)))) (wrap64 ((x0.length : Int) + 1))) then (if (Int.tmod (wrap64 (-(wrap64 (x2 + 1)))) (wrap64 ((x0.length : Int) + 1))) ≤ (x0.length : Int) then ((keys_Check.f (x0.take ((Int.tmod (wrap64 (-(wrap64 (x2 + 1)))) (wrap64 ((x0.length : Int) + 1))) : Int).toNat)).bind fun t240 => (if t240 = 0 then ((keys_Check.f (x0.drop ((Int.tmod (wrap64 (-(wrap64 (x2 + 1)))) (wrap64 ((x0.length : Int) + 1))) : Int).toNat)).bind fun t245 => (some (t245 == 0))) else (none))) else (none)) else (none)) else (some true)) else (none))) else (if (wrap64 ((x0.length : Int) + 1)) = 0 then (none) else (if x7 = true then (if x9 = 0 then (if 0 ≤ (Int.tmod x2 (wrap64 ((x0.length : Int) + 1))) then (if (Int.tmod x2 (wrap64 ((x0.length : Int) + 1))) ≤ (x0.length : Int) then ((keys_Check.f (x0.take ((Int.tmod x2 (wrap64 ((x0.length : Int) + 1))) : Int).toNat)).bind fun t250 => (if t250 = 0 then ((keys_Check.f (x0.drop ((Int.tmod x2 (wrap64 ((x0.length : Int) + 1))) : Int).toNat)).bind fun t255 => (some (t255 == 0))) else (none))) else (none)) else (none)) else (some true)) else (none))))
end
def inclinelaw03_KeysPieces.f (k : Nat) (l0 : List (S35)) (l1 : List (S35)) (a2 : Int) : Option (Bool) := (inclinelaw03_shown.f k).bind fun t208 => (if t208 = true then ((some (([] : List (S35)) : List (S35))).bind fun y209 => (if y209.length + l0.length < 5864062014805 then ((some (y209 ++ l0 : List (S35))).bind fun y212 => (if y212.length + l1.length < 5864062014805 then ((some (y212 ++ l1 : List (S35))).bind fun y215 => ((keys_Check.f l0).bind fun t218 => ((keys_Check.f l1).bind fun t219 => ((keys_Check.f y215).bind fun t220 => ((keys_Live.f k y215).bind fun t221 => ((keys_Live.f k l0).bind fun t222 => ((keys_Live.f k l1).bind fun t223 => (if t221 = (wrap64 (t222 + t223)) then ((keys_Live.f k l0).bind fun t224 => (if t224 < 0 then (inclinelaw03_KeysPieces.j0 k l0 l1 a2 t208 t218 t219 t220 true) else ((keys_Live.f k l0).bind fun t225 => (inclinelaw03_KeysPieces.j0 k l0 l1 a2 t208 t218 t219 t220 (decide (t225 > (l0.length : Int))))))) else (inclinelaw03_KeysPieces.j0 k l0 l1 a2 t208 t218 t219 t220 true))))))))) else (none))) else (none))) else (none))
theorem inclinelaw03_KeysPieces.mono_l : ∀ k, (∀ y0 y1 y2 y3 y4 y5 y6 y7, LeO (inclinelaw03_KeysPieces.j0 k y0 y1 y2 y3 y4 y5 y6 y7) (inclinelaw03_KeysPieces.j0 (k + 1) y0 y1 y2 y3 y4 y5 y6 y7)) ∧ (∀ y0 y1 y2 y3 y4 y5 y6, LeO (inclinelaw03_KeysPieces.j1 k y0 y1 y2 y3 y4 y5 y6) (inclinelaw03_KeysPieces.j1 (k + 1) y0 y1 y2 y3 y4 y5 y6)) ∧ (∀ y0 y1 y2 y3 y4, LeO (inclinelaw03_KeysPieces.j2 k y0 y1 y2 y3 y4) (inclinelaw03_KeysPieces.j2 (k + 1) y0 y1 y2 y3 y4))
  | 0 => ⟨fun _ _ _ _ _ _ _ _ r h => by simp [inclinelaw03_KeysPieces.j0] at h, fun _ _ _ _ _ _ _ r h => by simp [inclinelaw03_KeysPieces.j1] at h, fun _ _ _ _ _ r h => by simp [inclinelaw03_KeysPieces.j2] at h⟩
  | k + 1 => by
    obtain ⟨ih0, ih1, ih2⟩ := inclinelaw03_KeysPieces.mono_l k
    refine ⟨?_, ?_, ?_⟩
    · intro y0 y1 y2 y3 y4 y5 y6 y7
      unfold inclinelaw03_KeysPieces.j0
      repeat' first
      | (with_reducible exact ih0 _ _ _ _ _ _ _ _)
      | (with_reducible exact ih1 _ _ _ _ _ _ _)
      | (with_reducible exact ih2 _ _ _ _ _)
      | (with_reducible exact inclinelaw03_shown.mono _)
      | (with_reducible exact keys_Live.mono _ _)
      | (with_reducible exact keys_Of.mono _ _)
      | (with_reducible exact LeO.refl _)
      | (with_reducible exact LeO.none _)
      | (with_reducible refine LeO.ite ?_ ?_)
      | (with_reducible refine LeO.bind ?_ (fun _ => ?_))
      | exact ih0 _ _ _ _ _ _ _ _
      | exact ih1 _ _ _ _ _ _ _
      | exact ih2 _ _ _ _ _
      | exact inclinelaw03_shown.mono _
      | exact keys_Live.mono _ _
      | exact keys_Of.mono _ _
      | exact LeO.none _
      | refine LeO.ite ?_ ?_
      | refine LeO.bind ?_ (fun _ => ?_)
    · intro y0 y1 y2 y3 y4 y5 y6
      unfold inclinelaw03_KeysPieces.j1
      repeat' first
      | (with_reducible exact ih0 _ _ _ _ _ _ _ _)
      | (with_reducible exact ih1 _ _ _ _ _ _ _)
      | (with_reducible exact ih2 _ _ _ _ _)
      | (with_reducible exact inclinelaw03_shown.mono _)
      | (with_reducible exact keys_Live.mono _ _)
      | (with_reducible exact keys_Of.mono _ _)
      | (with_reducible exact LeO.refl _)
      | (with_reducible exact LeO.none _)
      | (with_reducible refine LeO.ite ?_ ?_)
      | (with_reducible refine LeO.bind ?_ (fun _ => ?_))
      | exact ih0 _ _ _ _ _ _ _ _
      | exact ih1 _ _ _ _ _ _ _
      | exact ih2 _ _ _ _ _
      | exact inclinelaw03_shown.mono _
      | exact keys_Live.mono _ _
      | exact keys_Of.mono _ _
      | exact LeO.none _
      | refine LeO.ite ?_ ?_
      | refine LeO.bind ?_ (fun _ => ?_)
    · intro y0 y1 y2 y3 y4
      unfold inclinelaw03_KeysPieces.j2
      repeat' first
      | (with_reducible exact ih0 _ _ _ _ _ _ _ _)
      | (with_reducible exact ih1 _ _ _ _ _ _ _)
      | (with_reducible exact ih2 _ _ _ _ _)
      | (with_reducible exact inclinelaw03_shown.mono _)
      | (with_reducible exact keys_Live.mono _ _)
      | (with_reducible exact keys_Of.mono _ _)
      | (with_reducible exact LeO.refl _)
      | (with_reducible exact LeO.none _)
      | (with_reducible refine LeO.ite ?_ ?_)
      | (with_reducible refine LeO.bind ?_ (fun _ => ?_))
      | exact ih0 _ _ _ _ _ _ _ _
      | exact ih1 _ _ _ _ _ _ _
      | exact ih2 _ _ _ _ _
      | exact inclinelaw03_shown.mono _
      | exact keys_Live.mono _ _
      | exact keys_Of.mono _ _
      | exact LeO.none _
      | refine LeO.ite ?_ ?_
      | refine LeO.bind ?_ (fun _ => ?_)
theorem inclinelaw03_KeysPieces.mono : ∀ a0 a1 a2 k, LeO (inclinelaw03_KeysPieces.f k a0 a1 a2) (inclinelaw03_KeysPieces.f (k + 1) a0 a1 a2) := by
  intro a0 a1 a2 k
  obtain ⟨ih0, ih1, ih2⟩ := inclinelaw03_KeysPieces.mono_l k
  unfold inclinelaw03_KeysPieces.f
  repeat' first
      | (with_reducible exact ih0 _ _ _ _ _ _ _ _)
      | (with_reducible exact ih1 _ _ _ _ _ _ _)
      | (with_reducible exact ih2 _ _ _ _ _)
      | (with_reducible exact inclinelaw03_shown.mono _)
      | (with_reducible exact keys_Live.mono _ _)
      | (with_reducible exact keys_Of.mono _ _)
      | (with_reducible exact LeO.refl _)
      | (with_reducible exact LeO.none _)
      | (with_reducible refine LeO.ite ?_ ?_)
      | (with_reducible refine LeO.bind ?_ (fun _ => ?_))
      | exact ih0 _ _ _ _ _ _ _ _
      | exact ih1 _ _ _ _ _ _ _
      | exact ih2 _ _ _ _ _
      | exact inclinelaw03_shown.mono _
      | exact keys_Live.mono _ _
      | exact keys_Of.mono _ _
      | exact LeO.none _
      | refine LeO.ite ?_ ?_
      | refine LeO.bind ?_ (fun _ => ?_)
set_option maxHeartbeats 8000000 in
set_option maxRecDepth 100000 in
theorem inclinelaw03_KeysPieces.calls (k : Nat) (A0 : Option Addr) (c0 : Nat) (l0 : List (S35)) (A1 : Option Addr) (c1 : Nat) (l1 : List (S35)) (a2 : Int) (r : Bool) (w : World) (hr0 : Kd.C k35 w A0 l0.length l0) (hc0 : l0.length ≤ c0) (hr1 : Kd.C k35 w A1 l1.length l1) (hc1 : l1.length ≤ c1) (h : inclinelaw03_KeysPieces.f k l0 l1 a2 = some r) :
    Calls Try.prog 7 #[.slice A0 l0.length c0, .slice A1 l1.length c1, .int .i64 a2] w fun e w' => e = .returned (.bool r) ∧ Below w.heap.size w w' := by
  have HR0 := Aside0.mk hr0
  have HC0 := Aside0.mk hc0
  clear hr0 hc0
  have HR1 := Aside0.mk hr1
  have HC1 := Aside0.mk hc1
  clear hr1 hc1
  have HB := Aside0.mk (Below.refl w.heap.size w)
  have H : ((inclinelaw03_shown.f k).bind fun t208 => (if t208 = true then ((some (([] : List (S35)) : List (S35))).bind fun y209 => (if y209.length + l0.length < 5864062014805 then ((some (y209 ++ l0 : List (S35))).bind fun y212 => (if y212.length + l1.length < 5864062014805 then ((some (y212 ++ l1 : List (S35))).bind fun y215 => ((keys_Check.f l0).bind fun t218 => ((keys_Check.f l1).bind fun t219 => ((keys_Check.f y215).bind fun t220 => ((keys_Live.f k y215).bind fun t221 => ((keys_Live.f k l0).bind fun t222 => ((keys_Live.f k l1).bind fun t223 => (if t221 = (wrap64 (t222 + t223)) then ((keys_Live.f k l0).bind fun t224 => (if t224 < 0 then (inclinelaw03_KeysPieces.j0 k l0 l1 a2 t208 t218 t219 t220 true) else ((keys_Live.f k l0).bind fun t225 => (inclinelaw03_KeysPieces.j0 k l0 l1 a2 t208 t218 t219 t220 (decide (t225 > (l0.length : Int))))))) else (inclinelaw03_KeysPieces.j0 k l0 l1 a2 t208 t218 t219 t220 true))))))))) else (none))) else (none))) else (none))) = some r := h
  clear h
  replace H := Option.bind_eq_some_iff.mp H
  obtain ⟨t208, A40, H⟩ := H
  replace H : (if t208 = true then ((some (([] : List (S35)) : List (S35))).bind fun y209 => (if y209.length + l0.length < 5864062014805 then ((some (y209 ++ l0 : List (S35))).bind fun y212 => (if y212.length + l1.length < 5864062014805 then ((some (y212 ++ l1 : List (S35))).bind fun y215 => ((keys_Check.f l0).bind fun t218 => ((keys_Check.f l1).bind fun t219 => ((keys_Check.f y215).bind fun t220 => ((keys_Live.f k y215).bind fun t221 => ((keys_Live.f k l0).bind fun t222 => ((keys_Live.f k l1).bind fun t223 => (if t221 = (wrap64 (t222 + t223)) then ((keys_Live.f k l0).bind fun t224 => (if t224 < 0 then (inclinelaw03_KeysPieces.j0 k l0 l1 a2 t208 t218 t219 t220 true) else ((keys_Live.f k l0).bind fun t225 => (inclinelaw03_KeysPieces.j0 k l0 l1 a2 t208 t218 t219 t220 (decide (t225 > (l0.length : Int))))))) else (inclinelaw03_KeysPieces.j0 k l0 l1 a2 t208 t218 t219 t220 true))))))))) else (none))) else (none))) else (none)) = some r := H
  have A4 := Aside0.mk A40
  clear A40
  by_cases c5 : t208 = true
  · subst c5
    have H1 : ((some (([] : List (S35)) : List (S35))).bind fun y209 => (if y209.length + l0.length < 5864062014805 then ((some (y209 ++ l0 : List (S35))).bind fun y212 => (if y212.length + l1.length < 5864062014805 then ((some (y212 ++ l1 : List (S35))).bind fun y215 => ((keys_Check.f l0).bind fun t218 => ((keys_Check.f l1).bind fun t219 => ((keys_Check.f y215).bind fun t220 => ((keys_Live.f k y215).bind fun t221 => ((keys_Live.f k l0).bind fun t222 => ((keys_Live.f k l1).bind fun t223 => (if t221 = (wrap64 (t222 + t223)) then ((keys_Live.f k l0).bind fun t224 => (if t224 < 0 then (inclinelaw03_KeysPieces.j0 k l0 l1 a2 true t218 t219 t220 true) else ((keys_Live.f k l0).bind fun t225 => (inclinelaw03_KeysPieces.j0 k l0 l1 a2 true t218 t219 t220 (decide (t225 > (l0.length : Int))))))) else (inclinelaw03_KeysPieces.j0 k l0 l1 a2 true t218 t219 t220 true))))))))) else (none))) else (none))) = some r := by rw [if_pos rfl] at H; exact H
    clear H
    have H := H1
    clear H1
    obtain ⟨y209, hy209⟩ : ∃ y_ : List (S35), y_ = (([] : List (S35))) := ⟨_, rfl⟩
    replace H : (if y209.length + l0.length < 5864062014805 then ((some (y209 ++ l0 : List (S35))).bind fun y212 => (if y212.length + l1.length < 5864062014805 then ((some (y212 ++ l1 : List (S35))).bind fun y215 => ((keys_Check.f l0).bind fun t218 => ((keys_Check.f l1).bind fun t219 => ((keys_Check.f y215).bind fun t220 => ((keys_Live.f k y215).bind fun t221 => ((keys_Live.f k l0).bind fun t222 => ((keys_Live.f k l1).bind fun t223 => (if t221 = (wrap64 (t222 + t223)) then ((keys_Live.f k l0).bind fun t224 => (if t224 < 0 then (inclinelaw03_KeysPieces.j0 k l0 l1 a2 true t218 t219 t220 true) else ((keys_Live.f k l0).bind fun t225 => (inclinelaw03_KeysPieces.j0 k l0 l1 a2 true t218 t219 t220 (decide (t225 > (l0.length : Int))))))) else (inclinelaw03_KeysPieces.j0 k l0 l1 a2 true t218 t219 t220 true))))))))) else (none))) else (none)) = some r := by first | (rw [hy209]; with_reducible exact H) | (have H2_ := (Option.bind_some _ _).symm.trans H; rw [hy209]; with_reducible exact H2_) | (have H2_ := (Option.bind_some _ _).symm.trans H; with_reducible exact H2_) | with_reducible exact H | (rw [hy209]; exact H) | exact H
    have Ny209 := Aside0.mk hy209
    clear hy209
    by_cases c6 : y209.length + l0.length < 5864062014805
    · rw [if_pos c6] at H
      have LMc6 := Aside0.mk c6
      clear c6
      obtain ⟨y212, hy212⟩ : ∃ y_ : List (S35), y_ = (y209 ++ l0) := ⟨_, rfl⟩
      replace H : (if y212.length + l1.length < 5864062014805 then ((some (y212 ++ l1 : List (S35))).bind fun y215 => ((keys_Check.f l0).bind fun t218 => ((keys_Check.f l1).bind fun t219 => ((keys_Check.f y215).bind fun t220 => ((keys_Live.f k y215).bind fun t221 => ((keys_Live.f k l0).bind fun t222 => ((keys_Live.f k l1).bind fun t223 => (if t221 = (wrap64 (t222 + t223)) then ((keys_Live.f k l0).bind fun t224 => (if t224 < 0 then (inclinelaw03_KeysPieces.j0 k l0 l1 a2 true t218 t219 t220 true) else ((keys_Live.f k l0).bind fun t225 => (inclinelaw03_KeysPieces.j0 k l0 l1 a2 true t218 t219 t220 (decide (t225 > (l0.length : Int))))))) else (inclinelaw03_KeysPieces.j0 k l0 l1 a2 true t218 t219 t220 true))))))))) else (none)) = some r := by first | (rw [hy212]; with_reducible exact H) | (have H2_ := (Option.bind_some _ _).symm.trans H; rw [hy212]; with_reducible exact H2_) | (have H2_ := (Option.bind_some _ _).symm.trans H; with_reducible exact H2_) | with_reducible exact H | (rw [hy212]; exact H) | exact H
      have Ny212 := Aside0.mk hy212
      clear hy212
      by_cases c7 : y212.length + l1.length < 5864062014805
      · rw [if_pos c7] at H
        have LMc7 := Aside0.mk c7
        clear c7
        obtain ⟨y215, hy215⟩ : ∃ y_ : List (S35), y_ = (y212 ++ l1) := ⟨_, rfl⟩
        replace H : ((keys_Check.f l0).bind fun t218 => ((keys_Check.f l1).bind fun t219 => ((keys_Check.f y215).bind fun t220 => ((keys_Live.f k y215).bind fun t221 => ((keys_Live.f k l0).bind fun t222 => ((keys_Live.f k l1).bind fun t223 => (if t221 = (wrap64 (t222 + t223)) then ((keys_Live.f k l0).bind fun t224 => (if t224 < 0 then (inclinelaw03_KeysPieces.j0 k l0 l1 a2 true t218 t219 t220 true) else ((keys_Live.f k l0).bind fun t225 => (inclinelaw03_KeysPieces.j0 k l0 l1 a2 true t218 t219 t220 (decide (t225 > (l0.length : Int))))))) else (inclinelaw03_KeysPieces.j0 k l0 l1 a2 true t218 t219 t220 true)))))))) = some r := by first | (rw [hy215]; with_reducible exact H) | (have H2_ := (Option.bind_some _ _).symm.trans H; rw [hy215]; with_reducible exact H2_) | (have H2_ := (Option.bind_some _ _).symm.trans H; with_reducible exact H2_) | with_reducible exact H | (rw [hy215]; exact H) | exact H
        have Ny215 := Aside0.mk hy215
        clear hy215
        replace H := Option.bind_eq_some_iff.mp H
        obtain ⟨t218, A80, H⟩ := H
        replace H : ((keys_Check.f l1).bind fun t219 => ((keys_Check.f y215).bind fun t220 => ((keys_Live.f k y215).bind fun t221 => ((keys_Live.f k l0).bind fun t222 => ((keys_Live.f k l1).bind fun t223 => (if t221 = (wrap64 (t222 + t223)) then ((keys_Live.f k l0).bind fun t224 => (if t224 < 0 then (inclinelaw03_KeysPieces.j0 k l0 l1 a2 true t218 t219 t220 true) else ((keys_Live.f k l0).bind fun t225 => (inclinelaw03_KeysPieces.j0 k l0 l1 a2 true t218 t219 t220 (decide (t225 > (l0.length : Int))))))) else (inclinelaw03_KeysPieces.j0 k l0 l1 a2 true t218 t219 t220 true))))))) = some r := H
        have A8 := Aside0.mk A80
        clear A80
        replace H := Option.bind_eq_some_iff.mp H
        obtain ⟨t219, A90, H⟩ := H
        replace H : ((keys_Check.f y215).bind fun t220 => ((keys_Live.f k y215).bind fun t221 => ((keys_Live.f k l0).bind fun t222 => ((keys_Live.f k l1).bind fun t223 => (if t221 = (wrap64 (t222 + t223)) then ((keys_Live.f k l0).bind fun t224 => (if t224 < 0 then (inclinelaw03_KeysPieces.j0 k l0 l1 a2 true t218 t219 t220 true) else ((keys_Live.f k l0).bind fun t225 => (inclinelaw03_KeysPieces.j0 k l0 l1 a2 true t218 t219 t220 (decide (t225 > (l0.length : Int))))))) else (inclinelaw03_KeysPieces.j0 k l0 l1 a2 true t218 t219 t220 true)))))) = some r := H
        have A9 := Aside0.mk A90
        clear A90
        replace H := Option.bind_eq_some_iff.mp H
        obtain ⟨t220, A100, H⟩ := H
        replace H : ((keys_Live.f k y215).bind fun t221 => ((keys_Live.f k l0).bind fun t222 => ((keys_Live.f k l1).bind fun t223 => (if t221 = (wrap64 (t222 + t223)) then ((keys_Live.f k l0).bind fun t224 => (if t224 < 0 then (inclinelaw03_KeysPieces.j0 k l0 l1 a2 true t218 t219 t220 true) else ((keys_Live.f k l0).bind fun t225 => (inclinelaw03_KeysPieces.j0 k l0 l1 a2 true t218 t219 t220 (decide (t225 > (l0.length : Int))))))) else (inclinelaw03_KeysPieces.j0 k l0 l1 a2 true t218 t219 t220 true))))) = some r := H
        have A10 := Aside0.mk A100
        clear A100
        have HC11 := Aside0.mk H
        clear H
        go_enter Try.func7, Try.ntmps7
        go_upto_region 8 with (first | (go_at_call 8; (with_reducible refine (inclinelaw03_shown.calls k  true _ A4.out).mono ?_); rintro e w12 ⟨rfl, hb⟩; have n0_ := Aside0.mk (below_step (by repeat (first | (with_reducible first | exact HB.out | apply below_alloc | apply pw_below_drewN | apply below_drew1) | exact HB.out)) hb); clear HB; have HB := n0_; clear n0_; (try clear hb); (try clear hb2); (try clear hk); (try clear hi)) | ((with_reducible refine gate_dst (N := 17) rfl ?_); (try (refine gate_guard (by rfl) ?_; dsimp only)); refine Kd.R_lit k35 _ 35 ?hg (N := 17) ?hd (xs := ([] : List (S35))) (inner := []) (ok := fun _ => True) (okp := fun _ => True) ?hr ?hp (fun _ hk => hk) trivial (Below.refl _ _) (Nat.le_refl _) (by simp) ?_; (case hd => rfl); (case hg => rfl); (case hr => first | (go_simp; done) | (go_simp; rfl)); (case hp => exact (Reps.none _ _)); intro v210 w13 ho14 hb hg_ hnew_; clear hg_ hnew_; (first | rw [← Ny209.out] at ho14 | (simp only [Int.reduceToNat] at ho14; rw [← Ny209.out] at ho14)); have n0_ := Aside0.mk (Kd.R_lower ho14 (below_size (by repeat (first | (with_reducible first | exact HB.out | apply below_alloc | apply pw_below_drewN | apply below_drew1) | exact HB.out)))); have n1_ := Aside0.mk (below_step (by repeat (first | (with_reducible first | exact HB.out | apply below_alloc | apply pw_below_drewN | apply below_drew1) | exact HB.out)) hb); clear HB; have HO211 := n0_; have HB := n1_; clear n0_ n1_; clear hb ho14) | ((with_reducible refine gate_builtin (b := .append) (xs := #[.tmp 17, .tmp 18]) rfl ?_); (try (refine gate_guard (by rfl) ?_; dsimp only)); at_builtin; refine Kd.R_append_rows k35 (w0 := w) w.heap.size rfl (.tmp 17) (.tmp 18) 22 35 (.agg #[(.int .u64 0), (.int .u64 0), (.bool false)]) 24 rfl Try.underlying22 info35 rfl (by decide) (by omega) v210 y209 l0 _ _ _ (fun _ => True) (fun _ => False) rfl rfl ?aO ?aR (fun _ _ h => h) (fun _ h => h.elim) ?aF ?aB ?aS ?aL ?_; (case aR => repeat (first | exact (Kd.C_below HR0.out HB.out) | (with_reducible refine Kd.C_alloc ?_ _) | (with_reducible refine Kd.C_drewN ?_ _) | (with_reducible refine Kd.C_drew ?_))); (case aB => exact (by repeat (first | (with_reducible first | exact HB.out | apply below_alloc | apply pw_below_drewN | apply below_drew1) | exact HB.out))); (case aF => exact (fun _ _ => trivial)); (case aO => exact (by (with_reducible repeat (first | apply Kd.R_alloc | apply Kd.R_drewN | apply Kd.R_drew)); exact HO211.out)); (case aS => exact (below_size (by repeat (first | (with_reducible first | exact HB.out | apply below_alloc | apply pw_below_drewN | apply below_drew1) | exact HB.out)))); (case aL => have := LMc6.out; omega); intro v213 w15 ho hb hg hat; rw [← Ny212.out] at ho; have n0_ := Aside0.mk (hb); have n1_ := Aside0.mk (ho); clear HB; clear HO211; have HB := n0_; have HO214 := n1_; clear n0_ n1_; clear ho hb hg hat) | ((with_reducible refine gate_builtin (b := .append) (xs := #[.tmp 19, .tmp 20]) rfl ?_); (try (refine gate_guard (by rfl) ?_; dsimp only)); at_builtin; refine Kd.R_append_rows k35 (w0 := w) w.heap.size rfl (.tmp 19) (.tmp 20) 22 35 (.agg #[(.int .u64 0), (.int .u64 0), (.bool false)]) 24 rfl Try.underlying22 info35 rfl (by decide) (by omega) v213 y212 l1 _ _ _ (fun _ => True) (fun _ => False) rfl rfl ?aO ?aR (fun _ _ h => h) (fun _ h => h.elim) ?aF ?aB ?aS ?aL ?_; (case aR => repeat (first | exact (Kd.C_below HR1.out HB.out) | (with_reducible refine Kd.C_alloc ?_ _) | (with_reducible refine Kd.C_drewN ?_ _) | (with_reducible refine Kd.C_drew ?_))); (case aB => exact (by repeat (first | (with_reducible first | exact HB.out | apply below_alloc | apply pw_below_drewN | apply below_drew1) | exact HB.out))); (case aF => exact (fun _ _ => trivial)); (case aO => exact (by (with_reducible repeat (first | apply Kd.R_alloc | apply Kd.R_drewN | apply Kd.R_drew)); exact HO214.out)); (case aS => exact (below_size (by repeat (first | (with_reducible first | exact HB.out | apply below_alloc | apply pw_below_drewN | apply below_drew1) | exact HB.out)))); (case aL => have := LMc7.out; omega); intro v216 w16 ho hb hg hat; rw [← Ny215.out] at ho; have n0_ := Aside0.mk (hb); have n1_ := Aside0.mk (ho); clear HB; clear HO214; have HB := n0_; have HO217 := n1_; clear n0_ n1_; clear ho hb hg hat) | (go_at_call 10; (with_reducible refine (keys_Check.calls _ _ l0 t218 _ ?side1 ?side2 A8.out).mono ?_); (case side1 => repeat (first | exact (Kd.C_below HR0.out HB.out) | (with_reducible refine Kd.C_alloc ?_ _) | (with_reducible refine Kd.C_drewN ?_ _) | (with_reducible refine Kd.C_drew ?_))); (case side2 => exact HC0.out); rintro e w17 ⟨rfl, hb⟩; have n0_ := Aside0.mk (Kd.R_below (by (with_reducible repeat (first | apply Kd.R_alloc | apply Kd.R_drewN | apply Kd.R_drew)); exact HO217.out) hb); have n1_ := Aside0.mk (below_step (by repeat (first | (with_reducible first | exact HB.out | apply below_alloc | apply pw_below_drewN | apply below_drew1) | exact HB.out)) hb); clear HO217; clear HB; have HO217 := n0_; have HB := n1_; clear n0_ n1_; (try clear hb); (try clear hb2); (try clear hk); (try clear hi)) | (go_at_call 10; (with_reducible refine (keys_Check.calls _ _ l1 t219 _ ?side1 ?side2 A9.out).mono ?_); (case side1 => repeat (first | exact (Kd.C_below HR1.out HB.out) | (with_reducible refine Kd.C_alloc ?_ _) | (with_reducible refine Kd.C_drewN ?_ _) | (with_reducible refine Kd.C_drew ?_))); (case side2 => exact HC1.out); rintro e w18 ⟨rfl, hb⟩; have n0_ := Aside0.mk (Kd.R_below (by (with_reducible repeat (first | apply Kd.R_alloc | apply Kd.R_drewN | apply Kd.R_drew)); exact HO217.out) hb); have n1_ := Aside0.mk (below_step (by repeat (first | (with_reducible first | exact HB.out | apply below_alloc | apply pw_below_drewN | apply below_drew1) | exact HB.out)) hb); clear HO217; clear HB; have HO217 := n0_; have HB := n1_; clear n0_ n1_; (try clear hb); (try clear hb2); (try clear hk); (try clear hi); obtain ⟨Ao19, co19, eo19⟩ := Kd.R_slice HO217.out; subst eo19) | (go_at_call 10; (with_reducible refine (keys_Check.calls _ _ y215 t220 _ ?side1 ?side2 A10.out).mono ?_); (case side1 => repeat (first | exact (Kd.R_reads' HO217.out).2.2 | (with_reducible refine Kd.C_alloc ?_ _) | (with_reducible refine Kd.C_drewN ?_ _) | (with_reducible refine Kd.C_drew ?_))); (case side2 => exact (Kd.R_reads' HO217.out).2.1); rintro e w20 ⟨rfl, hb⟩; have n0_ := Aside0.mk (Kd.R_below (by (with_reducible repeat (first | apply Kd.R_alloc | apply Kd.R_drewN | apply Kd.R_drew)); exact HO217.out) hb); have n1_ := Aside0.mk (below_step (by repeat (first | (with_reducible first | exact HB.out | apply below_alloc | apply pw_below_drewN | apply below_drew1) | exact HB.out)) hb); clear HO217; clear HB; have HO217 := n0_; have HB := n1_; clear n0_ n1_; (try clear hb); (try clear hb2); (try clear hk); (try clear hi)))
        repeat (go_quiet (first | (go_at_call 8; (with_reducible refine (inclinelaw03_shown.calls k  true _ A4.out).mono ?_); rintro e w12 ⟨rfl, hb⟩; have n0_ := Aside0.mk (below_step (by repeat (first | (with_reducible first | exact HB.out | apply below_alloc | apply pw_below_drewN | apply below_drew1) | exact HB.out)) hb); clear HB; have HB := n0_; clear n0_; (try clear hb); (try clear hb2); (try clear hk); (try clear hi)) | ((with_reducible refine gate_dst (N := 17) rfl ?_); (try (refine gate_guard (by rfl) ?_; dsimp only)); refine Kd.R_lit k35 _ 35 ?hg (N := 17) ?hd (xs := ([] : List (S35))) (inner := []) (ok := fun _ => True) (okp := fun _ => True) ?hr ?hp (fun _ hk => hk) trivial (Below.refl _ _) (Nat.le_refl _) (by simp) ?_; (case hd => rfl); (case hg => rfl); (case hr => first | (go_simp; done) | (go_simp; rfl)); (case hp => exact (Reps.none _ _)); intro v210 w13 ho14 hb hg_ hnew_; clear hg_ hnew_; (first | rw [← Ny209.out] at ho14 | (simp only [Int.reduceToNat] at ho14; rw [← Ny209.out] at ho14)); have n0_ := Aside0.mk (Kd.R_lower ho14 (below_size (by repeat (first | (with_reducible first | exact HB.out | apply below_alloc | apply pw_below_drewN | apply below_drew1) | exact HB.out)))); have n1_ := Aside0.mk (below_step (by repeat (first | (with_reducible first | exact HB.out | apply below_alloc | apply pw_below_drewN | apply below_drew1) | exact HB.out)) hb); clear HB; have HO211 := n0_; have HB := n1_; clear n0_ n1_; clear hb ho14) | ((with_reducible refine gate_builtin (b := .append) (xs := #[.tmp 17, .tmp 18]) rfl ?_); (try (refine gate_guard (by rfl) ?_; dsimp only)); at_builtin; refine Kd.R_append_rows k35 (w0 := w) w.heap.size rfl (.tmp 17) (.tmp 18) 22 35 (.agg #[(.int .u64 0), (.int .u64 0), (.bool false)]) 24 rfl Try.underlying22 info35 rfl (by decide) (by omega) v210 y209 l0 _ _ _ (fun _ => True) (fun _ => False) rfl rfl ?aO ?aR (fun _ _ h => h) (fun _ h => h.elim) ?aF ?aB ?aS ?aL ?_; (case aR => repeat (first | exact (Kd.C_below HR0.out HB.out) | (with_reducible refine Kd.C_alloc ?_ _) | (with_reducible refine Kd.C_drewN ?_ _) | (with_reducible refine Kd.C_drew ?_))); (case aB => exact (by repeat (first | (with_reducible first | exact HB.out | apply below_alloc | apply pw_below_drewN | apply below_drew1) | exact HB.out))); (case aF => exact (fun _ _ => trivial)); (case aO => exact (by (with_reducible repeat (first | apply Kd.R_alloc | apply Kd.R_drewN | apply Kd.R_drew)); exact HO211.out)); (case aS => exact (below_size (by repeat (first | (with_reducible first | exact HB.out | apply below_alloc | apply pw_below_drewN | apply below_drew1) | exact HB.out)))); (case aL => have := LMc6.out; omega); intro v213 w15 ho hb hg hat; rw [← Ny212.out] at ho; have n0_ := Aside0.mk (hb); have n1_ := Aside0.mk (ho); clear HB; clear HO211; have HB := n0_; have HO214 := n1_; clear n0_ n1_; clear ho hb hg hat) | ((with_reducible refine gate_builtin (b := .append) (xs := #[.tmp 19, .tmp 20]) rfl ?_); (try (refine gate_guard (by rfl) ?_; dsimp only)); at_builtin; refine Kd.R_append_rows k35 (w0 := w) w.heap.size rfl (.tmp 19) (.tmp 20) 22 35 (.agg #[(.int .u64 0), (.int .u64 0), (.bool false)]) 24 rfl Try.underlying22 info35 rfl (by decide) (by omega) v213 y212 l1 _ _ _ (fun _ => True) (fun _ => False) rfl rfl ?aO ?aR (fun _ _ h => h) (fun _ h => h.elim) ?aF ?aB ?aS ?aL ?_; (case aR => repeat (first | exact (Kd.C_below HR1.out HB.out) | (with_reducible refine Kd.C_alloc ?_ _) | (with_reducible refine Kd.C_drewN ?_ _) | (with_reducible refine Kd.C_drew ?_))); (case aB => exact (by repeat (first | (with_reducible first | exact HB.out | apply below_alloc | apply pw_below_drewN | apply below_drew1) | exact HB.out))); (case aF => exact (fun _ _ => trivial)); (case aO => exact (by (with_reducible repeat (first | apply Kd.R_alloc | apply Kd.R_drewN | apply Kd.R_drew)); exact HO214.out)); (case aS => exact (below_size (by repeat (first | (with_reducible first | exact HB.out | apply below_alloc | apply pw_below_drewN | apply below_drew1) | exact HB.out)))); (case aL => have := LMc7.out; omega); intro v216 w16 ho hb hg hat; rw [← Ny215.out] at ho; have n0_ := Aside0.mk (hb); have n1_ := Aside0.mk (ho); clear HB; clear HO214; have HB := n0_; have HO217 := n1_; clear n0_ n1_; clear ho hb hg hat) | (go_at_call 10; (with_reducible refine (keys_Check.calls _ _ l0 t218 _ ?side1 ?side2 A8.out).mono ?_); (case side1 => repeat (first | exact (Kd.C_below HR0.out HB.out) | (with_reducible refine Kd.C_alloc ?_ _) | (with_reducible refine Kd.C_drewN ?_ _) | (with_reducible refine Kd.C_drew ?_))); (case side2 => exact HC0.out); rintro e w17 ⟨rfl, hb⟩; have n0_ := Aside0.mk (Kd.R_below (by (with_reducible repeat (first | apply Kd.R_alloc | apply Kd.R_drewN | apply Kd.R_drew)); exact HO217.out) hb); have n1_ := Aside0.mk (below_step (by repeat (first | (with_reducible first | exact HB.out | apply below_alloc | apply pw_below_drewN | apply below_drew1) | exact HB.out)) hb); clear HO217; clear HB; have HO217 := n0_; have HB := n1_; clear n0_ n1_; (try clear hb); (try clear hb2); (try clear hk); (try clear hi)) | (go_at_call 10; (with_reducible refine (keys_Check.calls _ _ l1 t219 _ ?side1 ?side2 A9.out).mono ?_); (case side1 => repeat (first | exact (Kd.C_below HR1.out HB.out) | (with_reducible refine Kd.C_alloc ?_ _) | (with_reducible refine Kd.C_drewN ?_ _) | (with_reducible refine Kd.C_drew ?_))); (case side2 => exact HC1.out); rintro e w18 ⟨rfl, hb⟩; have n0_ := Aside0.mk (Kd.R_below (by (with_reducible repeat (first | apply Kd.R_alloc | apply Kd.R_drewN | apply Kd.R_drew)); exact HO217.out) hb); have n1_ := Aside0.mk (below_step (by repeat (first | (with_reducible first | exact HB.out | apply below_alloc | apply pw_below_drewN | apply below_drew1) | exact HB.out)) hb); clear HO217; clear HB; have HO217 := n0_; have HB := n1_; clear n0_ n1_; (try clear hb); (try clear hb2); (try clear hk); (try clear hi); obtain ⟨Ao19, co19, eo19⟩ := Kd.R_slice HO217.out; subst eo19) | (go_at_call 10; (with_reducible refine (keys_Check.calls _ _ y215 t220 _ ?side1 ?side2 A10.out).mono ?_); (case side1 => repeat (first | exact (Kd.R_reads' HO217.out).2.2 | (with_reducible refine Kd.C_alloc ?_ _) | (with_reducible refine Kd.C_drewN ?_ _) | (with_reducible refine Kd.C_drew ?_))); (case side2 => exact (Kd.R_reads' HO217.out).2.1); rintro e w20 ⟨rfl, hb⟩; have n0_ := Aside0.mk (Kd.R_below (by (with_reducible repeat (first | apply Kd.R_alloc | apply Kd.R_drewN | apply Kd.R_drew)); exact HO217.out) hb); have n1_ := Aside0.mk (below_step (by repeat (first | (with_reducible first | exact HB.out | apply below_alloc | apply pw_below_drewN | apply below_drew1) | exact HB.out)) hb); clear HO217; clear HB; have HO217 := n0_; have HB := n1_; clear n0_ n1_; (try clear hb); (try clear hb2); (try clear hk); (try clear hi))); go_upto_region 8 with (first | (go_at_call 8; (with_reducible refine (inclinelaw03_shown.calls k  true _ A4.out).mono ?_); rintro e w12 ⟨rfl, hb⟩; have n0_ := Aside0.mk (below_step (by repeat (first | (with_reducible first | exact HB.out | apply below_alloc | apply pw_below_drewN | apply below_drew1) | exact HB.out)) hb); clear HB; have HB := n0_; clear n0_; (try clear hb); (try clear hb2); (try clear hk); (try clear hi)) | ((with_reducible refine gate_dst (N := 17) rfl ?_); (try (refine gate_guard (by rfl) ?_; dsimp only)); refine Kd.R_lit k35 _ 35 ?hg (N := 17) ?hd (xs := ([] : List (S35))) (inner := []) (ok := fun _ => True) (okp := fun _ => True) ?hr ?hp (fun _ hk => hk) trivial (Below.refl _ _) (Nat.le_refl _) (by simp) ?_; (case hd => rfl); (case hg => rfl); (case hr => first | (go_simp; done) | (go_simp; rfl)); (case hp => exact (Reps.none _ _)); intro v210 w13 ho14 hb hg_ hnew_; clear hg_ hnew_; (first | rw [← Ny209.out] at ho14 | (simp only [Int.reduceToNat] at ho14; rw [← Ny209.out] at ho14)); have n0_ := Aside0.mk (Kd.R_lower ho14 (below_size (by repeat (first | (with_reducible first | exact HB.out | apply below_alloc | apply pw_below_drewN | apply below_drew1) | exact HB.out)))); have n1_ := Aside0.mk (below_step (by repeat (first | (with_reducible first | exact HB.out | apply below_alloc | apply pw_below_drewN | apply below_drew1) | exact HB.out)) hb); clear HB; have HO211 := n0_; have HB := n1_; clear n0_ n1_; clear hb ho14) | ((with_reducible refine gate_builtin (b := .append) (xs := #[.tmp 17, .tmp 18]) rfl ?_); (try (refine gate_guard (by rfl) ?_; dsimp only)); at_builtin; refine Kd.R_append_rows k35 (w0 := w) w.heap.size rfl (.tmp 17) (.tmp 18) 22 35 (.agg #[(.int .u64 0), (.int .u64 0), (.bool false)]) 24 rfl Try.underlying22 info35 rfl (by decide) (by omega) v210 y209 l0 _ _ _ (fun _ => True) (fun _ => False) rfl rfl ?aO ?aR (fun _ _ h => h) (fun _ h => h.elim) ?aF ?aB ?aS ?aL ?_; (case aR => repeat (first | exact (Kd.C_below HR0.out HB.out) | (with_reducible refine Kd.C_alloc ?_ _) | (with_reducible refine Kd.C_drewN ?_ _) | (with_reducible refine Kd.C_drew ?_))); (case aB => exact (by repeat (first | (with_reducible first | exact HB.out | apply below_alloc | apply pw_below_drewN | apply below_drew1) | exact HB.out))); (case aF => exact (fun _ _ => trivial)); (case aO => exact (by (with_reducible repeat (first | apply Kd.R_alloc | apply Kd.R_drewN | apply Kd.R_drew)); exact HO211.out)); (case aS => exact (below_size (by repeat (first | (with_reducible first | exact HB.out | apply below_alloc | apply pw_below_drewN | apply below_drew1) | exact HB.out)))); (case aL => have := LMc6.out; omega); intro v213 w15 ho hb hg hat; rw [← Ny212.out] at ho; have n0_ := Aside0.mk (hb); have n1_ := Aside0.mk (ho); clear HB; clear HO211; have HB := n0_; have HO214 := n1_; clear n0_ n1_; clear ho hb hg hat) | ((with_reducible refine gate_builtin (b := .append) (xs := #[.tmp 19, .tmp 20]) rfl ?_); (try (refine gate_guard (by rfl) ?_; dsimp only)); at_builtin; refine Kd.R_append_rows k35 (w0 := w) w.heap.size rfl (.tmp 19) (.tmp 20) 22 35 (.agg #[(.int .u64 0), (.int .u64 0), (.bool false)]) 24 rfl Try.underlying22 info35 rfl (by decide) (by omega) v213 y212 l1 _ _ _ (fun _ => True) (fun _ => False) rfl rfl ?aO ?aR (fun _ _ h => h) (fun _ h => h.elim) ?aF ?aB ?aS ?aL ?_; (case aR => repeat (first | exact (Kd.C_below HR1.out HB.out) | (with_reducible refine Kd.C_alloc ?_ _) | (with_reducible refine Kd.C_drewN ?_ _) | (with_reducible refine Kd.C_drew ?_))); (case aB => exact (by repeat (first | (with_reducible first | exact HB.out | apply below_alloc | apply pw_below_drewN | apply below_drew1) | exact HB.out))); (case aF => exact (fun _ _ => trivial)); (case aO => exact (by (with_reducible repeat (first | apply Kd.R_alloc | apply Kd.R_drewN | apply Kd.R_drew)); exact HO214.out)); (case aS => exact (below_size (by repeat (first | (with_reducible first | exact HB.out | apply below_alloc | apply pw_below_drewN | apply below_drew1) | exact HB.out)))); (case aL => have := LMc7.out; omega); intro v216 w16 ho hb hg hat; rw [← Ny215.out] at ho; have n0_ := Aside0.mk (hb); have n1_ := Aside0.mk (ho); clear HB; clear HO214; have HB := n0_; have HO217 := n1_; clear n0_ n1_; clear ho hb hg hat) | (go_at_call 10; (with_reducible refine (keys_Check.calls _ _ l0 t218 _ ?side1 ?side2 A8.out).mono ?_); (case side1 => repeat (first | exact (Kd.C_below HR0.out HB.out) | (with_reducible refine Kd.C_alloc ?_ _) | (with_reducible refine Kd.C_drewN ?_ _) | (with_reducible refine Kd.C_drew ?_))); (case side2 => exact HC0.out); rintro e w17 ⟨rfl, hb⟩; have n0_ := Aside0.mk (Kd.R_below (by (with_reducible repeat (first | apply Kd.R_alloc | apply Kd.R_drewN | apply Kd.R_drew)); exact HO217.out) hb); have n1_ := Aside0.mk (below_step (by repeat (first | (with_reducible first | exact HB.out | apply below_alloc | apply pw_below_drewN | apply below_drew1) | exact HB.out)) hb); clear HO217; clear HB; have HO217 := n0_; have HB := n1_; clear n0_ n1_; (try clear hb); (try clear hb2); (try clear hk); (try clear hi)) | (go_at_call 10; (with_reducible refine (keys_Check.calls _ _ l1 t219 _ ?side1 ?side2 A9.out).mono ?_); (case side1 => repeat (first | exact (Kd.C_below HR1.out HB.out) | (with_reducible refine Kd.C_alloc ?_ _) | (with_reducible refine Kd.C_drewN ?_ _) | (with_reducible refine Kd.C_drew ?_))); (case side2 => exact HC1.out); rintro e w18 ⟨rfl, hb⟩; have n0_ := Aside0.mk (Kd.R_below (by (with_reducible repeat (first | apply Kd.R_alloc | apply Kd.R_drewN | apply Kd.R_drew)); exact HO217.out) hb); have n1_ := Aside0.mk (below_step (by repeat (first | (with_reducible first | exact HB.out | apply below_alloc | apply pw_below_drewN | apply below_drew1) | exact HB.out)) hb); clear HO217; clear HB; have HO217 := n0_; have HB := n1_; clear n0_ n1_; (try clear hb); (try clear hb2); (try clear hk); (try clear hi); obtain ⟨Ao19, co19, eo19⟩ := Kd.R_slice HO217.out; subst eo19) | (go_at_call 10; (with_reducible refine (keys_Check.calls _ _ y215 t220 _ ?side1 ?side2 A10.out).mono ?_); (case side1 => repeat (first | exact (Kd.R_reads' HO217.out).2.2 | (with_reducible refine Kd.C_alloc ?_ _) | (with_reducible refine Kd.C_drewN ?_ _) | (with_reducible refine Kd.C_drew ?_))); (case side2 => exact (Kd.R_reads' HO217.out).2.1); rintro e w20 ⟨rfl, hb⟩; have n0_ := Aside0.mk (Kd.R_below (by (with_reducible repeat (first | apply Kd.R_alloc | apply Kd.R_drewN | apply Kd.R_drew)); exact HO217.out) hb); have n1_ := Aside0.mk (below_step (by repeat (first | (with_reducible first | exact HB.out | apply below_alloc | apply pw_below_drewN | apply below_drew1) | exact HB.out)) hb); clear HO217; clear HB; have HO217 := n0_; have HB := n1_; clear n0_ n1_; (try clear hb); (try clear hb2); (try clear hk); (try clear hi))))
        (try simp only [Act.put, List.setIfInBounds_toArray, List.set_cons_zero, List.set_cons_succ])
        go_cut [47] (fun v47 wc => ∃ (kq : Nat) (x47_10 : Bool), v47 = .bool x47_10 ∧ Aside0 (inclinelaw03_KeysPieces.j0 kq l0 l1 a2 true t218 t219 t220 x47_10 = some r) ∧ Aside0 (kq ≤ k) ∧ Aside0 (Below w.heap.size w wc))
        case first =>
          have H := HC11.out
          clear HC11
          replace H := Option.bind_eq_some_iff.mp H
          obtain ⟨t221, A210, H⟩ := H
          replace H : ((keys_Live.f k l0).bind fun t222 => ((keys_Live.f k l1).bind fun t223 => (if t221 = (wrap64 (t222 + t223)) then ((keys_Live.f k l0).bind fun t224 => (if t224 < 0 then (inclinelaw03_KeysPieces.j0 k l0 l1 a2 true t218 t219 t220 true) else ((keys_Live.f k l0).bind fun t225 => (inclinelaw03_KeysPieces.j0 k l0 l1 a2 true t218 t219 t220 (decide (t225 > (l0.length : Int))))))) else (inclinelaw03_KeysPieces.j0 k l0 l1 a2 true t218 t219 t220 true)))) = some r := H
          have A21 := Aside0.mk A210
          clear A210
          replace H := Option.bind_eq_some_iff.mp H
          obtain ⟨t222, A220, H⟩ := H
          replace H : ((keys_Live.f k l1).bind fun t223 => (if t221 = (wrap64 (t222 + t223)) then ((keys_Live.f k l0).bind fun t224 => (if t224 < 0 then (inclinelaw03_KeysPieces.j0 k l0 l1 a2 true t218 t219 t220 true) else ((keys_Live.f k l0).bind fun t225 => (inclinelaw03_KeysPieces.j0 k l0 l1 a2 true t218 t219 t220 (decide (t225 > (l0.length : Int))))))) else (inclinelaw03_KeysPieces.j0 k l0 l1 a2 true t218 t219 t220 true))) = some r := H
          have A22 := Aside0.mk A220
          clear A220
          replace H := Option.bind_eq_some_iff.mp H
          obtain ⟨t223, A230, H⟩ := H
          replace H : (if t221 = (wrap64 (t222 + t223)) then ((keys_Live.f k l0).bind fun t224 => (if t224 < 0 then (inclinelaw03_KeysPieces.j0 k l0 l1 a2 true t218 t219 t220 true) else ((keys_Live.f k l0).bind fun t225 => (inclinelaw03_KeysPieces.j0 k l0 l1 a2 true t218 t219 t220 (decide (t225 > (l0.length : Int))))))) else (inclinelaw03_KeysPieces.j0 k l0 l1 a2 true t218 t219 t220 true)) = some r := H
          have A23 := Aside0.mk A230
          clear A230
          by_cases c24 : t221 = (wrap64 (t222 + t223))
          · rw [if_pos c24] at H
            have c24b0 : (t221 == (wrap64 (t222 + t223))) = true := beq_iff_eq.mpr c24
            have c24b1 : (t221 != (wrap64 (t222 + t223))) = false := bne_eq_false_iff_eq.mpr c24
            clear c24
            (first | rw [c24b0] | (simp only [i64_w, i32_w]; rw [c24b0]) | skip)
            replace H := Option.bind_eq_some_iff.mp H
            obtain ⟨t224, A250, H⟩ := H
            replace H : (if t224 < 0 then (inclinelaw03_KeysPieces.j0 k l0 l1 a2 true t218 t219 t220 true) else ((keys_Live.f k l0).bind fun t225 => (inclinelaw03_KeysPieces.j0 k l0 l1 a2 true t218 t219 t220 (decide (t225 > (l0.length : Int)))))) = some r := H
            have A25 := Aside0.mk A250
            clear A250
            obtain rfl : t222 = t224 := Option.some.inj (A22.out.symm.trans A25.out)
            by_cases c26 : t222 < 0
            · rw [if_pos c26] at H
              have c26b0 : decide (t222 < 0) = true := decide_eq_true c26
              clear c26
              have H' := Aside0.mk H
              clear H
              go_wp2_with (first | (go_at_call 11; (with_reducible refine (keys_Live.calls k _ _ y215 t221 _ ?side1 ?side2 A21.out).mono ?_); (case side1 => repeat (first | exact (Kd.R_reads' HO217.out).2.2 | (with_reducible refine Kd.C_alloc ?_ _) | (with_reducible refine Kd.C_drewN ?_ _) | (with_reducible refine Kd.C_drew ?_))); (case side2 => exact (Kd.R_reads' HO217.out).2.1); rintro e w27 ⟨rfl, hb⟩; have n0_ := Aside0.mk (Kd.R_below (by (with_reducible repeat (first | apply Kd.R_alloc | apply Kd.R_drewN | apply Kd.R_drew)); exact HO217.out) hb); have n1_ := Aside0.mk (below_step (by repeat (first | (with_reducible first | exact HB.out | apply below_alloc | apply pw_below_drewN | apply below_drew1) | exact HB.out)) hb); clear HO217; clear HB; have HO217 := n0_; have HB := n1_; clear n0_ n1_; (try clear hb); (try clear hb2); (try clear hk); (try clear hi)) | (go_at_call 11; (with_reducible refine (keys_Live.calls k _ _ l0 t222 _ ?side1 ?side2 A22.out).mono ?_); (case side1 => repeat (first | exact (Kd.C_below HR0.out HB.out) | (with_reducible refine Kd.C_alloc ?_ _) | (with_reducible refine Kd.C_drewN ?_ _) | (with_reducible refine Kd.C_drew ?_))); (case side2 => exact HC0.out); rintro e w28 ⟨rfl, hb⟩; have n0_ := Aside0.mk (Kd.R_below (by (with_reducible repeat (first | apply Kd.R_alloc | apply Kd.R_drewN | apply Kd.R_drew)); exact HO217.out) hb); have n1_ := Aside0.mk (below_step (by repeat (first | (with_reducible first | exact HB.out | apply below_alloc | apply pw_below_drewN | apply below_drew1) | exact HB.out)) hb); clear HO217; clear HB; have HO217 := n0_; have HB := n1_; clear n0_ n1_; (try clear hb); (try clear hb2); (try clear hk); (try clear hi)) | (go_at_call 11; (with_reducible refine (keys_Live.calls k _ _ l1 t223 _ ?side1 ?side2 A23.out).mono ?_); (case side1 => repeat (first | exact (Kd.C_below HR1.out HB.out) | (with_reducible refine Kd.C_alloc ?_ _) | (with_reducible refine Kd.C_drewN ?_ _) | (with_reducible refine Kd.C_drew ?_))); (case side2 => exact HC1.out); rintro e w29 ⟨rfl, hb⟩; have n0_ := Aside0.mk (Kd.R_below (by (with_reducible repeat (first | apply Kd.R_alloc | apply Kd.R_drewN | apply Kd.R_drew)); exact HO217.out) hb); have n1_ := Aside0.mk (below_step (by repeat (first | (with_reducible first | exact HB.out | apply below_alloc | apply pw_below_drewN | apply below_drew1) | exact HB.out)) hb); clear HO217; clear HB; have HO217 := n0_; have HB := n1_; clear n0_ n1_; (try clear hb); (try clear hb2); (try clear hk); (try clear hi)) | (go_at_call 11; (with_reducible refine (keys_Live.calls k _ _ l0 t222 _ ?side1 ?side2 A25.out).mono ?_); (case side1 => repeat (first | exact (Kd.C_below HR0.out HB.out) | (with_reducible refine Kd.C_alloc ?_ _) | (with_reducible refine Kd.C_drewN ?_ _) | (with_reducible refine Kd.C_drew ?_))); (case side2 => exact HC0.out); rintro e w30 ⟨rfl, hb⟩; have n0_ := Aside0.mk (Kd.R_below (by (with_reducible repeat (first | apply Kd.R_alloc | apply Kd.R_drewN | apply Kd.R_drew)); exact HO217.out) hb); have n1_ := Aside0.mk (below_step (by repeat (first | (with_reducible first | exact HB.out | apply below_alloc | apply pw_below_drewN | apply below_drew1) | exact HB.out)) hb); clear HO217; clear HB; have HO217 := n0_; have HB := n1_; clear n0_ n1_; (try clear hb); (try clear hb2); (try clear hk); (try clear hi)))
              repeat (go_quiet (first | (go_at_call 11; (with_reducible refine (keys_Live.calls k _ _ y215 t221 _ ?side1 ?side2 A21.out).mono ?_); (case side1 => repeat (first | exact (Kd.R_reads' HO217.out).2.2 | (with_reducible refine Kd.C_alloc ?_ _) | (with_reducible refine Kd.C_drewN ?_ _) | (with_reducible refine Kd.C_drew ?_))); (case side2 => exact (Kd.R_reads' HO217.out).2.1); rintro e w27 ⟨rfl, hb⟩; have n0_ := Aside0.mk (Kd.R_below (by (with_reducible repeat (first | apply Kd.R_alloc | apply Kd.R_drewN | apply Kd.R_drew)); exact HO217.out) hb); have n1_ := Aside0.mk (below_step (by repeat (first | (with_reducible first | exact HB.out | apply below_alloc | apply pw_below_drewN | apply below_drew1) | exact HB.out)) hb); clear HO217; clear HB; have HO217 := n0_; have HB := n1_; clear n0_ n1_; (try clear hb); (try clear hb2); (try clear hk); (try clear hi)) | (go_at_call 11; (with_reducible refine (keys_Live.calls k _ _ l0 t222 _ ?side1 ?side2 A22.out).mono ?_); (case side1 => repeat (first | exact (Kd.C_below HR0.out HB.out) | (with_reducible refine Kd.C_alloc ?_ _) | (with_reducible refine Kd.C_drewN ?_ _) | (with_reducible refine Kd.C_drew ?_))); (case side2 => exact HC0.out); rintro e w28 ⟨rfl, hb⟩; have n0_ := Aside0.mk (Kd.R_below (by (with_reducible repeat (first | apply Kd.R_alloc | apply Kd.R_drewN | apply Kd.R_drew)); exact HO217.out) hb); have n1_ := Aside0.mk (below_step (by repeat (first | (with_reducible first | exact HB.out | apply below_alloc | apply pw_below_drewN | apply below_drew1) | exact HB.out)) hb); clear HO217; clear HB; have HO217 := n0_; have HB := n1_; clear n0_ n1_; (try clear hb); (try clear hb2); (try clear hk); (try clear hi)) | (go_at_call 11; (with_reducible refine (keys_Live.calls k _ _ l1 t223 _ ?side1 ?side2 A23.out).mono ?_); (case side1 => repeat (first | exact (Kd.C_below HR1.out HB.out) | (with_reducible refine Kd.C_alloc ?_ _) | (with_reducible refine Kd.C_drewN ?_ _) | (with_reducible refine Kd.C_drew ?_))); (case side2 => exact HC1.out); rintro e w29 ⟨rfl, hb⟩; have n0_ := Aside0.mk (Kd.R_below (by (with_reducible repeat (first | apply Kd.R_alloc | apply Kd.R_drewN | apply Kd.R_drew)); exact HO217.out) hb); have n1_ := Aside0.mk (below_step (by repeat (first | (with_reducible first | exact HB.out | apply below_alloc | apply pw_below_drewN | apply below_drew1) | exact HB.out)) hb); clear HO217; clear HB; have HO217 := n0_; have HB := n1_; clear n0_ n1_; (try clear hb); (try clear hb2); (try clear hk); (try clear hi)) | (go_at_call 11; (with_reducible refine (keys_Live.calls k _ _ l0 t222 _ ?side1 ?side2 A25.out).mono ?_); (case side1 => repeat (first | exact (Kd.C_below HR0.out HB.out) | (with_reducible refine Kd.C_alloc ?_ _) | (with_reducible refine Kd.C_drewN ?_ _) | (with_reducible refine Kd.C_drew ?_))); (case side2 => exact HC0.out); rintro e w30 ⟨rfl, hb⟩; have n0_ := Aside0.mk (Kd.R_below (by (with_reducible repeat (first | apply Kd.R_alloc | apply Kd.R_drewN | apply Kd.R_drew)); exact HO217.out) hb); have n1_ := Aside0.mk (below_step (by repeat (first | (with_reducible first | exact HB.out | apply below_alloc | apply pw_below_drewN | apply below_drew1) | exact HB.out)) hb); clear HO217; clear HB; have HO217 := n0_; have HB := n1_; clear n0_ n1_; (try clear hb); (try clear hb2); (try clear hk); (try clear hi))); try go_wp2_with (first | (go_at_call 11; (with_reducible refine (keys_Live.calls k _ _ y215 t221 _ ?side1 ?side2 A21.out).mono ?_); (case side1 => repeat (first | exact (Kd.R_reads' HO217.out).2.2 | (with_reducible refine Kd.C_alloc ?_ _) | (with_reducible refine Kd.C_drewN ?_ _) | (with_reducible refine Kd.C_drew ?_))); (case side2 => exact (Kd.R_reads' HO217.out).2.1); rintro e w27 ⟨rfl, hb⟩; have n0_ := Aside0.mk (Kd.R_below (by (with_reducible repeat (first | apply Kd.R_alloc | apply Kd.R_drewN | apply Kd.R_drew)); exact HO217.out) hb); have n1_ := Aside0.mk (below_step (by repeat (first | (with_reducible first | exact HB.out | apply below_alloc | apply pw_below_drewN | apply below_drew1) | exact HB.out)) hb); clear HO217; clear HB; have HO217 := n0_; have HB := n1_; clear n0_ n1_; (try clear hb); (try clear hb2); (try clear hk); (try clear hi)) | (go_at_call 11; (with_reducible refine (keys_Live.calls k _ _ l0 t222 _ ?side1 ?side2 A22.out).mono ?_); (case side1 => repeat (first | exact (Kd.C_below HR0.out HB.out) | (with_reducible refine Kd.C_alloc ?_ _) | (with_reducible refine Kd.C_drewN ?_ _) | (with_reducible refine Kd.C_drew ?_))); (case side2 => exact HC0.out); rintro e w28 ⟨rfl, hb⟩; have n0_ := Aside0.mk (Kd.R_below (by (with_reducible repeat (first | apply Kd.R_alloc | apply Kd.R_drewN | apply Kd.R_drew)); exact HO217.out) hb); have n1_ := Aside0.mk (below_step (by repeat (first | (with_reducible first | exact HB.out | apply below_alloc | apply pw_below_drewN | apply below_drew1) | exact HB.out)) hb); clear HO217; clear HB; have HO217 := n0_; have HB := n1_; clear n0_ n1_; (try clear hb); (try clear hb2); (try clear hk); (try clear hi)) | (go_at_call 11; (with_reducible refine (keys_Live.calls k _ _ l1 t223 _ ?side1 ?side2 A23.out).mono ?_); (case side1 => repeat (first | exact (Kd.C_below HR1.out HB.out) | (with_reducible refine Kd.C_alloc ?_ _) | (with_reducible refine Kd.C_drewN ?_ _) | (with_reducible refine Kd.C_drew ?_))); (case side2 => exact HC1.out); rintro e w29 ⟨rfl, hb⟩; have n0_ := Aside0.mk (Kd.R_below (by (with_reducible repeat (first | apply Kd.R_alloc | apply Kd.R_drewN | apply Kd.R_drew)); exact HO217.out) hb); have n1_ := Aside0.mk (below_step (by repeat (first | (with_reducible first | exact HB.out | apply below_alloc | apply pw_below_drewN | apply below_drew1) | exact HB.out)) hb); clear HO217; clear HB; have HO217 := n0_; have HB := n1_; clear n0_ n1_; (try clear hb); (try clear hb2); (try clear hk); (try clear hi)) | (go_at_call 11; (with_reducible refine (keys_Live.calls k _ _ l0 t222 _ ?side1 ?side2 A25.out).mono ?_); (case side1 => repeat (first | exact (Kd.C_below HR0.out HB.out) | (with_reducible refine Kd.C_alloc ?_ _) | (with_reducible refine Kd.C_drewN ?_ _) | (with_reducible refine Kd.C_drew ?_))); (case side2 => exact HC0.out); rintro e w30 ⟨rfl, hb⟩; have n0_ := Aside0.mk (Kd.R_below (by (with_reducible repeat (first | apply Kd.R_alloc | apply Kd.R_drewN | apply Kd.R_drew)); exact HO217.out) hb); have n1_ := Aside0.mk (below_step (by repeat (first | (with_reducible first | exact HB.out | apply below_alloc | apply pw_below_drewN | apply below_drew1) | exact HB.out)) hb); clear HO217; clear HB; have HO217 := n0_; have HB := n1_; clear n0_ n1_; (try clear hb); (try clear hb2); (try clear hk); (try clear hi))))
              go_meet
              case rel => exact ⟨_, (true), (by first | rfl | (simp; done) | (simp [*]; done)), H', ⟨by first | omega | exact Nat.le_refl _⟩, ⟨by repeat (first | (with_reducible first | exact HB.out | apply below_alloc | apply pw_below_drewN | apply below_drew1) | exact HB.out)⟩⟩
            · rw [if_neg c26] at H
              have c26b0 : decide (t222 < 0) = false := decide_eq_false c26
              clear c26
              replace H := Option.bind_eq_some_iff.mp H
              obtain ⟨t225, A310, H⟩ := H
              replace H : (inclinelaw03_KeysPieces.j0 k l0 l1 a2 true t218 t219 t220 (decide (t225 > (l0.length : Int)))) = some r := H
              have A31 := Aside0.mk A310
              clear A310
              obtain rfl : t222 = t225 := Option.some.inj (A22.out.symm.trans A31.out)
              have H' := Aside0.mk H
              clear H
              go_wp2_with (first | (go_at_call 11; (with_reducible refine (keys_Live.calls k _ _ y215 t221 _ ?side1 ?side2 A21.out).mono ?_); (case side1 => repeat (first | exact (Kd.R_reads' HO217.out).2.2 | (with_reducible refine Kd.C_alloc ?_ _) | (with_reducible refine Kd.C_drewN ?_ _) | (with_reducible refine Kd.C_drew ?_))); (case side2 => exact (Kd.R_reads' HO217.out).2.1); rintro e w32 ⟨rfl, hb⟩; have n0_ := Aside0.mk (Kd.R_below (by (with_reducible repeat (first | apply Kd.R_alloc | apply Kd.R_drewN | apply Kd.R_drew)); exact HO217.out) hb); have n1_ := Aside0.mk (below_step (by repeat (first | (with_reducible first | exact HB.out | apply below_alloc | apply pw_below_drewN | apply below_drew1) | exact HB.out)) hb); clear HO217; clear HB; have HO217 := n0_; have HB := n1_; clear n0_ n1_; (try clear hb); (try clear hb2); (try clear hk); (try clear hi)) | (go_at_call 11; (with_reducible refine (keys_Live.calls k _ _ l0 t222 _ ?side1 ?side2 A22.out).mono ?_); (case side1 => repeat (first | exact (Kd.C_below HR0.out HB.out) | (with_reducible refine Kd.C_alloc ?_ _) | (with_reducible refine Kd.C_drewN ?_ _) | (with_reducible refine Kd.C_drew ?_))); (case side2 => exact HC0.out); rintro e w33 ⟨rfl, hb⟩; have n0_ := Aside0.mk (Kd.R_below (by (with_reducible repeat (first | apply Kd.R_alloc | apply Kd.R_drewN | apply Kd.R_drew)); exact HO217.out) hb); have n1_ := Aside0.mk (below_step (by repeat (first | (with_reducible first | exact HB.out | apply below_alloc | apply pw_below_drewN | apply below_drew1) | exact HB.out)) hb); clear HO217; clear HB; have HO217 := n0_; have HB := n1_; clear n0_ n1_; (try clear hb); (try clear hb2); (try clear hk); (try clear hi)) | (go_at_call 11; (with_reducible refine (keys_Live.calls k _ _ l1 t223 _ ?side1 ?side2 A23.out).mono ?_); (case side1 => repeat (first | exact (Kd.C_below HR1.out HB.out) | (with_reducible refine Kd.C_alloc ?_ _) | (with_reducible refine Kd.C_drewN ?_ _) | (with_reducible refine Kd.C_drew ?_))); (case side2 => exact HC1.out); rintro e w34 ⟨rfl, hb⟩; have n0_ := Aside0.mk (Kd.R_below (by (with_reducible repeat (first | apply Kd.R_alloc | apply Kd.R_drewN | apply Kd.R_drew)); exact HO217.out) hb); have n1_ := Aside0.mk (below_step (by repeat (first | (with_reducible first | exact HB.out | apply below_alloc | apply pw_below_drewN | apply below_drew1) | exact HB.out)) hb); clear HO217; clear HB; have HO217 := n0_; have HB := n1_; clear n0_ n1_; (try clear hb); (try clear hb2); (try clear hk); (try clear hi)) | (go_at_call 11; (with_reducible refine (keys_Live.calls k _ _ l0 t222 _ ?side1 ?side2 A25.out).mono ?_); (case side1 => repeat (first | exact (Kd.C_below HR0.out HB.out) | (with_reducible refine Kd.C_alloc ?_ _) | (with_reducible refine Kd.C_drewN ?_ _) | (with_reducible refine Kd.C_drew ?_))); (case side2 => exact HC0.out); rintro e w35 ⟨rfl, hb⟩; have n0_ := Aside0.mk (Kd.R_below (by (with_reducible repeat (first | apply Kd.R_alloc | apply Kd.R_drewN | apply Kd.R_drew)); exact HO217.out) hb); have n1_ := Aside0.mk (below_step (by repeat (first | (with_reducible first | exact HB.out | apply below_alloc | apply pw_below_drewN | apply below_drew1) | exact HB.out)) hb); clear HO217; clear HB; have HO217 := n0_; have HB := n1_; clear n0_ n1_; (try clear hb); (try clear hb2); (try clear hk); (try clear hi)) | (go_at_call 11; (with_reducible refine (keys_Live.calls k _ _ l0 t222 _ ?side1 ?side2 A31.out).mono ?_); (case side1 => repeat (first | exact (Kd.C_below HR0.out HB.out) | (with_reducible refine Kd.C_alloc ?_ _) | (with_reducible refine Kd.C_drewN ?_ _) | (with_reducible refine Kd.C_drew ?_))); (case side2 => exact HC0.out); rintro e w36 ⟨rfl, hb⟩; have n0_ := Aside0.mk (Kd.R_below (by (with_reducible repeat (first | apply Kd.R_alloc | apply Kd.R_drewN | apply Kd.R_drew)); exact HO217.out) hb); have n1_ := Aside0.mk (below_step (by repeat (first | (with_reducible first | exact HB.out | apply below_alloc | apply pw_below_drewN | apply below_drew1) | exact HB.out)) hb); clear HO217; clear HB; have HO217 := n0_; have HB := n1_; clear n0_ n1_; (try clear hb); (try clear hb2); (try clear hk); (try clear hi)))
              repeat (go_quiet (first | (go_at_call 11; (with_reducible refine (keys_Live.calls k _ _ y215 t221 _ ?side1 ?side2 A21.out).mono ?_); (case side1 => repeat (first | exact (Kd.R_reads' HO217.out).2.2 | (with_reducible refine Kd.C_alloc ?_ _) | (with_reducible refine Kd.C_drewN ?_ _) | (with_reducible refine Kd.C_drew ?_))); (case side2 => exact (Kd.R_reads' HO217.out).2.1); rintro e w32 ⟨rfl, hb⟩; have n0_ := Aside0.mk (Kd.R_below (by (with_reducible repeat (first | apply Kd.R_alloc | apply Kd.R_drewN | apply Kd.R_drew)); exact HO217.out) hb); have n1_ := Aside0.mk (below_step (by repeat (first | (with_reducible first | exact HB.out | apply below_alloc | apply pw_below_drewN | apply below_drew1) | exact HB.out)) hb); clear HO217; clear HB; have HO217 := n0_; have HB := n1_; clear n0_ n1_; (try clear hb); (try clear hb2); (try clear hk); (try clear hi)) | (go_at_call 11; (with_reducible refine (keys_Live.calls k _ _ l0 t222 _ ?side1 ?side2 A22.out).mono ?_); (case side1 => repeat (first | exact (Kd.C_below HR0.out HB.out) | (with_reducible refine Kd.C_alloc ?_ _) | (with_reducible refine Kd.C_drewN ?_ _) | (with_reducible refine Kd.C_drew ?_))); (case side2 => exact HC0.out); rintro e w33 ⟨rfl, hb⟩; have n0_ := Aside0.mk (Kd.R_below (by (with_reducible repeat (first | apply Kd.R_alloc | apply Kd.R_drewN | apply Kd.R_drew)); exact HO217.out) hb); have n1_ := Aside0.mk (below_step (by repeat (first | (with_reducible first | exact HB.out | apply below_alloc | apply pw_below_drewN | apply below_drew1) | exact HB.out)) hb); clear HO217; clear HB; have HO217 := n0_; have HB := n1_; clear n0_ n1_; (try clear hb); (try clear hb2); (try clear hk); (try clear hi)) | (go_at_call 11; (with_reducible refine (keys_Live.calls k _ _ l1 t223 _ ?side1 ?side2 A23.out).mono ?_); (case side1 => repeat (first | exact (Kd.C_below HR1.out HB.out) | (with_reducible refine Kd.C_alloc ?_ _) | (with_reducible refine Kd.C_drewN ?_ _) | (with_reducible refine Kd.C_drew ?_))); (case side2 => exact HC1.out); rintro e w34 ⟨rfl, hb⟩; have n0_ := Aside0.mk (Kd.R_below (by (with_reducible repeat (first | apply Kd.R_alloc | apply Kd.R_drewN | apply Kd.R_drew)); exact HO217.out) hb); have n1_ := Aside0.mk (below_step (by repeat (first | (with_reducible first | exact HB.out | apply below_alloc | apply pw_below_drewN | apply below_drew1) | exact HB.out)) hb); clear HO217; clear HB; have HO217 := n0_; have HB := n1_; clear n0_ n1_; (try clear hb); (try clear hb2); (try clear hk); (try clear hi)) | (go_at_call 11; (with_reducible refine (keys_Live.calls k _ _ l0 t222 _ ?side1 ?side2 A25.out).mono ?_); (case side1 => repeat (first | exact (Kd.C_below HR0.out HB.out) | (with_reducible refine Kd.C_alloc ?_ _) | (with_reducible refine Kd.C_drewN ?_ _) | (with_reducible refine Kd.C_drew ?_))); (case side2 => exact HC0.out); rintro e w35 ⟨rfl, hb⟩; have n0_ := Aside0.mk (Kd.R_below (by (with_reducible repeat (first | apply Kd.R_alloc | apply Kd.R_drewN | apply Kd.R_drew)); exact HO217.out) hb); have n1_ := Aside0.mk (below_step (by repeat (first | (with_reducible first | exact HB.out | apply below_alloc | apply pw_below_drewN | apply below_drew1) | exact HB.out)) hb); clear HO217; clear HB; have HO217 := n0_; have HB := n1_; clear n0_ n1_; (try clear hb); (try clear hb2); (try clear hk); (try clear hi)) | (go_at_call 11; (with_reducible refine (keys_Live.calls k _ _ l0 t222 _ ?side1 ?side2 A31.out).mono ?_); (case side1 => repeat (first | exact (Kd.C_below HR0.out HB.out) | (with_reducible refine Kd.C_alloc ?_ _) | (with_reducible refine Kd.C_drewN ?_ _) | (with_reducible refine Kd.C_drew ?_))); (case side2 => exact HC0.out); rintro e w36 ⟨rfl, hb⟩; have n0_ := Aside0.mk (Kd.R_below (by (with_reducible repeat (first | apply Kd.R_alloc | apply Kd.R_drewN | apply Kd.R_drew)); exact HO217.out) hb); have n1_ := Aside0.mk (below_step (by repeat (first | (with_reducible first | exact HB.out | apply below_alloc | apply pw_below_drewN | apply below_drew1) | exact HB.out)) hb); clear HO217; clear HB; have HO217 := n0_; have HB := n1_; clear n0_ n1_; (try clear hb); (try clear hb2); (try clear hk); (try clear hi))); try go_wp2_with (first | (go_at_call 11; (with_reducible refine (keys_Live.calls k _ _ y215 t221 _ ?side1 ?side2 A21.out).mono ?_); (case side1 => repeat (first | exact (Kd.R_reads' HO217.out).2.2 | (with_reducible refine Kd.C_alloc ?_ _) | (with_reducible refine Kd.C_drewN ?_ _) | (with_reducible refine Kd.C_drew ?_))); (case side2 => exact (Kd.R_reads' HO217.out).2.1); rintro e w32 ⟨rfl, hb⟩; have n0_ := Aside0.mk (Kd.R_below (by (with_reducible repeat (first | apply Kd.R_alloc | apply Kd.R_drewN | apply Kd.R_drew)); exact HO217.out) hb); have n1_ := Aside0.mk (below_step (by repeat (first | (with_reducible first | exact HB.out | apply below_alloc | apply pw_below_drewN | apply below_drew1) | exact HB.out)) hb); clear HO217; clear HB; have HO217 := n0_; have HB := n1_; clear n0_ n1_; (try clear hb); (try clear hb2); (try clear hk); (try clear hi)) | (go_at_call 11; (with_reducible refine (keys_Live.calls k _ _ l0 t222 _ ?side1 ?side2 A22.out).mono ?_); (case side1 => repeat (first | exact (Kd.C_below HR0.out HB.out) | (with_reducible refine Kd.C_alloc ?_ _) | (with_reducible refine Kd.C_drewN ?_ _) | (with_reducible refine Kd.C_drew ?_))); (case side2 => exact HC0.out); rintro e w33 ⟨rfl, hb⟩; have n0_ := Aside0.mk (Kd.R_below (by (with_reducible repeat (first | apply Kd.R_alloc | apply Kd.R_drewN | apply Kd.R_drew)); exact HO217.out) hb); have n1_ := Aside0.mk (below_step (by repeat (first | (with_reducible first | exact HB.out | apply below_alloc | apply pw_below_drewN | apply below_drew1) | exact HB.out)) hb); clear HO217; clear HB; have HO217 := n0_; have HB := n1_; clear n0_ n1_; (try clear hb); (try clear hb2); (try clear hk); (try clear hi)) | (go_at_call 11; (with_reducible refine (keys_Live.calls k _ _ l1 t223 _ ?side1 ?side2 A23.out).mono ?_); (case side1 => repeat (first | exact (Kd.C_below HR1.out HB.out) | (with_reducible refine Kd.C_alloc ?_ _) | (with_reducible refine Kd.C_drewN ?_ _) | (with_reducible refine Kd.C_drew ?_))); (case side2 => exact HC1.out); rintro e w34 ⟨rfl, hb⟩; have n0_ := Aside0.mk (Kd.R_below (by (with_reducible repeat (first | apply Kd.R_alloc | apply Kd.R_drewN | apply Kd.R_drew)); exact HO217.out) hb); have n1_ := Aside0.mk (below_step (by repeat (first | (with_reducible first | exact HB.out | apply below_alloc | apply pw_below_drewN | apply below_drew1) | exact HB.out)) hb); clear HO217; clear HB; have HO217 := n0_; have HB := n1_; clear n0_ n1_; (try clear hb); (try clear hb2); (try clear hk); (try clear hi)) | (go_at_call 11; (with_reducible refine (keys_Live.calls k _ _ l0 t222 _ ?side1 ?side2 A25.out).mono ?_); (case side1 => repeat (first | exact (Kd.C_below HR0.out HB.out) | (with_reducible refine Kd.C_alloc ?_ _) | (with_reducible refine Kd.C_drewN ?_ _) | (with_reducible refine Kd.C_drew ?_))); (case side2 => exact HC0.out); rintro e w35 ⟨rfl, hb⟩; have n0_ := Aside0.mk (Kd.R_below (by (with_reducible repeat (first | apply Kd.R_alloc | apply Kd.R_drewN | apply Kd.R_drew)); exact HO217.out) hb); have n1_ := Aside0.mk (below_step (by repeat (first | (with_reducible first | exact HB.out | apply below_alloc | apply pw_below_drewN | apply below_drew1) | exact HB.out)) hb); clear HO217; clear HB; have HO217 := n0_; have HB := n1_; clear n0_ n1_; (try clear hb); (try clear hb2); (try clear hk); (try clear hi)) | (go_at_call 11; (with_reducible refine (keys_Live.calls k _ _ l0 t222 _ ?side1 ?side2 A31.out).mono ?_); (case side1 => repeat (first | exact (Kd.C_below HR0.out HB.out) | (with_reducible refine Kd.C_alloc ?_ _) | (with_reducible refine Kd.C_drewN ?_ _) | (with_reducible refine Kd.C_drew ?_))); (case side2 => exact HC0.out); rintro e w36 ⟨rfl, hb⟩; have n0_ := Aside0.mk (Kd.R_below (by (with_reducible repeat (first | apply Kd.R_alloc | apply Kd.R_drewN | apply Kd.R_drew)); exact HO217.out) hb); have n1_ := Aside0.mk (below_step (by repeat (first | (with_reducible first | exact HB.out | apply below_alloc | apply pw_below_drewN | apply below_drew1) | exact HB.out)) hb); clear HO217; clear HB; have HO217 := n0_; have HB := n1_; clear n0_ n1_; (try clear hb); (try clear hb2); (try clear hk); (try clear hi))))
              go_meet
              case rel => exact ⟨_, (decide (t222 > (l0.length : Int))), (by first | rfl | (simp; done) | (simp [*]; done)), H', ⟨by first | omega | exact Nat.le_refl _⟩, ⟨by repeat (first | (with_reducible first | exact HB.out | apply below_alloc | apply pw_below_drewN | apply below_drew1) | exact HB.out)⟩⟩
          · rw [if_neg c24] at H
            have c24b0 : (t221 == (wrap64 (t222 + t223))) = false := beq_eq_false_iff_ne.mpr c24
            have c24b1 : (t221 != (wrap64 (t222 + t223))) = true := bne_iff_ne.mpr c24
            (first | rw [c24b0] | (simp only [i64_w, i32_w]; rw [c24b0]) | skip)
            have H' := Aside0.mk H
            clear H
            go_wp2_with (first | (go_at_call 11; (with_reducible refine (keys_Live.calls k _ _ y215 t221 _ ?side1 ?side2 A21.out).mono ?_); (case side1 => repeat (first | exact (Kd.R_reads' HO217.out).2.2 | (with_reducible refine Kd.C_alloc ?_ _) | (with_reducible refine Kd.C_drewN ?_ _) | (with_reducible refine Kd.C_drew ?_))); (case side2 => exact (Kd.R_reads' HO217.out).2.1); rintro e w37 ⟨rfl, hb⟩; have n0_ := Aside0.mk (Kd.R_below (by (with_reducible repeat (first | apply Kd.R_alloc | apply Kd.R_drewN | apply Kd.R_drew)); exact HO217.out) hb); have n1_ := Aside0.mk (below_step (by repeat (first | (with_reducible first | exact HB.out | apply below_alloc | apply pw_below_drewN | apply below_drew1) | exact HB.out)) hb); clear HO217; clear HB; have HO217 := n0_; have HB := n1_; clear n0_ n1_; (try clear hb); (try clear hb2); (try clear hk); (try clear hi)) | (go_at_call 11; (with_reducible refine (keys_Live.calls k _ _ l0 t222 _ ?side1 ?side2 A22.out).mono ?_); (case side1 => repeat (first | exact (Kd.C_below HR0.out HB.out) | (with_reducible refine Kd.C_alloc ?_ _) | (with_reducible refine Kd.C_drewN ?_ _) | (with_reducible refine Kd.C_drew ?_))); (case side2 => exact HC0.out); rintro e w38 ⟨rfl, hb⟩; have n0_ := Aside0.mk (Kd.R_below (by (with_reducible repeat (first | apply Kd.R_alloc | apply Kd.R_drewN | apply Kd.R_drew)); exact HO217.out) hb); have n1_ := Aside0.mk (below_step (by repeat (first | (with_reducible first | exact HB.out | apply below_alloc | apply pw_below_drewN | apply below_drew1) | exact HB.out)) hb); clear HO217; clear HB; have HO217 := n0_; have HB := n1_; clear n0_ n1_; (try clear hb); (try clear hb2); (try clear hk); (try clear hi)) | (go_at_call 11; (with_reducible refine (keys_Live.calls k _ _ l1 t223 _ ?side1 ?side2 A23.out).mono ?_); (case side1 => repeat (first | exact (Kd.C_below HR1.out HB.out) | (with_reducible refine Kd.C_alloc ?_ _) | (with_reducible refine Kd.C_drewN ?_ _) | (with_reducible refine Kd.C_drew ?_))); (case side2 => exact HC1.out); rintro e w39 ⟨rfl, hb⟩; have n0_ := Aside0.mk (Kd.R_below (by (with_reducible repeat (first | apply Kd.R_alloc | apply Kd.R_drewN | apply Kd.R_drew)); exact HO217.out) hb); have n1_ := Aside0.mk (below_step (by repeat (first | (with_reducible first | exact HB.out | apply below_alloc | apply pw_below_drewN | apply below_drew1) | exact HB.out)) hb); clear HO217; clear HB; have HO217 := n0_; have HB := n1_; clear n0_ n1_; (try clear hb); (try clear hb2); (try clear hk); (try clear hi)))
            repeat (go_quiet (first | (go_at_call 11; (with_reducible refine (keys_Live.calls k _ _ y215 t221 _ ?side1 ?side2 A21.out).mono ?_); (case side1 => repeat (first | exact (Kd.R_reads' HO217.out).2.2 | (with_reducible refine Kd.C_alloc ?_ _) | (with_reducible refine Kd.C_drewN ?_ _) | (with_reducible refine Kd.C_drew ?_))); (case side2 => exact (Kd.R_reads' HO217.out).2.1); rintro e w37 ⟨rfl, hb⟩; have n0_ := Aside0.mk (Kd.R_below (by (with_reducible repeat (first | apply Kd.R_alloc | apply Kd.R_drewN | apply Kd.R_drew)); exact HO217.out) hb); have n1_ := Aside0.mk (below_step (by repeat (first | (with_reducible first | exact HB.out | apply below_alloc | apply pw_below_drewN | apply below_drew1) | exact HB.out)) hb); clear HO217; clear HB; have HO217 := n0_; have HB := n1_; clear n0_ n1_; (try clear hb); (try clear hb2); (try clear hk); (try clear hi)) | (go_at_call 11; (with_reducible refine (keys_Live.calls k _ _ l0 t222 _ ?side1 ?side2 A22.out).mono ?_); (case side1 => repeat (first | exact (Kd.C_below HR0.out HB.out) | (with_reducible refine Kd.C_alloc ?_ _) | (with_reducible refine Kd.C_drewN ?_ _) | (with_reducible refine Kd.C_drew ?_))); (case side2 => exact HC0.out); rintro e w38 ⟨rfl, hb⟩; have n0_ := Aside0.mk (Kd.R_below (by (with_reducible repeat (first | apply Kd.R_alloc | apply Kd.R_drewN | apply Kd.R_drew)); exact HO217.out) hb); have n1_ := Aside0.mk (below_step (by repeat (first | (with_reducible first | exact HB.out | apply below_alloc | apply pw_below_drewN | apply below_drew1) | exact HB.out)) hb); clear HO217; clear HB; have HO217 := n0_; have HB := n1_; clear n0_ n1_; (try clear hb); (try clear hb2); (try clear hk); (try clear hi)) | (go_at_call 11; (with_reducible refine (keys_Live.calls k _ _ l1 t223 _ ?side1 ?side2 A23.out).mono ?_); (case side1 => repeat (first | exact (Kd.C_below HR1.out HB.out) | (with_reducible refine Kd.C_alloc ?_ _) | (with_reducible refine Kd.C_drewN ?_ _) | (with_reducible refine Kd.C_drew ?_))); (case side2 => exact HC1.out); rintro e w39 ⟨rfl, hb⟩; have n0_ := Aside0.mk (Kd.R_below (by (with_reducible repeat (first | apply Kd.R_alloc | apply Kd.R_drewN | apply Kd.R_drew)); exact HO217.out) hb); have n1_ := Aside0.mk (below_step (by repeat (first | (with_reducible first | exact HB.out | apply below_alloc | apply pw_below_drewN | apply below_drew1) | exact HB.out)) hb); clear HO217; clear HB; have HO217 := n0_; have HB := n1_; clear n0_ n1_; (try clear hb); (try clear hb2); (try clear hk); (try clear hi))); try go_wp2_with (first | (go_at_call 11; (with_reducible refine (keys_Live.calls k _ _ y215 t221 _ ?side1 ?side2 A21.out).mono ?_); (case side1 => repeat (first | exact (Kd.R_reads' HO217.out).2.2 | (with_reducible refine Kd.C_alloc ?_ _) | (with_reducible refine Kd.C_drewN ?_ _) | (with_reducible refine Kd.C_drew ?_))); (case side2 => exact (Kd.R_reads' HO217.out).2.1); rintro e w37 ⟨rfl, hb⟩; have n0_ := Aside0.mk (Kd.R_below (by (with_reducible repeat (first | apply Kd.R_alloc | apply Kd.R_drewN | apply Kd.R_drew)); exact HO217.out) hb); have n1_ := Aside0.mk (below_step (by repeat (first | (with_reducible first | exact HB.out | apply below_alloc | apply pw_below_drewN | apply below_drew1) | exact HB.out)) hb); clear HO217; clear HB; have HO217 := n0_; have HB := n1_; clear n0_ n1_; (try clear hb); (try clear hb2); (try clear hk); (try clear hi)) | (go_at_call 11; (with_reducible refine (keys_Live.calls k _ _ l0 t222 _ ?side1 ?side2 A22.out).mono ?_); (case side1 => repeat (first | exact (Kd.C_below HR0.out HB.out) | (with_reducible refine Kd.C_alloc ?_ _) | (with_reducible refine Kd.C_drewN ?_ _) | (with_reducible refine Kd.C_drew ?_))); (case side2 => exact HC0.out); rintro e w38 ⟨rfl, hb⟩; have n0_ := Aside0.mk (Kd.R_below (by (with_reducible repeat (first | apply Kd.R_alloc | apply Kd.R_drewN | apply Kd.R_drew)); exact HO217.out) hb); have n1_ := Aside0.mk (below_step (by repeat (first | (with_reducible first | exact HB.out | apply below_alloc | apply pw_below_drewN | apply below_drew1) | exact HB.out)) hb); clear HO217; clear HB; have HO217 := n0_; have HB := n1_; clear n0_ n1_; (try clear hb); (try clear hb2); (try clear hk); (try clear hi)) | (go_at_call 11; (with_reducible refine (keys_Live.calls k _ _ l1 t223 _ ?side1 ?side2 A23.out).mono ?_); (case side1 => repeat (first | exact (Kd.C_below HR1.out HB.out) | (with_reducible refine Kd.C_alloc ?_ _) | (with_reducible refine Kd.C_drewN ?_ _) | (with_reducible refine Kd.C_drew ?_))); (case side2 => exact HC1.out); rintro e w39 ⟨rfl, hb⟩; have n0_ := Aside0.mk (Kd.R_below (by (with_reducible repeat (first | apply Kd.R_alloc | apply Kd.R_drewN | apply Kd.R_drew)); exact HO217.out) hb); have n1_ := Aside0.mk (below_step (by repeat (first | (with_reducible first | exact HB.out | apply below_alloc | apply pw_below_drewN | apply below_drew1) | exact HB.out)) hb); clear HO217; clear HB; have HO217 := n0_; have HB := n1_; clear n0_ n1_; (try clear hb); (try clear hb2); (try clear hk); (try clear hi))))
            go_meet
            case rel => exact ⟨_, (true), (by first | rfl | (simp; done) | (simp [*]; done)), H', ⟨by first | omega | exact Nat.le_refl _⟩, ⟨by repeat (first | (with_reducible first | exact HB.out | apply below_alloc | apply pw_below_drewN | apply below_drew1) | exact HB.out)⟩⟩
        case rest =>
          clear HC11
          try clear c1
          try clear c2
          try clear p2
          try clear c5
          try clear c6
          try clear p6
          try clear c7
          try clear c24
          try clear c24b0
          try clear c24b1
          try clear c26
          try clear c26b0
          obtain ⟨kq, x47_10, rfl, HA, HJ10, HB⟩ := hcut
          cases kq with
          | zero => exact absurd HA.out (by simp [inclinelaw03_KeysPieces.j0])
          | succ kj10 =>
            have H := HA.out
            clear HA
            simp only [inclinelaw03_KeysPieces.j0] at H
            by_cases c40 : x47_10 = true
            · subst c40
              have H1 : (none) = some r := by rw [if_pos rfl] at H; exact H
              clear H
              have H := H1
              clear H1
              exact absurd H (by simp)
            · replace c40 := Bool.eq_false_iff.mpr c40
              subst c40
              have H1 : (if (l0.length : Int) = 0 then (inclinelaw03_KeysPieces.j1 kj10 l0 a2 true t218 t219 t220 true) else (if (l1.length : Int) = 0 then (inclinelaw03_KeysPieces.j1 kj10 l0 a2 true t218 t219 t220 true) else (if 0 ≤ (wrap64 ((l0.length : Int) - 1)) then (if (wrap64 ((l0.length : Int) - 1)) < (l0.length : Int) then (if 0 < (l1.length : Int) then (inclinelaw03_KeysPieces.j1 kj10 l0 a2 true t218 t219 t220 (decide (((rd_T35 l0 (wrap64 ((l0.length : Int) - 1))).f0) < ((rd_T35 l1 0).f0)))) else (none)) else (none)) else (none)))) = some r := by rw [if_neg (show ¬ (false = true) by decide)] at H; exact H
              clear H
              have H := H1
              clear H1
              have HC41 := Aside0.mk H
              clear H
              go_upto_region 10 with (fail)
              repeat (go_quiet (fail); go_upto_region 10 with (fail))
              go_cut [12] (fun v12 wc => ∃ (kq : Nat) (x12_40 : Bool), v12 = .bool x12_40 ∧ Aside0 (inclinelaw03_KeysPieces.j1 kq l0 a2 true t218 t219 t220 x12_40 = some r) ∧ Aside0 (kq ≤ kj10) ∧ Aside0 (Below w.heap.size w wc))
              case first =>
                have H := HC41.out
                clear HC41
                by_cases c42 : (l0.length : Int) = 0
                · rw [if_pos c42] at H
                  have c42b0 : ((l0.length : Int) == 0) = true := beq_iff_eq.mpr c42
                  have c42b1 : ((l0.length : Int) != 0) = false := bne_eq_false_iff_eq.mpr c42
                  clear c42
                  (first | rw [c42b0] | (simp only [i64_w, i32_w]; rw [c42b0]) | skip)
                  have H' := Aside0.mk H
                  clear H
                  go_wp2
                  repeat (go_quiet (fail); try go_wp2)
                  go_meet
                  case rel => exact ⟨_, (true), (by first | rfl | (simp; done) | (simp [*]; done)), H', ⟨by have := HJ10.out; first | omega | exact Nat.le_refl _⟩, ⟨by repeat (first | (with_reducible first | exact HB.out | apply below_alloc | apply pw_below_drewN | apply below_drew1) | exact HB.out)⟩⟩
                · rw [if_neg c42] at H
                  have c42b0 : ((l0.length : Int) == 0) = false := beq_eq_false_iff_ne.mpr c42
                  have c42b1 : ((l0.length : Int) != 0) = true := bne_iff_ne.mpr c42
                  have c42b2 : ¬ (l0 = []) := fun h_ => c42 (by rw [h_]; rfl)
                  (first | rw [c42b0] | (simp only [i64_w, i32_w]; rw [c42b0]) | skip)
                  by_cases c43 : (l1.length : Int) = 0
                  · rw [if_pos c43] at H
                    have c43b0 : ((l1.length : Int) == 0) = true := beq_iff_eq.mpr c43
                    have c43b1 : ((l1.length : Int) != 0) = false := bne_eq_false_iff_eq.mpr c43
                    clear c43
                    have H' := Aside0.mk H
                    clear H
                    go_wp2
                    repeat (go_quiet (fail); try go_wp2)
                    go_meet
                    case rel => exact ⟨_, (true), (by first | rfl | (simp; done) | (simp [*]; done)), H', ⟨by have := HJ10.out; first | omega | exact Nat.le_refl _⟩, ⟨by repeat (first | (with_reducible first | exact HB.out | apply below_alloc | apply pw_below_drewN | apply below_drew1) | exact HB.out)⟩⟩
                  · rw [if_neg c43] at H
                    have c43b0 : ((l1.length : Int) == 0) = false := beq_eq_false_iff_ne.mpr c43
                    have c43b1 : ((l1.length : Int) != 0) = true := bne_iff_ne.mpr c43
                    have c43b2 : ¬ (l1 = []) := fun h_ => c43 (by rw [h_]; rfl)
                    obtain ⟨ji44, hji44⟩ : ∃ j_ : Int, (wrap64 ((l0.length : Int) - 1)) = j_ := ⟨_, rfl⟩
                    replace H : (if 0 ≤ (ji44) then (if (ji44) < (l0.length : Int) then (if 0 < (l1.length : Int) then (inclinelaw03_KeysPieces.j1 kj10 l0 a2 true t218 t219 t220 (decide (((rd_T35 l0 (ji44)).f0) < ((rd_T35 l1 0).f0)))) else (none)) else (none)) else (none)) = some r := by first | (rw [hji44] at H; exact H) | (simp only [hji44] at H ⊢; exact H)
                    have hji44w : (IntKind.i64.wrap ((l0.length : Int) - 1)) = ji44 := (i64_w _).trans hji44
                    by_cases c45 : 0 ≤ (ji44)
                    · rw [if_pos c45] at H
                      have c45b0 : decide (0 ≤ (ji44)) = true := decide_eq_true c45
                      clear c45
                      by_cases c46 : (ji44) < (l0.length : Int)
                      · rw [if_pos c46] at H
                        have c46b0 : decide ((ji44) < (l0.length : Int)) = true := decide_eq_true c46
                        clear c46
                        by_cases c47 : 0 < (l1.length : Int)
                        · rw [if_pos c47] at H
                          have c47b0 : decide (0 < (l1.length : Int)) = true := decide_eq_true c47
                          have c47b1 : decide (0 < l1.length) = true := decide_eq_true (by omega)
                          clear c47
                          have H' := Aside0.mk H
                          clear H
                          have p226 : 0 ≤ ((ji44) : Int) := of_decide_eq_true (by first | (with_reducible assumption) | assumption)
                          have q226 : (ji44) < (l0.length : Int) := of_decide_eq_true (by first | (with_reducible assumption) | assumption)
                          obtain ⟨ad226, e226, hx226_0, hx226_1, hx226_2⟩ := at_T35 HR0.out (ji44) p226 q226
                          cases e226
                          replace hx226_0 := (HB.out.cell (World.block_lt_of_cell? w _ hx226_0)).trans hx226_0
                          replace hx226_1 := (HB.out.cell (World.block_lt_of_cell? w _ hx226_1)).trans hx226_1
                          replace hx226_2 := (HB.out.cell (World.block_lt_of_cell? w _ hx226_2)).trans hx226_2
                          replace p226 := eq_true p226
                          replace q226 := eq_true q226
                          have p227 : 0 ≤ (0 : Int) := (by omega)
                          have q227 : 0 < (l1.length : Int) := of_decide_eq_true (by first | (with_reducible assumption) | assumption)
                          obtain ⟨ad227, e227, hx227_0, hx227_1, hx227_2⟩ := at_T35 HR1.out 0 p227 q227
                          cases e227
                          have qi227 : (0 < l1.length) = True := eq_true (by omega)
                          (try rw [show ((0 : Int)).toNat = 0 from rfl] at hx227_0)
                          (try rw [show 0 * 3 = 0 from rfl] at hx227_0)
                          (try rw [Addr.add_zero'] at hx227_0)
                          (try rw [show ((0 : Int)).toNat = 0 from rfl] at hx227_1)
                          (try rw [show 0 * 3 = 0 from rfl] at hx227_1)
                          (try rw [Addr.add_zero'] at hx227_1)
                          (try rw [show ((0 : Int)).toNat = 0 from rfl] at hx227_2)
                          (try rw [show 0 * 3 = 0 from rfl] at hx227_2)
                          (try rw [Addr.add_zero'] at hx227_2)
                          replace hx227_0 := (HB.out.cell (World.block_lt_of_cell? w _ hx227_0)).trans hx227_0
                          replace hx227_1 := (HB.out.cell (World.block_lt_of_cell? w _ hx227_1)).trans hx227_1
                          replace hx227_2 := (HB.out.cell (World.block_lt_of_cell? w _ hx227_2)).trans hx227_2
                          replace p227 := eq_true p227
                          replace q227 := eq_true q227
                          go_wp2
                          repeat (go_quiet (fail); try go_wp2)
                          go_meet
                          case rel => exact ⟨_, (decide (((rd_T35 l0 (ji44)).f0) < ((rd_T35 l1 0).f0))), (by first | rfl | (simp; done) | (simp only [← hji44] <;> (first | rfl | simp)) | (simp [*]; done)), H', ⟨by have := HJ10.out; first | omega | exact Nat.le_refl _⟩, ⟨by repeat (first | (with_reducible first | exact HB.out | apply below_alloc | apply pw_below_drewN | apply below_drew1) | exact HB.out)⟩⟩
                        · rw [if_neg c47] at H
                          exact absurd H (by simp)
                      · rw [if_neg c46] at H
                        exact absurd H (by simp)
                    · rw [if_neg c45] at H
                      exact absurd H (by simp)
              case rest =>
                clear HC41
                try clear c1
                try clear c2
                try clear p2
                try clear q2
                try clear hx2
                try clear qi2
                try clear c4
                try clear c5
                try clear c6
                try clear p6
                try clear c7
                try clear p22
                try clear q22
                try clear hx22
                try clear qi22
                try clear c24
                try clear c24b0
                try clear c24b1
                try clear c26
                try clear c26b0
                try clear c40
                try clear c42
                try clear c42b0
                try clear c42b1
                try clear c42b2
                try clear c43
                try clear c43b0
                try clear c43b1
                try clear c43b2
                try clear c45
                try clear c45b0
                try clear c46
                try clear c46b0
                try clear c47
                try clear c47b0
                try clear c47b1
                try clear hx226_0
                try clear hx226_1
                try clear hx226_2
                try clear hx227_0
                try clear hx227_1
                try clear hx227_2
                try clear p2
                try clear p226
                try clear p227
                try clear p6
                try clear q226
                try clear q227
                obtain ⟨kq, x12_40, rfl, HA, HJ40, HB⟩ := hcut
                cases kq with
                | zero => exact absurd HA.out (by simp [inclinelaw03_KeysPieces.j1])
                | succ kj40 =>
                  have H := HA.out
                  clear HA
                  simp only [inclinelaw03_KeysPieces.j1] at H
                  have HC48 := Aside0.mk H
                  clear H
                  go_upto_region 11 with (fail)
                  repeat (go_quiet (fail); go_upto_region 11 with (fail))
                  go_cut [91] (fun v91 wc => ∃ (kq : Nat) (x91_47 : Bool), v91 = .bool x91_47 ∧ Aside0 (inclinelaw03_KeysPieces.j2 kq l0 a2 true t218 x91_47 = some r) ∧ Aside0 (kq ≤ kj40) ∧ Aside0 (Below w.heap.size w wc))
                  case first =>
                    have H := HC48.out
                    clear HC48
                    by_cases c49 : t218 = 0
                    · rw [if_pos c49] at H
                      have c49b0 : (t218 == 0) = true := beq_iff_eq.mpr c49
                      have c49b1 : (t218 != 0) = false := bne_eq_false_iff_eq.mpr c49
                      clear c49
                      (first | rw [c49b0] | (simp only [i64_w, i32_w]; rw [c49b0]) | skip)
                      by_cases c50 : t219 = 0
                      · rw [if_pos c50] at H
                        have c50b0 : (t219 == 0) = true := beq_iff_eq.mpr c50
                        have c50b1 : (t219 != 0) = false := bne_eq_false_iff_eq.mpr c50
                        clear c50
                        by_cases c51 : ((t220 == 0) != x12_40) = true
                        · rw [if_pos c51] at H
                          have c51b0 : ((t220 == 0) != x12_40) = true := c51
                          (try (have c51b1 : decide ((t220 == 0) = x12_40) = false := by simpa using c51))
                          (try (have c51b2 : ((t220 == 0) == x12_40) = false := by simpa using c51))
                          (try (have c51b3 : ¬ ((t220 == 0) = x12_40) := by simpa using c51))
                          clear c51
                          have H' := Aside0.mk H
                          clear H
                          go_wp2
                          repeat (go_quiet (fail); try go_wp2)
                          go_meet
                          case rel => exact ⟨_, (true), (by first | rfl | (simp; done) | (simp [*]; done)), H', ⟨by have := HJ10.out; have := HJ40.out; first | omega | exact Nat.le_refl _⟩, ⟨by repeat (first | (with_reducible first | exact HB.out | apply below_alloc | apply pw_below_drewN | apply below_drew1) | exact HB.out)⟩⟩
                        · rw [if_neg c51] at H
                          have c51b0 : ((t220 == 0) != x12_40) = false := by simpa using c51
                          (try (have c51b1 : decide ((t220 == 0) = x12_40) = true := by simpa using c51))
                          (try (have c51b2 : ((t220 == 0) == x12_40) = true := by simpa using c51))
                          clear c51
                          replace H := Option.bind_eq_some_iff.mp H
                          obtain ⟨t228, A520, H⟩ := H
                          replace H : ((keys_Rising.f t228).bind fun t231 => (inclinelaw03_KeysPieces.j2 kj40 l0 a2 true t218 (!t231))) = some r := H
                          have A52 := Aside0.mk A520
                          clear A520
                          replace H := Option.bind_eq_some_iff.mp H
                          obtain ⟨t231, A530, H⟩ := H
                          replace H : (inclinelaw03_KeysPieces.j2 kj40 l0 a2 true t218 (!t231)) = some r := H
                          have A53 := Aside0.mk A530
                          clear A530
                          have H' := Aside0.mk H
                          clear H
                          go_wp2_with (first | (go_at_call 16; (with_reducible refine (keys_Of.calls kj40 _ _ l0 t228 _ ?side1 ?side2 A52.out).mono ?_); (case side1 => repeat (first | exact (Kd.C_below HR0.out HB.out) | (with_reducible refine Kd.C_alloc ?_ _) | (with_reducible refine Kd.C_drewN ?_ _) | (with_reducible refine Kd.C_drew ?_))); (case side2 => exact HC0.out); rintro e w54 ⟨v229, rfl, ho0, hb⟩; have n0_ := Aside0.mk (Kd.R_lower ho0 (below_size (by repeat (first | (with_reducible first | exact HB.out | apply below_alloc | apply pw_below_drewN | apply below_drew1) | exact HB.out)))); have n1_ := Aside0.mk (below_step (by repeat (first | (with_reducible first | exact HB.out | apply below_alloc | apply pw_below_drewN | apply below_drew1) | exact HB.out)) hb); clear HB; have HO230 := n0_; have HB := n1_; clear n0_ n1_; (try clear hb); (try clear hb2); (try clear hk); (try clear hi); (try clear ho0); obtain ⟨Ao55, co55, eo55⟩ := Kd.R_slice HO230.out; subst eo55) | (go_at_call 20; (with_reducible refine (keys_Rising.calls _ _ t228 t231 _ ?side1 ?side2 A53.out).mono ?_); (case side1 => repeat (first | exact (Kd.R_reads' HO230.out).2.2 | (with_reducible refine Kd.C_alloc ?_ _) | (with_reducible refine Kd.C_drewN ?_ _) | (with_reducible refine Kd.C_drew ?_))); (case side2 => exact (Kd.R_reads' HO230.out).2.1); rintro e w' ⟨rfl, ⟨nd, rfl⟩⟩; (try first | exact ⟨rfl, _, World.drewN_drewN _ _ _⟩ | exact ⟨rfl, _, Eq.trans (World.drewN_drewN _ _ _) (congrArg (World.drewN _) (Nat.add_assoc _ _ _))⟩)))
                          repeat (go_quiet (first | (go_at_call 16; (with_reducible refine (keys_Of.calls kj40 _ _ l0 t228 _ ?side1 ?side2 A52.out).mono ?_); (case side1 => repeat (first | exact (Kd.C_below HR0.out HB.out) | (with_reducible refine Kd.C_alloc ?_ _) | (with_reducible refine Kd.C_drewN ?_ _) | (with_reducible refine Kd.C_drew ?_))); (case side2 => exact HC0.out); rintro e w54 ⟨v229, rfl, ho0, hb⟩; have n0_ := Aside0.mk (Kd.R_lower ho0 (below_size (by repeat (first | (with_reducible first | exact HB.out | apply below_alloc | apply pw_below_drewN | apply below_drew1) | exact HB.out)))); have n1_ := Aside0.mk (below_step (by repeat (first | (with_reducible first | exact HB.out | apply below_alloc | apply pw_below_drewN | apply below_drew1) | exact HB.out)) hb); clear HB; have HO230 := n0_; have HB := n1_; clear n0_ n1_; (try clear hb); (try clear hb2); (try clear hk); (try clear hi); (try clear ho0); obtain ⟨Ao55, co55, eo55⟩ := Kd.R_slice HO230.out; subst eo55) | (go_at_call 20; (with_reducible refine (keys_Rising.calls _ _ t228 t231 _ ?side1 ?side2 A53.out).mono ?_); (case side1 => repeat (first | exact (Kd.R_reads' HO230.out).2.2 | (with_reducible refine Kd.C_alloc ?_ _) | (with_reducible refine Kd.C_drewN ?_ _) | (with_reducible refine Kd.C_drew ?_))); (case side2 => exact (Kd.R_reads' HO230.out).2.1); rintro e w' ⟨rfl, ⟨nd, rfl⟩⟩; (try first | exact ⟨rfl, _, World.drewN_drewN _ _ _⟩ | exact ⟨rfl, _, Eq.trans (World.drewN_drewN _ _ _) (congrArg (World.drewN _) (Nat.add_assoc _ _ _))⟩))); try go_wp2_with (first | (go_at_call 16; (with_reducible refine (keys_Of.calls kj40 _ _ l0 t228 _ ?side1 ?side2 A52.out).mono ?_); (case side1 => repeat (first | exact (Kd.C_below HR0.out HB.out) | (with_reducible refine Kd.C_alloc ?_ _) | (with_reducible refine Kd.C_drewN ?_ _) | (with_reducible refine Kd.C_drew ?_))); (case side2 => exact HC0.out); rintro e w54 ⟨v229, rfl, ho0, hb⟩; have n0_ := Aside0.mk (Kd.R_lower ho0 (below_size (by repeat (first | (with_reducible first | exact HB.out | apply below_alloc | apply pw_below_drewN | apply below_drew1) | exact HB.out)))); have n1_ := Aside0.mk (below_step (by repeat (first | (with_reducible first | exact HB.out | apply below_alloc | apply pw_below_drewN | apply below_drew1) | exact HB.out)) hb); clear HB; have HO230 := n0_; have HB := n1_; clear n0_ n1_; (try clear hb); (try clear hb2); (try clear hk); (try clear hi); (try clear ho0); obtain ⟨Ao55, co55, eo55⟩ := Kd.R_slice HO230.out; subst eo55) | (go_at_call 20; (with_reducible refine (keys_Rising.calls _ _ t228 t231 _ ?side1 ?side2 A53.out).mono ?_); (case side1 => repeat (first | exact (Kd.R_reads' HO230.out).2.2 | (with_reducible refine Kd.C_alloc ?_ _) | (with_reducible refine Kd.C_drewN ?_ _) | (with_reducible refine Kd.C_drew ?_))); (case side2 => exact (Kd.R_reads' HO230.out).2.1); rintro e w' ⟨rfl, ⟨nd, rfl⟩⟩; (try first | exact ⟨rfl, _, World.drewN_drewN _ _ _⟩ | exact ⟨rfl, _, Eq.trans (World.drewN_drewN _ _ _) (congrArg (World.drewN _) (Nat.add_assoc _ _ _))⟩))))
                          go_meet
                          case rel => exact ⟨_, (!t231), (by first | rfl | (simp; done) | (simp [*]; done)), H', ⟨by have := HJ10.out; have := HJ40.out; first | omega | exact Nat.le_refl _⟩, ⟨by repeat (first | (with_reducible first | exact HB.out | apply below_alloc | apply pw_below_drewN | apply below_drew1) | exact HB.out)⟩⟩
                      · rw [if_neg c50] at H
                        have c50b0 : (t219 == 0) = false := beq_eq_false_iff_ne.mpr c50
                        have c50b1 : (t219 != 0) = true := bne_iff_ne.mpr c50
                        by_cases c56 : ((t220 == 0) != false) = true
                        · rw [if_pos c56] at H
                          have c56b0 : ((t220 == 0) != false) = true := c56
                          (try (have c56b1 : decide ((t220 == 0) = false) = false := by simpa using c56))
                          (try (have c56b2 : ((t220 == 0) == false) = false := by simpa using c56))
                          (try (have c56b3 : ¬ ((t220 == 0) = false) := by simpa using c56))
                          clear c56
                          have H' := Aside0.mk H
                          clear H
                          go_wp2
                          repeat (go_quiet (fail); try go_wp2)
                          go_meet
                          case rel => exact ⟨_, (true), (by first | rfl | (simp; done) | (simp [*]; done)), H', ⟨by have := HJ10.out; have := HJ40.out; first | omega | exact Nat.le_refl _⟩, ⟨by repeat (first | (with_reducible first | exact HB.out | apply below_alloc | apply pw_below_drewN | apply below_drew1) | exact HB.out)⟩⟩
                        · rw [if_neg c56] at H
                          have c56b0 : ((t220 == 0) != false) = false := by simpa using c56
                          (try (have c56b1 : decide ((t220 == 0) = false) = true := by simpa using c56))
                          (try (have c56b2 : ((t220 == 0) == false) = true := by simpa using c56))
                          clear c56
                          replace H := Option.bind_eq_some_iff.mp H
                          obtain ⟨t232, A570, H⟩ := H
                          replace H : ((keys_Rising.f t232).bind fun t235 => (inclinelaw03_KeysPieces.j2 kj40 l0 a2 true t218 (!t235))) = some r := H
                          have A57 := Aside0.mk A570
                          clear A570
                          replace H := Option.bind_eq_some_iff.mp H
                          obtain ⟨t235, A580, H⟩ := H
                          replace H : (inclinelaw03_KeysPieces.j2 kj40 l0 a2 true t218 (!t235)) = some r := H
                          have A58 := Aside0.mk A580
                          clear A580
                          have H' := Aside0.mk H
                          clear H
                          go_wp2_with (first | (go_at_call 16; (with_reducible refine (keys_Of.calls kj40 _ _ l0 t232 _ ?side1 ?side2 A57.out).mono ?_); (case side1 => repeat (first | exact (Kd.C_below HR0.out HB.out) | (with_reducible refine Kd.C_alloc ?_ _) | (with_reducible refine Kd.C_drewN ?_ _) | (with_reducible refine Kd.C_drew ?_))); (case side2 => exact HC0.out); rintro e w59 ⟨v233, rfl, ho0, hb⟩; have n0_ := Aside0.mk (Kd.R_lower ho0 (below_size (by repeat (first | (with_reducible first | exact HB.out | apply below_alloc | apply pw_below_drewN | apply below_drew1) | exact HB.out)))); have n1_ := Aside0.mk (below_step (by repeat (first | (with_reducible first | exact HB.out | apply below_alloc | apply pw_below_drewN | apply below_drew1) | exact HB.out)) hb); clear HB; have HO234 := n0_; have HB := n1_; clear n0_ n1_; (try clear hb); (try clear hb2); (try clear hk); (try clear hi); (try clear ho0); obtain ⟨Ao60, co60, eo60⟩ := Kd.R_slice HO234.out; subst eo60) | (go_at_call 20; (with_reducible refine (keys_Rising.calls _ _ t232 t235 _ ?side1 ?side2 A58.out).mono ?_); (case side1 => repeat (first | exact (Kd.R_reads' HO234.out).2.2 | (with_reducible refine Kd.C_alloc ?_ _) | (with_reducible refine Kd.C_drewN ?_ _) | (with_reducible refine Kd.C_drew ?_))); (case side2 => exact (Kd.R_reads' HO234.out).2.1); rintro e w' ⟨rfl, ⟨nd, rfl⟩⟩; (try first | exact ⟨rfl, _, World.drewN_drewN _ _ _⟩ | exact ⟨rfl, _, Eq.trans (World.drewN_drewN _ _ _) (congrArg (World.drewN _) (Nat.add_assoc _ _ _))⟩)))
                          repeat (go_quiet (first | (go_at_call 16; (with_reducible refine (keys_Of.calls kj40 _ _ l0 t232 _ ?side1 ?side2 A57.out).mono ?_); (case side1 => repeat (first | exact (Kd.C_below HR0.out HB.out) | (with_reducible refine Kd.C_alloc ?_ _) | (with_reducible refine Kd.C_drewN ?_ _) | (with_reducible refine Kd.C_drew ?_))); (case side2 => exact HC0.out); rintro e w59 ⟨v233, rfl, ho0, hb⟩; have n0_ := Aside0.mk (Kd.R_lower ho0 (below_size (by repeat (first | (with_reducible first | exact HB.out | apply below_alloc | apply pw_below_drewN | apply below_drew1) | exact HB.out)))); have n1_ := Aside0.mk (below_step (by repeat (first | (with_reducible first | exact HB.out | apply below_alloc | apply pw_below_drewN | apply below_drew1) | exact HB.out)) hb); clear HB; have HO234 := n0_; have HB := n1_; clear n0_ n1_; (try clear hb); (try clear hb2); (try clear hk); (try clear hi); (try clear ho0); obtain ⟨Ao60, co60, eo60⟩ := Kd.R_slice HO234.out; subst eo60) | (go_at_call 20; (with_reducible refine (keys_Rising.calls _ _ t232 t235 _ ?side1 ?side2 A58.out).mono ?_); (case side1 => repeat (first | exact (Kd.R_reads' HO234.out).2.2 | (with_reducible refine Kd.C_alloc ?_ _) | (with_reducible refine Kd.C_drewN ?_ _) | (with_reducible refine Kd.C_drew ?_))); (case side2 => exact (Kd.R_reads' HO234.out).2.1); rintro e w' ⟨rfl, ⟨nd, rfl⟩⟩; (try first | exact ⟨rfl, _, World.drewN_drewN _ _ _⟩ | exact ⟨rfl, _, Eq.trans (World.drewN_drewN _ _ _) (congrArg (World.drewN _) (Nat.add_assoc _ _ _))⟩))); try go_wp2_with (first | (go_at_call 16; (with_reducible refine (keys_Of.calls kj40 _ _ l0 t232 _ ?side1 ?side2 A57.out).mono ?_); (case side1 => repeat (first | exact (Kd.C_below HR0.out HB.out) | (with_reducible refine Kd.C_alloc ?_ _) | (with_reducible refine Kd.C_drewN ?_ _) | (with_reducible refine Kd.C_drew ?_))); (case side2 => exact HC0.out); rintro e w59 ⟨v233, rfl, ho0, hb⟩; have n0_ := Aside0.mk (Kd.R_lower ho0 (below_size (by repeat (first | (with_reducible first | exact HB.out | apply below_alloc | apply pw_below_drewN | apply below_drew1) | exact HB.out)))); have n1_ := Aside0.mk (below_step (by repeat (first | (with_reducible first | exact HB.out | apply below_alloc | apply pw_below_drewN | apply below_drew1) | exact HB.out)) hb); clear HB; have HO234 := n0_; have HB := n1_; clear n0_ n1_; (try clear hb); (try clear hb2); (try clear hk); (try clear hi); (try clear ho0); obtain ⟨Ao60, co60, eo60⟩ := Kd.R_slice HO234.out; subst eo60) | (go_at_call 20; (with_reducible refine (keys_Rising.calls _ _ t232 t235 _ ?side1 ?side2 A58.out).mono ?_); (case side1 => repeat (first | exact (Kd.R_reads' HO234.out).2.2 | (with_reducible refine Kd.C_alloc ?_ _) | (with_reducible refine Kd.C_drewN ?_ _) | (with_reducible refine Kd.C_drew ?_))); (case side2 => exact (Kd.R_reads' HO234.out).2.1); rintro e w' ⟨rfl, ⟨nd, rfl⟩⟩; (try first | exact ⟨rfl, _, World.drewN_drewN _ _ _⟩ | exact ⟨rfl, _, Eq.trans (World.drewN_drewN _ _ _) (congrArg (World.drewN _) (Nat.add_assoc _ _ _))⟩))))
                          go_meet
                          case rel => exact ⟨_, (!t235), (by first | rfl | (simp; done) | (simp [*]; done)), H', ⟨by have := HJ10.out; have := HJ40.out; first | omega | exact Nat.le_refl _⟩, ⟨by repeat (first | (with_reducible first | exact HB.out | apply below_alloc | apply pw_below_drewN | apply below_drew1) | exact HB.out)⟩⟩
                    · rw [if_neg c49] at H
                      have c49b0 : (t218 == 0) = false := beq_eq_false_iff_ne.mpr c49
                      have c49b1 : (t218 != 0) = true := bne_iff_ne.mpr c49
                      (first | rw [c49b0] | (simp only [i64_w, i32_w]; rw [c49b0]) | skip)
                      by_cases c61 : ((t220 == 0) != false) = true
                      · rw [if_pos c61] at H
                        have c61b0 : ((t220 == 0) != false) = true := c61
                        (try (have c61b1 : decide ((t220 == 0) = false) = false := by simpa using c61))
                        (try (have c61b2 : ((t220 == 0) == false) = false := by simpa using c61))
                        (try (have c61b3 : ¬ ((t220 == 0) = false) := by simpa using c61))
                        clear c61
                        have H' := Aside0.mk H
                        clear H
                        go_wp2
                        repeat (go_quiet (fail); try go_wp2)
                        go_meet
                        case rel => exact ⟨_, (true), (by first | rfl | (simp; done) | (simp [*]; done)), H', ⟨by have := HJ10.out; have := HJ40.out; first | omega | exact Nat.le_refl _⟩, ⟨by repeat (first | (with_reducible first | exact HB.out | apply below_alloc | apply pw_below_drewN | apply below_drew1) | exact HB.out)⟩⟩
                      · rw [if_neg c61] at H
                        have c61b0 : ((t220 == 0) != false) = false := by simpa using c61
                        (try (have c61b1 : decide ((t220 == 0) = false) = true := by simpa using c61))
                        (try (have c61b2 : ((t220 == 0) == false) = true := by simpa using c61))
                        clear c61
                        have H' := Aside0.mk H
                        clear H
                        go_wp2
                        repeat (go_quiet (fail); try go_wp2)
                        go_meet
                        case rel => exact ⟨_, (false), (by first | rfl | (simp; done) | (simp [*]; done)), H', ⟨by have := HJ10.out; have := HJ40.out; first | omega | exact Nat.le_refl _⟩, ⟨by repeat (first | (with_reducible first | exact HB.out | apply below_alloc | apply pw_below_drewN | apply below_drew1) | exact HB.out)⟩⟩
                  case rest =>
                    clear HC48
                    try clear c1
                    try clear c2
                    try clear p2
                    try clear q2
                    try clear hx2
                    try clear qi2
                    try clear c4
                    try clear c5
                    try clear c6
                    try clear p6
                    try clear c7
                    try clear p22
                    try clear q22
                    try clear hx22
                    try clear qi22
                    try clear c24
                    try clear c24b0
                    try clear c24b1
                    try clear c26
                    try clear c26b0
                    try clear c40
                    try clear c42
                    try clear c42b0
                    try clear c42b1
                    try clear c42b2
                    try clear c43
                    try clear c43b0
                    try clear c43b1
                    try clear c43b2
                    try clear c45
                    try clear c45b0
                    try clear c46
                    try clear c46b0
                    try clear c47
                    try clear c47b0
                    try clear c47b1
                    try clear c49
                    try clear c49b0
                    try clear c49b1
                    try clear c50
                    try clear c50b0
                    try clear c50b1
                    try clear c51
                    try clear c51b0
                    try clear c51b1
                    try clear c51b2
                    try clear c56
                    try clear c56b0
                    try clear c56b1
                    try clear c56b2
                    try clear c61
                    try clear c61b0
                    try clear c61b1
                    try clear c61b2
                    try clear hx226_0
                    try clear hx226_1
                    try clear hx226_2
                    try clear hx227_0
                    try clear hx227_1
                    try clear hx227_2
                    try clear p2
                    try clear p22
                    try clear p226
                    try clear p227
                    try clear p6
                    try clear q2
                    try clear q22
                    try clear q226
                    try clear q227
                    obtain ⟨kq, x91_47, rfl, HA, HJ47, HB⟩ := hcut
                    cases kq with
                    | zero => exact absurd HA.out (by simp [inclinelaw03_KeysPieces.j2])
                    | succ kj47 =>
                      have H := HA.out
                      clear HA
                      simp only [inclinelaw03_KeysPieces.j2] at H
                      by_cases c62 : x91_47 = true
                      · subst c62
                        have H1 : (none) = some r := by rw [if_pos rfl] at H; exact H
                        clear H
                        have H := H1
                        clear H1
                        exact absurd H (by simp)
                      · replace c62 := Bool.eq_false_iff.mpr c62
                        subst c62
                        have H1 : (if a2 < 0 then (if (wrap64 ((l0.length : Int) + 1)) = 0 then (none) else (if true = true then (if t218 = 0 then (if 0 ≤ (Int.tmod (wrap64 (-(wrap64 (a2 + 1)))) (wrap64 ((l0.length : Int) + 1))) then (if (Int.tmod (wrap64 (-(wrap64 (a2 + 1)))) (wrap64 ((l0.length : Int) + 1))) ≤ (l0.length : Int) then ((keys_Check.f (l0.take ((Int.tmod (wrap64 (-(wrap64 (a2 + 1)))) (wrap64 ((l0.length : Int) + 1))) : Int).toNat)).bind fun t240 => (if t240 = 0 then ((keys_Check.f (l0.drop ((Int.tmod (wrap64 (-(wrap64 (a2 + 1)))) (wrap64 ((l0.length : Int) + 1))) : Int).toNat)).bind fun t245 => (some (t245 == 0))) else (none))) else (none)) else (none)) else (some true)) else (none))) else (if (wrap64 ((l0.length : Int) + 1)) = 0 then (none) else (if true = true then (if t218 = 0 then (if 0 ≤ (Int.tmod a2 (wrap64 ((l0.length : Int) + 1))) then (if (Int.tmod a2 (wrap64 ((l0.length : Int) + 1))) ≤ (l0.length : Int) then ((keys_Check.f (l0.take ((Int.tmod a2 (wrap64 ((l0.length : Int) + 1))) : Int).toNat)).bind fun t250 => (if t250 = 0 then ((keys_Check.f (l0.drop ((Int.tmod a2 (wrap64 ((l0.length : Int) + 1))) : Int).toNat)).bind fun t255 => (some (t255 == 0))) else (none))) else (none)) else (none)) else (some true)) else (none)))) = some r := by rw [if_neg (show ¬ (false = true) by decide)] at H; exact H
                        clear H
                        have H := H1
                        clear H1
                        by_cases c63 : a2 < 0
                        · rw [if_pos c63] at H
                          have c63b0 : decide (a2 < 0) = true := decide_eq_true c63
                          clear c63
                          by_cases c64 : (wrap64 ((l0.length : Int) + 1)) = 0
                          · rw [if_pos c64] at H
                            exact absurd H (by simp)
                          · rw [if_neg c64] at H
                            have c64b0 : ((wrap64 ((l0.length : Int) + 1)) == 0) = false := beq_eq_false_iff_ne.mpr c64
                            have c64b1 : ((wrap64 ((l0.length : Int) + 1)) != 0) = true := bne_iff_ne.mpr c64
                            rw [if_pos rfl] at H
                            by_cases c65 : t218 = 0
                            · rw [if_pos c65] at H
                              have c65b0 : (t218 == 0) = true := beq_iff_eq.mpr c65
                              have c65b1 : (t218 != 0) = false := bne_eq_false_iff_eq.mpr c65
                              clear c65
                              obtain ⟨ji66, hji66⟩ : ∃ j_ : Int, (Int.tmod (wrap64 (-(wrap64 (a2 + 1)))) (wrap64 ((l0.length : Int) + 1))) = j_ := ⟨_, rfl⟩
                              replace H : (if 0 ≤ (ji66) then (if (ji66) ≤ (l0.length : Int) then ((keys_Check.f (l0.take ((ji66) : Int).toNat)).bind fun t240 => (if t240 = 0 then ((keys_Check.f (l0.drop ((ji66) : Int).toNat)).bind fun t245 => (some (t245 == 0))) else (none))) else (none)) else (none)) = some r := by first | (rw [hji66] at H; exact H) | (simp only [hji66] at H ⊢; exact H)
                              by_cases c67 : 0 ≤ (ji66)
                              · rw [if_pos c67] at H
                                have c67b0 := eq_true c67
                                have c67b1 : decide (0 ≤ (ji66)) = true := decide_eq_true c67
                                clear c67
                                by_cases c68 : (ji66) ≤ (l0.length : Int)
                                · rw [if_pos c68] at H
                                  have c68b0 := eq_true c68
                                  have c68b1 : decide ((ji66) ≤ (l0.length : Int)) = true := decide_eq_true c68
                                  clear c68
                                  obtain ⟨y236, hy236⟩ : ∃ y_ : List (S35), y_ = (l0.take ((ji66) : Int).toNat) := ⟨_, rfl⟩
                                  replace H : ((keys_Check.f y236).bind fun t240 => (if t240 = 0 then ((keys_Check.f (l0.drop ((ji66) : Int).toNat)).bind fun t245 => (some (t245 == 0))) else (none))) = some r := by first | (rw [hy236]; with_reducible exact H) | (have H2_ := (Option.bind_some _ _).symm.trans H; rw [hy236]; with_reducible exact H2_) | (have H2_ := (Option.bind_some _ _).symm.trans H; with_reducible exact H2_) | with_reducible exact H | (rw [hy236]; exact H) | exact H
                                  have Ny236 := Aside0.mk hy236
                                  clear hy236
                                  replace H := Option.bind_eq_some_iff.mp H
                                  obtain ⟨t240, A690, H⟩ := H
                                  replace H : (if t240 = 0 then ((keys_Check.f (l0.drop ((ji66) : Int).toNat)).bind fun t245 => (some (t245 == 0))) else (none)) = some r := H
                                  have A69 := Aside0.mk A690
                                  clear A690
                                  by_cases c70 : t240 = 0
                                  · rw [if_pos c70] at H
                                    have c70b0 : (t240 == 0) = true := beq_iff_eq.mpr c70
                                    have c70b1 : (t240 != 0) = false := bne_eq_false_iff_eq.mpr c70
                                    clear c70
                                    have c71b0 := eq_true (of_decide_eq_true (by first | (with_reducible assumption) | assumption) : 0 ≤ (ji66))
                                    have c72b0 := eq_true (of_decide_eq_true (by first | (with_reducible assumption) | assumption) : (ji66) ≤ (l0.length : Int))
                                    obtain ⟨y241, hy241⟩ : ∃ y_ : List (S35), y_ = (l0.drop ((ji66) : Int).toNat) := ⟨_, rfl⟩
                                    replace H : ((keys_Check.f y241).bind fun t245 => (some (t245 == 0))) = some r := by first | (rw [hy241]; with_reducible exact H) | (have H2_ := (Option.bind_some _ _).symm.trans H; rw [hy241]; with_reducible exact H2_) | (have H2_ := (Option.bind_some _ _).symm.trans H; with_reducible exact H2_) | with_reducible exact H | (rw [hy241]; exact H) | exact H
                                    have Ny241 := Aside0.mk hy241
                                    clear hy241
                                    replace H := Option.bind_eq_some_iff.mp H
                                    obtain ⟨t245, A730, H⟩ := H
                                    replace H : (some (t245 == 0)) = some r := H
                                    have A73 := Aside0.mk A730
                                    clear A730
                                    obtain rfl := Option.some.inj H
                                    have q74 : ((ji66) : Int) ≤ ((l0.length : Int) : Int) := of_decide_eq_true (by first | (with_reducible assumption) | assumption)
                                    obtain ⟨i074, hi074, _, hsz74, _⟩ := info_parts info35
                                    have hroom74 : l0.length ≤ c0 := HC0.out
                                    have hC74 : Kd.C k35 _ A0 l0.length l0 := HR0.out
                                    have hcut74 := cut_to (P := Try.prog) 22 35 .i64 Try.underlying22 hi074 A0 l0.length c0 (ji66) (of_decide_eq_true (by first | (with_reducible assumption) | assumption)) q74 hroom74
                                    have hr74 := Kd.C_take (m := ((ji66) : Int).toNat) hC74 (by omega)
                                    have hy74 : y236.length = ((ji66) : Int).toNat := (by rw [Ny236.out, List.length_take]; omega)
                                    rw [← Ny236.out] at hr74
                                    rw [← hy74] at hcut74
                                    have HR239 := Aside0.mk hr74
                                    have HC239 := Aside0.mk (show y236.length ≤ c0 from by omega)
                                    clear hr74 hC74 hroom74 hi074 hsz74
                                    have KY74 := Aside0.mk hy74
                                    clear hy74
                                    replace q74 := eq_true q74
                                    go_wp2_with (first | (go_at_call 10; (with_reducible refine (keys_Check.calls _ _ y236 t240 _ ?side1 ?side2 A69.out).mono ?_); (case side1 => repeat (first | exact (Kd.C_below HR239.out HB.out) | (with_reducible refine Kd.C_alloc ?_ _) | (with_reducible refine Kd.C_drewN ?_ _) | (with_reducible refine Kd.C_drew ?_))); (case side2 => exact HC239.out); rintro e w75 ⟨rfl, hb⟩; have n0_ := Aside0.mk (below_step (by repeat (first | (with_reducible first | exact HB.out | apply below_alloc | apply pw_below_drewN | apply below_drew1) | exact HB.out)) hb); clear HB; have HB := n0_; clear n0_; (try clear hb); (try clear hb2); (try clear hk); (try clear hi); have q76 : ((ji66) : Int) ≤ ((l0.length : Int) : Int) := of_decide_eq_true (by first | (with_reducible assumption) | assumption); obtain ⟨i076, hi076, _, hsz76, _⟩ := info_parts info35; have hroom76 : l0.length ≤ c0 := HC0.out; have hC76 : Kd.C k35 _ A0 l0.length l0 := HR0.out; have q076 : (0 : Int) ≤ ((ji66) : Int) := of_decide_eq_true (by first | (with_reducible assumption) | assumption); have hcut76 := cut_from (P := Try.prog) 22 35 .i64 Try.underlying22 hi076 3 hsz76 A0 l0.length c0 (ji66) q076 q76; have hr76 := Kd.C_drop (m := ((ji66) : Int).toNat) (c := c0) hC76 (by omega) hroom76; obtain ⟨A76, hA76⟩ : ∃ A1, A1 = (if c0 = ((ji66) : Int).toNat then A0 else (A0 : Option Addr).map (·.add (((ji66) : Int).toNat * 3))) := ⟨_, rfl⟩; obtain ⟨c76, hc76⟩ : ∃ c1, c1 = c0 - ((ji66) : Int).toNat := ⟨_, rfl⟩; have hy76 : y241.length = l0.length - ((ji66) : Int).toNat := (by rw [Ny241.out, List.length_drop] <;> omega); rw [show (l0).drop ((ji66) : Int).toNat = y241 from Ny241.out.symm] at hr76; replace hr76 : Kd.C k35 _ A76 y241.length y241 := (by rw [hA76]; exact hr76); rw [← hy76, ← hA76, ← hc76] at hcut76; have HR244 := Aside0.mk hr76; have HC244 := Aside0.mk (show y241.length ≤ c76 from by rw [hy76, hc76]; exact Nat.sub_le_sub_right hroom76 _); clear hr76 hC76 hroom76 hi076 hsz76 hc76; have KY76 := Aside0.mk hy76; have KA76 := Aside0.mk hA76; clear hy76 hA76; replace q76 := eq_true q76) | (go_at_call 10; (with_reducible refine (keys_Check.calls _ _ y241 t245 _ ?side1 ?side2 A73.out).mono ?_); (case side1 => repeat (first | exact (Kd.C_below HR244.out HB.out) | (with_reducible refine Kd.C_alloc ?_ _) | (with_reducible refine Kd.C_drewN ?_ _) | (with_reducible refine Kd.C_drew ?_))); (case side2 => exact HC244.out); rintro e w77 ⟨rfl, hb⟩; have n0_ := Aside0.mk (below_step (by repeat (first | (with_reducible first | exact HB.out | apply below_alloc | apply pw_below_drewN | apply below_drew1) | exact HB.out)) hb); clear HB; have HB := n0_; clear n0_; (try clear hb); (try clear hb2); (try clear hk); (try clear hi)))
                                    repeat (go_quiet (first | (go_at_call 10; (with_reducible refine (keys_Check.calls _ _ y236 t240 _ ?side1 ?side2 A69.out).mono ?_); (case side1 => repeat (first | exact (Kd.C_below HR239.out HB.out) | (with_reducible refine Kd.C_alloc ?_ _) | (with_reducible refine Kd.C_drewN ?_ _) | (with_reducible refine Kd.C_drew ?_))); (case side2 => exact HC239.out); rintro e w75 ⟨rfl, hb⟩; have n0_ := Aside0.mk (below_step (by repeat (first | (with_reducible first | exact HB.out | apply below_alloc | apply pw_below_drewN | apply below_drew1) | exact HB.out)) hb); clear HB; have HB := n0_; clear n0_; (try clear hb); (try clear hb2); (try clear hk); (try clear hi); have q76 : ((ji66) : Int) ≤ ((l0.length : Int) : Int) := of_decide_eq_true (by first | (with_reducible assumption) | assumption); obtain ⟨i076, hi076, _, hsz76, _⟩ := info_parts info35; have hroom76 : l0.length ≤ c0 := HC0.out; have hC76 : Kd.C k35 _ A0 l0.length l0 := HR0.out; have q076 : (0 : Int) ≤ ((ji66) : Int) := of_decide_eq_true (by first | (with_reducible assumption) | assumption); have hcut76 := cut_from (P := Try.prog) 22 35 .i64 Try.underlying22 hi076 3 hsz76 A0 l0.length c0 (ji66) q076 q76; have hr76 := Kd.C_drop (m := ((ji66) : Int).toNat) (c := c0) hC76 (by omega) hroom76; obtain ⟨A76, hA76⟩ : ∃ A1, A1 = (if c0 = ((ji66) : Int).toNat then A0 else (A0 : Option Addr).map (·.add (((ji66) : Int).toNat * 3))) := ⟨_, rfl⟩; obtain ⟨c76, hc76⟩ : ∃ c1, c1 = c0 - ((ji66) : Int).toNat := ⟨_, rfl⟩; have hy76 : y241.length = l0.length - ((ji66) : Int).toNat := (by rw [Ny241.out, List.length_drop] <;> omega); rw [show (l0).drop ((ji66) : Int).toNat = y241 from Ny241.out.symm] at hr76; replace hr76 : Kd.C k35 _ A76 y241.length y241 := (by rw [hA76]; exact hr76); rw [← hy76, ← hA76, ← hc76] at hcut76; have HR244 := Aside0.mk hr76; have HC244 := Aside0.mk (show y241.length ≤ c76 from by rw [hy76, hc76]; exact Nat.sub_le_sub_right hroom76 _); clear hr76 hC76 hroom76 hi076 hsz76 hc76; have KY76 := Aside0.mk hy76; have KA76 := Aside0.mk hA76; clear hy76 hA76; replace q76 := eq_true q76) | (go_at_call 10; (with_reducible refine (keys_Check.calls _ _ y241 t245 _ ?side1 ?side2 A73.out).mono ?_); (case side1 => repeat (first | exact (Kd.C_below HR244.out HB.out) | (with_reducible refine Kd.C_alloc ?_ _) | (with_reducible refine Kd.C_drewN ?_ _) | (with_reducible refine Kd.C_drew ?_))); (case side2 => exact HC244.out); rintro e w77 ⟨rfl, hb⟩; have n0_ := Aside0.mk (below_step (by repeat (first | (with_reducible first | exact HB.out | apply below_alloc | apply pw_below_drewN | apply below_drew1) | exact HB.out)) hb); clear HB; have HB := n0_; clear n0_; (try clear hb); (try clear hb2); (try clear hk); (try clear hi))); try go_wp2_with (first | (go_at_call 10; (with_reducible refine (keys_Check.calls _ _ y236 t240 _ ?side1 ?side2 A69.out).mono ?_); (case side1 => repeat (first | exact (Kd.C_below HR239.out HB.out) | (with_reducible refine Kd.C_alloc ?_ _) | (with_reducible refine Kd.C_drewN ?_ _) | (with_reducible refine Kd.C_drew ?_))); (case side2 => exact HC239.out); rintro e w75 ⟨rfl, hb⟩; have n0_ := Aside0.mk (below_step (by repeat (first | (with_reducible first | exact HB.out | apply below_alloc | apply pw_below_drewN | apply below_drew1) | exact HB.out)) hb); clear HB; have HB := n0_; clear n0_; (try clear hb); (try clear hb2); (try clear hk); (try clear hi); have q76 : ((ji66) : Int) ≤ ((l0.length : Int) : Int) := of_decide_eq_true (by first | (with_reducible assumption) | assumption); obtain ⟨i076, hi076, _, hsz76, _⟩ := info_parts info35; have hroom76 : l0.length ≤ c0 := HC0.out; have hC76 : Kd.C k35 _ A0 l0.length l0 := HR0.out; have q076 : (0 : Int) ≤ ((ji66) : Int) := of_decide_eq_true (by first | (with_reducible assumption) | assumption); have hcut76 := cut_from (P := Try.prog) 22 35 .i64 Try.underlying22 hi076 3 hsz76 A0 l0.length c0 (ji66) q076 q76; have hr76 := Kd.C_drop (m := ((ji66) : Int).toNat) (c := c0) hC76 (by omega) hroom76; obtain ⟨A76, hA76⟩ : ∃ A1, A1 = (if c0 = ((ji66) : Int).toNat then A0 else (A0 : Option Addr).map (·.add (((ji66) : Int).toNat * 3))) := ⟨_, rfl⟩; obtain ⟨c76, hc76⟩ : ∃ c1, c1 = c0 - ((ji66) : Int).toNat := ⟨_, rfl⟩; have hy76 : y241.length = l0.length - ((ji66) : Int).toNat := (by rw [Ny241.out, List.length_drop] <;> omega); rw [show (l0).drop ((ji66) : Int).toNat = y241 from Ny241.out.symm] at hr76; replace hr76 : Kd.C k35 _ A76 y241.length y241 := (by rw [hA76]; exact hr76); rw [← hy76, ← hA76, ← hc76] at hcut76; have HR244 := Aside0.mk hr76; have HC244 := Aside0.mk (show y241.length ≤ c76 from by rw [hy76, hc76]; exact Nat.sub_le_sub_right hroom76 _); clear hr76 hC76 hroom76 hi076 hsz76 hc76; have KY76 := Aside0.mk hy76; have KA76 := Aside0.mk hA76; clear hy76 hA76; replace q76 := eq_true q76) | (go_at_call 10; (with_reducible refine (keys_Check.calls _ _ y241 t245 _ ?side1 ?side2 A73.out).mono ?_); (case side1 => repeat (first | exact (Kd.C_below HR244.out HB.out) | (with_reducible refine Kd.C_alloc ?_ _) | (with_reducible refine Kd.C_drewN ?_ _) | (with_reducible refine Kd.C_drew ?_))); (case side2 => exact HC244.out); rintro e w77 ⟨rfl, hb⟩; have n0_ := Aside0.mk (below_step (by repeat (first | (with_reducible first | exact HB.out | apply below_alloc | apply pw_below_drewN | apply below_drew1) | exact HB.out)) hb); clear HB; have HB := n0_; clear n0_; (try clear hb); (try clear hb2); (try clear hk); (try clear hi))))
                                    go_ret
                                    exact ⟨by first | rfl | (simp [errW_none, errW_some] <;> rfl) | (simp only [← hji66]; first | rfl | (simp [errW_none, errW_some] <;> rfl)) | (simp [*, errW_none, errW_some] <;> rfl), by repeat (first | (with_reducible first | exact HB.out | apply below_alloc | apply pw_below_drewN | apply below_drew1) | exact HB.out)⟩
                                  · rw [if_neg c70] at H
                                    exact absurd H (by simp)
                                · rw [if_neg c68] at H
                                  exact absurd H (by simp)
                              · rw [if_neg c67] at H
                                exact absurd H (by simp)
                            · rw [if_neg c65] at H
                              have c65b0 : (t218 == 0) = false := beq_eq_false_iff_ne.mpr c65
                              have c65b1 : (t218 != 0) = true := bne_iff_ne.mpr c65
                              obtain rfl := Option.some.inj H
                              go_wp2
                              repeat (go_quiet (fail); try go_wp2)
                              go_ret
                              exact ⟨by first | rfl | (simp [errW_none, errW_some] <;> rfl) | (simp [*, errW_none, errW_some] <;> rfl), by repeat (first | (with_reducible first | exact HB.out | apply below_alloc | apply pw_below_drewN | apply below_drew1) | exact HB.out)⟩
                        · rw [if_neg c63] at H
                          have c63b0 : decide (a2 < 0) = false := decide_eq_false c63
                          clear c63
                          by_cases c78 : (wrap64 ((l0.length : Int) + 1)) = 0
                          · rw [if_pos c78] at H
                            exact absurd H (by simp)
                          · rw [if_neg c78] at H
                            have c78b0 : ((wrap64 ((l0.length : Int) + 1)) == 0) = false := beq_eq_false_iff_ne.mpr c78
                            have c78b1 : ((wrap64 ((l0.length : Int) + 1)) != 0) = true := bne_iff_ne.mpr c78
                            rw [if_pos rfl] at H
                            by_cases c79 : t218 = 0
                            · rw [if_pos c79] at H
                              have c79b0 : (t218 == 0) = true := beq_iff_eq.mpr c79
                              have c79b1 : (t218 != 0) = false := bne_eq_false_iff_eq.mpr c79
                              clear c79
                              obtain ⟨ji80, hji80⟩ : ∃ j_ : Int, (Int.tmod a2 (wrap64 ((l0.length : Int) + 1))) = j_ := ⟨_, rfl⟩
                              replace H : (if 0 ≤ (ji80) then (if (ji80) ≤ (l0.length : Int) then ((keys_Check.f (l0.take ((ji80) : Int).toNat)).bind fun t250 => (if t250 = 0 then ((keys_Check.f (l0.drop ((ji80) : Int).toNat)).bind fun t255 => (some (t255 == 0))) else (none))) else (none)) else (none)) = some r := by first | (rw [hji80] at H; exact H) | (simp only [hji80] at H ⊢; exact H)
                              by_cases c81 : 0 ≤ (ji80)
                              · rw [if_pos c81] at H
                                have c81b0 := eq_true c81
                                have c81b1 : decide (0 ≤ (ji80)) = true := decide_eq_true c81
                                clear c81
                                by_cases c82 : (ji80) ≤ (l0.length : Int)
                                · rw [if_pos c82] at H
                                  have c82b0 := eq_true c82
                                  have c82b1 : decide ((ji80) ≤ (l0.length : Int)) = true := decide_eq_true c82
                                  clear c82
                                  obtain ⟨y246, hy246⟩ : ∃ y_ : List (S35), y_ = (l0.take ((ji80) : Int).toNat) := ⟨_, rfl⟩
                                  replace H : ((keys_Check.f y246).bind fun t250 => (if t250 = 0 then ((keys_Check.f (l0.drop ((ji80) : Int).toNat)).bind fun t255 => (some (t255 == 0))) else (none))) = some r := by first | (rw [hy246]; with_reducible exact H) | (have H2_ := (Option.bind_some _ _).symm.trans H; rw [hy246]; with_reducible exact H2_) | (have H2_ := (Option.bind_some _ _).symm.trans H; with_reducible exact H2_) | with_reducible exact H | (rw [hy246]; exact H) | exact H
                                  have Ny246 := Aside0.mk hy246
                                  clear hy246
                                  replace H := Option.bind_eq_some_iff.mp H
                                  obtain ⟨t250, A830, H⟩ := H
                                  replace H : (if t250 = 0 then ((keys_Check.f (l0.drop ((ji80) : Int).toNat)).bind fun t255 => (some (t255 == 0))) else (none)) = some r := H
                                  have A83 := Aside0.mk A830
                                  clear A830
                                  by_cases c84 : t250 = 0
                                  · rw [if_pos c84] at H
                                    have c84b0 : (t250 == 0) = true := beq_iff_eq.mpr c84
                                    have c84b1 : (t250 != 0) = false := bne_eq_false_iff_eq.mpr c84
                                    clear c84
                                    have c85b0 := eq_true (of_decide_eq_true (by first | (with_reducible assumption) | assumption) : 0 ≤ (ji80))
                                    have c86b0 := eq_true (of_decide_eq_true (by first | (with_reducible assumption) | assumption) : (ji80) ≤ (l0.length : Int))
                                    obtain ⟨y251, hy251⟩ : ∃ y_ : List (S35), y_ = (l0.drop ((ji80) : Int).toNat) := ⟨_, rfl⟩
                                    replace H : ((keys_Check.f y251).bind fun t255 => (some (t255 == 0))) = some r := by first | (rw [hy251]; with_reducible exact H) | (have H2_ := (Option.bind_some _ _).symm.trans H; rw [hy251]; with_reducible exact H2_) | (have H2_ := (Option.bind_some _ _).symm.trans H; with_reducible exact H2_) | with_reducible exact H | (rw [hy251]; exact H) | exact H
                                    have Ny251 := Aside0.mk hy251
                                    clear hy251
                                    replace H := Option.bind_eq_some_iff.mp H
                                    obtain ⟨t255, A870, H⟩ := H
                                    replace H : (some (t255 == 0)) = some r := H
                                    have A87 := Aside0.mk A870
                                    clear A870
                                    obtain rfl := Option.some.inj H
                                    have q88 : ((ji80) : Int) ≤ ((l0.length : Int) : Int) := of_decide_eq_true (by first | (with_reducible assumption) | assumption)
                                    obtain ⟨i088, hi088, _, hsz88, _⟩ := info_parts info35
                                    have hroom88 : l0.length ≤ c0 := HC0.out
                                    have hC88 : Kd.C k35 _ A0 l0.length l0 := HR0.out
                                    have hcut88 := cut_to (P := Try.prog) 22 35 .i64 Try.underlying22 hi088 A0 l0.length c0 (ji80) (of_decide_eq_true (by first | (with_reducible assumption) | assumption)) q88 hroom88
                                    have hr88 := Kd.C_take (m := ((ji80) : Int).toNat) hC88 (by omega)
                                    have hy88 : y246.length = ((ji80) : Int).toNat := (by rw [Ny246.out, List.length_take]; omega)
                                    rw [← Ny246.out] at hr88
                                    rw [← hy88] at hcut88
                                    have HR249 := Aside0.mk hr88
                                    have HC249 := Aside0.mk (show y246.length ≤ c0 from by omega)
                                    clear hr88 hC88 hroom88 hi088 hsz88
                                    have KY88 := Aside0.mk hy88
                                    clear hy88
                                    replace q88 := eq_true q88
                                    go_wp2_with (first | (go_at_call 10; (with_reducible refine (keys_Check.calls _ _ y246 t250 _ ?side1 ?side2 A83.out).mono ?_); (case side1 => repeat (first | exact (Kd.C_below HR249.out HB.out) | (with_reducible refine Kd.C_alloc ?_ _) | (with_reducible refine Kd.C_drewN ?_ _) | (with_reducible refine Kd.C_drew ?_))); (case side2 => exact HC249.out); rintro e w89 ⟨rfl, hb⟩; have n0_ := Aside0.mk (below_step (by repeat (first | (with_reducible first | exact HB.out | apply below_alloc | apply pw_below_drewN | apply below_drew1) | exact HB.out)) hb); clear HB; have HB := n0_; clear n0_; (try clear hb); (try clear hb2); (try clear hk); (try clear hi); have q90 : ((ji80) : Int) ≤ ((l0.length : Int) : Int) := of_decide_eq_true (by first | (with_reducible assumption) | assumption); obtain ⟨i090, hi090, _, hsz90, _⟩ := info_parts info35; have hroom90 : l0.length ≤ c0 := HC0.out; have hC90 : Kd.C k35 _ A0 l0.length l0 := HR0.out; have q090 : (0 : Int) ≤ ((ji80) : Int) := of_decide_eq_true (by first | (with_reducible assumption) | assumption); have hcut90 := cut_from (P := Try.prog) 22 35 .i64 Try.underlying22 hi090 3 hsz90 A0 l0.length c0 (ji80) q090 q90; have hr90 := Kd.C_drop (m := ((ji80) : Int).toNat) (c := c0) hC90 (by omega) hroom90; obtain ⟨A90, hA90⟩ : ∃ A1, A1 = (if c0 = ((ji80) : Int).toNat then A0 else (A0 : Option Addr).map (·.add (((ji80) : Int).toNat * 3))) := ⟨_, rfl⟩; obtain ⟨c90, hc90⟩ : ∃ c1, c1 = c0 - ((ji80) : Int).toNat := ⟨_, rfl⟩; have hy90 : y251.length = l0.length - ((ji80) : Int).toNat := (by rw [Ny251.out, List.length_drop] <;> omega); rw [show (l0).drop ((ji80) : Int).toNat = y251 from Ny251.out.symm] at hr90; replace hr90 : Kd.C k35 _ A90 y251.length y251 := (by rw [hA90]; exact hr90); rw [← hy90, ← hA90, ← hc90] at hcut90; have HR254 := Aside0.mk hr90; have HC254 := Aside0.mk (show y251.length ≤ c90 from by rw [hy90, hc90]; exact Nat.sub_le_sub_right hroom90 _); clear hr90 hC90 hroom90 hi090 hsz90 hc90; have KY90 := Aside0.mk hy90; have KA90 := Aside0.mk hA90; clear hy90 hA90; replace q90 := eq_true q90) | (go_at_call 10; (with_reducible refine (keys_Check.calls _ _ y251 t255 _ ?side1 ?side2 A87.out).mono ?_); (case side1 => repeat (first | exact (Kd.C_below HR254.out HB.out) | (with_reducible refine Kd.C_alloc ?_ _) | (with_reducible refine Kd.C_drewN ?_ _) | (with_reducible refine Kd.C_drew ?_))); (case side2 => exact HC254.out); rintro e w91 ⟨rfl, hb⟩; have n0_ := Aside0.mk (below_step (by repeat (first | (with_reducible first | exact HB.out | apply below_alloc | apply pw_below_drewN | apply below_drew1) | exact HB.out)) hb); clear HB; have HB := n0_; clear n0_; (try clear hb); (try clear hb2); (try clear hk); (try clear hi)))
                                    repeat (go_quiet (first | (go_at_call 10; (with_reducible refine (keys_Check.calls _ _ y246 t250 _ ?side1 ?side2 A83.out).mono ?_); (case side1 => repeat (first | exact (Kd.C_below HR249.out HB.out) | (with_reducible refine Kd.C_alloc ?_ _) | (with_reducible refine Kd.C_drewN ?_ _) | (with_reducible refine Kd.C_drew ?_))); (case side2 => exact HC249.out); rintro e w89 ⟨rfl, hb⟩; have n0_ := Aside0.mk (below_step (by repeat (first | (with_reducible first | exact HB.out | apply below_alloc | apply pw_below_drewN | apply below_drew1) | exact HB.out)) hb); clear HB; have HB := n0_; clear n0_; (try clear hb); (try clear hb2); (try clear hk); (try clear hi); have q90 : ((ji80) : Int) ≤ ((l0.length : Int) : Int) := of_decide_eq_true (by first | (with_reducible assumption) | assumption); obtain ⟨i090, hi090, _, hsz90, _⟩ := info_parts info35; have hroom90 : l0.length ≤ c0 := HC0.out; have hC90 : Kd.C k35 _ A0 l0.length l0 := HR0.out; have q090 : (0 : Int) ≤ ((ji80) : Int) := of_decide_eq_true (by first | (with_reducible assumption) | assumption); have hcut90 := cut_from (P := Try.prog) 22 35 .i64 Try.underlying22 hi090 3 hsz90 A0 l0.length c0 (ji80) q090 q90; have hr90 := Kd.C_drop (m := ((ji80) : Int).toNat) (c := c0) hC90 (by omega) hroom90; obtain ⟨A90, hA90⟩ : ∃ A1, A1 = (if c0 = ((ji80) : Int).toNat then A0 else (A0 : Option Addr).map (·.add (((ji80) : Int).toNat * 3))) := ⟨_, rfl⟩; obtain ⟨c90, hc90⟩ : ∃ c1, c1 = c0 - ((ji80) : Int).toNat := ⟨_, rfl⟩; have hy90 : y251.length = l0.length - ((ji80) : Int).toNat := (by rw [Ny251.out, List.length_drop] <;> omega); rw [show (l0).drop ((ji80) : Int).toNat = y251 from Ny251.out.symm] at hr90; replace hr90 : Kd.C k35 _ A90 y251.length y251 := (by rw [hA90]; exact hr90); rw [← hy90, ← hA90, ← hc90] at hcut90; have HR254 := Aside0.mk hr90; have HC254 := Aside0.mk (show y251.length ≤ c90 from by rw [hy90, hc90]; exact Nat.sub_le_sub_right hroom90 _); clear hr90 hC90 hroom90 hi090 hsz90 hc90; have KY90 := Aside0.mk hy90; have KA90 := Aside0.mk hA90; clear hy90 hA90; replace q90 := eq_true q90) | (go_at_call 10; (with_reducible refine (keys_Check.calls _ _ y251 t255 _ ?side1 ?side2 A87.out).mono ?_); (case side1 => repeat (first | exact (Kd.C_below HR254.out HB.out) | (with_reducible refine Kd.C_alloc ?_ _) | (with_reducible refine Kd.C_drewN ?_ _) | (with_reducible refine Kd.C_drew ?_))); (case side2 => exact HC254.out); rintro e w91 ⟨rfl, hb⟩; have n0_ := Aside0.mk (below_step (by repeat (first | (with_reducible first | exact HB.out | apply below_alloc | apply pw_below_drewN | apply below_drew1) | exact HB.out)) hb); clear HB; have HB := n0_; clear n0_; (try clear hb); (try clear hb2); (try clear hk); (try clear hi))); try go_wp2_with (first | (go_at_call 10; (with_reducible refine (keys_Check.calls _ _ y246 t250 _ ?side1 ?side2 A83.out).mono ?_); (case side1 => repeat (first | exact (Kd.C_below HR249.out HB.out) | (with_reducible refine Kd.C_alloc ?_ _) | (with_reducible refine Kd.C_drewN ?_ _) | (with_reducible refine Kd.C_drew ?_))); (case side2 => exact HC249.out); rintro e w89 ⟨rfl, hb⟩; have n0_ := Aside0.mk (below_step (by repeat (first | (with_reducible first | exact HB.out | apply below_alloc | apply pw_below_drewN | apply below_drew1) | exact HB.out)) hb); clear HB; have HB := n0_; clear n0_; (try clear hb); (try clear hb2); (try clear hk); (try clear hi); have q90 : ((ji80) : Int) ≤ ((l0.length : Int) : Int) := of_decide_eq_true (by first | (with_reducible assumption) | assumption); obtain ⟨i090, hi090, _, hsz90, _⟩ := info_parts info35; have hroom90 : l0.length ≤ c0 := HC0.out; have hC90 : Kd.C k35 _ A0 l0.length l0 := HR0.out; have q090 : (0 : Int) ≤ ((ji80) : Int) := of_decide_eq_true (by first | (with_reducible assumption) | assumption); have hcut90 := cut_from (P := Try.prog) 22 35 .i64 Try.underlying22 hi090 3 hsz90 A0 l0.length c0 (ji80) q090 q90; have hr90 := Kd.C_drop (m := ((ji80) : Int).toNat) (c := c0) hC90 (by omega) hroom90; obtain ⟨A90, hA90⟩ : ∃ A1, A1 = (if c0 = ((ji80) : Int).toNat then A0 else (A0 : Option Addr).map (·.add (((ji80) : Int).toNat * 3))) := ⟨_, rfl⟩; obtain ⟨c90, hc90⟩ : ∃ c1, c1 = c0 - ((ji80) : Int).toNat := ⟨_, rfl⟩; have hy90 : y251.length = l0.length - ((ji80) : Int).toNat := (by rw [Ny251.out, List.length_drop] <;> omega); rw [show (l0).drop ((ji80) : Int).toNat = y251 from Ny251.out.symm] at hr90; replace hr90 : Kd.C k35 _ A90 y251.length y251 := (by rw [hA90]; exact hr90); rw [← hy90, ← hA90, ← hc90] at hcut90; have HR254 := Aside0.mk hr90; have HC254 := Aside0.mk (show y251.length ≤ c90 from by rw [hy90, hc90]; exact Nat.sub_le_sub_right hroom90 _); clear hr90 hC90 hroom90 hi090 hsz90 hc90; have KY90 := Aside0.mk hy90; have KA90 := Aside0.mk hA90; clear hy90 hA90; replace q90 := eq_true q90) | (go_at_call 10; (with_reducible refine (keys_Check.calls _ _ y251 t255 _ ?side1 ?side2 A87.out).mono ?_); (case side1 => repeat (first | exact (Kd.C_below HR254.out HB.out) | (with_reducible refine Kd.C_alloc ?_ _) | (with_reducible refine Kd.C_drewN ?_ _) | (with_reducible refine Kd.C_drew ?_))); (case side2 => exact HC254.out); rintro e w91 ⟨rfl, hb⟩; have n0_ := Aside0.mk (below_step (by repeat (first | (with_reducible first | exact HB.out | apply below_alloc | apply pw_below_drewN | apply below_drew1) | exact HB.out)) hb); clear HB; have HB := n0_; clear n0_; (try clear hb); (try clear hb2); (try clear hk); (try clear hi))))
                                    go_ret
                                    exact ⟨by first | rfl | (simp [errW_none, errW_some] <;> rfl) | (simp only [← hji80]; first | rfl | (simp [errW_none, errW_some] <;> rfl)) | (simp [*, errW_none, errW_some] <;> rfl), by repeat (first | (with_reducible first | exact HB.out | apply below_alloc | apply pw_below_drewN | apply below_drew1) | exact HB.out)⟩
                                  · rw [if_neg c84] at H
                                    exact absurd H (by simp)
                                · rw [if_neg c82] at H
                                  exact absurd H (by simp)
                              · rw [if_neg c81] at H
                                exact absurd H (by simp)
                            · rw [if_neg c79] at H
                              have c79b0 : (t218 == 0) = false := beq_eq_false_iff_ne.mpr c79
                              have c79b1 : (t218 != 0) = true := bne_iff_ne.mpr c79
                              obtain rfl := Option.some.inj H
                              go_wp2
                              repeat (go_quiet (fail); try go_wp2)
                              go_ret
                              exact ⟨by first | rfl | (simp [errW_none, errW_some] <;> rfl) | (simp [*, errW_none, errW_some] <;> rfl), by repeat (first | (with_reducible first | exact HB.out | apply below_alloc | apply pw_below_drewN | apply below_drew1) | exact HB.out)⟩
      · rw [if_neg c7] at H
        exact absurd H (by simp)
    · rw [if_neg c6] at H
      exact absurd H (by simp)
  · replace c5 := Bool.eq_false_iff.mpr c5
    subst c5
    have H1 : (none) = some r := by rw [if_neg (show ¬ (false = true) by decide)] at H; exact H
    clear H
    have H := H1
    clear H1
    exact absurd H (by simp)

end Go.Proofs.Ytmblnpgeaihebaa.G
