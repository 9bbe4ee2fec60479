-- Written by a program of this session (wip/gprint.py: the kit's print, with contracts proved by hand)
import Derived.Test.YtmblnpgeaihebaaGx0
import Derived.Test.YtmblnpgeaihebaaGx10
import Derived.Test.YtmblnpgeaihebaaGx11
import Derived.Test.YtmblnpgeaihebaaGx12
import Derived.Test.YtmblnpgeaihebaaGx13
import Derived.Test.YtmblnpgeaihebaaGx14
import Derived.Test.YtmblnpgeaihebaaGiven
namespace Go.Proofs.Ytmblnpgeaihebaa.G
open Go.RowKit Go.Proofs.YtmblnpgeaihebaaW.PrintWords Go.Proofs.YtmblnpgeaihebaaW.PrintLast Go.Proofs.YtmblnpgeaihebaaW.PrintMore
attribute [local go_sem] max2_int min2_int max_two min_two max_three min_three max_four min_four   -- for this text's walks alone
set_option linter.unusedVariables false
set_option linter.unusedSimpArgs false

/-! ### inclinelaw03_KeysRanks: function 5 -/
def inclinelaw03_KeysRanks.f (k : Nat) (l0 : List Int) (a1 : Int) : Option (Bool) := (inclinelaw03_shown.f k).bind fun t175 => (if t175 = true then ((some (([] : List Int) : List Int)).bind fun y176 => (if y176.length + l0.length < 17592186044416 then ((some (y176 ++ l0 : List Int)).bind fun y179 => (if y179.length < 17592186044416 then ((some (y179 ++ [77] : List Int)).bind fun y182 => (if 0 ≤ (l0.length : Int) then (if (l0.length : Int) ≤ (y182.length : Int) then ((some (y182.take ((l0.length : Int) : Int).toNat : List Int)).bind fun y185 => ((keys_Rank.f k y185 a1).bind fun bt189 => ((inclineref03_Rank.f k l0 a1).bind fun bt191 => ((keys_Rising.f y185).bind fun t193 => ((inclinelaw03_same.f k y185 l0).bind fun t194 => (if t194 = true then (if (l0.length : Int) < (y182.length : Int) then (if (rd y182 (l0.length : Int)) = 77 then (if bt189.1 = bt191.1 then (if (bt189.2 == bt191.2) = true then ((inclineref03_Rising.f k l0).bind fun t196 => (some (t193 == t196))) else (none)) else (none)) else (none)) else (none)) else (none))))))) else (none)) else (none))) else (none))) else (none))) else (none))
theorem inclinelaw03_KeysRanks.mono : ∀ a0 a1 k, LeO (inclinelaw03_KeysRanks.f k a0 a1) (inclinelaw03_KeysRanks.f (k + 1) a0 a1) := by
  intro a0 a1 k
  unfold inclinelaw03_KeysRanks.f
  repeat' first
      | (with_reducible exact inclinelaw03_same.mono _ _ _)
      | (with_reducible exact inclinelaw03_shown.mono _)
      | (with_reducible exact inclineref03_Rank.mono _ _ _)
      | (with_reducible exact inclineref03_Rising.mono _ _)
      | (with_reducible exact keys_Rank.mono _ _ _)
      | (with_reducible exact LeO.refl _)
      | (with_reducible exact LeO.none _)
      | (with_reducible refine LeO.ite ?_ ?_)
      | (with_reducible refine LeO.bind ?_ (fun _ => ?_))
      | exact inclinelaw03_same.mono _ _ _
      | exact inclinelaw03_shown.mono _
      | exact inclineref03_Rank.mono _ _ _
      | exact inclineref03_Rising.mono _ _
      | exact keys_Rank.mono _ _ _
      | exact LeO.none _
      | refine LeO.ite ?_ ?_
      | refine LeO.bind ?_ (fun _ => ?_)
set_option maxHeartbeats 8000000 in
set_option maxRecDepth 100000 in
theorem inclinelaw03_KeysRanks.calls (k : Nat) (A0 : Option Addr) (c0 : Nat) (l0 : List Int) (a1 : Int) (r : Bool) (w : World) (hr0 : Kd.C (Kd.int .u64) w A0 l0.length l0) (hc0 : l0.length ≤ c0) (h : inclinelaw03_KeysRanks.f k l0 a1 = some r) :
    Calls Try.prog 5 #[.slice A0 l0.length c0, .int .u64 a1] w fun e w' => e = .returned (.bool r) ∧ Below w.heap.size w w' := by
  have HR0 := Aside0.mk hr0
  have HC0 := Aside0.mk hc0
  clear hr0 hc0
  have HB := Aside0.mk (Below.refl w.heap.size w)
  have H : ((inclinelaw03_shown.f k).bind fun t175 => (if t175 = true then ((some (([] : List Int) : List Int)).bind fun y176 => (if y176.length + l0.length < 17592186044416 then ((some (y176 ++ l0 : List Int)).bind fun y179 => (if y179.length < 17592186044416 then ((some (y179 ++ [77] : List Int)).bind fun y182 => (if 0 ≤ (l0.length : Int) then (if (l0.length : Int) ≤ (y182.length : Int) then ((some (y182.take ((l0.length : Int) : Int).toNat : List Int)).bind fun y185 => ((keys_Rank.f k y185 a1).bind fun bt189 => ((inclineref03_Rank.f k l0 a1).bind fun bt191 => ((keys_Rising.f y185).bind fun t193 => ((inclinelaw03_same.f k y185 l0).bind fun t194 => (if t194 = true then (if (l0.length : Int) < (y182.length : Int) then (if (rd y182 (l0.length : Int)) = 77 then (if bt189.1 = bt191.1 then (if (bt189.2 == bt191.2) = true then ((inclineref03_Rising.f k l0).bind fun t196 => (some (t193 == t196))) else (none)) else (none)) else (none)) else (none)) else (none))))))) else (none)) else (none))) else (none))) else (none))) else (none))) = some r := h
  clear h
  replace H := Option.bind_eq_some_iff.mp H
  obtain ⟨t175, A30, H⟩ := H
  replace H : (if t175 = true then ((some (([] : List Int) : List Int)).bind fun y176 => (if y176.length + l0.length < 17592186044416 then ((some (y176 ++ l0 : List Int)).bind fun y179 => (if y179.length < 17592186044416 then ((some (y179 ++ [77] : List Int)).bind fun y182 => (if 0 ≤ (l0.length : Int) then (if (l0.length : Int) ≤ (y182.length : Int) then ((some (y182.take ((l0.length : Int) : Int).toNat : List Int)).bind fun y185 => ((keys_Rank.f k y185 a1).bind fun bt189 => ((inclineref03_Rank.f k l0 a1).bind fun bt191 => ((keys_Rising.f y185).bind fun t193 => ((inclinelaw03_same.f k y185 l0).bind fun t194 => (if t194 = true then (if (l0.length : Int) < (y182.length : Int) then (if (rd y182 (l0.length : Int)) = 77 then (if bt189.1 = bt191.1 then (if (bt189.2 == bt191.2) = true then ((inclineref03_Rising.f k l0).bind fun t196 => (some (t193 == t196))) else (none)) else (none)) else (none)) else (none)) else (none))))))) else (none)) else (none))) else (none))) else (none))) else (none)) = some r := H
  have A3 := Aside0.mk A30
  clear A30
  by_cases c4 : t175 = true
  · subst c4
    have H1 : ((some (([] : List Int) : List Int)).bind fun y176 => (if y176.length + l0.length < 17592186044416 then ((some (y176 ++ l0 : List Int)).bind fun y179 => (if y179.length < 17592186044416 then ((some (y179 ++ [77] : List Int)).bind fun y182 => (if 0 ≤ (l0.length : Int) then (if (l0.length : Int) ≤ (y182.length : Int) then ((some (y182.take ((l0.length : Int) : Int).toNat : List Int)).bind fun y185 => ((keys_Rank.f k y185 a1).bind fun bt189 => ((inclineref03_Rank.f k l0 a1).bind fun bt191 => ((keys_Rising.f y185).bind fun t193 => ((inclinelaw03_same.f k y185 l0).bind fun t194 => (if t194 = true then (if (l0.length : Int) < (y182.length : Int) then (if (rd y182 (l0.length : Int)) = 77 then (if bt189.1 = bt191.1 then (if (bt189.2 == bt191.2) = true then ((inclineref03_Rising.f k l0).bind fun t196 => (some (t193 == t196))) else (none)) else (none)) else (none)) else (none)) else (none))))))) else (none)) else (none))) else (none))) else (none))) = some r := by rw [if_pos rfl] at H; exact H
    clear H
    have H := H1
    clear H1
    obtain ⟨y176, hy176⟩ : ∃ y_ : List Int, y_ = (([] : List Int)) := ⟨_, rfl⟩
    replace H : (if y176.length + l0.length < 17592186044416 then ((some (y176 ++ l0 : List Int)).bind fun y179 => (if y179.length < 17592186044416 then ((some (y179 ++ [77] : List Int)).bind fun y182 => (if 0 ≤ (l0.length : Int) then (if (l0.length : Int) ≤ (y182.length : Int) then ((some (y182.take ((l0.length : Int) : Int).toNat : List Int)).bind fun y185 => ((keys_Rank.f k y185 a1).bind fun bt189 => ((inclineref03_Rank.f k l0 a1).bind fun bt191 => ((keys_Rising.f y185).bind fun t193 => ((inclinelaw03_same.f k y185 l0).bind fun t194 => (if t194 = true then (if (l0.length : Int) < (y182.length : Int) then (if (rd y182 (l0.length : Int)) = 77 then (if bt189.1 = bt191.1 then (if (bt189.2 == bt191.2) = true then ((inclineref03_Rising.f k l0).bind fun t196 => (some (t193 == t196))) else (none)) else (none)) else (none)) else (none)) else (none))))))) else (none)) else (none))) else (none))) else (none)) = some r := by first | (rw [hy176]; with_reducible exact H) | (have H2_ := (Option.bind_some _ _).symm.trans H; rw [hy176]; with_reducible exact H2_) | (have H2_ := (Option.bind_some _ _).symm.trans H; with_reducible exact H2_) | with_reducible exact H | (rw [hy176]; exact H) | exact H
    have Ny176 := Aside0.mk hy176
    clear hy176
    by_cases c5 : y176.length + l0.length < 17592186044416
    · rw [if_pos c5] at H
      have LMc5 := Aside0.mk c5
      clear c5
      obtain ⟨y179, hy179⟩ : ∃ y_ : List Int, y_ = (y176 ++ l0) := ⟨_, rfl⟩
      replace H : (if y179.length < 17592186044416 then ((some (y179 ++ [77] : List Int)).bind fun y182 => (if 0 ≤ (l0.length : Int) then (if (l0.length : Int) ≤ (y182.length : Int) then ((some (y182.take ((l0.length : Int) : Int).toNat : List Int)).bind fun y185 => ((keys_Rank.f k y185 a1).bind fun bt189 => ((inclineref03_Rank.f k l0 a1).bind fun bt191 => ((keys_Rising.f y185).bind fun t193 => ((inclinelaw03_same.f k y185 l0).bind fun t194 => (if t194 = true then (if (l0.length : Int) < (y182.length : Int) then (if (rd y182 (l0.length : Int)) = 77 then (if bt189.1 = bt191.1 then (if (bt189.2 == bt191.2) = true then ((inclineref03_Rising.f k l0).bind fun t196 => (some (t193 == t196))) else (none)) else (none)) else (none)) else (none)) else (none))))))) else (none)) else (none))) else (none)) = some r := by first | (rw [hy179]; with_reducible exact H) | (have H2_ := (Option.bind_some _ _).symm.trans H; rw [hy179]; with_reducible exact H2_) | (have H2_ := (Option.bind_some _ _).symm.trans H; with_reducible exact H2_) | with_reducible exact H | (rw [hy179]; exact H) | exact H
      have Ny179 := Aside0.mk hy179
      clear hy179
      by_cases c6 : y179.length < 17592186044416
      · rw [if_pos c6] at H
        have LMc6 := Aside0.mk c6
        clear c6
        obtain ⟨y182, hy182⟩ : ∃ y_ : List Int, y_ = (y179 ++ [77]) := ⟨_, rfl⟩
        replace H : (if 0 ≤ (l0.length : Int) then (if (l0.length : Int) ≤ (y182.length : Int) then ((some (y182.take ((l0.length : Int) : Int).toNat : List Int)).bind fun y185 => ((keys_Rank.f k y185 a1).bind fun bt189 => ((inclineref03_Rank.f k l0 a1).bind fun bt191 => ((keys_Rising.f y185).bind fun t193 => ((inclinelaw03_same.f k y185 l0).bind fun t194 => (if t194 = true then (if (l0.length : Int) < (y182.length : Int) then (if (rd y182 (l0.length : Int)) = 77 then (if bt189.1 = bt191.1 then (if (bt189.2 == bt191.2) = true then ((inclineref03_Rising.f k l0).bind fun t196 => (some (t193 == t196))) else (none)) else (none)) else (none)) else (none)) else (none))))))) else (none)) else (none)) = some r := by first | (rw [hy182]; with_reducible exact H) | (have H2_ := (Option.bind_some _ _).symm.trans H; rw [hy182]; with_reducible exact H2_) | (have H2_ := (Option.bind_some _ _).symm.trans H; with_reducible exact H2_) | with_reducible exact H | (rw [hy182]; exact H) | exact H
        have Ny182 := Aside0.mk hy182
        clear hy182
        by_cases c7 : 0 ≤ (l0.length : Int)
        · rw [if_pos c7] at H
          have c7b0 := eq_true c7
          have c7b1 : decide (0 ≤ (l0.length : Int)) = true := decide_eq_true c7
          clear c7
          by_cases c8 : (l0.length : Int) ≤ (y182.length : Int)
          · rw [if_pos c8] at H
            have c8b0 := eq_true c8
            have c8b1 : decide ((l0.length : Int) ≤ (y182.length : Int)) = true := decide_eq_true c8
            clear c8
            obtain ⟨y185, hy185⟩ : ∃ y_ : List Int, y_ = (y182.take ((l0.length : Int) : Int).toNat) := ⟨_, rfl⟩
            replace H : ((keys_Rank.f k y185 a1).bind fun bt189 => ((inclineref03_Rank.f k l0 a1).bind fun bt191 => ((keys_Rising.f y185).bind fun t193 => ((inclinelaw03_same.f k y185 l0).bind fun t194 => (if t194 = true then (if (l0.length : Int) < (y182.length : Int) then (if (rd y182 (l0.length : Int)) = 77 then (if bt189.1 = bt191.1 then (if (bt189.2 == bt191.2) = true then ((inclineref03_Rising.f k l0).bind fun t196 => (some (t193 == t196))) else (none)) else (none)) else (none)) else (none)) else (none)))))) = some r := by first | (rw [hy185]; with_reducible exact H) | (have H2_ := (Option.bind_some _ _).symm.trans H; rw [hy185]; with_reducible exact H2_) | (have H2_ := (Option.bind_some _ _).symm.trans H; with_reducible exact H2_) | with_reducible exact H | (rw [hy185]; exact H) | exact H
            have Ny185 := Aside0.mk hy185
            clear hy185
            replace H := Option.bind_eq_some_iff.mp H
            obtain ⟨⟨t189, t190⟩, A90, H⟩ := H
            replace H : ((inclineref03_Rank.f k l0 a1).bind fun bt191 => ((keys_Rising.f y185).bind fun t193 => ((inclinelaw03_same.f k y185 l0).bind fun t194 => (if t194 = true then (if (l0.length : Int) < (y182.length : Int) then (if (rd y182 (l0.length : Int)) = 77 then (if t189 = bt191.1 then (if (t190 == bt191.2) = true then ((inclineref03_Rising.f k l0).bind fun t196 => (some (t193 == t196))) else (none)) else (none)) else (none)) else (none)) else (none))))) = some r := H
            have A9 := Aside0.mk A90
            clear A90
            replace H := Option.bind_eq_some_iff.mp H
            obtain ⟨⟨t191, t192⟩, A100, H⟩ := H
            replace H : ((keys_Rising.f y185).bind fun t193 => ((inclinelaw03_same.f k y185 l0).bind fun t194 => (if t194 = true then (if (l0.length : Int) < (y182.length : Int) then (if (rd y182 (l0.length : Int)) = 77 then (if t189 = t191 then (if (t190 == t192) = true then ((inclineref03_Rising.f k l0).bind fun t196 => (some (t193 == t196))) else (none)) else (none)) else (none)) else (none)) else (none)))) = some r := H
            have A10 := Aside0.mk A100
            clear A100
            replace H := Option.bind_eq_some_iff.mp H
            obtain ⟨t193, A110, H⟩ := H
            replace H : ((inclinelaw03_same.f k y185 l0).bind fun t194 => (if t194 = true then (if (l0.length : Int) < (y182.length : Int) then (if (rd y182 (l0.length : Int)) = 77 then (if t189 = t191 then (if (t190 == t192) = true then ((inclineref03_Rising.f k l0).bind fun t196 => (some (t193 == t196))) else (none)) else (none)) else (none)) else (none)) else (none))) = some r := H
            have A11 := Aside0.mk A110
            clear A110
            replace H := Option.bind_eq_some_iff.mp H
            obtain ⟨t194, A120, H⟩ := H
            replace H : (if t194 = true then (if (l0.length : Int) < (y182.length : Int) then (if (rd y182 (l0.length : Int)) = 77 then (if t189 = t191 then (if (t190 == t192) = true then ((inclineref03_Rising.f k l0).bind fun t196 => (some (t193 == t196))) else (none)) else (none)) else (none)) else (none)) else (none)) = some r := H
            have A12 := Aside0.mk A120
            clear A120
            by_cases c13 : t194 = true
            · subst c13
              have H1 : (if (l0.length : Int) < (y182.length : Int) then (if (rd y182 (l0.length : Int)) = 77 then (if t189 = t191 then (if (t190 == t192) = true then ((inclineref03_Rising.f k l0).bind fun t196 => (some (t193 == t196))) else (none)) else (none)) else (none)) else (none)) = some r := by rw [if_pos rfl] at H; exact H
              clear H
              have H := H1
              clear H1
              by_cases c14 : (l0.length : Int) < (y182.length : Int)
              · rw [if_pos c14] at H
                have c14b0 : decide ((l0.length : Int) < (y182.length : Int)) = true := decide_eq_true c14
                have c14b1 : decide (l0.length < y182.length) = true := decide_eq_true (Int.ofNat_lt.mp c14)
                clear c14
                by_cases c15 : (rd y182 (l0.length : Int)) = 77
                · rw [if_pos c15] at H
                  have c15b0 : ((rd y182 (l0.length : Int)) == 77) = true := beq_iff_eq.mpr c15
                  have c15b1 : ((rd y182 (l0.length : Int)) != 77) = false := bne_eq_false_iff_eq.mpr c15
                  clear c15
                  by_cases c16 : t189 = t191
                  · rw [if_pos c16] at H
                    have c16b0 : (t189 == t191) = true := beq_iff_eq.mpr c16
                    have c16b1 : (t189 != t191) = false := bne_eq_false_iff_eq.mpr c16
                    clear c16
                    by_cases c17 : (t190 == t192) = true
                    · rw [if_pos c17] at H
                      have c17b0 : (t190 == t192) = true := c17
                      (try (have c17b1 : decide (t190 = t192) = true := by simpa using c17))
                      (try (have c17b2 : (t190 == t192) = true := by simpa using c17))
                      clear c17
                      replace H := Option.bind_eq_some_iff.mp H
                      obtain ⟨t196, A180, H⟩ := H
                      replace H : (some (t193 == t196)) = some r := H
                      have A18 := Aside0.mk A180
                      clear A180
                      obtain rfl := Option.some.inj H
                      go_enter Try.func5, Try.ntmps5
                      go_wp2_with (first | ((with_reducible refine gate_callee (f := 8) rfl ?_); refine goesL_ (some 13) rfl rfl Try.func8 (by kernel_rfl) rfl #[] rfl (by (try simp only [List.map_toArray, List.map_cons, List.map_nil]); first | done | rfl | (simp only [List.length_drop, List.length_take]; rfl)) ?_; (with_reducible refine (inclinelaw03_shown.calls k  true _ A3.out).mono ?_); rintro e w19 ⟨rfl, hb⟩; refine ⟨_, rfl, ?_⟩; have n0_ := Aside0.mk (below_step (by repeat (first | (with_reducible first | exact HB.out | apply below_alloc | apply pw_below_drewN | apply below_drew1) | exact HB.out)) hb); clear HB; have HB := n0_; clear n0_; (try clear hb); (try clear hb2); (try clear hk); (try clear hi)) | ((with_reducible refine gate_dst (N := 16) rfl ?_); (try (refine gate_guard (by rfl) ?_; dsimp only)); refine Kd.R_lit (Kd.int .u64) _ 33 ?hg (N := 16) ?hd (xs := ([] : List Int)) (inner := []) (ok := fun _ => True) (okp := fun _ => True) ?hr ?hp (fun _ hk => hk) trivial (Below.refl _ _) (Nat.le_refl _) (by simp) ?_; (case hd => rfl); (case hg => rfl); (case hr => first | (go_simp; done) | (go_simp; rfl)); (case hp => exact (Reps.none _ _)); intro v177 w20 ho21 hb hg_ hnew_; clear hg_ hnew_; (first | rw [← Ny176.out] at ho21 | (simp only [Int.reduceToNat] at ho21; rw [← Ny176.out] at ho21)); have n0_ := Aside0.mk (Kd.R_lower ho21 (below_size (by repeat (first | (with_reducible first | exact HB.out | apply below_alloc | apply pw_below_drewN | apply below_drew1) | exact HB.out)))); have n1_ := Aside0.mk (below_step (by repeat (first | (with_reducible first | exact HB.out | apply below_alloc | apply pw_below_drewN | apply below_drew1) | exact HB.out)) hb); clear HB; have HO178 := n0_; have HB := n1_; clear n0_ n1_; clear hb ho21) | ((with_reducible refine gate_builtin (b := .append) (xs := #[.tmp 16, .tmp 17]) rfl ?_); (try (refine gate_guard (by rfl) ?_; dsimp only)); at_builtin; refine Kd.R_append_rows (Kd.int .u64) (w0 := w) w.heap.size rfl (.tmp 16) (.tmp 17) 30 33 (.int .u64 0) 8 rfl Try.underlying30 info33 rfl (by decide) (by omega) v177 y176 l0 _ _ _ (fun _ => True) (fun _ => False) rfl rfl ?aO ?aR (fun _ _ h => h) (fun _ h => h.elim) ?aF ?aB ?aS ?aL ?_; (case aR => repeat (first | exact (Kd.C_below HR0.out HB.out) | (with_reducible refine Kd.C_alloc ?_ _) | (with_reducible refine Kd.C_drewN ?_ _) | (with_reducible refine Kd.C_drew ?_))); (case aB => exact (by repeat (first | (with_reducible first | exact HB.out | apply below_alloc | apply pw_below_drewN | apply below_drew1) | exact HB.out))); (case aF => exact (fun _ _ => trivial)); (case aO => exact (by (with_reducible repeat (first | apply Kd.R_alloc | apply Kd.R_drewN | apply Kd.R_drew)); exact HO178.out)); (case aS => exact (below_size (by repeat (first | (with_reducible first | exact HB.out | apply below_alloc | apply pw_below_drewN | apply below_drew1) | exact HB.out)))); (case aL => have := LMc5.out; omega); intro v180 w22 ho hb hg hat; rw [← Ny179.out] at ho; have n0_ := Aside0.mk (hb); have n1_ := Aside0.mk (ho); clear HB; clear HO178; have HB := n0_; have HO181 := n1_; clear n0_ n1_; clear ho hb hg hat) | ((with_reducible refine gate_builtin (b := .append) (xs := #[.tmp 18, .tmp 19]) rfl ?_); (try (refine gate_guard (by rfl) ?_; dsimp only)); at_builtin; refine Kd.R_append (Kd.int .u64) (w0 := w) w.heap.size rfl (.tmp 18) (.tmp 19) 30 33 (.int .u64 0) 8 rfl Try.underlying30 info33 rfl (by decide) (by omega) v180 y179 77 [.int .u64 77] (fun _ => True) (fun _ => False) rfl rfl ?aP (fun _ hk => hk.elim) ?aF ?aO ?aB ?aS ?aL ?_; (case aP => exact rfl); (case aB => exact (by repeat (first | (with_reducible first | exact HB.out | apply below_alloc | apply pw_below_drewN | apply below_drew1) | exact HB.out))); (case aF => exact (fun _ _ => trivial)); (case aO => exact (by (with_reducible repeat (first | apply Kd.R_alloc | apply Kd.R_drewN | apply Kd.R_drew)); exact HO181.out)); (case aS => exact (below_size (by repeat (first | (with_reducible first | exact HB.out | apply below_alloc | apply pw_below_drewN | apply below_drew1) | exact HB.out)))); (case aL => have := LMc6.out; omega); intro v183 w23 ho hb hg hat; rw [← Ny182.out] at ho; have n0_ := Aside0.mk (hb); have n1_ := Aside0.mk (ho); clear HB; clear HO181; have HB := n0_; have HO184 := n1_; clear n0_ n1_; clear ho hb hg hat; obtain ⟨Ao25, co25, eo25⟩ := Kd.R_slice HO184.out; subst eo25; have q24 : ((l0.length : Int) : Int) ≤ ((y182.length : Int) : Int) := of_decide_eq_true (by first | (with_reducible assumption) | assumption); obtain ⟨i024, hi024, _, hsz24, _⟩ := info_parts info33; have hroom24 : y182.length ≤ co25 := (Kd.R_reads' HO184.out).2.1; have hC24 : Kd.C (Kd.int .u64) _ Ao25 y182.length y182 := (Kd.R_reads' HO184.out).2.2; have hcut24 := cut_to (P := Try.prog) 30 33 .i64 Try.underlying30 hi024 Ao25 y182.length co25 (l0.length : Int) (of_decide_eq_true (by first | (with_reducible assumption) | assumption)) q24 hroom24; have hr24 := Kd.C_take (m := ((l0.length : Int) : Int).toNat) hC24 (by omega); have hy24 : y185.length = ((l0.length : Int) : Int).toNat := (by rw [Ny185.out, List.length_take]; omega); rw [← Ny185.out] at hr24; rw [← hy24] at hcut24; have HR188 := Aside0.mk hr24; have HC188 := Aside0.mk (show y185.length ≤ co25 from by omega); clear hr24 hC24 hroom24 hi024 hsz24; have KY24 := Aside0.mk hy24; clear hy24; have KL24 := Aside0.mk (show ((l0.length : Int) : Int).toNat ≤ y182.length from by omega); replace q24 := eq_true q24) | ((with_reducible refine gate_callee (f := 18) rfl ?_); refine goesL_ (some 27) rfl rfl Try.func18 (by kernel_rfl) rfl #[.slice Ao25 y185.length co25, .int .u64 a1] rfl (by (try simp only [List.map_toArray, List.map_cons, List.map_nil]); first | done | rfl | (simp only [List.length_drop, List.length_take]; rfl)) ?_; (with_reducible refine (keys_Rank.calls k _ _ y185 a1 t189 t190 _ ?side1 ?side2 A9.out).mono ?_); (case side1 => repeat (first | exact (by repeat (first | (with_reducible exact HR188.out) | (with_reducible refine Kd.C_alloc ?_ _) | (with_reducible refine Kd.C_drewN ?_ _) | (with_reducible refine Kd.C_drew ?_) | exact HR188.out)) | (with_reducible refine Kd.C_alloc ?_ _) | (with_reducible refine Kd.C_drewN ?_ _) | (with_reducible refine Kd.C_drew ?_))); (case side2 => exact HC188.out); rintro e w' ⟨rfl, ⟨nd, rfl⟩⟩; refine ⟨_, rfl, ?_⟩) | ((with_reducible refine gate_callee (f := 19) rfl ?_); refine goesL_ (some 33) rfl rfl Try.func19 (by kernel_rfl) rfl #[.slice A0 l0.length c0, .int .u64 a1] rfl (by (try simp only [List.map_toArray, List.map_cons, List.map_nil]); first | done | rfl | (simp only [List.length_drop, List.length_take]; rfl)) ?_; (with_reducible refine (inclineref03_Rank.calls k _ _ l0 a1 t191 t192 _ ?side1 ?side2 A10.out).mono ?_); (case side1 => repeat (first | exact (Kd.C_below HR0.out (by repeat (first | (with_reducible first | exact HB.out | apply below_alloc | apply pw_below_drewN | apply below_drew1) | exact HB.out))) | (with_reducible refine Kd.C_alloc ?_ _) | (with_reducible refine Kd.C_drewN ?_ _) | (with_reducible refine Kd.C_drew ?_))); (case side2 => exact HC0.out); rintro e w' ⟨rfl, ⟨nd, rfl⟩⟩; refine ⟨_, rfl, ?_⟩) | ((with_reducible refine gate_callee (f := 20) rfl ?_); refine goesL_ (some 40) rfl rfl Try.func20 (by kernel_rfl) rfl #[.slice Ao25 y185.length co25] rfl (by (try simp only [List.map_toArray, List.map_cons, List.map_nil]); first | done | rfl | (simp only [List.length_drop, List.length_take]; rfl)) ?_; (with_reducible refine (keys_Rising.calls _ _ y185 t193 _ ?side1 ?side2 A11.out).mono ?_); (case side1 => repeat (first | exact (by repeat (first | (with_reducible exact HR188.out) | (with_reducible refine Kd.C_alloc ?_ _) | (with_reducible refine Kd.C_drewN ?_ _) | (with_reducible refine Kd.C_drew ?_) | exact HR188.out)) | (with_reducible refine Kd.C_alloc ?_ _) | (with_reducible refine Kd.C_drewN ?_ _) | (with_reducible refine Kd.C_drew ?_))); (case side2 => exact HC188.out); rintro e w' ⟨rfl, ⟨nd, rfl⟩⟩; refine ⟨_, rfl, ?_⟩) | ((with_reducible refine gate_callee (f := 17) rfl ?_); refine goesL_ (some 46) rfl rfl Try.func17 (by kernel_rfl) rfl #[.slice Ao25 y185.length co25, .slice A0 l0.length c0] rfl (by (try simp only [List.map_toArray, List.map_cons, List.map_nil]); first | done | rfl | (simp only [List.length_drop, List.length_take]; rfl)) ?_; (with_reducible refine (inclinelaw03_same.calls k _ _ y185 _ _ l0 true _ ?side1 ?side2 ?side3 ?side4 A12.out).mono ?_); (case side1 => repeat (first | exact (by repeat (first | (with_reducible exact HR188.out) | (with_reducible refine Kd.C_alloc ?_ _) | (with_reducible refine Kd.C_drewN ?_ _) | (with_reducible refine Kd.C_drew ?_) | exact HR188.out)) | (with_reducible refine Kd.C_alloc ?_ _) | (with_reducible refine Kd.C_drewN ?_ _) | (with_reducible refine Kd.C_drew ?_))); (case side2 => exact HC188.out); (case side3 => repeat (first | exact (Kd.C_below HR0.out (by repeat (first | (with_reducible first | exact HB.out | apply below_alloc | apply pw_below_drewN | apply below_drew1) | exact HB.out))) | (with_reducible refine Kd.C_alloc ?_ _) | (with_reducible refine Kd.C_drewN ?_ _) | (with_reducible refine Kd.C_drew ?_))); (case side4 => exact HC0.out); rintro e w' ⟨rfl, ⟨nd, rfl⟩⟩; refine ⟨_, rfl, ?_⟩; have p195 : 0 ≤ ((l0.length : Int) : Int) := of_decide_eq_true (by first | (with_reducible assumption) | assumption); have q195 : (l0.length : Int) < (y182.length : Int) := of_decide_eq_true (by first | (with_reducible assumption) | assumption); obtain ⟨ad195, e195, hx195_0⟩ := Kd.at_int (Kd.R_reads' HO184.out).2.2 (l0.length : Int) p195 q195; cases e195; (try simp only [Go.IntWalk.toNatUp] at hx195_0); replace p195 := eq_true p195; replace q195 := eq_true q195) | (go_at_call 21; (with_reducible refine (inclineref03_Rising.calls k _ _ l0 t196 _ ?side1 ?side2 A18.out).mono ?_); (case side1 => repeat (first | exact (Kd.C_below HR0.out (by repeat (first | (with_reducible first | exact HB.out | apply below_alloc | apply pw_below_drewN | apply below_drew1) | exact HB.out))) | (with_reducible refine Kd.C_alloc ?_ _) | (with_reducible refine Kd.C_drewN ?_ _) | (with_reducible refine Kd.C_drew ?_))); (case side2 => exact HC0.out); rintro e w' ⟨rfl, ⟨nd, rfl⟩⟩))
                      go_ret
                      exact ⟨by first | rfl | (simp [errW_none, errW_some] <;> rfl) | (simp [*, errW_none, errW_some] <;> rfl), by repeat (first | (with_reducible first | exact HB.out | apply below_alloc | apply pw_below_drewN | apply below_drew1) | exact HB.out)⟩
                    · rw [if_neg c17] at H
                      exact absurd H (by simp)
                  · rw [if_neg c16] at H
                    exact absurd H (by simp)
                · rw [if_neg c15] at H
                  exact absurd H (by simp)
              · rw [if_neg c14] at H
                exact absurd H (by simp)
            · replace c13 := Bool.eq_false_iff.mpr c13
              subst c13
              have H1 : (none) = some r := by rw [if_neg (show ¬ (false = true) by decide)] at H; exact H
              clear H
              have H := H1
              clear H1
              exact absurd H (by simp)
          · rw [if_neg c8] at H
            exact absurd H (by simp)
        · rw [if_neg c7] at H
          exact absurd H (by simp)
      · rw [if_neg c6] at H
        exact absurd H (by simp)
    · rw [if_neg c5] at H
      exact absurd H (by simp)
  · replace c4 := Bool.eq_false_iff.mpr c4
    subst c4
    have H1 : (none) = some r := by rw [if_neg (show ¬ (false = true) by decide)] at H; exact H
    clear H
    have H := H1
    clear H1
    exact absurd H (by simp)

/-- THE ONE PURE STATEMENT of inclinelaw03_KeysRanks: yours. -/
def inclinelaw03_KeysRanks.Pure : Prop := ∀ (l0 : List Int) (a1 : Int), l0.length ≤ maxLen → l0.length * 8 ≤ 140737488351232 → (∀ x ∈ l0, (Lit.int .u64 x).wf = true) → (Lit.int .u64 a1).wf = true → ∃ k, inclinelaw03_KeysRanks.f k l0 a1 = some true
theorem inclinelaw03_KeysRanks.walk (P : inclinelaw03_KeysRanks.Pure) (a0 : Option Addr) (len0 cap0 : Nat) (z0 : List Int) (a1 : Int) (w : World) (w0 : (a0 = none ∧ len0 = 0 ∧ cap0 = 0 ∧ z0 = []) ∨ ∃ x, a0 = some x ∧ len0 ≤ cap0 ∧ cap0 ≤ maxLen ∧ z0.length = cap0 ∧ (∀ i, i < z0.length → w.cell? (x.add i) = some (.int .u64 (z0.getD i 0))) ∧ ∀ n ∈ z0, (Lit.int .u64 n).wf = true) (y0 : len0 * 8 ≤ 140737488351232) (w1 : (Lit.int .u64 a1).wf = true) :
    Calls Try.prog 5 #[.slice a0 len0 cap0, .int .u64 a1] w fun e w' => e = .returned (.bool true) ∧ Below w.heap.size w w' := by
  obtain ⟨l0, rfl, hr0, hm0, hw0, hc0⟩ := ReadsInt.ofRowC w0
  obtain ⟨k, h⟩ := P l0 a1 hm0 y0 hw0 w1
  refine (inclinelaw03_KeysRanks.calls k _ _ l0 a1 true w (Kd.C_of_reads (d := (0 : Int)) (h1 := fun _ => rfl) hr0) hc0 h).mono ?_
  rintro e w' ⟨rfl, hd⟩
  exact ⟨rfl, hd⟩

end Go.Proofs.Ytmblnpgeaihebaa.G
