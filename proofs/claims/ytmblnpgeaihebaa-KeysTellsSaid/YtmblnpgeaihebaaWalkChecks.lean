/- The walk of KeysChecks. -/
import Derived.Test.YtmblnpgeaihebaaKinds
import Derived.Test.YtmblnpgeaihebaaPlain4
import Derived.Test.YtmblnpgeaihebaaLent2
namespace Go.Proofs.Ytmblnpgeaihebaa
open Go.RowKit Go.Proofs.YtmblnpgeaihebaaW.PrintWords Go.Proofs.Ytmblnpgeaihebaa.Reading G
set_option linter.unusedVariables false
theorem own_C {w : World} {base : Nat} {ok : Nat → Prop} {g : Nat} {l : List S35} (h : Kd.R k35 35 w base ok (.slice (some ⟨g, 0, none⟩) (l.length + 1) (l.length + 1)) (l ++ [mark35])) :
    Kd.C k35 w (some ⟨g, 0, none⟩) (l.length + 1) (l ++ [mark35]) ∧ Kd.C k35 w (some ⟨g, 0, none⟩) l.length l := by
  obtain ⟨A, c, he, hl, hC⟩ := Kd.R_reads h
  have e : A = some ⟨g, 0, none⟩ := by injection he with h1 _ _; exact h1.symm
  subst e
  have hlen : (l ++ [mark35]).length = l.length + 1 := by simp
  have h2 := Kd.C_take (m := l.length) hC (by omega)
  rw [List.take_left] at h2
  rw [hlen] at hC
  exact ⟨hC, h2⟩
set_option maxHeartbeats 2000000 in
set_option maxRecDepth 100000 in
theorem Walks.KeysChecks {w : World} (A0 : Option Addr) (c0 : Nat) (l0 : List S35) (hC0 : Kd.C k35 w A0 l0.length l0) (hl0 : l0.length ≤ c0) (hg0 : (l0.length * 24 ≤ reach ∧ l0.length ≤ maxLen) ∧ ∀ x ∈ l0, (Lit.int .u64 x.f0).wf = true ∧ (Lit.int .u64 x.f1).wf = true ∧ True) :
    Calls Try.prog 3 #[.slice A0 l0.length c0] w fun e w' => e = .returned (.bool true) ∧ Below w.heap.size w w' := by
  have hs : l0.length * 24 ≤ 140737488351232 := hg0.1.1
  have hmax : (l0.length : Int) ≤ 5864062014634 := by omega
  obtain ⟨k, hk⟩ : ∃ k, 2 * l0.length + 11 ≤ k := ⟨_, Nat.le_refl _⟩
  have hS := Aside0.mk (Pure.shown_is k (by omega))
  have hL := Aside0.mk (Pure.live_f l0 (by omega) k (by omega))
  have hRL := Aside0.mk (Pure.refLive_f l0 (by omega) k (by omega))
  have hRC := Aside0.mk (Pure.refCheck_f l0 (by omega) k (by omega))
  have hCk : Aside0 (keys_Check.f l0 = some (checkOf l0)) := ⟨rfl⟩
  have HC := Aside0.mk hC0
  have HLC := Aside0.mk hl0
  have HSZ := Aside0.mk hs
  generalize checkOf l0 = ch at *
  generalize (Pure.liveN l0 : Int) = lv at *
  clear hC0 hl0 hg0 hs hk
  go_enter Try.func3, Try.ntmps3
  go_wp2_with (first
    | (go_at_call 8; refine (inclinelaw03_shown.calls k true _ hS.out).mono ?_; rintro e w1 ⟨rfl, hb⟩; have hb1 := Aside0.mk hb; clear hb)
    | (go_at_call 9; refine (lent_calls A0 c0 l0 _ (Kd.C_below HC.out hb1.out) HLC.out HSZ.out).mono ?_; rintro e w2 ⟨g, rfl, hR, hb⟩; have hb2 := Aside0.mk (below_step hb1.out hb); have hR2 := Aside0.mk hR; clear hb hR)
    | (go_at_call 10; refine (keys_Check.calls _ _ l0 ch _ (own_C hR2.out).2 (Nat.le_succ _) hCk.out).mono ?_; rintro e w3 ⟨rfl, hb⟩; have hb3 := Aside0.mk (below_step hb2.out hb); have hR3 := Aside0.mk (Kd.R_below hR2.out hb); clear hb)
    | (go_at_call 11; refine (keys_Live.calls k _ _ l0 lv _ (own_C hR3.out).2 (Nat.le_succ _) hL.out).mono ?_; rintro e w4 ⟨rfl, hb⟩; have hb4 := Aside0.mk (below_step hb3.out hb); have hR4 := Aside0.mk (Kd.R_below hR3.out hb); clear hb)
    | (go_at_call 12; refine (still_true _ _ l0 _ _ _ (own_C hR4.out).1 (Nat.le_refl _) (Kd.C_below HC.out hb4.out)).mono ?_; rintro e w5 ⟨rfl, hb⟩; have hb5 := Aside0.mk (below_step hb4.out hb.below); clear hb)
    | (go_at_call 13; refine (inclineref03_Check.calls k _ _ l0 ch _ (Kd.C_below HC.out hb5.out) HLC.out hRC.out).mono ?_; rintro e w6 ⟨rfl, hb⟩; have hb6 := Aside0.mk (below_step hb5.out hb.below); clear hb)
    | (go_at_call 14; refine (inclineref03_Live.calls k _ _ l0 lv _ (Kd.C_below HC.out hb6.out) HLC.out hRL.out).mono ?_; rintro e w7 ⟨rfl, hb⟩; have hb7 := Aside0.mk (below_step hb6.out hb.below); clear hb))
  go_ret
  exact ⟨rfl, hb7.out⟩
end Go.Proofs.Ytmblnpgeaihebaa
