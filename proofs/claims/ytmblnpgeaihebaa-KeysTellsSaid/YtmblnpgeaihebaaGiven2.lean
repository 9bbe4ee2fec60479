/- The contract, proved by hand, of keys.Check: what is wrong with entries. -/
import Derived.Test.YtmblnpgeaihebaaGiven
namespace Go.Proofs.Ytmblnpgeaihebaa.G
open Go.RowKit Go.Proofs.YtmblnpgeaihebaaW.PrintWords Go.Proofs.YtmblnpgeaihebaaW.PrintLast Go.Proofs.YtmblnpgeaihebaaW.PrintMore
set_option linter.unusedVariables false
set_option linter.unusedSimpArgs false

/-- A tombstone with a value. -/
def badB (x : S35) : Bool := x.f2 && !(x.f1 == 0)
/-- The first of them, or -1. -/
def idxBad : List S35 → Int
  | [] => -1
  | x :: l => if badB x = true then 0 else if idxBad l = -1 then -1 else idxBad l + 1
theorem idxBad_ge (l : List S35) : -1 ≤ idxBad l := by
  induction l with
  | nil => simp [idxBad]
  | cons x l ih => unfold idxBad; split; · omega
                   · split <;> omega
theorem idxBad_lt (l : List S35) : idxBad l < l.length := by
  induction l with
  | nil => simp [idxBad]
  | cons x l ih => simp only [List.length_cons]; unfold idxBad; split; · omega
                   · split <;> omega
theorem idxBad_miss (l : List S35) (h : ∀ i, i < l.length → badB (l.getD i z35) = false) : idxBad l = -1 := by
  induction l with
  | nil => rfl
  | cons x l ih =>
    have h0 := h 0 (by simp)
    have h1 := ih (fun i hi => by have := h (i + 1) (by simp; omega); simpa using this)
    simp only [List.getD_cons_zero] at h0
    unfold idxBad
    rw [h0, h1]; simp
theorem idxBad_hit (l : List S35) (n : Nat) (hn : n < l.length) (h : ∀ i, i < n → badB (l.getD i z35) = false) (hb : badB (l.getD n z35) = true) : idxBad l = n := by
  induction l generalizing n with
  | nil => simp at hn
  | cons x l ih =>
    cases n with
    | zero => simp only [List.getD_cons_zero] at hb; unfold idxBad; rw [if_pos hb]; rfl
    | succ n =>
      have h0 := h 0 (by omega)
      simp only [List.getD_cons_zero] at h0
      have h1 := ih n (by simpa using hn) (fun i hi => by have := h (i + 1) (by omega); simpa using this) (by simpa using hb)
      unfold idxBad
      rw [h0, h1]
      simp only [Bool.false_eq_true, if_false]
      rw [if_neg (by omega)]
      omega

set_option maxRecDepth 100000 in
theorem f23_calls (x : S35) (w : World) : Calls Try.prog 23 #[.agg #[.int .u64 x.f0, .int .u64 x.f1, .bool x.f2]] w fun e w' => e = .returned (.bool (badB x)) ∧ Below w.heap.size w w' := by
  have hu35 := Try.underlying35
  obtain ⟨a, b, c⟩ := x
  cases c with
  | false =>
    go_enter Try.func23, Try.ntmps23
    go_wp2
    go_ret
    exact ⟨rfl, (Below.refl _ _).alloc (Nat.le_refl _) _⟩
  | true =>
    by_cases hb : b = 0
    · subst hb
      go_enter Try.func23, Try.ntmps23
      go_wp2
      go_ret
      exact ⟨rfl, (Below.refl _ _).alloc (Nat.le_refl _) _⟩
    · have hb1 : (b == 0) = false := beq_eq_false_iff_ne.mpr hb
      have hb2 : (b != 0) = true := bne_iff_ne.mpr hb
      have hB : Aside0 (badB ⟨a, b, true⟩ = true) := ⟨by simp [badB, hb1]⟩
      clear hb
      go_enter Try.func23, Try.ntmps23
      go_wp2
      go_ret
      exact ⟨by rw [hB.out]; rfl, (Below.refl _ _).alloc (Nat.le_refl _) _⟩

set_option maxHeartbeats 1000000 in
set_option maxRecDepth 100000 in
theorem f22_calls (A0 : Option Addr) (c0 : Nat) (l0 : List S35) (w : World) (hr0 : Kd.C k35 w A0 l0.length l0) :
    Calls Try.prog 22 #[.slice A0 l0.length c0, .func (.func 23) #[] #[]] w fun e w' => e = .returned (.int .i64 (idxBad l0)) ∧ Below w.heap.size w w' := by
  have HR0 := Aside0.mk hr0
  clear hr0
  have hu35 := Try.underlying35
  have hmax : (l0.length : Int) ≤ 9223372036854775807 := by have := HR0.out.2.1; omega
  go_enter Try.func22, Try.ntmps22
  go_wp2
  go_loopw [8] (fun v8 wr => ∃ i : Int, 0 ≤ i ∧ i ≤ l0.length ∧ v8 = .int .i64 i ∧ Aside0 (∀ j : Nat, j < i.toNat → badB (l0.getD j z35) = false) ∧ Aside0 (Below w.heap.size w wr)) (fun v8 _ => l0.length - (intOf v8).toNat)
  case atStart => exact ⟨0, by omega, by omega, rfl, ⟨fun j hj => by simp at hj⟩, ⟨Below.refl _ _⟩⟩
  case round =>
    obtain ⟨i, hi0, hi, rfl, HA, HD⟩ := hrel
    by_cases hlt : i < l0.length
    · obtain ⟨ad, e1, hx1, hy1, hz1⟩ := at_T35 HR0.out i hi0 hlt
      cases e1
      replace hx1 := pw_cell_below HD.out hx1
      replace hy1 := pw_cell_below HD.out hy1
      replace hz1 := pw_cell_below HD.out hz1
      have HX := Aside0.mk (show rd_T35 l0 i = l0.getD i.toNat z35 from rfl)
      generalize rd_T35 l0 i = x at *
      have hcall := f23_calls x
      cases hq : badB x with
      | true =>
        rw [hq] at hcall
        have HQ := Aside0.mk hq
        clear hq
        have HC := Aside0.mk hcall
        clear hcall
        go_wp2_with (go_at_call 23; refine (HC.out _).mono ?_; rintro e w' ⟨rfl, hb'⟩)
        go_ret
        refine ⟨?_, below_step HD.out hb'⟩
        rw [idxBad_hit l0 i.toNat (by omega) HA.out (by rw [← HX.out]; exact HQ.out), Int.toNat_of_nonneg hi0]
        rfl
      | false =>
        rw [hq] at hcall
        have HQ := Aside0.mk hq
        clear hq
        have HC := Aside0.mk hcall
        clear hcall
        go_wp2_with (go_at_call 23; refine (HC.out _).mono ?_; rintro e w' ⟨rfl, hb'⟩)
        go_roundw
        case measure => simp [intOf]; omega
        case rel =>
          refine ⟨i + 1, by omega, by omega, by go_num, ⟨fun j hj => ?_⟩, ⟨below_step HD.out hb'⟩⟩
          by_cases e : j = i.toNat
          · subst e
            rw [← HX.out]; exact HQ.out
          · exact HA.out j (by omega)
    · go_wp2
      go_ret
      refine ⟨?_, HD.out⟩
      rw [idxBad_miss l0 (fun j hj => HA.out j (by omega))]
      rfl

theorem risesTo_take (l : List Int) (n k : Nat) (h : k ≤ n) : risesTo (l.take n) k = risesTo l k := by
  induction k with
  | zero => rfl
  | succ k ih =>
    rw [risesTo_succ, risesTo_succ, ih (by omega)]
    simp only [List.getD_eq_getElem?_getD, List.getElem?_take]
    rw [if_pos (by omega), if_pos (by omega)]

/-- What is wrong with entries: 30 keys that do not rise, 31 a tombstone with a value, 0 nothing. -/
def checkOf (l : List S35) : Int := if risesTo (keysOf l) (if 0 ≤ idxBad l then (idxBad l).toNat + 1 else l.length) = true then (if 0 ≤ idxBad l then 31 else 0) else 30
def keys_Check.f (l0 : List S35) : Option Int := some (checkOf l0)

theorem info35' : (Try.prog.info? 35).map (fun i => (i.zero, i.size, i.bytes)) = some (some (.agg #[(.int .u64 0), (.int .u64 0), (.bool false)]), 3, 24) := by kernel_rfl

set_option maxHeartbeats 1000000 in
set_option maxRecDepth 100000 in
theorem keys_Check.calls (A0 : Option Addr) (c0 : Nat) (l0 : List S35) (r : Int) (w : World) (hr0 : Kd.C k35 w A0 l0.length l0) (hc0 : l0.length ≤ c0) (h : keys_Check.f l0 = some r) :
    Calls Try.prog 10 #[.slice A0 l0.length c0] w fun e w' => e = .returned (.int .i64 r) ∧ Below w.heap.size w w' := by
  have hmax : (l0.length : Int) ≤ 9223372036854775807 := by have := hr0.2.1; omega
  have hlt := idxBad_lt l0
  have hge := idxBad_ge l0
  obtain rfl := Option.some.inj h
  clear h
  have HI := Aside0.mk (f22_calls A0 c0 l0 w hr0)
  obtain ⟨i010, hi010, hz10, hsz10, hby10⟩ := info_parts info35'
  have hE : Aside0 (checkOf l0 = if risesTo (keysOf l0) (if 0 ≤ idxBad l0 then (idxBad l0).toNat + 1 else l0.length) = true then (if 0 ≤ idxBad l0 then 31 else 0) else 30) := ⟨rfl⟩
  generalize checkOf l0 = res at *
  generalize idxBad l0 = b at *
  by_cases hneg : 0 ≤ b
  · have hg : decide (b ≥ 0) = true := decide_eq_true hneg
    replace hE : Aside0 (res = if risesTo (keysOf l0) ((b + 1).toNat) = true then 31 else 30) := ⟨by rw [hE.out, if_pos hneg, if_pos hneg, show (b + 1).toNat = b.toNat + 1 from by omega]⟩
    have hly : (l0.take (b + 1).toNat).length = (b + 1).toNat := by rw [List.length_take]; omega
    have hcut := cut_to (P := Try.prog) 22 35 .i64 Try.underlying22 hi010 A0 l0.length c0 (b + 1) (by omega) (by omega) hc0
    have HF : Aside0 (∀ W, Below w.heap.size w W → Calls Try.prog 24 #[.slice A0 (b + 1).toNat c0, .func (.func 25) #[] #[]] W fun e w' => e = .returned (.bool (risesTo (keysOf l0) (b + 1).toNat)) ∧ Below W.heap.size W w') := ⟨fun W hW => by
      have h := f24_calls A0 c0 (l0.take (b + 1).toNat) W (Kd.C_below (Kd.C_take (m := (b + 1).toNat) hr0 (by omega)) hW)
      rw [hly] at h
      rw [← risesTo_take (keysOf l0) (b + 1).toNat (b + 1).toNat (Nat.le_refl _)]
      have e : (keysOf l0).take (b + 1).toNat = keysOf (l0.take (b + 1).toNat) := by simp [keysOf, List.map_take]
      rw [e]
      exact h⟩
    clear hly hr0 hz10 hsz10 hby10 hi010 i010
    have h1 : b + 1 ≤ 9223372036854775807 := by omega
    cases hq : risesTo (keysOf l0) (b + 1).toNat with
    | true =>
      rw [hq] at HF hE
      clear hq
      go_enter Try.func10, Try.ntmps10
      go_wp2_with (first | (go_at_call 22; refine HI.out.mono ?_; rintro e w1 ⟨rfl, hb1⟩; replace hb1 := Aside0.mk hb1) | (go_at_call 24; refine (HF.out _ hb1.out).mono ?_; rintro e w2 ⟨rfl, hb2⟩; replace hb2 := Aside0.mk hb2))
      go_ret
      exact ⟨by rw [hE.out]; rfl, below_step hb1.out hb2.out⟩
    | false =>
      rw [hq] at HF hE
      clear hq
      go_enter Try.func10, Try.ntmps10
      go_wp2_with (first | (go_at_call 22; refine HI.out.mono ?_; rintro e w1 ⟨rfl, hb1⟩; replace hb1 := Aside0.mk hb1) | (go_at_call 24; refine (HF.out _ hb1.out).mono ?_; rintro e w2 ⟨rfl, hb2⟩; replace hb2 := Aside0.mk hb2))
      go_ret
      exact ⟨by rw [hE.out]; rfl, below_step hb1.out hb2.out⟩
  · have hg : decide (b ≥ 0) = false := decide_eq_false hneg
    replace hE : Aside0 (res = if risesTo (keysOf l0) l0.length = true then 0 else 30) := ⟨by rw [hE.out, if_neg hneg, if_neg hneg]⟩
    have hcut := cut_to (P := Try.prog) 22 35 .i64 Try.underlying22 hi010 A0 l0.length c0 (l0.length : Int) (by omega) (by omega) hc0
    rw [Int.toNat_natCast] at hcut
    have HF : Aside0 (∀ W, Below w.heap.size w W → Calls Try.prog 24 #[.slice A0 l0.length c0, .func (.func 25) #[] #[]] W fun e w' => e = .returned (.bool (risesTo (keysOf l0) l0.length)) ∧ Below W.heap.size W w') := ⟨fun W hW => f24_calls A0 c0 l0 W (Kd.C_below hr0 hW)⟩
    clear hr0 hz10 hsz10 hby10 hi010 i010
    cases hq : risesTo (keysOf l0) l0.length with
    | true =>
      rw [hq] at HF hE
      clear hq
      go_enter Try.func10, Try.ntmps10
      go_wp2_with (first | (go_at_call 22; refine HI.out.mono ?_; rintro e w1 ⟨rfl, hb1⟩; replace hb1 := Aside0.mk hb1) | (go_at_call 24; refine (HF.out _ hb1.out).mono ?_; rintro e w2 ⟨rfl, hb2⟩; replace hb2 := Aside0.mk hb2))
      go_ret
      exact ⟨by rw [hE.out]; rfl, below_step hb1.out hb2.out⟩
    | false =>
      rw [hq] at HF hE
      clear hq
      go_enter Try.func10, Try.ntmps10
      go_wp2_with (first | (go_at_call 22; refine HI.out.mono ?_; rintro e w1 ⟨rfl, hb1⟩; replace hb1 := Aside0.mk hb1) | (go_at_call 24; refine (HF.out _ hb1.out).mono ?_; rintro e w2 ⟨rfl, hb2⟩; replace hb2 := Aside0.mk hb2))
      go_ret
      exact ⟨by rw [hE.out]; rfl, below_step hb1.out hb2.out⟩
end Go.Proofs.Ytmblnpgeaihebaa.G
