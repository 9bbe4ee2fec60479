/- Contracts, proved by hand: 'lent' (a copy of one's own with a mark behind it) and 'still' (it is as it was). -/
import Derived.Test.YtmblnpgeaihebaaGx1
import Derived.Test.YtmblnpgeaihebaaGiven2
import Derived.Laws.CopyRow
import Derived.Laws.CopyOwn
namespace Go.Proofs.Ytmblnpgeaihebaa.G
open Go.RowKit Go.Proofs.YtmblnpgeaihebaaW.PrintWords Go.Proofs.YtmblnpgeaihebaaW.PrintLast Go.Proofs.YtmblnpgeaihebaaW.PrintMore
set_option linter.unusedVariables false
set_option linter.unusedSimpArgs false
attribute [local go_sem high] eqA35

def mark35 : S35 := ⟨77, 77, true⟩
theorem cut_cap {P : Program} (t e : TypeId) (kh : IntKind) {i : TypeInfo} (ht : P.underlying t = some (.slice e)) (hi : P.info? e = some i) (A : Option Addr) (n c : Nat) (j : Int) (h0 : 0 ≤ j) (hc : j ≤ c) :
    ∀ W : World, (Instr.slice t (.slice A n c) none (some (.int kh j)) none).run P W = .ok (.slice A j.toNat c) W := by
  intro W
  have hel : P.elem t = e := by simp [Program.elem, ht]
  have hu : P.underlying t = some (.slice (P.elem t)) := by rw [hel]; exact ht
  have ha : (A.map fun x => x.add 0) = A := by cases A <;> simp [Addr.add]
  rw [run_slice_h W t A n c hu kh j h0 (by omega), hel]
  simp [sizeOf, typeInfo, hi, sliced, Result.andThen, ha]

set_option maxHeartbeats 2000000 in
set_option maxRecDepth 100000 in
theorem still_true (A0 : Option Addr) (c0 : Nat) (l0 : List S35) (A1 : Option Addr) (c1 : Nat) (w : World) (hr0 : Kd.C k35 w A0 (l0.length + 1) (l0 ++ [mark35])) (hc0 : l0.length + 1 ≤ c0) (hr1 : Kd.C k35 w A1 l0.length l0) :
    Calls Try.prog 12 #[.slice A0 l0.length c0, .slice A1 l0.length c1] w fun e w' => e = .returned (.bool true) ∧ Drawn0 w w' := by
  have hu35 := Try.underlying35
  have hmax : (l0.length : Int) + 1 ≤ 9223372036854775807 := by have := hr0.2.1; omega
  obtain ⟨i010, hi010, hz10, hsz10, hby10⟩ := info_parts info35'
  have hcut := cut_cap (P := Try.prog) 22 35 .i64 Try.underlying22 hi010 A0 l0.length c0 ((l0.length : Int) + 1) (by omega) (by omega)
  rw [show ((l0.length : Int) + 1).toNat = l0.length + 1 from by omega] at hcut
  obtain ⟨ad, e, hx, hy, hz⟩ := at_T35 hr0 (l0.length : Int) (by omega) (by omega)
  have hm : rd_T35 (l0 ++ [mark35]) (l0.length : Int) = mark35 := by simp [rd_T35]
  rw [hm] at hx hy hz
  cases e
  simp only [Go.IntWalk.toNatUp, mark35] at hx hy hz
  have HR0 := Aside0.mk hr0
  have HR1 := Aside0.mk hr1
  clear hr0 hr1 hm hz10 hsz10 hby10 hi010 i010
  have c1 : ((l0.length : Int) != (l0.length : Int)) = false := bne_eq_false_iff_eq.mpr rfl
  have c2 : (l0.length == l0.length) = true := beq_self_eq_true _
  have c3 : decide ((l0.length : Int) < (l0.length : Int) + 1) = true := decide_eq_true (by omega)
  have c4 : decide (l0.length < l0.length + 1) = true := decide_eq_true (by omega)
  go_enter Try.func12, Try.ntmps12
  go_wp2
  go_loopw [5] (fun v5 wr => ∃ i : Int, 0 ≤ i ∧ i ≤ l0.length ∧ v5 = .int .i64 i ∧ Drawn0 w wr) (fun v5 _ => l0.length - (intOf v5).toNat)
  case atStart => exact ⟨0, by omega, by omega, rfl, by repeat (first | exact Drawn0.refl _ | apply Drawn0.step)⟩
  case round =>
    clear hx hy hz
    obtain ⟨i, hi0, hi, rfl, HD⟩ := hrel
    by_cases hlt : i < l0.length
    · obtain ⟨ad0, e0, hx0, hy0, hz0⟩ := at_T35 HR0.out i hi0 (by omega)
      obtain ⟨ad1, e1, hx1, hy1, hz1⟩ := at_T35 HR1.out i hi0 hlt
      have hm : rd_T35 (l0 ++ [mark35]) i = rd_T35 l0 i := by
        unfold rd_T35
        rw [List.getD_eq_getElem?_getD, List.getElem?_append_left (by omega), ← List.getD_eq_getElem?_getD]
      rw [hm] at hx0 hy0 hz0
      clear hm
      cases e0
      cases e1
      generalize rd_T35 l0 i = x at *
      replace hx0 := (drawn0_cell HD _).trans hx0
      replace hy0 := (drawn0_cell HD _).trans hy0
      replace hz0 := (drawn0_cell HD _).trans hz0
      replace hx1 := (drawn0_cell HD _).trans hx1
      replace hy1 := (drawn0_cell HD _).trans hy1
      replace hz1 := (drawn0_cell HD _).trans hz1
      have p1 := eq_true hi0
      have p2 := eq_true hlt
      go_wp2
      go_quiet (fail)
      go_wp2
      go_roundw
      case rel => exact ⟨i + 1, by omega, by omega, by go_num, HD.step _⟩
      case measure => simp [intOf]; omega
    · go_wp2
      go_ret
      exact ⟨rfl, HD⟩
end Go.Proofs.Ytmblnpgeaihebaa.G
