/- The last of the claim's own texts, in one file: WalkTop, RowTopFew. Conditions: each theorem's own. -/
import Derived.Test.YtjlegggkibbkjaaZTop4
import Derived.Test.YtjlegggkibbkjaaRows
import Derived.Test.YtjlegggkibbkjaaZTop1
import Derived.WalkKit
import Derived.ProofKit
import Derived.OpenShut
import Derived.ShutString
import Derived.ChangeOld
import Derived.Below
import Derived.SizedLaws
import Derived.JoinedCond
import Derived.Deep.CondSized
section
/- TopFew answers true, whatever the input of bulk at most 1048576. -/
namespace Go.Proofs.Ytjlegggkibbkjaa
open Go.RowKit Go.Proofs.YtjlegggkibbkjaaW.PrintWords Go.Proofs.Ytjlegggkibbkjaa.Reading G M Go.Proofs.Ytjlegggkibbkjaa.Pure
set_option linter.unusedVariables false in
theorem Walks.TopFew {w : World} (A0 : Option Addr) (c0 : Nat) (l0 : List Int) (hC0 : Kd.C (Kd.int .u64) w A0 l0.length l0) (hl0 : l0.length ≤ c0) (hg0 : (l0.length * 8 ≤ reach ∧ l0.length ≤ maxLen) ∧ ∀ x ∈ l0, (Lit.int .u64 x).wf = true)
    (a1 : Int) (w1 : (Lit.int .i64 a1).wf = true) (hb : l0.length ≤ 1048576) :
    Calls Try.prog 3 #[.slice A0 l0.length c0, .int .i64 a1] w fun e w' => e = .returned (.bool true) ∧ Below w.heap.size w w' := by
  have hA : AddLaw := add18
  have hw : Wf l0 := fun x hx => by
    have := hg0.2 x hx
    simp [Lit.wf, IntKind.min, IntKind.max, IntKind.signed, IntKind.bits] at this
    omega
  by_cases hg : (2 ≤ a1 ∧ a1 ≤ 64) ∧ risesTo l0 l0.length = true
  · obtain ⟨e, rfl⟩ := Int.eq_ofNat_of_zero_le (show 0 ≤ a1 by omega)
    exact top_good hA A0 c0 l0 e (by omega) hg.2 hw hb hl0 w hC0
  · refine top_bad hA A0 c0 l0 a1 ?_ hb hl0 w hC0
    by_cases h1 : 2 ≤ a1 ∧ a1 ≤ 64
    · right
      cases h : risesTo l0 l0.length with
      | false => rfl
      | true => exact absurd ⟨h1, h⟩ hg
    · exact .inl h1
end Go.Proofs.Ytjlegggkibbkjaa
end

section
/- The row of TopFew: for every input of bulk at most 1048576 the law answers true, and each argument reads as it did. Out of its walk (Walks.TopFew). -/
namespace Go.Proofs.Ytjlegggkibbkjaa.rowTopFew
open Go.ChangeShapes Go.WideShapes Go.ChangeAt Go.RowKit Go.Proofs.Ytjlegggkibbkjaa.Reading
open Go.ChangeMaps (open_string shut_string)
set_option linter.unusedVariables false
theorem own : ownKnob Try.prog.godebug = none := by kernel_rfl
theorem laidOut : laidOutB Try.prog = true := by kernel_rfl
set_option maxRecDepth 100000 in
theorem contract (H : Type) (enc : TypeId × Value → H) (W : World) (base : Nat) (args : Array Value) (ds gs : List (DataW H)) (before : List MemPlace)
    (hval0 : ∀ (j : Nat) t v, Try.f3.params[j]? = some t → args[j]? = some v → Value.okWide Try.prog W .any base t v)
    (hW : DataW.Whole enc Try.prog Try.f3.params.toList Rows.topFewSpec.vars false W args.toList ds gs before) (hk0 : Rows.uptoSmall H (ds ++ gs) = true)
    (hsz0 : (DataW.weightsEach Try.prog (Try.f3.params.toList ++ Rows.topFewSpec.plain.varTypes Try.prog) (ds ++ gs)).all (· ≤ reachBytes) = true) :
    Calls Try.prog 3 args W fun e W' => ∃ v, e = .returned v ∧ Rows.topFewSpec.post enc Try.prog Try.f3 false true false false W args v W' := by
  have hval := hval0
  have hsz := hsz0
  have hW' := hW
  obtain ⟨p, q, hA0, hV, rfl, hfz, hnd⟩ := hW
  have hA : DataW.TrodAll enc Try.prog W 0 (fun _ => true) true Try.f3.params.toList args.toList ds p := hA0
  rw [Try.params3] at hA hval hsz
  obtain ⟨v0, vs0, d0, ds0, p0, q0, hargs, rfl, rfl, h0, r0⟩ := trodAll_cons hA
  obtain ⟨v1, vs1, d1, ds1, p1, q1, rfl, rfl, rfl, h1, r1⟩ := trodAll_cons r0
  obtain ⟨rfl, rfl, rfl⟩ := trodAll_nil r1
  obtain rfl : args = #[v0, v1] := by cases args; simp_all
  obtain ⟨rfl, rfl⟩ := trodVars_none hV
  have hwt := weights_at hsz
  have hk : Rows.uptoBulkAll (d0 :: d1 :: ([] : List (DataW H))) ≤ 1048576 := by
    have h := of_decide_eq_true hk0
    simpa using h
  have k0 := h0
  have lt0 : ∀ x ∈ p0, x.block < W.heap.size := by obtain ⟨m, hm⟩ := k0; exact DataW.trod_lt m _ _ _ hm
  have wt0 : ∀ n ∈ DataW.weights Try.prog 22 d0, n ≤ reach := fun n hn => hwt n (by simp only [List.cons_append, List.nil_append, List.append_nil, DataW.weightsEach, List.mem_append]; first | exact hn | exact (.inl hn) | exact hn)
  obtain ⟨A0, c0, l0, rfl, hl0, hC0, hg0, hb0⟩ := slice_top (okWide_slice' Try.underlying22 (hval 0 22 v0 rfl rfl)) (open22 enc W 0 (fun _ => true) true) h0 wt0
  have k1 := h1
  have lt1 : ∀ x ∈ p1, x.block < W.heap.size := by obtain ⟨m, hm⟩ := k1; exact DataW.trod_lt m _ _ _ hm
  have wt1 : ∀ n ∈ DataW.weights Try.prog 3 d1, n ≤ reach := fun n hn => hwt n (by simp only [List.cons_append, List.nil_append, List.append_nil, DataW.weightsEach, List.mem_append]; first | exact hn | exact (.inr (.inl hn)) | exact (.inr hn))
  obtain ⟨a1, rfl, rfl, rfl, w1⟩ := open_int Try.underlying3 (hval 1 3 v1 rfl rfl) h1
  simp only [Rows.uptoBulkAll] at hk
  clear hA0 hval0 hsz0 hsz
  refine (Walks.TopFew A0 c0 l0 hC0 hl0 hg0 a1 w1 (by omega)).mono fun e W' ⟨he, bel⟩ => ?_
  subst he
  exact ⟨_, rfl, _, _, _, [], _, [], hW', trodAll_mk1 (shut_bool Try.underlying4 _), (trodAll_cons_mk (Below.trod laidOut (by kernel_rfl) (of_decide_eq_true (by kernel_rfl)) k0 bel lt0) (trodAll_cons_mk (Below.trod laidOut (by kernel_rfl) (of_decide_eq_true (by kernel_rfl)) k1 bel lt1) trodAll_mk0)), rfl, bel.frame _, fun h => by cases h⟩
set_option maxRecDepth 100000 in
theorem lifted (os : Os) (started : os.Started) (H : Type) (enc : TypeId × Value → H) (F : Stop.Interp) :
    ReturnsInHanded {} Try.checked os 3 .any ((Rows.OpenSpec.upto Rows.topFewSpec).pre6 enc Try.prog Try.f3 Rows.topFewUptoRow.domain false) (((Rows.OpenSpec.upto Rows.topFewSpec).at F).post enc Try.prog Try.f3 false true false false) := by
  refine returnsInHanded_of_cond_sized (C := Try.checked) (s := (Rows.OpenSpec.upto Rows.topFewSpec)) (k := Rows.uptoSmall) rfl own started (by kernel_rfl) Try.func3
    (OpenSpec.witness (enc := enc) (C := Try.checked) (s := (Rows.OpenSpec.upto Rows.topFewSpec)) (k := Rows.uptoSmall) rfl false ⟨#[], #[.slice none 0 0, .int .i64 0], []⟩ 8 (by kernel_rfl) (by kernel_rfl) (by kernel_rfl) (x := ([.nil, .lit (.int .i64 0)], [], [])) (by kernel_rfl) rfl (by kernel_rfl)) ?_
  intro W base args ds gs before hval hW _ hk hsz _
  exact contract H enc W base args ds gs before hval hW hk hsz
theorem over : Rows.topFewUptoRow.holds Try.pinned (Rows.OpenSpec.upto Rows.topFewSpec) :=
  OpenClaim.holds_of_cond 3 Try.f3 rfl rfl rfl rfl rfl rfl rfl ⟨rfl, rfl, rfl, rfl, rfl⟩ rfl rfl rfl rfl rfl (by kernel_rfl) Try.func3 (by kernel_rfl)
    (of_decide_eq_true (by kernel_rfl)) (by unfold Func.isWrapper; first | (rw [if_pos (by decide +kernel)]; kernel_rfl) | (rw [if_neg (by decide +kernel)]; exact ⟨rfl, rfl⟩))
    (fun os started H enc _ F => lifted os started H enc F)
end Go.Proofs.Ytjlegggkibbkjaa.rowTopFew
namespace Go.Proofs.Ytjlegggkibbkjaa
/-- The row. -/
theorem topFew_holds : Rows.TopFewUptoSaid := rowTopFew.over
#print axioms topFew_holds
end Go.Proofs.Ytjlegggkibbkjaa
end
