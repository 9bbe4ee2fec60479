/- The walk of KeysPieces, out of its plain law. -/
import Derived.Test.YtmblnpgeaihebaaKinds
import Derived.Test.YtmblnpgeaihebaaPureKeysPieces
namespace Go.Proofs.Ytmblnpgeaihebaa
open Go.RowKit Go.Proofs.YtmblnpgeaihebaaW.PrintWords Go.Proofs.Ytmblnpgeaihebaa.Reading G
theorem Walks.KeysPieces {w : World} (A0 : Option Addr) (c0 : Nat) (l0 : List S35) (hC0 : Kd.C k35 w A0 l0.length l0) (hl0 : l0.length ≤ c0) (_hg0 : (l0.length * 24 ≤ reach ∧ l0.length ≤ maxLen) ∧ ∀ x ∈ l0, (Lit.int .u64 x.f0).wf = true ∧ (Lit.int .u64 x.f1).wf = true ∧ True)
    (A1 : Option Addr) (c1 : Nat) (l1 : List S35) (hC1 : Kd.C k35 w A1 l1.length l1) (hl1 : l1.length ≤ c1) (_hg1 : (l1.length * 24 ≤ reach ∧ l1.length ≤ maxLen) ∧ ∀ x ∈ l1, (Lit.int .u64 x.f0).wf = true ∧ (Lit.int .u64 x.f1).wf = true ∧ True)
    (a2 : Int) (w2 : (Lit.int .i64 a2).wf = true) (hb : l0.length + l1.length ≤ 1048576) :
    Calls Try.prog 7 #[.slice A0 l0.length c0, .slice A1 l1.length c1, .int .i64 a2] w fun e w' => e = .returned (.bool true) ∧ Below w.heap.size w w' := by
  obtain ⟨k, hk⟩ := Pure.KeysPieces l0 l1 a2 (by omega) (by omega) w2
  exact G.inclinelaw03_KeysPieces.calls k A0 c0 l0 A1 c1 l1 a2 true w hC0 hl0 hC1 hl1 hk
end Go.Proofs.Ytmblnpgeaihebaa
