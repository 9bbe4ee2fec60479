/- How layer 3's arguments read: entries, lists of them. -/
import Derived.Test.YtmblnpgeaihebaaOpen
import Derived.Test.YtmblnpgeaihebaaGx0
namespace Go.Proofs.Ytmblnpgeaihebaa
open Go.RowKit Go.Proofs.YtmblnpgeaihebaaW.PrintWords Go.Proofs.Ytmblnpgeaihebaa.Reading G
instance : Inhabited S35 := ⟨z35⟩
theorem open35 {H : Type} (enc : TypeId × Value → H) (w : World) (base : Nat) (spare : Nat → Bool) (held : Bool) : Opens enc Try.prog w base spare held 35 k35 (fun x => (Lit.int .u64 x.f0).wf = true ∧ (Lit.int .u64 x.f1).wf = true ∧ True) (fun _ => 1) :=
  (of_iso (fun x : S35 => (x.f0, x.f1, x.f2)) (fun p => ⟨p.1, p.2.1, p.2.2⟩) (fun _ => rfl)
    (of_struct Try.underlying35 (by kernel_rfl) (by kernel_rfl) (at_cons (of_int Try.underlying33) (at_cons (of_int Try.underlying33) (at_one (of_bool Try.underlying4)))))).imp (fun _ h => h) (fun _ => by show 1 ≤ 1 + (1 + 1); omega)
theorem open22 {H : Type} (enc : TypeId × Value → H) (w : World) (base : Nat) (spare : Nat → Bool) (held : Bool) :
    Opens enc Try.prog w base spare held 22 (Kd.slice 35 k35) (fun l => (l.length * 24 ≤ reach ∧ l.length ≤ maxLen) ∧ ∀ x ∈ l, (Lit.int .u64 x.f0).wf = true ∧ (Lit.int .u64 x.f1).wf = true ∧ True) (fun l => l.length) :=
  (of_slice Try.underlying22 (by kernel_rfl) (by kernel_rfl) (open35 enc w base spare held)).imp (fun _ h => h) (fun l => by
    have : ∀ l : List S35, l.length ≤ (l.map (fun _ => 1)).sum := fun l => by induction l with
      | nil => simp
      | cons x l ih => simp only [List.length_cons, List.map_cons, List.sum_cons]; omega
    have := this l
    omega)
end Go.Proofs.Ytmblnpgeaihebaa
