/- Some of the claim's own texts, in one file: PlainL, Laid, Open, Kinds, PlainS. Conditions: each theorem's own. -/
import Derived.Test.YtlfoaaeelcmhiaaDoorZBase3
import Derived.KernelRfl
import Derived.Test.YtlfoaaeelcmhiaaDoorCards
import Derived.Test.YtlfoaaeelcmhiaaDoorTie
import Derived.Test.YtlfoaaeelcmhiaaDoorZBase1
import Derived.Deep.DeepHandedRow
import Derived.Lib.LaidTab
import Derived.LaidSub
import Derived.Test.YtlfoaaeelcmhiaaDoorRows
import Derived.Test.YtlfoaaeelcmhiaaDoorWWords
import Derived.Deep.Slices
import Derived.Deep.Fields
import Derived.ChangeSame
import Derived.SizedLaws
import Derived.WalkKit
import Derived.ProofKit
import Derived.Test.YtlfoaaeelcmhiaaDoorZBase2
section
/- Plain laws, on: shown. -/
namespace Go.Proofs.YtlfoaaeelcmhiaaDoor.Pure
open Go.RowKit Go.Proofs.YtlfoaaeelcmhiaaDoor.G
open Go.Proofs.YtlfoaaeelcmhiaaDoorW.PrintWords hiding nums
set_option linter.unusedVariables false
set_option linter.unusedSimpArgs false
theorem dec0 (n : Nat) (h : n < 10) : Lib.decDigits n = [UInt8.ofNat (48 + n)] := decDigits_small h
theorem dec40 : Lib.decDigits 40 = [52, 48] := by rw [decDigits_big (by omega), decDigits_small (by omega)]; rfl
theorem dec30 : Lib.decDigits 30 = [51, 48] := by rw [decDigits_big (by omega), decDigits_small (by omega)]; rfl
theorem shown_is : ∃ K, ∀ k, K ≤ k → inclinelaw21_shown.f k = some true := by
  obtain ⟨Ks, hsame⟩ := same_self [(⟨(⟨#[112, 117, 116]⟩ : ByteArray), [1, 10]⟩ : S30), (⟨(⟨#[114, 97, 110, 103, 101]⟩ : ByteArray), [0, 9]⟩ : S30)] (by simp) (by intro c hc; simp at hc; rcases hc with h | h <;> subst h <;> simp)
  refine ⟨30000 + Ks, fun k hk => ?_⟩
  have p1 : script_Parse.f (⟨#[112, 117, 116, 32, 49, 32, 49, 48, 10, 10, 35, 32, 97, 108, 108, 10, 32, 32, 114, 97, 110, 103, 101, 32, 48, 32, 32, 32, 57, 32]⟩ : ByteArray) = some ([⟨⟨#[112, 117, 116]⟩, [1, 10]⟩, ⟨⟨#[114, 97, 110, 103, 101]⟩, [0, 9]⟩], 0, 0) := by kernel_rfl
  have p2 : script_Parse.f (⟨#[103, 101, 116, 32, 53, 10, 71, 101, 116, 32, 53]⟩ : ByteArray) = some ([], 2, 211) := by kernel_rfl
  have p3 : script_Parse.f (⟨#[103, 101, 116, 32, 48, 49]⟩ : ByteArray) = some ([], 1, 212) := by kernel_rfl
  have p4 : script_Parse.f (⟨#[103, 101, 116]⟩ : ByteArray) = some ([], 1, 213) := by kernel_rfl
  have p5 : script_Print.f k [(⟨(⟨#[115, 97, 118, 101]⟩ : ByteArray), ([] : List Int)⟩ : S30), (⟨(⟨#[112, 97, 116, 104]⟩ : ByteArray), [0, 7]⟩ : S30)] = some (mk [115, 97, 118, 101, 10, 112, 97, 116, 104, 32, 48, 32, 55, 10], 0) := by
    rw [print_is _ (by intro c hc n hn; simp at hc; rcases hc with h | h <;> subst h <;> simp at hn; rcases hn with hn | hn <;> subst hn <;> exact ⟨by omega, by omega⟩) k (by omega)]
    simp [prGo, bl, takesL, numsText, dec0]
  have p6 : script_Print.f k [(⟨(⟨#[83, 97, 118, 101]⟩ : ByteArray), ([] : List Int)⟩ : S30)] = some (⟨#[]⟩, 211) := by
    rw [print_is _ (by intro c hc n hn; simp at hc; subst hc; simp at hn) k (by omega)]
    rfl
  have p7 : script_Op.f k (⟨#[114, 97, 110, 103, 101]⟩ : ByteArray) [9, 3] = some (7, 9, 3, true) := by
    obtain ⟨k, rfl⟩ : ∃ m, k = m + 1 := ⟨k - 1, by omega⟩
    unfold script_Op.f
    rw [show script_kind.f (⟨#[114, 97, 110, 103, 101]⟩ : ByteArray) = some 7 from by kernel_rfl, Option.bind_some, takes_is _ (by omega), Option.bind_some]
    rfl
  have p8 : script_Op.f k (⟨#[115, 116, 97, 116, 115]⟩ : ByteArray) [] = some (0, 0, 0, false) := by
    obtain ⟨k, rfl⟩ : ∃ m, k = m + 1 := ⟨k - 1, by omega⟩
    unfold script_Op.f
    rw [show script_kind.f (⟨#[115, 116, 97, 116, 115]⟩ : ByteArray) = some 0 from by kernel_rfl, Option.bind_some, takes_is _ (by omega), Option.bind_some]
    rfl
  have p9 : script_Tell.f k 7 0 0 0 false 0 0 0 [(⟨3, 30⟩ : S50), (⟨4, 40⟩ : S50)] = some (mk [50, 32, 51, 32, 51, 48, 32, 52, 32, 52, 48]) := by
    rw [tell_is 7 0 0 0 false 0 0 0 _ ⟨by omega, by omega⟩ ⟨by omega, by omega⟩ ⟨by omega, by omega⟩ ⟨by omega, by omega⟩ (by refine ⟨by simp, ?_⟩; intro x hx; simp at hx; rcases hx with h | h <;> subst h <;> simp) (by simp) k (by simp; omega)]
    simp [tellT, pairsBytes, pairBytes, dec0, dec30, dec40]
  have p10 : script_Tell.f k 9 0 0 1 false 0 0 0 ([] : List S50) = some (mk [101, 114, 114, 111, 114, 32, 49]) := by
    rw [tell_is 9 0 0 1 false 0 0 0 _ ⟨by omega, by omega⟩ ⟨by omega, by omega⟩ ⟨by omega, by omega⟩ ⟨by omega, by omega⟩ (by refine ⟨by simp, ?_⟩; intro x hx; simp at hx) (by simp) k (by simp; omega)]
    simp [tellT, Lib.itoa, dec0]
    rfl
  unfold inclinelaw21_shown.f
  rw [p1, p2, p3, p4, p5, p6, p7, p8, p9]
  simp only [Option.bind_some]
  rw [hsame k (by omega)]
  simp only [Option.bind_some, p10, toList_bl, bl_mk]
  rfl
end Go.Proofs.YtlfoaaeelcmhiaaDoor.Pure
end

section
/- What the rows' list gives: the table of powers (Tabs); a world that holds what is listed. -/
namespace Go.Proofs.YtlfoaaeelcmhiaaDoor
open Go.ChangeShapes Go.WideShapes Go.ChangeAt Go.RowKit G
theorem gPow : Tryd.prog.globalNamed "internal/strconv.uint64pow10" = some 0 := by kernel_rfl
theorem gPowType : (Tryd.prog.globals[0]?).map (·.type) = some 89 := by kernel_rfl
theorem cells89 : Tryd.prog.cellsOf 89 = 20 := by kernel_rfl
theorem cells31 : Tryd.prog.cellsOf 31 = 1 := by kernel_rfl
def keepPow (x : String × DataW Unit) : Bool := x.1 == "internal/strconv.uint64pow10"
theorem tabs_of {W : World} (h : laidMetH Tryd.prog Rows.scriptTellsRow.laid W) : Tabs W :=
  Lib.tabIs_of_head (rest := []) gPow gPowType Tryd.underlying89 Tryd.underlying31 cells31 cells89 (laidMetH.filter keepPow h)
def cells1 : DataW Unit → List Value
  | .lit (.int k z) => [.int k z]
  | _ => []
def cells2 : DataW Unit → List Value
  | .agg ys => ys.flatMap cells1
  | d => cells1 d
def cells3 : DataW Unit → Array Value
  | .agg xs => (xs.flatMap cells2).toArray
  | _ => #[]
def putCells (d : DataW Unit) : Obj → Obj
  | .cells _ t frozen => .cells (cells3 d) t frozen
  | o => o
/-- A world for the witness: the settled one, the listed tables holding what is listed. -/
noncomputable def laidWorld (os : Os) : World :=
  { World.holding Tryd.prog os ⟨#[], #[], []⟩ with heap := (((((World.holding Tryd.prog os ⟨#[], #[], []⟩).heap.modify 0 (putCells Rows.laid_internal_strconv_uint64pow10)).modify 1 (putCells Rows.laid_unicode_utf8_first)).modify 2 (putCells Rows.laid_unicode_utf8_acceptRanges)).modify 4 (putCells Rows.laid_math_bits_deBruijn32tab)).modify 5 (putCells Rows.laid_math_bits_deBruijn64tab) }
theorem laid_met (os : Os) (args : Array Value) : laidMet Tryd.prog Rows.scriptTellsRow.laid ((laidWorld os).forCall (fun _ _ => 0) ⟨#[], args, []⟩).memory :=
  laidMet_of_run' 8 (by kernel_rfl) (by kernel_rfl)
end Go.Proofs.YtlfoaaeelcmhiaaDoor
end

section
/- How an argument's reading gives a value of a kind of the print's words: whole numbers, bools, strings, structs, slices, in any depth; with what the row's reach says of its sizes, and its bulk. -/
namespace Go.Proofs.YtlfoaaeelcmhiaaDoor.Reading
open Go.RowKit Go.ChangeShapes Go.WideShapes Go.Deep Go.Proofs.YtlfoaaeelcmhiaaDoorW.PrintWords
set_option linter.unusedVariables false

def reach : Nat := 140737488351232
theorem reach_eq : reachBytes = reach := by kernel_rfl

section
variable {H : Type} (enc : TypeId × Value → H) (P : Program) (w : World) (base : Nat) (spare : Nat → Bool) (held : Bool)
/-- What reads as data of type t is a value of kind k, of which 'good' holds, and whose bulk is at most the datum's. -/
def Opens {α : Type} (t : TypeId) (k : Kd α) (good : α → Prop) (bk : α → Nat) : Prop :=
  ∀ (fuel : Nat) (cs : List Value) (x : DataW H × List MemPlace), DataW.trod enc P w base spare held fuel t cs = some x → (∀ n ∈ DataW.weights P t x.1, n ≤ reach) → ∃ a, k.K w a cs ∧ good a ∧ bk a ≤ Rows.uptoBulk x.1
/-- The same of cells in line, a list of types. -/
def OpensAt {α : Type} (ts : List TypeId) (k : Kd α) (good : α → Prop) (bk : α → Nat) : Prop :=
  ∀ (fuel : Nat) (css : List (List Value)) (xs : List (DataW H × List MemPlace)), css.length = ts.length → xs.length = ts.length →
    (∀ (i : Nat) (t : TypeId) (c : List Value) (x : DataW H × List MemPlace), ts[i]? = some t → css[i]? = some c → xs[i]? = some x → DataW.trod enc P w base spare held fuel t c = some x) → (∀ n ∈ DataW.weightsEach P ts (xs.map (·.1)), n ≤ reach) →
    ∃ a, k.K w a css.flatten ∧ good a ∧ bk a ≤ Rows.uptoBulkAll (xs.map (·.1))
end

section
variable {H : Type} {enc : TypeId × Value → H} {P : Program} {w : World} {base : Nat} {spare : Nat → Bool} {held : Bool}
theorem of_int {t : TypeId} {k : IntKind} (ht : P.underlying t = some (.int k)) : Opens enc P w base spare held t (Kd.int k) (fun n => (Lit.int k n).wf = true) (fun _ => 1) := by
  intro fuel cs x h _
  obtain ⟨n, rfl, rfl, hw⟩ := DataW.trod_int ht h
  exact ⟨n, rfl, hw, by simp [Rows.uptoBulk]⟩
theorem of_bool {t : TypeId} (ht : P.underlying t = some .bool) : Opens enc P w base spare held t Kd.bool (fun _ => True) (fun _ => 1) := by
  intro fuel cs x h _
  obtain ⟨n, rfl, rfl⟩ := DataW.trod_bool ht h
  exact ⟨n, rfl, trivial, by simp [Rows.uptoBulk]⟩
theorem of_string {t : TypeId} (ht : P.underlying t = some .string) : Opens enc P w base spare held t Kd.string (fun s => s.size ≤ reach) (fun s => s.size + 1) := by
  intro fuel cs x h hw
  obtain ⟨s, rfl, rfl, _⟩ := DataW.trod_string ht h
  have e : s.data.toList.length = s.size := by rw [Array.length_toList]; rfl
  exact ⟨s, rfl, by have := hw s.data.toList.length (by simp [DataW.weights]); omega, by simp only [Rows.uptoBulk]; omega⟩
theorem of_iso {α β : Type} {t : TypeId} {k : Kd α} {good : α → Prop} {bk : α → Nat} (f : β → α) (mk : α → β) (hf : ∀ a, f (mk a) = a) (h : Opens enc P w base spare held t k good bk) :
    Opens enc P w base spare held t (Kd.iso k f) (fun b => good (f b)) (fun b => bk (f b)) := by
  intro fuel cs x hx hw
  obtain ⟨a, hK, hg, hb⟩ := h fuel cs x hx hw
  refine ⟨mk a, ?_, ?_, ?_⟩
  · show k.K w (f (mk a)) cs
    rw [hf]; exact hK
  · show good (f (mk a))
    rw [hf]; exact hg
  · show bk (f (mk a)) ≤ _
    rw [hf]; exact hb
theorem Opens.imp {α : Type} {t : TypeId} {k : Kd α} {good good' : α → Prop} {bk bk' : α → Nat} (h : Opens enc P w base spare held t k good bk) (hg : ∀ a, good a → good' a) (hb : ∀ a, bk' a ≤ bk a) :
    Opens enc P w base spare held t k good' bk' := fun fuel cs x hx hw => by
  obtain ⟨a, hK, h1, h2⟩ := h fuel cs x hx hw
  exact ⟨a, hK, hg a h1, Nat.le_trans (hb a) h2⟩
theorem at_one {α : Type} {t : TypeId} {k : Kd α} {good : α → Prop} {bk : α → Nat} (h : Opens enc P w base spare held t k good bk) : OpensAt enc P w base spare held [t] k good bk := by
  intro fuel css xs hc hx hh hw
  match css, xs, hc, hx with
  | [c], [x], _, _ =>
    obtain ⟨a, hK, hg, hb⟩ := h fuel c x (hh 0 t c x rfl rfl rfl) (fun n hn => hw n (by simpa [DataW.weightsEach] using hn))
    exact ⟨a, by simpa using hK, hg, by simp only [List.map_cons, List.map_nil, Rows.uptoBulkAll]; omega⟩
theorem at_cons {α β : Type} {t : TypeId} {ts : List TypeId} {k : Kd α} {good : α → Prop} {bk : α → Nat} {k' : Kd β} {good' : β → Prop} {bk' : β → Nat} (h : Opens enc P w base spare held t k good bk) (h' : OpensAt enc P w base spare held ts k' good' bk') :
    OpensAt enc P w base spare held (t :: ts) (Kd.pair k k') (fun x => good x.1 ∧ good' x.2) (fun x => bk x.1 + bk' x.2) := by
  intro fuel css xs hc hx hh hw
  match css, xs, hc, hx with
  | c :: css, x :: xs, hc, hx =>
    obtain ⟨a, hK, hg, hb⟩ := h fuel c x (hh 0 t c x rfl rfl rfl) (fun n hn => hw n (by simp only [List.map_cons, DataW.weightsEach]; exact List.mem_append_left _ hn))
    obtain ⟨a', hK', hg', hb'⟩ := h' fuel css xs (by simpa using hc) (by simpa using hx) (fun i t' c' x' h1 h2 h3 => hh (i + 1) t' c' x' (by simpa using h1) (by simpa using h2) (by simpa using h3)) (fun n hn => hw n (by simp only [List.map_cons, DataW.weightsEach]; exact List.mem_append_right _ hn))
    exact ⟨(a, a'), ⟨c, css.flatten, by simp, hK, hK'⟩, ⟨hg, hg'⟩, by simp only [List.map_cons, Rows.uptoBulkAll]; omega⟩

/-- The fields lie one behind the other. -/
def inLine (P : Program) : Nat → List Field → Bool
  | _, [] => true
  | o, f :: fs => f.offset == o && inLine P (o + P.cellsOf f.type) fs
def widths (P : Program) : List Field → Nat
  | [] => 0
  | f :: fs => P.cellsOf f.type + widths P fs
theorem cut_flat (cs : List Value) : ∀ (fs : List Field) (o : Nat), inLine P o fs = true → (fs.map fun f => (cs.drop f.offset).take (P.cellsOf f.type)).flatten = (cs.drop o).take (widths P fs)
  | [], o, _ => by simp [widths]
  | f :: fs, o, h => by
    simp only [inLine, Bool.and_eq_true, beq_iff_eq] at h
    rw [List.map_cons, List.flatten_cons, cut_flat cs fs _ h.2, h.1, widths, List.take_add, ← List.drop_drop]
theorem of_struct {α : Type} {t : TypeId} {fs : Array Field} {k : Kd α} {good : α → Prop} {bk : α → Nat} (ht : P.underlying t = some (.struct fs)) (hl : inLine P 0 fs.toList = true) (hc : P.cellsOf t = widths P fs.toList)
    (h : OpensAt enc P w base spare held (fs.toList.map (·.type)) k good bk) : Opens enc P w base spare held t k good bk := by
  intro fuel cs x hx hw
  obtain ⟨xs, n, _, rfl, hcl, hxl, hf⟩ := DataW.trod_struct ht hx
  have hw' : ∀ m ∈ DataW.weightsEach P (fs.toList.map (·.type)) (xs.map (·.1)), m ≤ reach := fun m hm => hw m (by simp only [DataW.weights, ht]; exact hm)
  obtain ⟨a, hK, hg, hb⟩ := h n (fs.toList.map fun f => (cs.drop f.offset).take (P.cellsOf f.type)) xs (by simp) (by simpa using hxl) (fun i t' c x' h1 h2 h3 => by
    rw [List.getElem?_map] at h1 h2
    obtain ⟨f, hf1, rfl⟩ := Option.map_eq_some_iff.1 h1
    rw [hf1] at h2
    obtain rfl := Option.some.inj h2
    rw [hf i f (by simpa using hf1)]
    exact h3) hw'
  rw [cut_flat cs fs.toList 0 hl, List.drop_zero, List.take_of_length_le (by omega)] at hK
  exact ⟨a, hK, hg, by simp only [Rows.uptoBulk]; omega⟩

theorem bulk_append (l r : List (DataW H)) : Rows.uptoBulkAll (l ++ r) = Rows.uptoBulkAll l + Rows.uptoBulkAll r := by
  induction l with
  | nil => simp [Rows.uptoBulkAll]
  | cons x l ih => simp only [List.cons_append, Rows.uptoBulkAll, ih]; omega
theorem bulk_range {α : Type} (D : Nat → DataW H) (f : Nat → α) (bk : α → Nat) : ∀ n, (∀ i, i < n → bk (f i) ≤ Rows.uptoBulk (D i)) → (((List.range n).map f).map bk).sum ≤ Rows.uptoBulkAll ((List.range n).map D)
  | 0, _ => by simp
  | n + 1, h => by
    have ih := bulk_range D f bk n (fun i hi => h i (by omega))
    have h0 := h n (by omega)
    rw [List.range_succ, List.map_append, List.map_append, List.map_append, List.sum_append, bulk_append]
    simp only [List.map_cons, List.map_nil, List.sum_cons, List.sum_nil, Rows.uptoBulkAll]
    omega
theorem weightsAll_append (e : TypeId) (l r : List (DataW H)) : DataW.weightsAll P e (l ++ r) = DataW.weightsAll P e l ++ DataW.weightsAll P e r := by
  induction l with
  | nil => simp [DataW.weightsAll]
  | cons x l ih => simp only [List.cons_append, DataW.weightsAll, ih, List.append_assoc]
theorem weightsAll_mem (e : TypeId) (l : List (DataW H)) {d : DataW H} (h : d ∈ l) {n : Nat} (hn : n ∈ DataW.weights P e d) : n ∈ DataW.weightsAll P e l := by
  induction l with
  | nil => cases h
  | cons x l ih =>
    simp only [DataW.weightsAll]
    rcases List.mem_cons.1 h with rfl | h
    · exact List.mem_append_left _ hn
    · exact List.mem_append_right _ (ih h)

/-- A slice: as long as the reach allows; each element good. -/
theorem of_slice {α : Type} [Inhabited α] {t e : TypeId} {B : Nat} {d : Kd α} {good : α → Prop} {bk : α → Nat} (ht : P.underlying t = some (.slice e)) (hB : P.bytesOf e = B) (hsz : P.cellsOf e = d.sz) (h : Opens enc P w base spare held e d good bk) :
    Opens enc P w base spare held t (Kd.slice e d) (fun xs => (xs.length * B ≤ reach ∧ xs.length ≤ maxLen) ∧ ∀ x ∈ xs, good x) (fun xs => (xs.map bk).sum + 1) := by
  intro fuel cs x hx hw
  rcases open_slice ht hx with ⟨rfl, rfl⟩ | ⟨a, len, cap, m, n, D, Pl, rfl, hb, hl, hm, hmm, rfl, hi⟩
  · exact ⟨[], ⟨none, 0, rfl, Nat.le_refl _, ⟨rfl, by simp, fun hp => absurd hp (by simp)⟩⟩, ⟨⟨by simp, Nat.zero_le _⟩, fun x hx => by cases hx⟩, by simp [Rows.uptoBulk]⟩
  · have hlm : len ≤ m := by rw [hmm]; split <;> omega
    have hwm : ∀ i, i < len → ∀ q ∈ DataW.weights P e (D i), q ≤ reach := fun i hi' q hq => hw q (by
      simp only [DataW.weights, ht]
      refine List.mem_cons_of_mem _ (List.mem_append_left _ (weightsAll_mem e _ (d := D i) ?_ hq))
      exact List.mem_map.2 ⟨i, List.mem_range.2 hi', rfl⟩)
    have hA : ∀ i, i < len → ∃ v : α, (∃ c, c.length = d.sz ∧ d.K w v c ∧ ∀ j u, c[j]? = some u → w.cell? (a.add (i * d.sz + j)) = some u) ∧ good v ∧ bk v ≤ Rows.uptoBulk (D i) := by
      intro i hi'
      obtain ⟨cs', h1, h2⟩ := hi i (by omega)
      obtain ⟨v, hK, hg, hbk⟩ := h n cs' _ h2 (hwm i hi')
      obtain ⟨_, hcl, hat⟩ := World.cells?_some h1
      rw [hsz] at hcl hat
      refine ⟨v, ⟨cs', hcl, hK, fun j u hu => ?_⟩, hg, hbk⟩
      have hj : j < d.sz := by have := (List.getElem?_eq_some_iff.1 hu).1; omega
      rw [← Go.Deep.add_add, hat j hj, hu]
    obtain ⟨f, hf⟩ := choose_lt hA
    have hlen : ((List.range len).map f).length = len := by simp
    have hweight : len * B ≤ reach := by
      have h3 := hw ((((List.range len).map D).length + ((List.range (m - len)).map fun j => D (len + j)).length) * P.bytesOf e) (by simp [DataW.weights, ht])
      rw [hB] at h3
      refine Nat.le_trans (Nat.mul_le_mul_right B ?_) h3
      simp
    refine ⟨(List.range len).map f, ⟨some a, cap, by rw [hlen], by rw [hlen]; exact hl, ?_⟩, ⟨⟨by rw [hlen]; exact hweight, by rw [hlen]; omega⟩, ?_⟩, ?_⟩
    · rw [hlen]
      refine ⟨hlen, by unfold maxLen at hm; omega, fun _ => ⟨a, rfl, fun j p hj => ?_⟩⟩
      have hj' : j < len := by have := (List.getElem?_eq_some_iff.1 hj).1; omega
      rw [List.getElem?_map, List.getElem?_range hj'] at hj
      obtain rfl := Option.some.inj hj
      exact (hf j hj').1
    · intro x hx
      obtain ⟨i, hi', rfl⟩ := List.mem_map.1 hx
      exact (hf i (List.mem_range.1 hi')).2.1
    · have := bulk_range D f bk len (fun i hi' => (hf i hi').2.2)
      simp only [Rows.uptoBulk]
      omega

/-- The slice's own value. -/
theorem slice_top {α : Type} {t e : TypeId} {d : Kd α} {good : List α → Prop} {bk : List α → Nat} {v : Value} {x : DataW H} {ps : List MemPlace} (hv : ∃ a n c, v = .slice a n c)
    (h : Opens enc P w base spare held t (Kd.slice e d) good bk) (hx : DataW.Trod enc P w base spare held t v x ps) (hw : ∀ n ∈ DataW.weights P t x, n ≤ reach) :
    ∃ (A : Option Addr) (c : Nat) (l : List α), v = .slice A l.length c ∧ l.length ≤ c ∧ Kd.C d w A l.length l ∧ good l ∧ bk l ≤ Rows.uptoBulk x := by
  obtain ⟨fuel, hf⟩ := hx
  obtain ⟨l, ⟨A, c, hc, hl, hC⟩, hg, hb⟩ := h fuel _ _ hf hw
  obtain ⟨a, n, q, rfl⟩ := hv
  simp only [Value.cells, List.cons.injEq, and_true] at hc
  exact ⟨A, c, l, hc, hl, hC, hg, hb⟩
theorem okWide_slice' {r : Reach} {b0 : Nat} {t e : TypeId} {v : Value} (ht : P.underlying t = some (.slice e)) (h : Value.okWide P w r b0 t v) : ∃ a n c, v = .slice a n c := okWide_slice ht h
theorem okWide_struct' {r : Reach} {b0 : Nat} {t : TypeId} {fs : Array Field} {v : Value} (ht : P.underlying t = some (.struct fs)) (h : Value.okWide P w r b0 t v) : ∃ cs, v = .agg cs := by
  obtain ⟨cs, h, _⟩ := okWide_struct ht h
  exact ⟨cs, h⟩
/-- A struct's own value. -/
theorem agg_top {α : Type} {t : TypeId} {d : Kd α} {good : α → Prop} {bk : α → Nat} {v : Value} {x : DataW H} {ps : List MemPlace} (hv : ∃ cs, v = .agg cs)
    (h : Opens enc P w base spare held t d good bk) (hx : DataW.Trod enc P w base spare held t v x ps) (hw : ∀ n ∈ DataW.weights P t x, n ≤ reach) :
    ∃ (cs : List Value) (a : α), v = .agg cs.toArray ∧ d.K w a cs ∧ good a ∧ bk a ≤ Rows.uptoBulk x := by
  obtain ⟨fuel, hf⟩ := hx
  obtain ⟨a, hK, hg, hb⟩ := h fuel _ _ hf hw
  obtain ⟨cs, rfl⟩ := hv
  exact ⟨cs.toList, a, rfl, hK, hg, hb⟩
theorem weights_at {ts : List TypeId} {ds : List (DataW H)} (h : (DataW.weightsEach P ts ds).all (· ≤ reachBytes) = true) : ∀ n ∈ DataW.weightsEach P ts ds, n ≤ reach := by
  intro n hn
  have := List.all_eq_true.1 h n hn
  rw [← reach_eq]
  simpa using this
end
end Go.Proofs.YtlfoaaeelcmhiaaDoor.Reading
end

section
/- How layer 21's arguments read: commands, rows of them, operations, answers. -/
namespace Go.Proofs.YtlfoaaeelcmhiaaDoor
open Go.RowKit Go.Proofs.YtlfoaaeelcmhiaaDoorW.PrintWords Go.Proofs.YtlfoaaeelcmhiaaDoor.Reading G
set_option linter.unusedVariables false
instance : Inhabited S30 := ⟨z30⟩
instance : Inhabited S50 := ⟨z50⟩
theorem ones_len {α : Type} (bk : α → Nat) (h : ∀ a, 1 ≤ bk a) : ∀ l : List α, l.length ≤ (l.map bk).sum
  | [] => by simp
  | x :: l => by
    have := ones_len bk h l
    have := h x
    simp only [List.length_cons, List.map_cons, List.sum_cons]
    omega
def goodNums (l : List Int) : Prop := (l.length * 8 ≤ reach ∧ l.length ≤ maxLen) ∧ ∀ x ∈ l, (Lit.int .u64 x).wf = true
def good30 (c : S30) : Prop := c.f0.size ≤ reach ∧ goodNums c.f1
def good23 (l : List S30) : Prop := (l.length * 40 ≤ reach ∧ l.length ≤ maxLen) ∧ ∀ c ∈ l, good30 c
def good50 (x : S50) : Prop := (Lit.int .u64 x.f0).wf = true ∧ (Lit.int .u64 x.f1).wf = true
def good42 (l : List S50) : Prop := (l.length * 16 ≤ reach ∧ l.length ≤ maxLen) ∧ ∀ c ∈ l, good50 c
def kOp : Kd (Int × Int × Int) := Kd.pair (Kd.int .i64) (Kd.pair (Kd.int .u64) (Kd.int .u64))
def kAns : Kd (Int × Bool × Int × Int × Int × List S50) := Kd.pair (Kd.int .i64) (Kd.pair Kd.bool (Kd.pair (Kd.int .u64) (Kd.pair (Kd.int .u64) (Kd.pair (Kd.int .i64) (Kd.slice 50 k50)))))
def goodOp (x : Int × Int × Int) : Prop := (Lit.int .i64 x.1).wf = true ∧ (Lit.int .u64 x.2.1).wf = true ∧ (Lit.int .u64 x.2.2).wf = true
def goodAns (x : Int × Bool × Int × Int × Int × List S50) : Prop := (Lit.int .i64 x.1).wf = true ∧ True ∧ (Lit.int .u64 x.2.2.1).wf = true ∧ (Lit.int .u64 x.2.2.2.1).wf = true ∧ (Lit.int .i64 x.2.2.2.2.1).wf = true ∧ good42 x.2.2.2.2.2
section
variable {H : Type} (enc : TypeId × Value → H) (w : World) (base : Nat) (spare : Nat → Bool) (held : Bool)
theorem open28 : Opens enc Tryd.prog w base spare held 28 (Kd.slice 31 (Kd.int .u64)) goodNums (fun l => l.length) :=
  (of_slice Tryd.underlying28 (by kernel_rfl) (by kernel_rfl) (of_int Tryd.underlying31)).imp (fun _ h => h) (fun l => by have := ones_len (fun _ : Int => 1) (fun _ => Nat.le_refl _) l; omega)
theorem open30 : Opens enc Tryd.prog w base spare held 30 k30 good30 (fun c => 1 + c.f0.size + c.f1.length) :=
  (of_iso (fun x : S30 => (x.f0, x.f1)) (fun p => ⟨p.1, p.2⟩) (fun _ => rfl)
    (of_struct Tryd.underlying30 (by kernel_rfl) (by kernel_rfl) (at_cons (of_string Tryd.underlying9) (at_one (open28 enc w base spare held))))).imp (fun _ h => h) (fun c => by show _ ≤ (c.f0.size + 1) + c.f1.length; omega)
theorem open23 : Opens enc Tryd.prog w base spare held 23 (Kd.slice 30 k30) good23 (fun l => l.length) :=
  (of_slice Tryd.underlying23 (by kernel_rfl) (by kernel_rfl) (open30 enc w base spare held)).imp (fun _ h => h) (fun l => by have := ones_len (fun c : S30 => 1 + c.f0.size + c.f1.length) (fun c => by omega) l; omega)
theorem open50 : Opens enc Tryd.prog w base spare held 50 k50 good50 (fun _ => 1) :=
  (of_iso (fun x : S50 => (x.f0, x.f1)) (fun p => ⟨p.1, p.2⟩) (fun _ => rfl)
    (of_struct Tryd.underlying50 (by kernel_rfl) (by kernel_rfl) (at_cons (of_int Tryd.underlying31) (at_one (of_int Tryd.underlying31))))).imp (fun _ h => h) (fun c => by show _ ≤ 1 + 1; omega)
theorem open42 : Opens enc Tryd.prog w base spare held 42 (Kd.slice 50 k50) good42 (fun l => l.length) :=
  (of_slice Tryd.underlying42 (by kernel_rfl) (by kernel_rfl) (open50 enc w base spare held)).imp (fun _ h => h) (fun l => by have := ones_len (fun _ : S50 => 1) (fun _ => Nat.le_refl _) l; omega)
theorem open38 : Opens enc Tryd.prog w base spare held 38 kOp goodOp (fun _ => 1) :=
  (of_struct Tryd.underlying38 (by kernel_rfl) (by kernel_rfl) (at_cons (of_int Tryd.underlying3) (at_cons (of_int Tryd.underlying31) (at_one (of_int Tryd.underlying31))))).imp (fun _ h => h) (fun c => by show _ ≤ 1 + (1 + 1); omega)
theorem open44 : Opens enc Tryd.prog w base spare held 44 kAns goodAns (fun x => x.2.2.2.2.2.length) :=
  (of_struct Tryd.underlying44 (by kernel_rfl) (by kernel_rfl) (at_cons (of_int Tryd.underlying24) (at_cons (of_bool Tryd.underlying4) (at_cons (of_int Tryd.underlying31) (at_cons (of_int Tryd.underlying31) (at_cons (of_int Tryd.underlying3) (at_one (open42 enc w base spare held)))))))).imp (fun _ h => h) (fun c => by show _ ≤ 1 + (1 + (1 + (1 + (1 + c.2.2.2.2.2.length)))); omega)
end
theorem op_form {w : World} {x : Int × Int × Int} {cs : List Value} (h : kOp.K w x cs) : cs = [.int .i64 x.1, .int .u64 x.2.1, .int .u64 x.2.2] := by
  obtain ⟨c1, c2, rfl, h1, c3, c4, rfl, h3, h4⟩ := h
  rw [show c1 = [.int .i64 x.1] from h1, show c3 = [.int .u64 x.2.1] from h3, show c4 = [.int .u64 x.2.2] from h4]
  rfl
theorem ans_form {w : World} {x : Int × Bool × Int × Int × Int × List S50} {cs : List Value} (h : kAns.K w x cs) : ∃ A c, cs = [.int .i64 x.1, .bool x.2.1, .int .u64 x.2.2.1, .int .u64 x.2.2.2.1, .int .i64 x.2.2.2.2.1, .slice A x.2.2.2.2.2.length c] ∧ x.2.2.2.2.2.length ≤ c ∧ Kd.C k50 w A x.2.2.2.2.2.length x.2.2.2.2.2 := by
  obtain ⟨c1, r1, rfl, h1, c2, r2, rfl, h2, c3, r3, rfl, h3, c4, r4, rfl, h4, c5, r5, rfl, h5, A, c, h6, hl, hC⟩ := h
  refine ⟨A, c, ?_, hl, hC⟩
  rw [show c1 = [.int .i64 x.1] from h1, show c2 = [.bool x.2.1] from h2, show c3 = [.int .u64 x.2.2.1] from h3, show c4 = [.int .u64 x.2.2.2.1] from h4, show c5 = [.int .i64 x.2.2.2.2.1] from h5, h6]
  rfl
end Go.Proofs.YtlfoaaeelcmhiaaDoor
end

section
/- Plain laws, on: good commands are the same as themselves. -/
namespace Go.Proofs.YtlfoaaeelcmhiaaDoor
open Go.RowKit Go.Proofs.YtlfoaaeelcmhiaaDoor.Reading G
open Go.Proofs.YtlfoaaeelcmhiaaDoorW.PrintWords hiding nums
set_option linter.unusedVariables false
theorem u64_good {n : Int} (h : (Lit.int .u64 n).wf = true) : Pure.u64ok n := by
  simp [Lit.wf, IntKind.min, IntKind.max, IntKind.signed, IntKind.bits] at h
  exact ⟨by omega, by omega⟩
theorem Pure.empty_text : ((⟨#[]⟩ : ByteArray).toList == ([] : List UInt8)) = true := by rw [toList_bl]; rfl
/-- Rows of commands that are good are the same as themselves. -/
theorem Pure.same_cmds (cs : List Cmd) (h : ∀ c ∈ cs, cmdOK c) (hn : cs.length ≤ 4096) : ∃ K, ∀ k, K ≤ k → inclinelaw21_same.f k (cs.map toS) (cs.map toS) = some true := by
  refine same_self _ (by rw [List.length_map]; omega) (fun c hc => ?_)
  obtain ⟨d, hd, rfl⟩ := List.mem_map.1 hc
  have h1 := (h d hd).2.1
  have h2 := (takesL_range d.1).2
  show d.2.length ≤ _
  omega
end Go.Proofs.YtlfoaaeelcmhiaaDoor
end
