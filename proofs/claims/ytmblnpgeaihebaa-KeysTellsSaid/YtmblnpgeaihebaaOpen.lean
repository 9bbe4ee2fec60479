/- How an argument's reading gives a value of a kind of the print's words: whole numbers, bools, strings, structs, slices, in any depth; with what the row's reach says of its sizes, and its bulk. -/
import Derived.Test.YtmblnpgeaihebaaRows
import Derived.Test.YtmblnpgeaihebaaWWords
import Derived.Deep.Slices
import Derived.Deep.Fields
import Derived.ChangeSame
import Derived.SizedLaws
import Derived.WalkKit
import Derived.ProofKit
namespace Go.Proofs.Ytmblnpgeaihebaa.Reading
open Go.RowKit Go.ChangeShapes Go.WideShapes Go.Deep Go.Proofs.YtmblnpgeaihebaaW.PrintWords
set_option linter.unusedVariables false

def reach : Nat := 140737488351232
theorem reach_eq : reachBytes = reach := by kernel_rfl

section
variable {H : Type} (enc : TypeId × Value → H) (P : Program) (w : World) (base : Nat) (spare : Nat → Bool) (held : Bool)
/-- What reads as data of type t is a value of kind k, of which 'good' holds, and whose bulk is at most the datum's. -/
def Opens {α : Type} (t : TypeId) (k : Kd α) (good : α → Prop) (bk : α → Nat) : Prop :=
  ∀ (fuel : Nat) (cs : List Value) (x : DataW H × List MemPlace), DataW.trod enc P w base spare held fuel t cs = some x → (∀ n ∈ DataW.weights P t x.1, n ≤ reach) → ∃ a, k.K w a cs ∧ good a ∧ bk a ≤ Rows.uptoBulk x.1
/-- The same of cells in line, a list of types. -/
def OpensAt {α : Type} (ts : List TypeId) (k : Kd α) (good : α → Prop) (bk : α → Nat) : Prop :=
  ∀ (fuel : Nat) (css : List (List Value)) (xs : List (DataW H × List MemPlace)), css.length = ts.length → xs.length = ts.length →
    (∀ (i : Nat) (t : TypeId) (c : List Value) (x : DataW H × List MemPlace), ts[i]? = some t → css[i]? = some c → xs[i]? = some x → DataW.trod enc P w base spare held fuel t c = some x) → (∀ n ∈ DataW.weightsEach P ts (xs.map (·.1)), n ≤ reach) →
    ∃ a, k.K w a css.flatten ∧ good a ∧ bk a ≤ Rows.uptoBulkAll (xs.map (·.1))
end

section
variable {H : Type} {enc : TypeId × Value → H} {P : Program} {w : World} {base : Nat} {spare : Nat → Bool} {held : Bool}
theorem of_int {t : TypeId} {k : IntKind} (ht : P.underlying t = some (.int k)) : Opens enc P w base spare held t (Kd.int k) (fun n => (Lit.int k n).wf = true) (fun _ => 1) := by
  intro fuel cs x h _
  obtain ⟨n, rfl, rfl, hw⟩ := DataW.trod_int ht h
  exact ⟨n, rfl, hw, by simp [Rows.uptoBulk]⟩
theorem of_bool {t : TypeId} (ht : P.underlying t = some .bool) : Opens enc P w base spare held t Kd.bool (fun _ => True) (fun _ => 1) := by
  intro fuel cs x h _
  obtain ⟨n, rfl, rfl⟩ := DataW.trod_bool ht h
  exact ⟨n, rfl, trivial, by simp [Rows.uptoBulk]⟩
theorem of_string {t : TypeId} (ht : P.underlying t = some .string) : Opens enc P w base spare held t Kd.string (fun s => s.size ≤ reach) (fun s => s.size + 1) := by
  intro fuel cs x h hw
  obtain ⟨s, rfl, rfl, _⟩ := DataW.trod_string ht h
  have e : s.data.toList.length = s.size := by rw [Array.length_toList]; rfl
  exact ⟨s, rfl, by have := hw s.data.toList.length (by simp [DataW.weights]); omega, by simp only [Rows.uptoBulk]; omega⟩
theorem of_iso {α β : Type} {t : TypeId} {k : Kd α} {good : α → Prop} {bk : α → Nat} (f : β → α) (mk : α → β) (hf : ∀ a, f (mk a) = a) (h : Opens enc P w base spare held t k good bk) :
    Opens enc P w base spare held t (Kd.iso k f) (fun b => good (f b)) (fun b => bk (f b)) := by
  intro fuel cs x hx hw
  obtain ⟨a, hK, hg, hb⟩ := h fuel cs x hx hw
  refine ⟨mk a, ?_, ?_, ?_⟩
  · show k.K w (f (mk a)) cs
    rw [hf]; exact hK
  · show good (f (mk a))
    rw [hf]; exact hg
  · show bk (f (mk a)) ≤ _
    rw [hf]; exact hb
theorem Opens.imp {α : Type} {t : TypeId} {k : Kd α} {good good' : α → Prop} {bk bk' : α → Nat} (h : Opens enc P w base spare held t k good bk) (hg : ∀ a, good a → good' a) (hb : ∀ a, bk' a ≤ bk a) :
    Opens enc P w base spare held t k good' bk' := fun fuel cs x hx hw => by
  obtain ⟨a, hK, h1, h2⟩ := h fuel cs x hx hw
  exact ⟨a, hK, hg a h1, Nat.le_trans (hb a) h2⟩
theorem at_one {α : Type} {t : TypeId} {k : Kd α} {good : α → Prop} {bk : α → Nat} (h : Opens enc P w base spare held t k good bk) : OpensAt enc P w base spare held [t] k good bk := by
  intro fuel css xs hc hx hh hw
  match css, xs, hc, hx with
  | [c], [x], _, _ =>
    obtain ⟨a, hK, hg, hb⟩ := h fuel c x (hh 0 t c x rfl rfl rfl) (fun n hn => hw n (by simpa [DataW.weightsEach] using hn))
    exact ⟨a, by simpa using hK, hg, by simp only [List.map_cons, List.map_nil, Rows.uptoBulkAll]; omega⟩
theorem at_cons {α β : Type} {t : TypeId} {ts : List TypeId} {k : Kd α} {good : α → Prop} {bk : α → Nat} {k' : Kd β} {good' : β → Prop} {bk' : β → Nat} (h : Opens enc P w base spare held t k good bk) (h' : OpensAt enc P w base spare held ts k' good' bk') :
    OpensAt enc P w base spare held (t :: ts) (Kd.pair k k') (fun x => good x.1 ∧ good' x.2) (fun x => bk x.1 + bk' x.2) := by
  intro fuel css xs hc hx hh hw
  match css, xs, hc, hx with
  | c :: css, x :: xs, hc, hx =>
    obtain ⟨a, hK, hg, hb⟩ := h fuel c x (hh 0 t c x rfl rfl rfl) (fun n hn => hw n (by simp only [List.map_cons, DataW.weightsEach]; exact List.mem_append_left _ hn))
    obtain ⟨a', hK', hg', hb'⟩ := h' fuel css xs (by simpa using hc) (by simpa using hx) (fun i t' c' x' h1 h2 h3 => hh (i + 1) t' c' x' (by simpa using h1) (by simpa using h2) (by simpa using h3)) (fun n hn => hw n (by simp only [List.map_cons, DataW.weightsEach]; exact List.mem_append_right _ hn))
    exact ⟨(a, a'), ⟨c, css.flatten, by simp, hK, hK'⟩, ⟨hg, hg'⟩, by simp only [List.map_cons, Rows.uptoBulkAll]; omega⟩

/-- The fields lie one behind the other. -/
def inLine (P : Program) : Nat → List Field → Bool
  | _, [] => true
  | o, f :: fs => f.offset == o && inLine P (o + P.cellsOf f.type) fs
def widths (P : Program) : List Field → Nat
  | [] => 0
  | f :: fs => P.cellsOf f.type + widths P fs
theorem cut_flat (cs : List Value) : ∀ (fs : List Field) (o : Nat), inLine P o fs = true → (fs.map fun f => (cs.drop f.offset).take (P.cellsOf f.type)).flatten = (cs.drop o).take (widths P fs)
  | [], o, _ => by simp [widths]
  | f :: fs, o, h => by
    simp only [inLine, Bool.and_eq_true, beq_iff_eq] at h
    rw [List.map_cons, List.flatten_cons, cut_flat cs fs _ h.2, h.1, widths, List.take_add, ← List.drop_drop]
theorem of_struct {α : Type} {t : TypeId} {fs : Array Field} {k : Kd α} {good : α → Prop} {bk : α → Nat} (ht : P.underlying t = some (.struct fs)) (hl : inLine P 0 fs.toList = true) (hc : P.cellsOf t = widths P fs.toList)
    (h : OpensAt enc P w base spare held (fs.toList.map (·.type)) k good bk) : Opens enc P w base spare held t k good bk := by
  intro fuel cs x hx hw
  obtain ⟨xs, n, _, rfl, hcl, hxl, hf⟩ := DataW.trod_struct ht hx
  have hw' : ∀ m ∈ DataW.weightsEach P (fs.toList.map (·.type)) (xs.map (·.1)), m ≤ reach := fun m hm => hw m (by simp only [DataW.weights, ht]; exact hm)
  obtain ⟨a, hK, hg, hb⟩ := h n (fs.toList.map fun f => (cs.drop f.offset).take (P.cellsOf f.type)) xs (by simp) (by simpa using hxl) (fun i t' c x' h1 h2 h3 => by
    rw [List.getElem?_map] at h1 h2
    obtain ⟨f, hf1, rfl⟩ := Option.map_eq_some_iff.1 h1
    rw [hf1] at h2
    obtain rfl := Option.some.inj h2
    rw [hf i f (by simpa using hf1)]
    exact h3) hw'
  rw [cut_flat cs fs.toList 0 hl, List.drop_zero, List.take_of_length_le (by omega)] at hK
  exact ⟨a, hK, hg, by simp only [Rows.uptoBulk]; omega⟩

theorem bulk_append (l r : List (DataW H)) : Rows.uptoBulkAll (l ++ r) = Rows.uptoBulkAll l + Rows.uptoBulkAll r := by
  induction l with
  | nil => simp [Rows.uptoBulkAll]
  | cons x l ih => simp only [List.cons_append, Rows.uptoBulkAll, ih]; omega
theorem bulk_range {α : Type} (D : Nat → DataW H) (f : Nat → α) (bk : α → Nat) : ∀ n, (∀ i, i < n → bk (f i) ≤ Rows.uptoBulk (D i)) → (((List.range n).map f).map bk).sum ≤ Rows.uptoBulkAll ((List.range n).map D)
  | 0, _ => by simp
  | n + 1, h => by
    have ih := bulk_range D f bk n (fun i hi => h i (by omega))
    have h0 := h n (by omega)
    rw [List.range_succ, List.map_append, List.map_append, List.map_append, List.sum_append, bulk_append]
    simp only [List.map_cons, List.map_nil, List.sum_cons, List.sum_nil, Rows.uptoBulkAll]
    omega
theorem weightsAll_append (e : TypeId) (l r : List (DataW H)) : DataW.weightsAll P e (l ++ r) = DataW.weightsAll P e l ++ DataW.weightsAll P e r := by
  induction l with
  | nil => simp [DataW.weightsAll]
  | cons x l ih => simp only [List.cons_append, DataW.weightsAll, ih, List.append_assoc]
theorem weightsAll_mem (e : TypeId) (l : List (DataW H)) {d : DataW H} (h : d ∈ l) {n : Nat} (hn : n ∈ DataW.weights P e d) : n ∈ DataW.weightsAll P e l := by
  induction l with
  | nil => cases h
  | cons x l ih =>
    simp only [DataW.weightsAll]
    rcases List.mem_cons.1 h with rfl | h
    · exact List.mem_append_left _ hn
    · exact List.mem_append_right _ (ih h)

/-- A slice: as long as the reach allows; each element good. -/
theorem of_slice {α : Type} [Inhabited α] {t e : TypeId} {B : Nat} {d : Kd α} {good : α → Prop} {bk : α → Nat} (ht : P.underlying t = some (.slice e)) (hB : P.bytesOf e = B) (hsz : P.cellsOf e = d.sz) (h : Opens enc P w base spare held e d good bk) :
    Opens enc P w base spare held t (Kd.slice e d) (fun xs => (xs.length * B ≤ reach ∧ xs.length ≤ maxLen) ∧ ∀ x ∈ xs, good x) (fun xs => (xs.map bk).sum + 1) := by
  intro fuel cs x hx hw
  rcases open_slice ht hx with ⟨rfl, rfl⟩ | ⟨a, len, cap, m, n, D, Pl, rfl, hb, hl, hm, hmm, rfl, hi⟩
  · exact ⟨[], ⟨none, 0, rfl, Nat.le_refl _, ⟨rfl, by simp, fun hp => absurd hp (by simp)⟩⟩, ⟨⟨by simp, Nat.zero_le _⟩, fun x hx => by cases hx⟩, by simp [Rows.uptoBulk]⟩
  · have hlm : len ≤ m := by rw [hmm]; split <;> omega
    have hwm : ∀ i, i < len → ∀ q ∈ DataW.weights P e (D i), q ≤ reach := fun i hi' q hq => hw q (by
      simp only [DataW.weights, ht]
      refine List.mem_cons_of_mem _ (List.mem_append_left _ (weightsAll_mem e _ (d := D i) ?_ hq))
      exact List.mem_map.2 ⟨i, List.mem_range.2 hi', rfl⟩)
    have hA : ∀ i, i < len → ∃ v : α, (∃ c, c.length = d.sz ∧ d.K w v c ∧ ∀ j u, c[j]? = some u → w.cell? (a.add (i * d.sz + j)) = some u) ∧ good v ∧ bk v ≤ Rows.uptoBulk (D i) := by
      intro i hi'
      obtain ⟨cs', h1, h2⟩ := hi i (by omega)
      obtain ⟨v, hK, hg, hbk⟩ := h n cs' _ h2 (hwm i hi')
      obtain ⟨_, hcl, hat⟩ := World.cells?_some h1
      rw [hsz] at hcl hat
      refine ⟨v, ⟨cs', hcl, hK, fun j u hu => ?_⟩, hg, hbk⟩
      have hj : j < d.sz := by have := (List.getElem?_eq_some_iff.1 hu).1; omega
      rw [← Go.Deep.add_add, hat j hj, hu]
    obtain ⟨f, hf⟩ := choose_lt hA
    have hlen : ((List.range len).map f).length = len := by simp
    have hweight : len * B ≤ reach := by
      have h3 := hw ((((List.range len).map D).length + ((List.range (m - len)).map fun j => D (len + j)).length) * P.bytesOf e) (by simp [DataW.weights, ht])
      rw [hB] at h3
      refine Nat.le_trans (Nat.mul_le_mul_right B ?_) h3
      simp
    refine ⟨(List.range len).map f, ⟨some a, cap, by rw [hlen], by rw [hlen]; exact hl, ?_⟩, ⟨⟨by rw [hlen]; exact hweight, by rw [hlen]; omega⟩, ?_⟩, ?_⟩
    · rw [hlen]
      refine ⟨hlen, by unfold maxLen at hm; omega, fun _ => ⟨a, rfl, fun j p hj => ?_⟩⟩
      have hj' : j < len := by have := (List.getElem?_eq_some_iff.1 hj).1; omega
      rw [List.getElem?_map, List.getElem?_range hj'] at hj
      obtain rfl := Option.some.inj hj
      exact (hf j hj').1
    · intro x hx
      obtain ⟨i, hi', rfl⟩ := List.mem_map.1 hx
      exact (hf i (List.mem_range.1 hi')).2.1
    · have := bulk_range D f bk len (fun i hi' => (hf i hi').2.2)
      simp only [Rows.uptoBulk]
      omega

/-- The slice's own value. -/
theorem slice_top {α : Type} {t e : TypeId} {d : Kd α} {good : List α → Prop} {bk : List α → Nat} {v : Value} {x : DataW H} {ps : List MemPlace} (hv : ∃ a n c, v = .slice a n c)
    (h : Opens enc P w base spare held t (Kd.slice e d) good bk) (hx : DataW.Trod enc P w base spare held t v x ps) (hw : ∀ n ∈ DataW.weights P t x, n ≤ reach) :
    ∃ (A : Option Addr) (c : Nat) (l : List α), v = .slice A l.length c ∧ l.length ≤ c ∧ Kd.C d w A l.length l ∧ good l ∧ bk l ≤ Rows.uptoBulk x := by
  obtain ⟨fuel, hf⟩ := hx
  obtain ⟨l, ⟨A, c, hc, hl, hC⟩, hg, hb⟩ := h fuel _ _ hf hw
  obtain ⟨a, n, q, rfl⟩ := hv
  simp only [Value.cells, List.cons.injEq, and_true] at hc
  exact ⟨A, c, l, hc, hl, hC, hg, hb⟩
theorem okWide_slice' {r : Reach} {b0 : Nat} {t e : TypeId} {v : Value} (ht : P.underlying t = some (.slice e)) (h : Value.okWide P w r b0 t v) : ∃ a n c, v = .slice a n c := okWide_slice ht h
theorem okWide_struct' {r : Reach} {b0 : Nat} {t : TypeId} {fs : Array Field} {v : Value} (ht : P.underlying t = some (.struct fs)) (h : Value.okWide P w r b0 t v) : ∃ cs, v = .agg cs := by
  obtain ⟨cs, h, _⟩ := okWide_struct ht h
  exact ⟨cs, h⟩
/-- A struct's own value. -/
theorem agg_top {α : Type} {t : TypeId} {d : Kd α} {good : α → Prop} {bk : α → Nat} {v : Value} {x : DataW H} {ps : List MemPlace} (hv : ∃ cs, v = .agg cs)
    (h : Opens enc P w base spare held t d good bk) (hx : DataW.Trod enc P w base spare held t v x ps) (hw : ∀ n ∈ DataW.weights P t x, n ≤ reach) :
    ∃ (cs : List Value) (a : α), v = .agg cs.toArray ∧ d.K w a cs ∧ good a ∧ bk a ≤ Rows.uptoBulk x := by
  obtain ⟨fuel, hf⟩ := hx
  obtain ⟨a, hK, hg, hb⟩ := h fuel _ _ hf hw
  obtain ⟨cs, rfl⟩ := hv
  exact ⟨cs.toList, a, rfl, hK, hg, hb⟩
theorem weights_at {ts : List TypeId} {ds : List (DataW H)} (h : (DataW.weightsEach P ts ds).all (· ≤ reachBytes) = true) : ∀ n ∈ DataW.weightsEach P ts ds, n ≤ reach := by
  intro n hn
  have := List.all_eq_true.1 h n hn
  rw [← reach_eq]
  simpa using this
end
end Go.Proofs.Ytmblnpgeaihebaa.Reading
