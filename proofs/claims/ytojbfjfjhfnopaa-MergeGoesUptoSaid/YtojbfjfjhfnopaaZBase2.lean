/- Some of the claim's own texts, in one file: GatherI, HeapGI, HeapTI, MergeSI, MergeHI, MergeRI, MergeEI, PartsI, ShownI, Gx1, Gx10, ShownG, Open, Kinds, Gx13, Gx14, Gx15, Gx16, PlainK. Conditions: each theorem's own. -/
import Derived.Test.YtojbfjfjhfnopaaZBase1
import Derived.Deep.RegionHeld3
import Derived.Deep.QuietTactic
import Derived.BigQuiet
import Derived.BigRegion
import Derived.Deep.LoopGhost
import Derived.WalkSpells
import Derived.StillTactics
import Derived.KernelRfl
import Derived.Lib.Hide
import Derived.Deep.DeepCutAuto
import Derived.Deep.CutBlock
import Derived.Maps.AppendAt
import Derived.Laws.OwnMore
import Derived.Deep.OwnRows
import Derived.Laws.Slices
import Derived.RowKit3
import Derived.WideLaws
import Derived.OrdersHeld
import Derived.RowKit
import Derived.Deep.RegionLaw
import Derived.Maps.OwnIn
import Derived.Deep.DeepMust
import Derived.Laws.EntriesVeiled
import Derived.Test.YtojbfjfjhfnopaaRows
import Derived.Test.YtojbfjfjhfnopaaWWords
import Derived.Deep.Slices
import Derived.Deep.Fields
import Derived.ChangeSame
import Derived.SizedLaws
import Derived.WalkKit
import Derived.ProofKit
section
/- What is kept while a list is gathered ('all = append(all, x)' in a range over a function), at entries. -/
namespace Go.Proofs.Ytojbfjfjhfnopaa.MergeI
open Go.RowKit Go.Shelf RangeD SeqI HeapL
set_option linter.unusedVariables false
section
variable {α : Type} (ek : α → Int) (ev : α → Int)
def ecells (ek : α → Int) (ev : α → Int) (x : α) : List Value := [.int .i64 (ev x)]
def erow (ek : α → Int) (ev : α → Int) (xs : List α) : List Value := xs.flatMap (ecells ek ev)
theorem erow_snoc (xs : List α) (x : α) : erow ek ev (xs ++ [x]) = erow ek ev xs ++ ecells ek ev x := by simp [erow]
theorem erow_length (xs : List α) : (erow ek ev xs).length = xs.length * 1 := by
  induction xs with
  | nil => rfl
  | cons x l ih =>
    have e : erow ek ev (x :: l) = ecells ek ev x ++ erow ek ev l := rfl
    rw [e, List.length_append, ih]
    simp [ecells]
    omega
theorem erow_get (xs : List α) : ∀ (j r : Nat) (x : α), xs[j]? = some x → r < 1 → (erow ek ev xs)[j * 1 + r]? = (ecells ek ev x)[r]? := by
  induction xs with
  | nil => intro j r x h; simp at h
  | cons y l ih =>
    intro j r x h hr
    have e : erow ek ev (y :: l) = ecells ek ev y ++ erow ek ev l := rfl
    have hl : (ecells ek ev y).length = 1 := rfl
    rw [e]
    cases j with
    | zero =>
      simp only [List.getElem?_cons_zero, Option.some.injEq] at h
      subst h
      rw [List.getElem?_append_left (by omega), Nat.zero_mul, Nat.zero_add]
    | succ j =>
      rw [List.getElem?_append_right (by omega), hl, show (j + 1) * 1 + r - 1 = j * 1 + r from by omega]
      exact ih j r x (by simpa using h) hr
theorem ownsRow_keep {w w' : World} {base e size n : Nat} {v : Value} {xs : List Value} (h : w.ownsRow base e size v n xs) (hk : ∀ k, v.ownBlock = some k → w'.heap[k]? = w.heap[k]?) : w'.ownsRow base e size v n xs := by
  refine ⟨h.1, ?_⟩
  rcases h.2 with hn | ⟨g, cap, cur, rfl, hb, hgg, rest⟩
  · exact .inl hn
  · exact .inr ⟨g, cap, cur, rfl, hb, (hk g (by simp [Value.ownBlock])).trans hgg, rest⟩
/-- A row of one's own, read. -/
theorem cellsAt_of_own {w : World} {base g cap : Nat} {xs : List α} {n : Nat} (h : w.ownsRow base 3 1 (.slice (some ⟨g, 0, none⟩) n cap) n (erow ek ev xs)) : CellsAt ek ev w g 0 xs := by
  have hc := h.cells (g := g) (by simp [Value.ownBlock])
  have hadd : ∀ j, (⟨g, 0, none⟩ : Addr).add j = ⟨g, j, none⟩ := fun j => by unfold Addr.add; split <;> simp_all
  intro j x hj
  rw [Nat.zero_add]
  have := hc (j * 1 + 0) _ ((erow_get ek ev xs j 0 x hj (by omega)).trans rfl)
  rw [hadd] at this
  simpa using this
/-- While the list is gathered: X is the world at the range's begin, a7 the cell of 'all'. -/
structure GI (X : World) (a7 : Nat) (pre : List α) (T : Blocks) (Y : World) : Prop where
  os : Y.os = X.os
  tape : Y.tape = X.tape
  output : Y.output = X.output
  size : X.heap.size ≤ Y.heap.size
  same : ∀ k, k < X.heap.size → k ≠ a7 → Y.heap[k]? = X.heap[k]?
  own : ∀ k, T k → X.heap.size ≤ k ∧ k < Y.heap.size
  row : ∃ v, Y.heap[a7]? = some (.cells #[v] 73 (0, 0)) ∧ Y.ownsRow X.heap.size 3 1 v pre.length (erow ek ev pre) ∧ ∀ k, v.ownBlock = some k → ¬ T k
variable {ek ev}
theorem GI.start {X : World} {a7 : Nat} (h : X.heap[a7]? = some (.cells #[.slice none 0 0] 73 (0, 0))) : GI ek ev X a7 [] (fun _ => False) X :=
  ⟨rfl, rfl, rfl, Nat.le_refl _, fun _ _ _ => rfl, fun _ h => h.elim, _, h, World.ownsRow_nil X _ 3 1, fun _ _ h => h⟩
theorem GI.lt {X : World} {a7 : Nat} {pre : List α} {T : Blocks} {Y : World} (h : GI ek ev X a7 pre T Y) : a7 < Y.heap.size := by
  obtain ⟨v, hb, _⟩ := h.row
  exact (Array.getElem?_eq_some_iff.1 hb).1
theorem GI.abide {X : World} {a7 : Nat} (ha : a7 < X.heap.size) : Abide (GI ek ev X a7) := by
  intro pre T T' A A' h ht
  have hsz := ht.size
  obtain ⟨v, h1, h2, h3⟩ := h.row
  refine ⟨ht.os.trans h.os, ht.tape.trans h.tape, ht.output.trans h.output, Nat.le_trans h.size ht.size, fun k hk hn => ?_, fun k hk => ?_, v, ?_, ?_, fun k hk hT => ?_⟩
  · have hs := h.size
    exact (ht.same k (by omega) (fun hT => by have := (h.own k hT).1; omega)).trans (h.same k hk hn)
  · rcases ht.new k hk with hk | hk
    · have := h.own k hk; omega
    · have hs := h.size; omega
  · exact (ht.same a7 (Array.getElem?_eq_some_iff.1 h1).1 (fun hT => by have := (h.own a7 hT).1; omega)).trans h1
  · exact ownsRow_keep h2 (fun k hk => ht.same k (h2.lt k hk).2 (h3 k hk))
  · rcases ht.new k hT with hT | hT
    · exact h3 k hk hT
    · have := (h2.lt k hk).2; omega
theorem GI.ownT {X : World} {a7 : Nat} (ha : a7 < X.heap.size) : OwnT X.heap.size (GI ek ev X a7) := by
  intro T pre Y Y' row h hg hr
  obtain ⟨v, h1, h2, h3⟩ := h.row
  refine ⟨hg.os.trans h.os, hg.tape.trans h.tape, hg.output.trans h.output, Nat.le_trans h.size hg.size, fun k hk hn => ?_, fun k hk => ⟨(h.own k hk).1, Nat.lt_of_lt_of_le (h.own k hk).2 hg.size⟩, v, ?_, ?_, h3⟩
  · have hs := h.size
    exact (hg.block k (by omega) (fun e => by have := (hr k e.symm).1; omega)).trans (h.same k hk hn)
  · exact (hg.block a7 (Array.getElem?_eq_some_iff.1 h1).1 (fun e => by have := (hr a7 e.symm).1; omega)).trans h1
  · refine ownsRow_keep h2 (fun k hk => hg.block k (h2.lt k hk).2 (fun e => ?_))
    obtain ⟨_, o, ho, hc⟩ := hr k e.symm
    rcases h2.2 with ⟨rfl, _⟩ | ⟨g, cap, cur, rfl, hb, hgg, rest⟩
    · simp [Value.ownBlock] at hk
    · have : g = k := by simpa [Value.ownBlock] using hk
      subst this
      rw [ho] at hgg
      injection hgg with hgg
      subst hgg
      cases hc
/-- The thing is appended: W1 is what append leaves, its new thing having lain in a block of its own. -/
theorem GI.next {X : World} {a7 : Nat} (ha : a7 < X.heap.size) {pre : List α} {T : Blocks} {Y W1 : World} {v v' : Value} {x : α} {o : Obj} (h : GI ek ev X a7 pre T Y)
    (hv : Y.heap[a7]? = some (.cells #[v] 73 (0, 0))) (ht : ∀ k, v.ownBlock = some k → ¬ T k ∧ X.heap.size ≤ k) (h1 : W1.ownsRow X.heap.size 3 1 v' (pre.length + 1) (erow ek ev pre ++ [.int .i64 (ev x)])) (h2 : (Y.alloc o).grownBy W1 v.ownBlock) (h3 : v'.ownBlock = v.ownBlock ∨ v'.ownBlock = some (Y.alloc o).heap.size) :
    GI ek ev X a7 (pre ++ [x]) T (W1.setCell ⟨a7, 0, none⟩ v') ∧ KeepsFrom X.heap.size Y (W1.setCell ⟨a7, 0, none⟩ v') ∧ ∀ D : Blocks, (∀ k, D k → k < X.heap.size ∧ k ≠ a7) → Same (fun k => D k ∨ T k) Y (W1.setCell ⟨a7, 0, none⟩ v') := by
  have hs := h.size
  have hs1 : Y.heap.size + 1 ≤ W1.heap.size := by have := h2.size; simpa using this
  have hb : ∀ k, k < Y.heap.size → v.ownBlock ≠ some k → k ≠ a7 → (W1.setCell ⟨a7, 0, none⟩ v').heap[k]? = Y.heap[k]? := fun k hk hn hn2 =>
    (Below.heap_setCell W1 ⟨a7, 0, none⟩ v' k hn2).trans ((h2.block k (by simp; omega) (fun e => hn e.symm)).trans (Below.heap_alloc Y o k hk))
  have hsz : (W1.setCell ⟨a7, 0, none⟩ v').heap.size = W1.heap.size := by simp [World.setCell]
  have ha7 : v.ownBlock ≠ some a7 := fun e => by have := (ht a7 e).2; omega
  have hlt7 := h.lt
  have hW7 : W1.heap[a7]? = some (.cells #[v] 73 (0, 0)) := ((h2.block a7 (by simp; omega) (fun e => ha7 e.symm)).trans (Below.heap_alloc Y o a7 hlt7)).trans hv
  refine ⟨⟨h2.os.trans h.os, h2.tape.trans h.tape, h2.output.trans h.output, by omega, fun k hk hn => ?_, fun k hk => ⟨(h.own k hk).1, by have := (h.own k hk).2; omega⟩, v', ?_, ?_, fun k hk => ?_⟩, ⟨by omega, fun k ob hk ho hc => ?_⟩, fun D hD k hk hl => ?_⟩
  · exact (hb k (by omega) (fun e => by have := (ht k e).2; omega) hn).trans (h.same k hk hn)
  · exact (setCell_blk hW7 v').trans rfl
  · rw [erow_snoc, List.length_append]
    refine ownsRow_keep h1 (fun k hk => Below.heap_setCell W1 ⟨a7, 0, none⟩ v' k (fun e => ?_))
    have := (h1.lt k hk).1
    simp at e
    omega
  · rcases h3 with h3 | h3
    · exact (ht k (by rw [← h3]; exact hk)).1
    · intro hT
      rw [h3] at hk
      injection hk with hk
      have := (h.own k hT).2
      rw [World.size_alloc] at hk
      omega
  · have hkl : k < Y.heap.size := (Array.getElem?_eq_some_iff.1 ho).1
    refine (hb k hkl (fun e => ?_) (by omega)).trans ho
    obtain ⟨v2, q1, q2, q3⟩ := h.row
    rw [hv] at q1
    injection q1 with q1
    injection q1 with q1
    have : v = v2 := by simpa using q1
    subst this
    rcases q2.2 with ⟨rfl, _⟩ | ⟨g, cap, cur, rfl, hb2, hgg, rest⟩
    · simp [Value.ownBlock] at e
    · have : g = k := by simpa [Value.ownBlock] using e
      subst this
      rw [ho] at hgg
      injection hgg with hgg
      subst hgg
      cases hc
  · rcases hk with hk | hk
    · have := hD k hk
      exact hb k hl (fun e => by have := (ht k e).2; omega) this.2
    · have := h.own k hk
      exact hb k hl (fun e => (ht k e).1 hk) (by omega)
end
end Go.Proofs.Ytojbfjfjhfnopaa.MergeI
end

section
/- merge.heap at entries: less, put, take. -/
namespace Go.Proofs.Ytojbfjfjhfnopaa.HeapI
open Go.RowKit HeapL
set_option linter.unusedVariables false
theorem box2 (w : World) (o : Obj) (cs : Array Value) (t : TypeId) : ((w.alloc o).alloc (.cells cs t)).drew.heap[w.heap.size + 1]? = some (.cells cs t (0, 0)) := by
  have := heap_alloc_new (w.alloc o) (.cells cs t)
  rw [World.size_alloc] at this
  exact this
theorem box_frozen {w : World} {hb : Nat} {cs : Array Value} {t : TypeId} (h : w.heap[hb]? = some (.cells cs t (0, 0))) (o o2 : Obj) : ((w.alloc o).alloc o2).drew.frozen? ⟨hb, 0, none⟩ = false := by
  have hlt : hb < w.heap.size := (Array.getElem?_eq_some_iff.1 h).1
  have : ((w.alloc o).alloc o2).drew.heap[hb]? = some (.cells cs t (0, 0)) := (Below.heap_alloc (w.alloc o) o2 hb (by simp; omega)).trans ((Below.heap_alloc w o hb hlt).trans h)
  simp [World.frozen?, this]
theorem drew_heap {w : World} {k : Nat} {o : Option Obj} (h : w.heap[k]? = o) : w.drew.heap[k]? = o := h
theorem info101 : (Try.prog.info? 101).map (fun i => (i.zero, i.size, i.bytes)) = some (some (.agg #[.int .u64 0, .int .i64 0, .slice none 0 0]), 3, 40) := by kernel_rfl
theorem box_cell {w : World} {hb : Nat} {a : Value} {t : TypeId} (h : w.heap[hb]? = some (.cells #[a] t (0, 0))) (o o2 : Obj) : ((w.alloc o).alloc o2).drew.cell? ⟨hb, 0, none⟩ = some a := by
  have hlt : hb < w.heap.size := (Array.getElem?_eq_some_iff.1 h).1
  have : ((w.alloc o).alloc o2).drew.heap[hb]? = some (.cells #[a] t (0, 0)) := (Below.heap_alloc (w.alloc o) o2 hb (by simp; omega)).trans ((Below.heap_alloc w o hb hlt).trans h)
  rw [cell_of_row _ hb 0 _ _ _ this]
  rfl
/-- What the append into the heap's field leaves. -/
def Put0 (w : World) (hb base : Nat) (v : Value) (l : List Hd) (v' : Value) (W : World) : Prop :=
  W.heap[hb]? = some (.cells #[v'] 98 (0, 0)) ∧ HRow W base 101 v' l ∧ (v'.ownBlock = v.ownBlock ∨ ∃ b, v'.ownBlock = some b ∧ w.heap.size ≤ b) ∧ v'.ownBlock ≠ some hb ∧ Turns (fun k => k = hb ∨ v.ownBlock = some k) w W
theorem put0 {w w1 : World} {hb base gg cap : Nat} {v : Value} {l : List Hd} {x : Hd} {o o2 : Obj} (hx : x.rest.oneCell' = true) (hh : w.heap[hb]? = some (.cells #[v] 98 (0, 0))) (hr : HRow w base 101 v l) (hne : v.ownBlock ≠ some hb)
    (hown1 : w1.ownsRow base 101 3 (.slice (some ⟨gg, 0, none⟩) (l.length + 1) cap) (l.length + 1) (rowCells l ++ [.int .u64 x.key, .int .i64 x.frm, .slice x.ad x.len x.cap])) (hgrow : ((w.alloc o).alloc o2).drew.grownBy w1 v.ownBlock) (hat : v.ownBlock = some gg ∨ gg = w.heap.size + 2) :
    Put0 w hb base v (l ++ [x]) (.slice (some ⟨gg, 0, none⟩) (l.length + 1) cap) (w1.setCell ⟨hb, 0, none⟩ (.slice (some ⟨gg, 0, none⟩) (l.length + 1) cap)) := by
  have hlt : hb < w.heap.size := (Array.getElem?_eq_some_iff.1 hh).1
  have hb1 : w1.heap[hb]? = some (.cells #[v] 98 (0, 0)) := (hgrow.block hb (by show hb < ((w.alloc o).alloc o2).heap.size; simp; omega) (Ne.symm hne)).trans ((Below.heap_alloc (w.alloc o) o2 hb (by simp; omega)).trans ((Below.heap_alloc w o hb hlt).trans hh))
  have hgg : gg ≠ hb := by
    rcases hat with h | h
    · intro e; subst e; exact hne h
    · omega
  refine ⟨(setCell_blk hb1 _).trans rfl, (HRow.more hx hr.2 hown1).keep (fun k hk => ?_), ?_, ?_, ?_⟩
  · simp [Value.ownBlock] at hk
    subst hk
    exact Below.heap_setCell w1 ⟨hb, 0, none⟩ _ gg hgg
  · rcases hat with h | h
    · exact .inl (by rw [h]; rfl)
    · exact .inr ⟨gg, rfl, by omega⟩
  · simp [Value.ownBlock]; exact hgg
  · refine Turns.set ?_ (fun _ => .inl rfl) _
    have h1 : Turns (fun k => k = hb ∨ v.ownBlock = some k) w ((w.alloc o).alloc o2).drew := (((Turns.refl _ w).alloc o).alloc o2).drew
    exact h1.trans (Turns.of_grown (T := fun k => v.ownBlock = some k) hgrow (fun k hk => hk)) (fun j hj _ => .inr hj)
set_option maxRecDepth 100000 in
theorem less_calls (a b : Hd) (w : World) : Calls Try.prog 61 #[.agg #[.int .u64 a.key, .int .i64 a.frm, .slice a.ad a.len a.cap], .agg #[.int .u64 b.key, .int .i64 b.frm, .slice b.ad b.len b.cap]] w fun e w' => e = .returned (.bool (decide (a.Lt b))) ∧ Below w.heap.size w w' := by
  obtain ⟨ak, af, aa, an, ac⟩ := a
  obtain ⟨bk, bf, ba, bn, bc⟩ := b
  by_cases h1 : ak < bk
  · have hd1 : decide (ak < bk) = true := decide_eq_true h1
    rw [show decide (Hd.Lt ⟨ak, af, aa, an, ac⟩ ⟨bk, bf, ba, bn, bc⟩) = true from decide_eq_true (.inl h1)]
    go_enter Try.func61, Try.ntmps61
    go_wp2
    go_ret
    exact ⟨rfl, ((Below.refl _ _).alloc (Nat.le_refl _) _).alloc (by simp) _⟩
  · have hd1 : decide (ak < bk) = false := decide_eq_false h1
    by_cases h2 : ak = bk
    · have hd2 : (ak == bk) = true := beq_iff_eq.2 h2
      rw [show decide (Hd.Lt ⟨ak, af, aa, an, ac⟩ ⟨bk, bf, ba, bn, bc⟩) = decide (af < bf) from by
        have : (Hd.Lt ⟨ak, af, aa, an, ac⟩ ⟨bk, bf, ba, bn, bc⟩) ↔ af < bf := by unfold Hd.Lt; simp only []; omega
        simp only [this]]
      clear h2 h1
      go_enter Try.func61, Try.ntmps61
      go_wp2
      go_ret
      exact ⟨rfl, ((Below.refl _ _).alloc (Nat.le_refl _) _).alloc (by simp) _⟩
    · have hd2 : (ak == bk) = false := beq_eq_false_iff_ne.2 h2
      rw [show decide (Hd.Lt ⟨ak, af, aa, an, ac⟩ ⟨bk, bf, ba, bn, bc⟩) = false from decide_eq_false (by unfold Hd.Lt; simp only []; omega)]
      clear h2 h1
      go_enter Try.func61, Try.ntmps61
      go_wp2
      go_ret
      exact ⟨rfl, ((Below.refl _ _).alloc (Nat.le_refl _) _).alloc (by simp) _⟩
set_option maxHeartbeats 4000000 in
set_option maxRecDepth 1000000 in
theorem put_calls (x : Hd) (l : List Hd) (hp : Heap l) (hb base : Nat) (v : Value) (w : World) (hh : w.heap[hb]? = some (.cells #[v] 98 (0, 0))) (hr : HRow w base 101 v l) (hbase : base ≤ w.heap.size) (hl : (l.length + 1) * 40 ≤ 140737488355328) :
    Calls Try.prog 54 #[.pointer (some ⟨hb, 0, none⟩), .agg #[.int .u64 x.key, .int .i64 x.frm, .slice x.ad x.len x.cap]] w fun e w' => e = .returned (.tuple #[]) ∧
      ∃ v' l', w'.heap[hb]? = some (.cells #[v'] 98 (0, 0)) ∧ HRow w' base 101 v' l' ∧ Heap l' ∧ l'.Perm (x :: l) ∧ (v'.ownBlock = v.ownBlock ∨ ∃ b, v'.ownBlock = some b ∧ w.heap.size ≤ b) ∧ Turns (fun k => k = hb ∨ v.ownBlock = some k) w w' := by
  obtain ⟨i0, hi0, hz0, hz1, hz2⟩ := info_parts info101
  obtain ⟨A, c, rfl, hlc⟩ := hr.slice
  have hc0 : w.cell? ⟨hb, 0, none⟩ = some (.slice A l.length c) := by rw [cell_of_row w hb 0 _ _ _ hh]; rfl
  have hf0 : w.frozen? ⟨hb, 0, none⟩ = false := by simp [World.frozen?, hh]
  have hblt : hb < w.heap.size := (Array.getElem?_eq_some_iff.1 hh).1
  have hne : (Value.slice A l.length c).ownBlock ≠ some hb := fun e => by
    obtain ⟨cur, hcur⟩ := hr.typed hb e
    rw [hcur] at hh
    injection hh with hh
    injection hh with _ hh _
    cases hh
  have hnb : (Value.slice A l.length c).ownBlock ≠ some w.heap.size := fun e => by have := (hr.blocks _ e).2; omega
  have hnl : l.length + 1 ≤ maxLen := by unfold maxLen; omega
  have hx3 : ∀ u ∈ [Value.int .u64 x.key, .int .i64 x.frm, .slice x.ad x.len x.cap], u.oneCell' = true := by
    intro u hu
    simp only [List.mem_cons, List.not_mem_nil, or_false] at hu
    rcases hu with hu | hu | hu <;> subst hu
    · rfl
    · rfl
    · rfl
  have HX3 := Lib.hid hx3
  have HOWN := Lib.hid hr.1
  have HL0 : Hid (l.length ≤ 3518437208882) := Lib.hid (by omega)
  go_enter Try.func54, Try.ntmps54
  go_wp2_with fail
  go_upto_region 1 with (fail)
  go_cut [13] (fun v13 wc => ∃ v', v13 = v' ∧ Hid (Put0 w hb base (.slice A l.length c) (l ++ [x]) v' wc))
  case first =>
    go_region_law
      ((refine step_append_lies _ (by rfl) _ _ _ (by rfl) base 101 i0 _ 3 40 Try.underlying96 hi0 hz0 hz1 hz2 rfl (by omega) (.slice A l.length c) l.length (rowCells l) (by rfl) (((HOWN.out.alloc _).alloc _).drew) ⟨w.heap.size + 1, 0, none⟩ 1 1 [.int .u64 x.key, .int .i64 x.frm, .slice x.ad x.len x.cap] (by rfl) (by rfl) (World.news_of_block (cs := #[.int .u64 x.key, .int .i64 x.frm, .slice x.ad x.len x.cap]) (t := 101) (fr := (0, 0)) (box2 w _ _ 101)) HX3.out (by omega) hnl hl (by simp; omega) (w.heap.size + 2) (by simp) ?_; intro gg cap w1 hown1 hgrow hat hlt; have hfz : w1.frozen? ⟨hb, 0, none⟩ = false := (hgrow.frozen_far _ (by simp; omega) (Ne.symm hne)).trans (box_frozen hh _ _); have hcz : w1.cell? ⟨hb, 0, none⟩ = some (.slice A l.length c) := (hgrow.cell_far _ (by simp; omega) (Ne.symm hne)).trans (box_cell hh _ _)))
    all_goals
      (try go_wp2)
      go_meet
      case rel => exact ⟨_, rfl, Lib.hid (put0 (x := x) rfl hh hr hne hown1 hgrow hat)⟩
  case rest =>
    obtain ⟨v', rfl, HP⟩ := hcut
    obtain ⟨q1, q2, q3, q4, q5⟩ := HP.out
    obtain ⟨g, cap, cur, ev, hgb, hgg, hlc2, hcm, hcs, hct⟩ := q2.form (by simp)
    have hlen : (l ++ [x]).length = l.length + 1 := by simp
    rw [hlen] at ev hlc2
    subst ev
    have hcw : wc.cell? ⟨hb, 0, none⟩ = some (.slice (some ⟨g, 0, none⟩) (l.length + 1) cap) := by rw [cell_of_row wc hb 0 _ _ _ q1]; rfl
    have hg0 : g ≠ hb := fun e => q4 (by rw [e]; rfl)
    have Q1 := Lib.hid q1
    have Q2 := Lib.hid q2
    have Q3 := Lib.hid q3
    have Q5 := Lib.hid q5
    clear HP q1 q2 q3 q4 q5 hgg hct hcs hc0 hf0 hne hnb hx3 HX3 HOWN hr hh
    have hup0 := Lib.hid (Up.start hp x)
    have hnn := HL0.out
    go_wp2_with (fail)
    clear hcw
    obtain ⟨n, hn⟩ : ∃ n, l.length + 1 = n := ⟨_, rfl⟩
    rw [hn] at Q1 Q2 Q3
    have HNN : Hid (n ≤ 3518437208883) := Lib.hid (by omega)
    go_loopg [4] n (fun kq v4 w' => ∃ (i : Nat) (lk : List Hd), v4 = .int .i64 i ∧ i < n ∧ i ≤ kq ∧ Hid (lk.length = n) ∧ Hid (Up lk i) ∧ Hid (lk.Perm (l ++ [x])) ∧ Hid (HRow w' base 101 (.slice (some ⟨g, 0, none⟩) n cap) lk) ∧ Hid (w'.heap[hb]? = some (.cells #[.slice (some ⟨g, 0, none⟩) n cap] 98 (0, 0))) ∧ Hid (Turns (fun k => k = hb ∨ k = g) wc w'))
    case atStart => exact ⟨l.length, l ++ [x], rfl, by omega, by omega, Lib.hid (by rw [hlen, hn]), hup0, Lib.hid (List.Perm.refl _), Q2, Q1, Lib.hid (Turns.refl _ _)⟩
    case round =>
      obtain ⟨i, lk, rfl, hin, hik, HL, HU, HPM, HR, HB, HT⟩ := hrel
      have hn1 := HNN.out
      have hTT : ∀ W, Turns (fun k => k = hb ∨ k = g) wr W → Turns (fun k => k = hb ∨ (Value.slice A l.length c).ownBlock = some k) w W := fun W hW => by
        have h1 := HT.out.trans hW (fun j hj _ => hj)
        refine Q5.out.trans h1 (fun j hj hlt => ?_)
        rcases hj with hj | hj
        · exact .inl hj
        · rcases Q3.out with h2 | ⟨b, h2, h3⟩
          · right; rw [← h2, hj]; rfl
          · have : b = g := by simpa [Value.ownBlock] using h2.symm
            omega
      have HTT := Lib.hid hTT
      have hat1 : (Value.slice (some ⟨g, 0, none⟩) n cap).ownBlock = (Value.slice A l.length c).ownBlock ∨ ∃ b, (Value.slice (some ⟨g, 0, none⟩) n cap).ownBlock = some b ∧ w.heap.size ≤ b := Q3.out
      have HAT := Lib.hid hat1
      have HPX : Hid (∀ lk2 : List Hd, lk2.Perm lk → lk2.Perm (x :: l)) := Lib.hid (fun lk2 h => (h.trans HPM.out).trans (List.perm_append_comm (l₁ := l)))
      clear hTT hat1 hup0 hn
      by_cases h00 : i = 0
      · subst h00
        go_wp2_with (fail)
        go_end0
        exact ⟨rfl, _, lk, HB.out, HR.out, HU.out.stop (.inl rfl), HPX.out _ (List.Perm.refl _), HAT.out, HTT.out _ (Turns.refl _ _)⟩
      · obtain ⟨p, hp2⟩ : ∃ p, (i - 1) / 2 = p := ⟨_, rfl⟩
        have hp3 : ((i : Int) - 1) / 2 = (p : Int) := by omega
        have hl1 := HL.out
        obtain ⟨ci0, ci1, ci2⟩ := HR.out.cell i (by omega)
        obtain ⟨cp0, cp1, cp2⟩ := HR.out.cell p (by omega)
        have hcw : wr.cell? ⟨hb, 0, none⟩ = some (.slice (some ⟨g, 0, none⟩) n cap) := by rw [cell_of_row wr hb 0 _ _ _ HB.out]; rfl
        have hdi : decide ((i : Int) > 0) = true := decide_eq_true (by omega)
        have b0 : (0 : Int) ≤ (i : Int) - 1 := by omega
        have b1 : (p : Int) < (n : Int) := by omega
        have b2 : p < n := by omega
        have b3 : (i : Int) < (n : Int) := by omega
        have hpi := Lib.hid (show (i - 1) / 2 = p from hp2)
        have hi0 : 0 < i := by omega
        clear hl1 hp2 h00
        by_cases hlt : (at_ lk i).Lt (at_ lk p)
        · have hd : decide ((at_ lk i).Lt (at_ lk p)) = true := decide_eq_true hlt
          have HLT := Lib.hid hlt
          clear hlt
          go_wp2_with (fail)
          go_region_held3 (fun w' => w'.cell? ⟨hb, 0, none⟩ = some (.slice (some ⟨g, 0, none⟩) n cap) ∧ w'.cell? ⟨g, i * 3, none⟩ = some (.int .u64 (at_ lk i).key) ∧ w'.cell? ⟨g, i * 3 + 1, none⟩ = some (.int .i64 (at_ lk i).frm) ∧ w'.cell? ⟨g, i * 3 + 2, none⟩ = some (.slice (at_ lk i).ad (at_ lk i).len (at_ lk i).cap) ∧ w'.cell? ⟨g, p * 3, none⟩ = some (.int .u64 (at_ lk p).key) ∧ w'.cell? ⟨g, p * 3 + 1, none⟩ = some (.int .i64 (at_ lk p).frm) ∧ w'.cell? ⟨g, p * 3 + 2, none⟩ = some (.slice (at_ lk p).ad (at_ lk p).len (at_ lk p).cap))
            (first
              | go_keep
              | (go_split_ands
                 refine ⟨?_, ?_, ?_, ?_, ?_, ?_, ?_⟩ <;> (refine (hbl.cell (World.block_lt_of_cell? _ _ (by assumption))).trans ?_; assumption)))
            ((go_at_call 61; refine (less_calls (at_ lk i) (at_ lk p) _).mono ?_; rintro e w1 ⟨rfl, hbl⟩))
          go_wp2_with (fail)
          obtain ⟨e0, ei0, ei1, ei2, ep0, ep1, ep2⟩ := ‹(_ ∧ _ ∧ _ ∧ _ ∧ _ ∧ _ ∧ _)›
          have HR1 : Hid (HRow w1 base 101 (.slice (some ⟨g, 0, none⟩) n cap) lk) := Lib.hid (HRow.turn (w := wr.drew) HR.out (Turns.of_below (fun _ => False) hbl) (fun _ _ h => h))
          have HB1 : Hid (w1.heap[hb]? = some (.cells #[.slice (some ⟨g, 0, none⟩) n cap] 98 (0, 0))) := Lib.hid ((hbl.block hb (Array.getElem?_eq_some_iff.1 HB.out).1).trans HB.out)
          have HT1 : Hid (Turns (fun k => k = hb ∨ k = g) wc w1) := Lib.hid ((HT.out.drew).trans (Turns.of_below (fun _ => False) hbl) (fun _ h _ => h.elim))
          have z0 := HR1.out.frozen (i * 3)
          have z1 := HR1.out.frozen (i * 3 + 1)
          have z2 := HR1.out.frozen (i * 3 + 2)
          have z3 := HR1.out.frozen (p * 3)
          have z4 := HR1.out.frozen (p * 3 + 1)
          have z5 := HR1.out.frozen (p * 3 + 2)
          have hpi2 := hpi.out
          have n0 : ¬ (i * 3 = p * 3) := by omega
          have n1 : ¬ (i * 3 = p * 3 + 1) := by omega
          have n2 : ¬ (i * 3 = p * 3 + 2) := by omega
          have n3 : ¬ (i * 3 + 1 = p * 3) := by omega
          have n4 : ¬ (i * 3 + 2 = p * 3) := by omega
          have m0 : ¬ (p * 3 = i * 3) := by omega
          have m1 : ¬ (p * 3 = i * 3 + 1) := by omega
          have m2 : ¬ (p * 3 = i * 3 + 2) := by omega
          have m3 : ¬ (p * 3 + 1 = i * 3) := by omega
          have m4 : ¬ (p * 3 + 2 = i * 3) := by omega
          have n5 : ¬ (i = p) := by omega
          have m5 : ¬ (p = i) := by omega
          clear hpi2 hbl ci0 ci1 ci2 cp0 cp1 cp2 hcw
          go_region
          go_wp2_with (fail)
          have hil : i < lk.length := by rw [HL.out]; omega
          have hpl : p < lk.length := by rw [HL.out]; omega
          have hup : Up (swap lk i p) p := by
            have := Up.step HU.out hi0 hil (by rw [hpi.out]; exact HLT.out)
            rwa [hpi.out] at this
          have F1 := Lib.hid (HR1.out.swap i p hil hpl).drew
          have F2 : Hid ((storeHd (storeHd w1 g i (at_ lk p)) g p (at_ lk i)).drew.heap[hb]? = some (.cells #[.slice (some ⟨g, 0, none⟩) n cap] 98 (0, 0))) := Lib.hid (drew_heap ((storeHd_far (storeHd w1 g i (at_ lk p)) g p (at_ lk i) hb (Ne.symm hg0)).trans ((storeHd_far w1 g i (at_ lk p) hb (Ne.symm hg0)).trans HB1.out)))
          have F3 := Lib.hid (storeHd_turns (storeHd_turns HT1.out g i (at_ lk p) (fun _ => .inr rfl)) g p (at_ lk i) (fun _ => .inr rfl)).drew
          have F4 := Lib.hid ((swap_perm lk i p hil hpl).trans HPM.out)
          have F5 : Hid ((swap lk i p).length = n) := Lib.hid (by rw [swap_length]; exact HL.out)
          have F6 := Lib.hid hup
          simp only [storeHd] at F1 F2 F3
          clear n0 n1 n2 n3 n4 n5 m0 m1 m2 m3 m4 m5 z0 z1 z2 z3 z4 z5 e0 ei0 ei1 ei2 ep0 ep1 ep2 hup HR1 HB1 HT1
          go_roundg p
          case measure => omega
          case rel => exact ⟨p, swap lk i p, rfl, b2, Nat.le_refl _, F5, F6, F4, F1, F2, F3⟩
        · have hd : decide ((at_ lk i).Lt (at_ lk p)) = false := decide_eq_false hlt
          have HLT := Lib.hid hlt
          clear hlt
          go_wp2_with (fail)
          go_region_held3 (fun w' => w'.cell? ⟨hb, 0, none⟩ = some (.slice (some ⟨g, 0, none⟩) n cap) ∧ w'.cell? ⟨g, i * 3, none⟩ = some (.int .u64 (at_ lk i).key) ∧ w'.cell? ⟨g, i * 3 + 1, none⟩ = some (.int .i64 (at_ lk i).frm) ∧ w'.cell? ⟨g, i * 3 + 2, none⟩ = some (.slice (at_ lk i).ad (at_ lk i).len (at_ lk i).cap) ∧ w'.cell? ⟨g, p * 3, none⟩ = some (.int .u64 (at_ lk p).key) ∧ w'.cell? ⟨g, p * 3 + 1, none⟩ = some (.int .i64 (at_ lk p).frm) ∧ w'.cell? ⟨g, p * 3 + 2, none⟩ = some (.slice (at_ lk p).ad (at_ lk p).len (at_ lk p).cap))
            (first
              | go_keep
              | (go_split_ands
                 refine ⟨?_, ?_, ?_, ?_, ?_, ?_, ?_⟩ <;> (refine (hbl.cell (World.block_lt_of_cell? _ _ (by assumption))).trans ?_; assumption)))
            ((go_at_call 61; refine (less_calls (at_ lk i) (at_ lk p) _).mono ?_; rintro e w1 ⟨rfl, hbl⟩))
          go_wp2_with (fail)
          refine bodyPost_ret (results_none rfl _ _ _) rfl ?_
          exact ⟨rfl, _, lk, (hbl.block hb (Array.getElem?_eq_some_iff.1 HB.out).1).trans HB.out, HRow.turn (w := wr.drew) HR.out.drew (Turns.of_below (fun _ => False) hbl) (fun _ _ h => h), HU.out.stop (.inr (by rw [hpi.out]; exact HLT.out)), HPX.out _ (List.Perm.refl _), HAT.out,
            HTT.out _ ((Turns.refl _ wr).drew.trans (Turns.of_below (fun _ => False) hbl) (fun _ h _ => h.elim))⟩
end Go.Proofs.Ytojbfjfjhfnopaa.HeapI
end

section
/- merge.heap at entries: take. -/
namespace Go.Proofs.Ytojbfjfjhfnopaa.HeapI
open Go.RowKit HeapL
set_option linter.unusedVariables false
/-- What take keeps while it goes down. -/
structure TakeW (w : World) (base hb g m cap : Nat) (x : Hd) (lk : List Hd) (W : World) : Prop where
  row : HRow W base 101 (.slice (some ⟨g, 0, none⟩) m cap) lk
  box : W.heap[hb]? = some (.cells #[.slice (some ⟨g, 0, none⟩) m cap] 98 (0, 0))
  got : W.heap[w.heap.size + 1]? = some (.cells #[.int .u64 x.key, .int .i64 x.frm, .slice x.ad x.len x.cap] 101 (0, 0))
  res : W.heap[w.heap.size]? = some (.cells #[.int .u64 0, .int .i64 0, .slice none 0 0] 101 (0, 0))
  turns : Turns (fun k => k = hb ∨ k = g) w W
  far : g ≠ hb
  old : g < w.heap.size
  old2 : hb < w.heap.size
theorem TakeW.below {w : World} {base hb g m cap : Nat} {x : Hd} {lk : List Hd} {W W' : World} (h : TakeW w base hb g m cap x lk W) (hb2 : Below W.heap.size W W') : TakeW w base hb g m cap x lk W' := by
  have hs := h.turns.size
  have h1 := (Array.getElem?_eq_some_iff.1 h.got).1
  exact ⟨h.row.turn (Turns.of_below (fun _ => False) hb2) (fun _ _ h => h), (hb2.block hb (by have := h.old2; omega)).trans h.box, (hb2.block _ h1).trans h.got, (hb2.block _ (by omega)).trans h.res, h.turns.trans (Turns.of_below (fun _ => False) hb2) (fun _ h _ => h.elim), h.far, h.old, h.old2⟩
theorem TakeW.drew {w : World} {base hb g m cap : Nat} {x : Hd} {lk : List Hd} {W : World} (h : TakeW w base hb g m cap x lk W) : TakeW w base hb g m cap x lk W.drew :=
  ⟨h.row.drew, h.box, h.got, h.res, h.turns.drew, h.far, h.old, h.old2⟩
theorem TakeW.drewN {w : World} {base hb g m cap : Nat} {x : Hd} {lk : List Hd} {W : World} (h : TakeW w base hb g m cap x lk W) (n : Nat) : TakeW w base hb g m cap x lk (W.drewN n) :=
  ⟨h.row.keep (fun _ _ => rfl), h.box, h.got, h.res, h.turns.drewN n, h.far, h.old, h.old2⟩
theorem TakeW.swap {w : World} {base hb g m cap : Nat} {x : Hd} {lk : List Hd} {W : World} (h : TakeW w base hb g m cap x lk W) (i j : Nat) (hi : i < lk.length) (hj : j < lk.length) :
    TakeW w base hb g m cap x (swap lk i j) (storeHd (storeHd W g i (at_ lk j)) g j (at_ lk i)) := by
  have hold := h.old
  have hf : ∀ k, k ≠ g → (storeHd (storeHd W g i (at_ lk j)) g j (at_ lk i)).heap[k]? = W.heap[k]? := fun k hk => (storeHd_far _ g j (at_ lk i) k hk).trans (storeHd_far W g i (at_ lk j) k hk)
  exact ⟨h.row.swap i j hi hj, (hf hb (Ne.symm h.far)).trans h.box, (hf _ (by omega)).trans h.got, (hf _ (by omega)).trans h.res, storeHd_turns (storeHd_turns h.turns g i (at_ lk j) (fun _ => .inr rfl)) g j (at_ lk i) (fun _ => .inr rfl), h.far, h.old, h.old2⟩
theorem take0 {w : World} {hb base g m cap : Nat} {l : List Hd} (hh : w.heap[hb]? = some (.cells #[.slice (some ⟨g, 0, none⟩) l.length cap] 98 (0, 0))) (hr : HRow w base 101 (.slice (some ⟨g, 0, none⟩) l.length cap) l) (hm : l.length = m + 1) (hg0 : g ≠ hb) (hglt : g < w.heap.size) (c : Nat) (W : World)
    (hc : c = m)
    (hW : W = ((((((w.setCell ⟨g, 0, none⟩ (.int .u64 (at_ l m).key)).setCell ⟨g, 1, none⟩ (.int .i64 (at_ l m).frm)).setCell ⟨g, 2, none⟩ (.slice (at_ l m).ad (at_ l m).len (at_ l m).cap)).setCell ⟨hb, 0, none⟩ (.slice (some ⟨g, 0, none⟩) c cap)).alloc (.cells #[.int .u64 0, .int .i64 0, .slice none 0 0] 101)).alloc (.cells #[.int .u64 (at_ l 0).key, .int .i64 (at_ l 0).frm, .slice (at_ l 0).ad (at_ l 0).len (at_ l 0).cap] 101)).drew) :
    TakeW w base hb g m cap (at_ l 0) ((l.set 0 (at_ l m)).take m) W := by
  subst hc
  have hblt : hb < w.heap.size := (Array.getElem?_eq_some_iff.1 hh).1
  have hs0 : storeHd w g 0 (at_ l c) = ((w.setCell ⟨g, 0, none⟩ (.int .u64 (at_ l c).key)).setCell ⟨g, 1, none⟩ (.int .i64 (at_ l c).frm)).setCell ⟨g, 2, none⟩ (.slice (at_ l c).ad (at_ l c).len (at_ l c).cap) := by
    unfold storeHd
    rw [Nat.zero_mul, Nat.zero_add, Nat.zero_add]
  rw [← hs0] at hW
  have r0 : HRow (storeHd w g 0 (at_ l c)) base 101 (.slice (some ⟨g, 0, none⟩) l.length cap) (l.set 0 (at_ l c)) := hr.put 0 (by omega) (at_ l c) rfl
  have r1 := r0.shrink c (by rw [List.length_set]; omega)
  have b0 : (storeHd w g 0 (at_ l c)).heap[hb]? = some (.cells #[.slice (some ⟨g, 0, none⟩) l.length cap] 98 (0, 0)) := (storeHd_far w g 0 (at_ l c) hb (Ne.symm hg0)).trans hh
  have t0 : Turns (fun k => k = hb ∨ k = g) w (storeHd w g 0 (at_ l c)) := storeHd_turns (Turns.refl _ w) g 0 (at_ l c) (fun _ => .inr rfl)
  have hsz : (storeHd w g 0 (at_ l c)).heap.size = w.heap.size := by simp [storeHd, World.setCell]
  generalize storeHd w g 0 (at_ l c) = w0 at hW r1 b0 t0 hsz
  have hsz1 : (w0.setCell ⟨hb, 0, none⟩ (.slice (some ⟨g, 0, none⟩) c cap)).heap.size = w.heap.size := by simp [World.setCell, hsz]
  have r2 : HRow (w0.setCell ⟨hb, 0, none⟩ (.slice (some ⟨g, 0, none⟩) c cap)) base 101 (.slice (some ⟨g, 0, none⟩) c cap) ((l.set 0 (at_ l c)).take c) := r1.keep (fun k hk => by
    have : k = g := by simpa [Value.ownBlock] using hk.symm
    subst this
    exact Below.heap_setCell w0 ⟨hb, 0, none⟩ _ k hg0)
  have b1 := setCell_blk (j := 0) b0 (.slice (some ⟨g, 0, none⟩) c cap)
  have t1 := t0.set (p := ⟨hb, 0, none⟩) (fun _ => .inl rfl) (.slice (some ⟨g, 0, none⟩) c cap)
  generalize w0.setCell ⟨hb, 0, none⟩ (.slice (some ⟨g, 0, none⟩) c cap) = w1 at hW r2 b1 t1 hsz1
  subst hW
  refine ⟨?_, ?_, ?_, ?_, ?_, hg0, hglt, hblt⟩
  · exact (r2.turn (((Turns.refl (fun _ => False) w1).alloc _).alloc _) (fun _ _ h => h)).drew
  · exact (Below.heap_alloc _ _ hb (by simp; omega)).trans ((Below.heap_alloc _ _ hb (by omega)).trans b1)
  · have := heap_alloc_new (w1.alloc (.cells #[.int .u64 0, .int .i64 0, .slice none 0 0] 101)) (.cells #[.int .u64 (at_ l 0).key, .int .i64 (at_ l 0).frm, .slice (at_ l 0).ad (at_ l 0).len (at_ l 0).cap] 101)
    rw [World.size_alloc, hsz1] at this
    exact this
  · have := heap_alloc_new w1 (.cells #[.int .u64 0, .int .i64 0, .slice none 0 0] 101)
    rw [hsz1] at this
    exact (Below.heap_alloc _ _ w.heap.size (by simp; omega)).trans this
  · exact ((t1.alloc _).alloc _).drew
/-- What take hands back. -/
theorem takeEnd {w : World} {base hb g m cap : Nat} {x : Hd} {lk : List Hd} {W : World} (h : TakeW w base hb g m cap x lk W) (W' : World)
    (hW : W' = ((W.setCell ⟨w.heap.size, 0, none⟩ (.int .u64 x.key)).setCell ⟨w.heap.size, 1, none⟩ (.int .i64 x.frm)).setCell ⟨w.heap.size, 2, none⟩ (.slice x.ad x.len x.cap)) :
    W'.heap[w.heap.size]? = some (.cells #[.int .u64 x.key, .int .i64 x.frm, .slice x.ad x.len x.cap] 101 (0, 0)) ∧ W'.heap[hb]? = some (.cells #[.slice (some ⟨g, 0, none⟩) m cap] 98 (0, 0)) ∧ HRow W' base 101 (.slice (some ⟨g, 0, none⟩) m cap) lk ∧ Turns (fun k => k = hb ∨ k = g) w W' := by
  have h1 := h.old
  have h2 := h.old2
  have hf : ∀ k, k ≠ w.heap.size → W'.heap[k]? = W.heap[k]? := fun k hk => by
    subst hW
    exact (Below.heap_setCell _ ⟨w.heap.size, 2, none⟩ _ k hk).trans ((Below.heap_setCell _ ⟨w.heap.size, 1, none⟩ _ k hk).trans (Below.heap_setCell W ⟨w.heap.size, 0, none⟩ _ k hk))
  refine ⟨?_, (hf hb (by omega)).trans h.box, h.row.keep (fun k hk => hf k ?_), ?_⟩
  · subst hW
    exact (setCell_blk (setCell_blk (setCell_blk h.res _) _) _).trans rfl
  · have : k = g := by simpa [Value.ownBlock] using hk.symm
    omega
  · subst hW
    exact ((h.turns.set (p := ⟨w.heap.size, 0, none⟩) (fun h => absurd h (Nat.lt_irrefl _)) _).set (p := ⟨w.heap.size, 1, none⟩) (fun h => absurd h (Nat.lt_irrefl _)) _).set (p := ⟨w.heap.size, 2, none⟩) (fun h => absurd h (Nat.lt_irrefl _)) _
theorem size101 : (Try.prog.info? 101).map (·.size) = some 3 := by kernel_rfl
set_option maxHeartbeats 4000000 in
set_option maxRecDepth 1000000 in
theorem take_calls (l : List Hd) (hp : Heap l) (h1 : 0 < l.length) (hb base : Nat) (v : Value) (w : World) (hh : w.heap[hb]? = some (.cells #[v] 98 (0, 0))) (hr : HRow w base 101 v l) (hbase : base ≤ w.heap.size) (hl : (l.length + 1) * 40 ≤ 140737488355328) :
    Calls Try.prog 55 #[.pointer (some ⟨hb, 0, none⟩)] w fun e w' => ∃ x : Hd, e = .returned (.agg #[.int .u64 x.key, .int .i64 x.frm, .slice x.ad x.len x.cap]) ∧
      ∃ v' l', w'.heap[hb]? = some (.cells #[v'] 98 (0, 0)) ∧ HRow w' base 101 v' l' ∧ Heap l' ∧ l.Perm (x :: l') ∧ (∀ y ∈ l', x.le y) ∧ v'.ownBlock = v.ownBlock ∧ Turns (fun k => k = hb ∨ v.ownBlock = some k) w w' := by
  obtain ⟨g, cap, cur, rfl, hgg, hg1, hlc, hcm, hcs, hct⟩ := hr.form h1
  have hc0 : w.cell? ⟨hb, 0, none⟩ = some (.slice (some ⟨g, 0, none⟩) l.length cap) := by rw [cell_of_row w hb 0 _ _ _ hh]; rfl
  have hf0 : w.frozen? ⟨hb, 0, none⟩ = false := by simp [World.frozen?, hh]
  have hblt : hb < w.heap.size := (Array.getElem?_eq_some_iff.1 hh).1
  have hglt : g < w.heap.size := (Array.getElem?_eq_some_iff.1 hg1).1
  have hg0 : g ≠ hb := fun e => by
    rw [e] at hg1
    rw [hg1] at hh
    injection hh with hh
    injection hh with _ hh _
    cases hh
  obtain ⟨m, hm⟩ : ∃ m, l.length = m + 1 := ⟨l.length - 1, by omega⟩
  obtain ⟨cr0, cr1, cr2⟩ := hr.cell 0 (by omega)
  obtain ⟨cm0, cm1, cm2⟩ := hr.cell m (by omega)
  rw [Nat.zero_mul] at cr0 cr1 cr2
  have z0 := hr.frozen 0
  have z1 := hr.frozen 1
  have z2 := hr.frozen 2
  rw [hm] at hc0
  have hmm : m ≤ 3518437208882 := by omega
  have b5 : m ≤ cap := by omega
  have b1 : (m : Int) < ((m + 1 : Nat) : Int) := by omega
  have b2 : (0 : Int) < ((m + 1 : Nat) : Int) := by omega
  have b3 : m ≤ m + 1 := by omega
  have b4 : ((m + 1 : Nat) : Int) - 1 = (m : Int) := by omega
  have HR := Lib.hid hr
  have HH := Lib.hid hh
  have HM := Lib.hid hm
  have HL := Lib.hid hl
  clear hr hh hg1 hgg hcs hct hm hl hlc hcm h1 hbase
  go_enter Try.func55, Try.ntmps55
  go_wp2_with fail
  go_region
  go_upto_region 4 with (fail)
  go_cut [] (fun wc => Hid (TakeW w base hb g m cap (at_ l 0) ((l.set 0 (at_ l m)).take m) wc))
  case first =>
    go_wp2_with fail
    go_meet
    case rel => exact Lib.hid (take0 HH.out HR.out HM.out hg0 hglt _ _ rfl rfl)
  case rest =>
    have HN : Hid (m ≤ 3518437208882) := Lib.hid (by have := HL.out; have := HM.out; omega)
    have HD0 := Lib.hid (Down.start hp (at_ l m) m HM.out.symm)
    have HL0 : Hid (((l.set 0 (at_ l m)).take m).length = m) := Lib.hid (by rw [List.length_take, List.length_set, HM.out]; omega)
    clear b1 b2 b3 b4 z0 z1 z2 cr0 cr1 cr2 cm0 cm1 cm2 hf0 hc0
    have hmm2 := HN.out
    go_wp2_with fail
    go_loopg [5, 6] m (fun kq v5 v6 w' => ∃ (i : Nat) (lk : List Hd), v5 = .int .i64 i ∧ i ≤ m ∧ m ≤ kq + i ∧ Hid (lk.length = m) ∧ Hid (Down lk i) ∧ Hid (lk.Perm ((l.set 0 (at_ l m)).take m)) ∧ Hid (TakeW w base hb g m cap (at_ l 0) lk w'))
    case atStart => exact ⟨0, _, rfl, by omega, by omega, HL0, HD0, Lib.hid (List.Perm.refl _), hcut⟩
    case round =>
      obtain ⟨i, lk, rfl, him, hik, HLK, HD, HP, HW⟩ := hrel
      obtain ⟨d, hd⟩ : ∃ d, 2 * i + 1 = d := ⟨_, rfl⟩
      obtain ⟨e, he⟩ : ∃ e, d + 1 = e := ⟨_, rfl⟩
      have hmm3 := HN.out
      have hd1 : 2 * (i : Int) + 1 = (d : Int) := by omega
      have he1 : (d : Int) + 1 = (e : Int) := by omega
      have HDD := Lib.hid hd
      have HEE := Lib.hid he
      clear hd he
      have HIK := Lib.hid hik
      have HIM := Lib.hid him
      have hnb0 : (d : Int) ≤ 7036874417767 := by omega
      have hnb1 : (e : Int) ≤ 7036874417768 := by omega
      have hwe : IntKind.i64.wrap (e : Int) = (e : Int) := IntWalk.i64_in _ ⟨by omega, by omega⟩
      clear hik
      go_upto_region 7 with (fail)
      go_cut [64] (fun v64 wb => ∃ b : Bool, v64 = .bool b ∧ Hid (b = true → e < m ∧ (at_ lk e).Lt (at_ lk d)) ∧ Hid (b = false → e < m → (at_ lk d).le (at_ lk e)) ∧ Hid (TakeW w base hb g m cap (at_ l 0) lk wb))
      case first =>
        have hcw : wr.cell? ⟨hb, 0, none⟩ = some (.slice (some ⟨g, 0, none⟩) m cap) := by rw [cell_of_row wr hb 0 _ _ _ HW.out.box]; rfl
        by_cases hem : e < m
        · have hg7 : decide ((e : Int) < (m : Int)) = true := decide_eq_true (by omega)
          have hb1 : (e : Int) < (m : Int) := by omega
          have hb2 : (d : Int) < (m : Int) := by omega
          obtain ⟨ci0, ci1, ci2⟩ := HW.out.row.cell e (by rw [HLK.out]; exact hem)
          obtain ⟨cp0, cp1, cp2⟩ := HW.out.row.cell d (by rw [HLK.out]; omega)
          have HEM := Lib.hid hem
          clear hem
          have hdec : Hid (decide ((at_ lk e).Lt (at_ lk d)) = true → (at_ lk e).Lt (at_ lk d)) := Lib.hid of_decide_eq_true
          have hdec2 : Hid (decide ((at_ lk e).Lt (at_ lk d)) = false → (at_ lk d).le (at_ lk e)) := Lib.hid of_decide_eq_false
          generalize hbb : decide ((at_ lk e).Lt (at_ lk d)) = bb at hdec hdec2
          go_region_held3 (fun w' => w'.cell? ⟨hb, 0, none⟩ = some (.slice (some ⟨g, 0, none⟩) m cap) ∧ w'.cell? ⟨g, e * 3, none⟩ = some (.int .u64 (at_ lk e).key) ∧ w'.cell? ⟨g, e * 3 + 1, none⟩ = some (.int .i64 (at_ lk e).frm) ∧ w'.cell? ⟨g, e * 3 + 2, none⟩ = some (.slice (at_ lk e).ad (at_ lk e).len (at_ lk e).cap) ∧ w'.cell? ⟨g, d * 3, none⟩ = some (.int .u64 (at_ lk d).key) ∧ w'.cell? ⟨g, d * 3 + 1, none⟩ = some (.int .i64 (at_ lk d).frm) ∧ w'.cell? ⟨g, d * 3 + 2, none⟩ = some (.slice (at_ lk d).ad (at_ lk d).len (at_ lk d).cap))
            (first
              | go_keep
              | (go_split_ands
                 refine ⟨?_, ?_, ?_, ?_, ?_, ?_, ?_⟩ <;> (refine (hbl.cell (World.block_lt_of_cell? _ _ (by assumption))).trans ?_; assumption)))
            ((go_at_call 61; refine (less_calls (at_ lk e) (at_ lk d) _).mono ?_; rw [hbb]; rintro e w1 ⟨rfl, hbl⟩))
          go_wp2_with (fail)
          go_meet
          case rel => exact ⟨bb, rfl, Lib.hid (fun h => ⟨HEM.out, hdec.out h⟩), Lib.hid (fun h _ => hdec2.out h), Lib.hid (HW.out.drew.below hbl)⟩
        · have hg7 : decide ((e : Int) < (m : Int)) = false := decide_eq_false (by omega)
          have hg8 : decide (e < m) = false := decide_eq_false hem
          have HEM := Lib.hid hem
          clear hem
          go_quiet (fail)
          go_wp2_with (fail)
          go_meet
          case rel => exact ⟨false, rfl, Lib.hid (fun h => nomatch h), Lib.hid (fun _ h => absurd h HEM.out), Lib.hid (HW.out.drewN _)⟩
      case rest =>
        obtain ⟨b, rfl, HB1, HB2, HW1⟩ := hcut
        clear HW
        go_upto_if 64 with (fail)
        go_cut [6] (fun v6 wd => ∃ c : Nat, v6 = .int .i64 c ∧ Hid (c ≤ e) ∧ Hid (c < m → 0 < c ∧ (c - 1) / 2 = i ∧ ∀ j, 0 < j → j < m → (j - 1) / 2 = i → (at_ lk c).le (at_ lk j)) ∧ Hid (m ≤ c → ∀ j, 0 < j → j < m → (j - 1) / 2 ≠ i) ∧ Hid (TakeW w base hb g m cap (at_ l 0) lk wd))
        case first =>
          cases b
          · go_wp2_with fail
            go_meet
            case rel =>
              have q1 := HDD.out
              have q2 := HEE.out
              have q3 := HB2.out (by simp)
              refine ⟨d, rfl, Lib.hid (by omega), Lib.hid (fun h => ⟨by omega, by omega, fun j j0 jm je => ?_⟩), Lib.hid (fun h j j0 jm je => by omega), HW1⟩
              rcases (show j = d ∨ j = e from by omega) with q | q <;> subst q
              · exact Hd.le_refl _
              · exact q3 jm
          · go_wp2_with fail
            go_meet
            case rel =>
              have q1 := HDD.out
              have q2 := HEE.out
              obtain ⟨q3, q4⟩ := HB1.out (by simp)
              refine ⟨e, rfl, Lib.hid (by omega), Lib.hid (fun h => ⟨by omega, by omega, fun j j0 jm je => ?_⟩), Lib.hid (fun h j j0 jm je => by omega), HW1⟩
              rcases (show j = d ∨ j = e from by omega) with q | q <;> subst q
              · exact Hd.le_of_lt q4
              · exact Hd.le_refl _
        case rest =>
          obtain ⟨c, rfl, HCE, HC1, HC2, HW2⟩ := hcut
          clear HW1 HB1 HB2
          have hmm4 := HN.out
          go_upto_region 9 with (fail)
          go_cut [87] (fun v87 we => ∃ b : Bool, v87 = .bool b ∧ Hid (b = true → Heap lk) ∧ Hid (b = false → c < m ∧ (at_ lk c).Lt (at_ lk i)) ∧ Hid (TakeW w base hb g m cap (at_ l 0) lk we))
          case first =>
            by_cases hcm : c < m
            · obtain ⟨hc0, hcp, hcmin⟩ := HC1.out hcm
              have hcw : wc.cell? ⟨hb, 0, none⟩ = some (.slice (some ⟨g, 0, none⟩) m cap) := by rw [cell_of_row wc hb 0 _ _ _ HW2.out.box]; rfl
              have hg9 : decide ((m : Int) ≤ (c : Int)) = false := decide_eq_false (by omega)
              have hg10 : decide (m ≤ c) = false := decide_eq_false (by omega)
              have hb1 : (c : Int) < (m : Int) := by omega
              have hb2 : (i : Int) < (m : Int) := by omega
              obtain ⟨ci0, ci1, ci2⟩ := HW2.out.row.cell c (by rw [HLK.out]; exact hcm)
              obtain ⟨cp0, cp1, cp2⟩ := HW2.out.row.cell i (by rw [HLK.out]; omega)
              have hdec : Hid (decide ((at_ lk c).Lt (at_ lk i)) = true → c < m ∧ (at_ lk c).Lt (at_ lk i)) := Lib.hid (fun h => ⟨hcm, of_decide_eq_true h⟩)
              have hdec2 : Hid (decide ((at_ lk c).Lt (at_ lk i)) = false → Heap lk) := Lib.hid (fun h => HD.out.stop (fun j j0 jm je => Hd.le_trans (of_decide_eq_false h) (hcmin j j0 (by rw [← HLK.out]; exact jm) je)))
              generalize hbb : decide ((at_ lk c).Lt (at_ lk i)) = bb at hdec hdec2
              clear hcm hc0 hcp hcmin
              go_region_held3 (fun w' => w'.cell? ⟨hb, 0, none⟩ = some (.slice (some ⟨g, 0, none⟩) m cap) ∧ w'.cell? ⟨g, c * 3, none⟩ = some (.int .u64 (at_ lk c).key) ∧ w'.cell? ⟨g, c * 3 + 1, none⟩ = some (.int .i64 (at_ lk c).frm) ∧ w'.cell? ⟨g, c * 3 + 2, none⟩ = some (.slice (at_ lk c).ad (at_ lk c).len (at_ lk c).cap) ∧ w'.cell? ⟨g, i * 3, none⟩ = some (.int .u64 (at_ lk i).key) ∧ w'.cell? ⟨g, i * 3 + 1, none⟩ = some (.int .i64 (at_ lk i).frm) ∧ w'.cell? ⟨g, i * 3 + 2, none⟩ = some (.slice (at_ lk i).ad (at_ lk i).len (at_ lk i).cap))
                (first
                  | go_keep
                  | (go_split_ands
                     refine ⟨?_, ?_, ?_, ?_, ?_, ?_, ?_⟩ <;> (refine (hbl.cell (World.block_lt_of_cell? _ _ (by assumption))).trans ?_; assumption)))
                ((go_at_call 61; refine (less_calls (at_ lk c) (at_ lk i) _).mono ?_; rw [hbb]; rintro e w1 ⟨rfl, hbl⟩))
              go_wp2_with (fail)
              go_meet
              case rel => exact ⟨!bb, rfl, Lib.hid (fun h => hdec2.out (by simpa using h)), Lib.hid (fun h => hdec.out (by simpa using h)), Lib.hid (HW2.out.drew.below hbl)⟩
            · have hg9 : decide ((m : Int) ≤ (c : Int)) = true := decide_eq_true (by omega)
              have hg10 : decide (m ≤ c) = true := decide_eq_true (by omega)
              have HCM : Hid (m ≤ c) := Lib.hid (by omega)
              clear hcm
              go_quiet (fail)
              go_wp2_with (fail)
              go_meet
              case rel => exact ⟨true, rfl, Lib.hid (fun _ => HD.out.stop (fun j j0 jm je => absurd je (HC2.out HCM.out j j0 (by rw [← HLK.out]; exact jm)))), Lib.hid (fun h => nomatch h), Lib.hid (HW2.out.drewN _)⟩
          case rest =>
            obtain ⟨b, rfl, HS1, HS2, HW3⟩ := hcut
            clear HW2
            have hmm5 := HN.out
            cases b with
            | true =>
              have hgot := HW3.out.got
              have hres := HW3.out.res
              have gx0 : wc.cell? ⟨w.heap.size + 1, 0, none⟩ = some (.int .u64 (at_ l 0).key) := by rw [cell_of_row wc _ 0 _ _ _ hgot]; rfl
              have gx1 : wc.cell? ⟨w.heap.size + 1, 1, none⟩ = some (.int .i64 (at_ l 0).frm) := by rw [cell_of_row wc _ 1 _ _ _ hgot]; rfl
              have gx2 : wc.cell? ⟨w.heap.size + 1, 2, none⟩ = some (.slice (at_ l 0).ad (at_ l 0).len (at_ l 0).cap) := by rw [cell_of_row wc _ 2 _ _ _ hgot]; rfl
              have gy0 : wc.cell? ⟨w.heap.size, 0, none⟩ = some (.int .u64 0) := by rw [cell_of_row wc _ 0 _ _ _ hres]; rfl
              have gy1 : wc.cell? ⟨w.heap.size, 1, none⟩ = some (.int .i64 0) := by rw [cell_of_row wc _ 1 _ _ _ hres]; rfl
              have gy2 : wc.cell? ⟨w.heap.size, 2, none⟩ = some (.slice none 0 0) := by rw [cell_of_row wc _ 2 _ _ _ hres]; rfl
              have gf : ∀ k, wc.frozen? ⟨w.heap.size, k, none⟩ = false := fun k => by simp [World.frozen?, hres]
              have gf0 := gf 0
              have gf1 := gf 1
              have gf2 := gf 2
              clear gf hgot hres
              have HQ := Lib.hid (HS1.out rfl)
              clear HS1 HS2
              clear hmm5
              have HFN := Lib.hid (takeEnd HW3.out _ rfl)
              go_wp2_with fail
              obtain ⟨f1, f2, f3, f4⟩ := HFN.out
              refine bodyPost_ret (results_cell_row rfl _ _ w.heap.size 101 _ (0, 0) _ rfl f1 Try.underlying101 rfl size101) rfl ?_
              refine ⟨at_ l 0, rfl, _, lk, f2, f3, HQ.out, ?_, ?_, rfl, f4.mono (fun j hj _ => ?_)⟩
              · exact ((HP.out.cons _).trans (take_perm l m HM.out.symm)).symm
              · intro y hy
                have hy2 := ((HP.out.cons (at_ l 0)).trans (take_perm l m HM.out.symm)).mem_iff.1 (List.mem_cons_of_mem _ hy)
                obtain ⟨q, hq, rfl⟩ := List.getElem_of_mem hy2
                rw [← at_get l q hq]
                exact hp.root q hq
              · rcases hj with hj | hj
                · exact .inl hj
                · exact .inr (by rw [hj]; rfl)
            | false =>
              obtain ⟨hcm, hlt⟩ := HS2.out rfl
              have HLT := Lib.hid hlt
              clear HS1 HS2 hlt
              obtain ⟨hc0, hcp, hcmin⟩ := HC1.out hcm
              have HCP := Lib.hid hcp
              have hcw : wc.cell? ⟨hb, 0, none⟩ = some (.slice (some ⟨g, 0, none⟩) m cap) := by rw [cell_of_row wc hb 0 _ _ _ HW3.out.box]; rfl
              have b1 : (c : Int) < (m : Int) := by omega
              have b2 : (i : Int) < (m : Int) := by omega
              obtain ⟨ci0, ci1, ci2⟩ := HW3.out.row.cell c (by rw [HLK.out]; exact hcm)
              obtain ⟨cp0, cp1, cp2⟩ := HW3.out.row.cell i (by rw [HLK.out]; omega)
              have z0 := HW3.out.row.frozen (c * 3)
              have z1 := HW3.out.row.frozen (c * 3 + 1)
              have z2 := HW3.out.row.frozen (c * 3 + 2)
              have z3 := HW3.out.row.frozen (i * 3)
              have z4 := HW3.out.row.frozen (i * 3 + 1)
              have z5 := HW3.out.row.frozen (i * 3 + 2)
              have n0 : ¬ (i * 3 = c * 3) := by omega
              have n1 : ¬ (i * 3 = c * 3 + 1) := by omega
              have n2 : ¬ (i * 3 = c * 3 + 2) := by omega
              have n3 : ¬ (i * 3 + 1 = c * 3) := by omega
              have n4 : ¬ (i * 3 + 2 = c * 3) := by omega
              have m0 : ¬ (c * 3 = i * 3) := by omega
              have m1 : ¬ (c * 3 = i * 3 + 1) := by omega
              have m2 : ¬ (c * 3 = i * 3 + 2) := by omega
              have m3 : ¬ (c * 3 + 1 = i * 3) := by omega
              have m4 : ¬ (c * 3 + 2 = i * 3) := by omega
              have n5 : ¬ (i = c) := by omega
              have m5 : ¬ (c = i) := by omega
              have hic : i < c := by omega
              have HIC := Lib.hid hic
              have HMIN := Lib.hid hcmin
              clear hcp hcmin hic
              go_upto_region 11 with (fail)
              go_region
              go_wp2_with (fail)
              have hil : i < lk.length := by rw [HLK.out]; omega
              have hcl : c < lk.length := by rw [HLK.out]; exact hcm
              have F1 := Lib.hid (HD.out.step hcl HCP.out hc0 (fun j j0 jm je => HMIN.out j j0 (by rw [← HLK.out]; exact jm) je) HLT.out)
              have F2 : Hid ((swap lk i c).length = m) := Lib.hid (by rw [swap_length]; exact HLK.out)
              have F3 := Lib.hid ((swap_perm lk i c hil hcl).trans HP.out)
              have F4 := Lib.hid (HW3.out.swap i c hil hcl).drew
              have F5 : m ≤ m - c + c := by omega
              have F6 : m - c < gk := by have := HIK.out; have := HIC.out; omega
              have F7 : c ≤ m := by omega
              simp only [storeHd] at F4
              clear n0 n1 n2 n3 n4 n5 m0 m1 m2 m3 m4 m5 z0 z1 z2 z3 z4 z5 ci0 ci1 ci2 cp0 cp1 cp2 hcw
              go_roundg (m - c)
              case measure => exact F6
              case rel => exact ⟨c, swap lk i c, rfl, F7, F5, F2, F1, F3, F4⟩
end Go.Proofs.Ytojbfjfjhfnopaa.HeapI
end

section
/- What lies while merge.Merge's iterator goes, at entries. -/
namespace Go.Proofs.Ytojbfjfjhfnopaa.MergeI
open Go.RowKit Go.Shelf RangeD SeqI MergeL HeapL HeapI
attribute [local go_sem] Oper.semAt_some
set_option linter.unusedVariables false
theorem infoElem : (Try.prog.info? 3).map (fun i => (i.zero, i.size, i.bytes)) = some (some (.int .i64 0), 1, 8) := by kernel_rfl
theorem fits_by {n : Nat} (h : (n + 1) * 24 ≤ 140737488355328) : (n + 1) * 8 ≤ 140737488355328 := by omega
theorem loop_nums {i i2 n k : Nat} (h : i + 1 = i2) (hl : i < n) (hk : n ≤ k + i) : i2 ≤ n ∧ n ≤ n - i2 + i2 ∧ n - i2 < k := by omega
theorem loop_fits {n i : Nat} (h : (n + 1) * 40 ≤ 140737488355328) (hi : i ≤ n) : -9223372036854775808 ≤ (i : Int) ∧ (i : Int) ≤ 9223372036854775807 := by omega
theorem len_max {n : Nat} (h : (n + 1) * 24 ≤ 140737488355328) : n + 1 ≤ maxLen := by unfold maxLen; omega
theorem len_bound {α : Type} {pre more xs : List α} {x : α} (h : pre ++ [x] ++ more = xs) (h1 : (xs.length + 1) * 24 ≤ 140737488355328) : (pre.length + 1) * 24 ≤ 140737488355328 := by
  have h2 := congrArg List.length h
  simp only [List.length_append, List.length_cons, List.length_nil] at h2
  omega
section
variable {α : Type} (ek : α → Int) (ev : α → Int)
/-- An iterator: its function, what it has captured, the blocks that it reads, its list. -/
structure It (α : Type) where
  gf : Nat
  lb : Array Value
  D : Blocks
  xs : List α
structure ItOk (it : It α) (W : World) : Prop where
  seq : SeqD Try.prog it.gf it.lb (fun x : α => #[agg ek ev x]) it.D (fun ys => ys = it.xs) (fun pre => ∃ more, pre ++ more = it.xs) (fun pre x => ∃ more, pre ++ [x] ++ more = it.xs) W
  goes : ∀ args w, (callFunc it.gf args).run Try.prog w = .ok (.enter it.gf args) w
  lt : ∀ k, it.D k → k < W.heap.size
  len : (it.xs.length + 1) * 24 ≤ 140737488355328
/-- What lies for Merge's iterator. -/
structure MLaid (W : World) (bL bK : Nat) (A : Option Addr) (gL cap kf : Nat) (its : List (It α)) : Prop where
  lists : W.heap[bL]? = some (.cells #[.slice A its.length cap] 93 (0, 0))
  at_ : 0 < its.length → A = some ⟨gL, 0, none⟩
  lt : gL < W.heap.size
  fns : ∀ (i : Nat) it, its[i]? = some it → W.cell? ⟨gL, i, none⟩ = some (.func (.func it.gf) #[] it.lb)
  key : W.heap[bK]? = some (.cells #[.func (.func kf) #[] #[]] 71 (0, 0))
  oks : ∀ it ∈ its, ItOk ek ev it W
  len : (its.length + 1) * 40 ≤ 140737488355328
def MDeps (bL bK gL : Nat) (its : List (It α)) : Blocks := fun k => k = bL ∨ k = bK ∨ k = gL ∨ ∃ it ∈ its, it.D k
theorem MLaid.keep {W W' : World} {bL bK : Nat} {A : Option Addr} {gL cap kf : Nat} {its : List (It α)} (h : MLaid ek ev W bL bK A gL cap kf its) (hs : W.heap.size ≤ W'.heap.size) (hk : Same (MDeps bL bK gL its) W W') : MLaid ek ev W' bL bK A gL cap kf its :=
  ⟨(hk bL (.inl rfl) (Array.getElem?_eq_some_iff.1 h.lists).1).trans h.lists, h.at_, Nat.lt_of_lt_of_le h.lt hs,
    fun i it hi => by
      have hc : W'.cell? ⟨gL, i, none⟩ = W.cell? ⟨gL, i, none⟩ := by unfold World.cell?; simp only [hk gL (.inr (.inr (.inl rfl))) h.lt]
      rw [hc]
      exact h.fns i it hi,
    (hk bK (.inr (.inl rfl)) (Array.getElem?_eq_some_iff.1 h.key).1).trans h.key,
    fun it hi => ⟨(h.oks it hi).seq.same hs (fun k hk2 hl => hk k (.inr (.inr (.inr ⟨it, hi, hk2⟩))) hl), (h.oks it hi).goes, fun k hk2 => Nat.lt_of_lt_of_le ((h.oks it hi).lt k hk2) hs, (h.oks it hi).len⟩, h.len⟩
theorem MLaid.deps {W : World} {bL bK : Nat} {A : Option Addr} {gL cap kf : Nat} {its : List (It α)} (h : MLaid ek ev W bL bK A gL cap kf its) (k : Nat) (hk : MDeps bL bK gL its k) : k < W.heap.size := by
  rcases hk with e | e | e | ⟨it, hi, hk⟩
  · subst e; exact (Array.getElem?_eq_some_iff.1 h.lists).1
  · subst e; exact (Array.getElem?_eq_some_iff.1 h.key).1
  · subst e; exact h.lt
  · exact (h.oks it hi).lt k hk
/-- What a head's rest is. -/
def RestAt (W : World) (base : Nat) (T : Blocks) (x : Hd) (zs : List α) : Prop :=
  ∃ g o cs, x.ad = some ⟨g, o, none⟩ ∧ x.len = zs.length ∧ x.len ≤ x.cap ∧ x.cap ≤ maxLen ∧ base ≤ g ∧ T g ∧ W.heap[g]? = some (.cells cs 3 (0, 0)) ∧ CellsAt ek ev W g o zs
theorem RestAt.keep {W W' : World} {base : Nat} {T T' : Blocks} {x : Hd} {zs : List α} (h : RestAt ek ev W base T x zs) (hT : ∀ k, T k → T' k) (hk : ∀ g cs, T g → W.heap[g]? = some (.cells cs 3 (0, 0)) → W'.heap[g]? = W.heap[g]?) : RestAt ek ev W' base T' x zs := by
  obtain ⟨g, o, cs, h1, h2, h3, h4, h5, h6, h7, h8⟩ := h
  have := hk g cs h6 h7
  exact ⟨g, o, cs, h1, h2, h3, h4, h5, hT _ h6, this.trans h7, h8.keep _ _ this⟩
/-- The marks that the ranges have left. -/
def Marks (ds : List Deferred) (T : Blocks) (W : World) : Prop := ∃ cs : List Nat, cs.Nodup ∧ ds = cs.map (fun C => ({ target := .collected C, args := #[] } : Deferred)) ∧ ∀ C ∈ cs, T C ∧ W.heap[C]? = some (.deferred (some []))
theorem Marks.nil (T : Blocks) (W : World) : Marks [] T W := ⟨[], List.nodup_nil, rfl, fun C h => by cases h⟩
theorem Marks.keep {ds : List Deferred} {T T' : Blocks} {W W' : World} (h : Marks ds T W) (hT : ∀ k, T k → T' k) (hk : ∀ k, T k → W.heap[k]? = some (.deferred (some [])) → W'.heap[k]? = W.heap[k]?) : Marks ds T' W' := by
  obtain ⟨cs, h1, h2, h3⟩ := h
  exact ⟨cs, h1, h2, fun C hC => ⟨hT C (h3 C hC).1, (hk C (h3 C hC).1 (h3 C hC).2).trans (h3 C hC).2⟩⟩
theorem Marks.more {ds : List Deferred} {T : Blocks} {W : World} (h : Marks ds T W) (C : Nat) (hT : T C) (hC : W.heap[C]? = some (.deferred (some []))) (hn : ∀ k, T k → W.heap[k]? = some (.deferred (some [])) → ({ target := .collected k, args := #[] } : Deferred) ∈ ds → k ≠ C) : Marks ({ target := .collected C, args := #[] } :: ds) T W := by
  obtain ⟨cs, h1, h2, h3⟩ := h
  refine ⟨C :: cs, List.nodup_cons.2 ⟨fun hm => ?_, h1⟩, by rw [h2]; rfl, fun k hk => ?_⟩
  · exact hn C (h3 C hm).1 (h3 C hm).2 (by rw [h2]; exact List.mem_map.2 ⟨C, hm, rfl⟩) rfl
  · rcases List.mem_cons.1 hk with rfl | hk
    · exact ⟨hT, hC⟩
    · exact h3 k hk
theorem Marks.mem {ds : List Deferred} {T : Blocks} {W : World} (h : Marks ds T W) {k : Nat} (hm : ({ target := .collected k, args := #[] } : Deferred) ∈ ds) : T k := by
  obtain ⟨cs, h1, h2, h3⟩ := h
  rw [h2] at hm
  obtain ⟨C, hC, e⟩ := List.mem_map.1 hm
  injection e with e
  injection e with e
  subst e
  exact (h3 C hC).1
/-- The activation is left: the marks are taken. -/
theorem Marks.leave {fn : Func} (hfn : fn.results = #[]) {tmps : Array Value} {R : Ending → World → Prop} {ds : List Deferred} {T : Blocks} {W : World} (h : Marks ds T W) (hR : ∀ W', Turned T T W W' → R (.returned (.tuple #[])) W') : LeavesInM Fence.wide 0 Try.prog fn tmps R ds .returning W := by
  obtain ⟨cs, h1, h2, h3⟩ := h
  subst h2
  induction cs generalizing W with
  | nil => exact ⟨_, results_none hfn _ _ _, hR W (Turned.refl T W)⟩
  | cons C cs ih =>
    obtain ⟨hTC, hC⟩ := h3 C List.mem_cons_self
    have ht : Turned T T W (W.putObj C (.deferred none)) := ⟨rfl, rfl, rfl, by simp [World.putObj], fun _ h => h, fun _ h => .inl h, fun k _ hn => World.putObj_heap_other (fun e => hn (by subst e; exact hTC))⟩
    refine ⟨by simp, .inl ⟨C, _, rfl, run_takeDeferred hC, ih (fun W' hW' => hR W' (ht.trans hW')) (List.nodup_cons.1 h1).2 (fun k hk => ?_)⟩⟩
    obtain ⟨q1, q2⟩ := h3 k (List.mem_cons_of_mem _ hk)
    exact ⟨q1, (World.putObj_heap_other (fun e => (List.nodup_cons.1 h1).1 (by subst e; exact hk))).trans q2⟩
/-- The heap while Merge's iterator goes: W is the world at its call; T are its own blocks. -/
structure MState (W : World) (T : Blocks) (X : World) (v : Value) (l : List Hd) (rem : List (List α)) : Prop where
  size : W.heap.size ≤ X.heap.size
  lo : ∀ k, T k → W.heap.size ≤ k ∧ k < X.heap.size
  th : T W.heap.size
  box : X.heap[W.heap.size]? = some (.cells #[v] 98 (0, 0))
  row : HRow X W.heap.size 101 v l
  tv : ∀ k, v.ownBlock = some k → T k
  heap : Heap l
  heads : Heads ek (RestAt ek ev X W.heap.size T) l rem
  short : l.length ≤ rem.length
theorem MState.keep {W X X' : World} {T T' : Blocks} {v : Value} {l : List Hd} {rem : List (List α)} (h : MState ek ev W T X v l rem) (hs : X.heap.size ≤ X'.heap.size) (hT : ∀ k, T k → T' k) (hlo : ∀ k, T' k → W.heap.size ≤ k ∧ k < X'.heap.size) (hk : Same T X X') : MState ek ev W T' X' v l rem :=
  ⟨Nat.le_trans h.size hs, hlo, hT _ h.th, (hk _ h.th (h.lo _ h.th).2).trans h.box, h.row.keep (fun k hk2 => hk k (h.tv k hk2) (h.lo _ (h.tv k hk2)).2), fun k hk2 => hT _ (h.tv k hk2), h.heap,
    h.heads.mono (fun x xs _ hr => hr.keep _ _ hT (fun g cs hg _ => hk g hg (h.lo g hg).2)), h.short⟩
theorem after_gather {X1 wr Y : World} {T T' : Blocks} {xs : List α} (hX1 : wr.alloc (.cells #[.slice none 0 0] 73) = X1) (hG : GI ek ev X1 wr.heap.size xs T' Y) : wr.heap.size ≤ Y.heap.size ∧ (∀ k, k < wr.heap.size → Y.heap[k]? = wr.heap[k]?) ∧ Turned T (withNew T wr Y) wr Y := by
  subst hX1
  have hs := hG.size
  rw [World.size_alloc] at hs
  have h1 : ∀ k, k < wr.heap.size → Y.heap[k]? = wr.heap[k]? := fun k hk => (hG.same k (by rw [World.size_alloc]; omega) (by omega)).trans (Below.heap_alloc wr _ k hk)
  exact ⟨by omega, h1, Turned.grow hG.os hG.tape hG.output (by omega) (fun k hk _ => h1 k hk)⟩
theorem MState.old {W wr Y : World} {T : Blocks} {v : Value} {l : List Hd} {rem : List (List α)} (h : MState ek ev W T wr v l rem) (hs : wr.heap.size ≤ Y.heap.size) (ho : ∀ k, k < wr.heap.size → Y.heap[k]? = wr.heap[k]?) : MState ek ev W (withNew T wr Y) Y v l rem :=
  h.keep _ _ hs (fun _ h => .inl h) (fun k hk => by
    have := h.size
    rcases hk with hk | hk
    · have := h.lo k hk; omega
    · omega) (fun k _ hk => ho k hk)
/-- A head is put in. -/
theorem MState.put {W Y Z : World} {T : Blocks} {v v' : Value} {l l' : List Hd} {rem rem' : List (List α)} {x : Hd} (h : MState ek ev W T Y v l rem) (ht : Turns (fun k => k = W.heap.size ∨ v.ownBlock = some k) Y Z)
    (h1 : Z.heap[W.heap.size]? = some (.cells #[v'] 98 (0, 0))) (h2 : HRow Z W.heap.size 101 v' l') (h3 : Heap l') (h4 : l'.Perm (x :: l)) (h5 : v'.ownBlock = v.ownBlock ∨ ∃ b, v'.ownBlock = some b ∧ Y.heap.size ≤ b)
    (hh : Heads ek (RestAt ek ev Y W.heap.size T) (x :: l) rem') (hr : l.length + 1 ≤ rem'.length) : MState ek ev W (withNew T Y Z) Z v' l' rem' ∧ Turned T (withNew T Y Z) Y Z := by
  have hs := ht.size
  have hsz := h.size
  refine ⟨⟨by omega, fun k hk => ?_, .inl h.th, h1, h2, fun k hk => ?_, h3, ?_, ?_⟩, Turned.grow ht.os ht.tape ht.output hs (fun k hk hn => ht.same k hk (fun e => hn ?_))⟩
  · rcases hk with hk | hk
    · have := h.lo k hk; omega
    · omega
  · rcases h5 with h5 | ⟨b, h5, h6⟩
    · exact .inl (h.tv k (by rw [← h5]; exact hk))
    · rw [h5] at hk
      injection hk with hk
      subst hk
      exact .inr ⟨h6, (h2.blocks _ h5).2⟩
  · refine (hh.perm h4).mono (fun y ys hy hR => hR.keep _ _ (fun k hk => .inl hk) (fun g cs hg hc => ht.same g (h.lo g hg).2 (fun e => ?_)))
    rcases e with e | e
    · have := h.box
      rw [← e, hc] at this
      injection this with this
      injection this with _ this _
      cases this
    · obtain ⟨cur, hcur⟩ := h.row.typed g e
      rw [hc] at hcur
      injection hcur with hcur
      injection hcur with _ hcur _
      cases hcur
  · rw [h4.length_eq]
    exact hr
  · rcases e with e | e
    · subst e; exact h.th
    · exact h.tv k e
theorem MState.apart {W Y : World} {T : Blocks} {v : Value} {l : List Hd} {rem : List (List α)} (h : MState ek ev W T Y v l rem) {b : Nat} {o : Obj} (hb : Y.heap[b]? = some o) (h1 : ∀ cs, o ≠ .cells cs 98 (0, 0)) (h2 : ∀ cs, o ≠ .cells cs 101 (0, 0)) : ¬ (b = W.heap.size ∨ v.ownBlock = some b) := by
  rintro (e | e)
  · subst e
    rw [h.box] at hb
    injection hb with hb
    exact h1 _ hb.symm
  · obtain ⟨cur, hc⟩ := h.row.typed b e
    rw [hc] at hb
    injection hb with hb
    exact h2 _ hb.symm
/-- The key has been asked, and the head is put in. -/
theorem MState.more {W Y w1 w2 : World} {T : Blocks} {v v' : Value} {l l' : List Hd} {rem rem' : List (List α)} {x : Hd} (h : MState ek ev W T Y v l rem) (hbl : Below Y.heap.size Y w1) (ht : Turns (fun k => k = W.heap.size ∨ v.ownBlock = some k) w1 w2)
    (h1 : w2.heap[W.heap.size]? = some (.cells #[v'] 98 (0, 0))) (h2 : HRow w2 W.heap.size 101 v' l') (h3 : Heap l') (h4 : l'.Perm (x :: l)) (h5 : v'.ownBlock = v.ownBlock ∨ ∃ b, v'.ownBlock = some b ∧ w1.heap.size ≤ b)
    (hh : Heads ek (RestAt ek ev Y W.heap.size T) (x :: l) rem') (hr : l.length + 1 ≤ rem'.length) :
    ∃ T3 : Blocks, MState ek ev W T3 w2 v' l' rem' ∧ Turned T T3 Y w2 ∧ (∀ k, T k → T3 k) ∧ (∀ ds, Marks ds T Y → Marks ds T3 w2) ∧ (∀ D : Blocks, (∀ k, D k → k < W.heap.size) → Same D Y w2) := by
  have hw := h.old _ _ hbl.size (fun k hk => hbl.block k hk)
  have hh1 := hh.mono (R' := RestAt ek ev w1 W.heap.size (withNew T Y w1)) (fun y ys _ hR => hR.keep _ _ (fun _ h => .inl h) (fun g cs hg _ => hbl.block g (h.lo g hg).2))
  obtain ⟨q1, q2⟩ := hw.put _ _ ht h1 h2 h3 h4 h5 hh1 hr
  have q3 : Turned T (withNew T Y w1) Y w1 := Turned.grow hbl.os hbl.tape hbl.output hbl.size (fun k hk _ => hbl.block k hk)
  refine ⟨_, q1, q3.trans q2, fun k hk => .inl (.inl hk), fun ds hm => hm.keep (fun k hk => .inl (.inl hk)) (fun k hk hd => ?_), fun D hD k hk hl => ?_⟩
  · have hk1 := (h.lo k hk).2
    have hk2 := hbl.block k hk1
    exact (ht.same k (Nat.lt_of_lt_of_le hk1 hbl.size) (hw.apart _ _ (hk2.trans hd) (fun _ e => (by cases e)) (fun _ e => (by cases e)))).trans hk2
  · refine (ht.same k (Nat.lt_of_lt_of_le hl hbl.size) (fun e => ?_)).trans (hbl.block k hl)
    have := hD k hk
    rcases e with e | e
    · omega
    · have := (h.row.blocks k e).1; omega
theorem heap_fits2 {l n : Nat} (h : (n + 1) * 40 ≤ 140737488355328) (hl : l ≤ n) : (l + 1) * 40 ≤ 140737488355328 := by omega
theorem heap_fits {l i n : Nat} (h : (n + 1) * 40 ≤ 140737488355328) (hi : i < n) (hl : l ≤ i) : (l + 1) * 40 ≤ 140737488355328 := by omega
theorem heads_more {R : Hd → List α → Prop} {l : List Hd} {rem : List (List α)} {key : α → Int} (h : Heads key R l rem) {zs : List α} {y : α} {ys : List α} (hz : zs = y :: ys) (x : Hd) (h1 : x.frm = (rem.length : Int)) (h2 : x.key = key y) (h3 : R x zs) : Heads key R (x :: l) (rem ++ [zs]) := by
  subst hz
  exact h.more y ys x h1 h2 h3
/-- A list that has been gathered gives a head. -/
theorem RestAt.fresh {W wr X1 Y : World} {T T' : Blocks} {xs : List α} {A7 : Option Addr} {c7 : Nat} (hW : W.heap.size ≤ wr.heap.size) (hX1 : wr.alloc (.cells #[.slice none 0 0] 73) = X1) (hG : GI ek ev X1 wr.heap.size xs T' Y) (hv : Y.heap[wr.heap.size]? = some (.cells #[.slice A7 xs.length c7] 73 (0, 0))) (hp : 0 < xs.length) (i : Int) :
    ∃ g, A7 = some ⟨g, 0, none⟩ ∧ ∀ k, RestAt ek ev Y W.heap.size (withNew T wr Y) ⟨k, i, A7, xs.length, c7⟩ xs := by
  obtain ⟨v, q1, q2, q3⟩ := hG.row
  rw [hv] at q1
  injection q1 with q1
  injection q1 with q1
  have : Value.slice A7 xs.length c7 = v := by simpa using q1
  subst this
  rcases q2.2 with ⟨e, hn⟩ | ⟨g, cap, cur, e, hb, hgg, hn, hm, _, _⟩
  · omega
  · injection e with e1 e2 e3
    subst e1 e3
    refine ⟨g, rfl, fun k => ⟨g, 0, cur, rfl, rfl, hn, hm, ?_, .inr ⟨?_, (Array.getElem?_eq_some_iff.1 hgg).1⟩, hgg, cellsAt_of_own ek ev q2⟩⟩
    · rw [← hX1, World.size_alloc] at hb; omega
    · rw [← hX1, World.size_alloc] at hb; omega
end
end Go.Proofs.Ytojbfjfjhfnopaa.MergeI
end

section
/- The heap while heads are taken and put back. -/
namespace Go.Proofs.Ytojbfjfjhfnopaa.MergeI
open Go.RowKit Go.Shelf RangeD SeqI MergeL HeapL
set_option linter.unusedVariables false
/-- The heap's own blocks: W is the world at the call, T what is the iterator's own. -/
structure HState (W : World) (T : Blocks) (X : World) (v : Value) (l : List Hd) : Prop where
  size : W.heap.size ≤ X.heap.size
  lo : ∀ k, T k → W.heap.size ≤ k ∧ k < X.heap.size
  th : T W.heap.size
  box : X.heap[W.heap.size]? = some (.cells #[v] 98 (0, 0))
  row : HRow X W.heap.size 101 v l
  tv : ∀ k, v.ownBlock = some k → T k
  heap : Heap l
/-- One head, in a row of its own. -/
theorem one_row (w : World) (base : Nat) (hb : base ≤ w.heap.size) (x : Hd) : HRow (w.alloc (.cells #[.int .u64 x.key, .int .i64 x.frm, .slice x.ad x.len x.cap] 101)) base 101 (.slice (some ⟨w.heap.size, 0, none⟩) 1 1) [x] := by
  refine ⟨⟨rfl, .inr ⟨w.heap.size, 1, _, rfl, hb, World.alloc_heap_new w _, Nat.le_refl _, by unfold maxLen; omega, rfl, rfl⟩⟩, fun y hy => ?_⟩
  rw [List.mem_singleton] at hy
  subst hy
  rfl
section
variable {W X Y Z : World} {T T' : Blocks} {v v' : Value} {l l' : List Hd}
theorem HState.keep (h : HState W T X v l) (hs : X.heap.size ≤ Y.heap.size) (hT : ∀ k, T k → T' k) (hlo : ∀ k, T' k → W.heap.size ≤ k ∧ k < Y.heap.size) (hk : Same T X Y) : HState W T' Y v l :=
  ⟨Nat.le_trans h.size hs, hlo, hT _ h.th, (hk _ h.th (h.lo _ h.th).2).trans h.box, h.row.keep (fun k hk2 => hk k (h.tv k hk2) (h.lo _ (h.tv k hk2)).2), fun k hk2 => hT _ (h.tv k hk2), h.heap⟩
theorem HState.same (h : HState W T X v l) (hs : X.heap.size ≤ Y.heap.size) (hk : Same T X Y) : HState W T Y v l :=
  h.keep hs (fun _ h => h) (fun k hk => ⟨(h.lo k hk).1, Nat.lt_of_lt_of_le (h.lo k hk).2 hs⟩) hk
theorem HState.old (h : HState W T X v l) (hs : X.heap.size ≤ Y.heap.size) (ho : ∀ k, k < X.heap.size → Y.heap[k]? = X.heap[k]?) : HState W (withNew T X Y) Y v l :=
  h.keep hs (fun _ h => .inl h) (fun k hk => by
    have := h.size
    rcases hk with hk | hk
    · have := h.lo k hk; omega
    · omega) (fun k _ hk => ho k hk)
theorem HState.apart (h : HState W T Y v l) {b : Nat} {o : Obj} (hb : Y.heap[b]? = some o) (h1 : ∀ cs, o ≠ .cells cs 98 (0, 0)) (h2 : ∀ cs, o ≠ .cells cs 101 (0, 0)) : ¬ (b = W.heap.size ∨ v.ownBlock = some b) := by
  rintro (e | e)
  · subst e
    rw [h.box] at hb
    injection hb with hb
    exact h1 _ hb.symm
  · obtain ⟨cur, hc⟩ := h.row.typed b e
    rw [hc] at hb
    injection hb with hb
    exact h2 _ hb.symm
/-- put, or take, has been called. -/
theorem HState.turn (h : HState W T Y v l) (ht : Turns (fun k => k = W.heap.size ∨ v.ownBlock = some k) Y Z) (h1 : Z.heap[W.heap.size]? = some (.cells #[v'] 98 (0, 0))) (h2 : HRow Z W.heap.size 101 v' l') (h3 : Heap l')
    (h5 : v'.ownBlock = v.ownBlock ∨ ∃ b, v'.ownBlock = some b ∧ Y.heap.size ≤ b) : HState W (withNew T Y Z) Z v' l' ∧ Turned T (withNew T Y Z) Y Z := by
  have hs := ht.size
  have hsz := h.size
  refine ⟨⟨by omega, fun k hk => ?_, .inl h.th, h1, h2, fun k hk => ?_, h3⟩, Turned.grow ht.os ht.tape ht.output hs (fun k hk hn => ht.same k hk (fun e => hn ?_))⟩
  · rcases hk with hk | hk
    · have := h.lo k hk; omega
    · omega
  · rcases h5 with h5 | ⟨b, h5, h6⟩
    · exact .inl (h.tv k (by rw [← h5]; exact hk))
    · rw [h5] at hk
      injection hk with hk
      subst hk
      exact .inr ⟨h6, (h2.blocks _ h5).2⟩
  · rcases e with e | e
    · subst e; exact h.th
    · exact h.tv k e
/-- What lies elsewhere, of another type, is left. -/
theorem HState.turn_same (h : HState W T Y v l) (ht : Turns (fun k => k = W.heap.size ∨ v.ownBlock = some k) Y Z) {b : Nat} {o : Obj} (hb : Y.heap[b]? = some o) (h1 : ∀ cs, o ≠ .cells cs 98 (0, 0)) (h2 : ∀ cs, o ≠ .cells cs 101 (0, 0)) : Z.heap[b]? = Y.heap[b]? :=
  ht.same b (Array.getElem?_eq_some_iff.1 hb).1 (h.apart hb h1 h2)
theorem HState.turn_low (h : HState W T Y v l) (ht : Turns (fun k => k = W.heap.size ∨ v.ownBlock = some k) Y Z) {D : Blocks} (hD : ∀ k, D k → k < W.heap.size) : Same D Y Z := fun k hk hl => ht.same k hl (fun e => by
  have := hD k hk
  rcases e with e | e
  · omega
  · have := (h.row.blocks k e).1; omega)
theorem Marks.turned {ds : List Deferred} (hm : Marks ds T Y) (hT : ∀ k, T k → T' k) (h : ∀ k, T k → Y.heap[k]? = some (.deferred (some [])) → Z.heap[k]? = Y.heap[k]?) : Marks ds T' Z := hm.keep hT h
section
variable {α : Type} {ek : α → Int} {ev : α → Int} {rem : List (List α)}
theorem MState.state (h : MState ek ev W T X v l rem) : HState W T X v l := ⟨h.size, h.lo, h.th, h.box, h.row, h.tv, h.heap⟩
theorem HState.full (h : HState W T X v l) (hh : Heads ek (RestAt ek ev X W.heap.size T) l rem) (hr : l.length ≤ rem.length) : MState ek ev W T X v l rem := ⟨h.size, h.lo, h.th, h.box, h.row, h.tv, h.heap, hh, hr⟩
/-- The heads' rests lie on through put and take. -/
theorem HState.rests (h : HState W T Y v l) (ht : Turns (fun k => k = W.heap.size ∨ v.ownBlock = some k) Y Z) {x : Hd} {zs : List α} (hR : RestAt ek ev Y W.heap.size T x zs) : RestAt ek ev Z W.heap.size (withNew T Y Z) x zs :=
  hR.keep _ _ (fun _ h => .inl h) (fun g cs _ hc => h.turn_same ht hc (fun _ e => (by cases e)) (fun _ e => (by cases e)))
theorem HState.marks {ds : List Deferred} (h : HState W T Y v l) (ht : Turns (fun k => k = W.heap.size ∨ v.ownBlock = some k) Y Z) (hm : Marks ds T Y) : Marks ds (withNew T Y Z) Z :=
  hm.keep (fun _ h => .inl h) (fun k _ hd => h.turn_same ht hd (fun _ e => (by cases e)) (fun _ e => (by cases e)))
/-- A head has been taken, and laid in a cell of its own. -/
theorem MState.taken {w1 : World} {x : Hd} (h : MState ek ev W T Y v l rem) (ht : Turns (fun k => k = W.heap.size ∨ v.ownBlock = some k) Y w1) (h1 : w1.heap[W.heap.size]? = some (.cells #[v'] 98 (0, 0))) (h2 : HRow w1 W.heap.size 101 v' l') (h3 : Heap l') (h5 : v'.ownBlock = v.ownBlock) (h4 : l.Perm (x :: l')) (o : Obj) :
    ∃ T3 : Blocks, HState W T3 (w1.alloc o) v' l' ∧ Heads ek (RestAt ek ev (w1.alloc o) W.heap.size T3) (l' ++ [x]) rem ∧ Turned T T3 Y (w1.alloc o) ∧ (∀ ds, Marks ds T Y → Marks ds T3 (w1.alloc o)) ∧ (∀ D : Blocks, (∀ k, D k → k < W.heap.size) → Same D Y (w1.alloc o)) ∧ T3 w1.heap.size ∧ (w1.alloc o).heap[w1.heap.size]? = some o := by
  obtain ⟨q1, q2⟩ := h.state.turn ht h1 h2 h3 (.inl h5)
  have ho : ∀ k, k < w1.heap.size → (w1.alloc o).heap[k]? = w1.heap[k]? := fun k hk => Below.heap_alloc w1 o k hk
  have hs : w1.heap.size ≤ (w1.alloc o).heap.size := by simp
  have q3 := q1.old hs ho
  have q4 : Turned (withNew T Y w1) (withNew (withNew T Y w1) w1 (w1.alloc o)) w1 (w1.alloc o) := Turned.grow rfl rfl rfl hs (fun k hk _ => ho k hk)
  refine ⟨_, q3, ?_, q2.trans q4, fun ds hm => (h.state.marks ht hm).keep (fun _ h => .inl h) (fun k hk _ => ho k (q1.lo k hk).2), fun D hD => (h.state.turn_low ht hD).trans ht.size (fun k hk hl => ho k hl), .inr ⟨Nat.le_refl _, by simp⟩, World.alloc_heap_new w1 o⟩
  refine (h.heads.perm (((List.perm_append_comm (l₁ := l') (l₂ := [x])).trans h4.symm))).mono (fun y ys _ hR => (h.state.rests ht hR).keep _ _ (fun _ h => .inl h) (fun g cs hg _ => ho g (q1.lo g hg).2))
theorem HState.rested {hs : List Hd} (h : HState W T X v l) (hh : Heads ek (RestAt ek ev X W.heap.size T) hs rem) (hk : Same T X Y) : Heads ek (RestAt ek ev Y W.heap.size T) hs rem :=
  hh.mono (fun y ys _ hR => hR.keep _ _ (fun _ h => h) (fun g cs hg _ => hk g hg (h.lo g hg).2))
end
end
end Go.Proofs.Ytojbfjfjhfnopaa.MergeI
end

section
/- The rounds of the two inner loops of the iterator: a head is passed; a head goes on. -/
namespace Go.Proofs.Ytojbfjfjhfnopaa.MergeI
open Go.RowKit Go.Shelf RangeD SeqI MergeL HeapL
set_option linter.unusedVariables false
theorem fits_l {lr pas : List Hd} {m n : Nat} (h : (lr ++ pas).length ≤ m) (hm : m = n) (hn : (n + 1) * 40 ≤ 140737488355328) : (lr.length + 1) * 40 ≤ 140737488355328 := by
  rw [List.length_append] at h
  omega
theorem fits_r {lr pas : List Hd} {m n : Nat} (h : (lr ++ pas).length ≤ m) (hm : m = n) (hn : (n + 1) * 40 ≤ 140737488355328) : (pas.length + 1) * 40 ≤ 140737488355328 := by
  rw [List.length_append] at h
  omega
theorem max40 {n : Nat} (h : (n + 1) * 40 ≤ 140737488355328) : n + 1 ≤ maxLen := by unfold maxLen; omega
theorem sep_types {w : World} {base hb gp np cp : Nat} {pas : List Hd} {v : Value} (h : HRow w base 101 (.slice (some ⟨gp, 0, none⟩) np cp) pas) (hb2 : w.heap[hb]? = some (.cells #[v] 98 (0, 0))) : gp ≠ hb := fun e => by
  obtain ⟨cur, hgt⟩ := h.typed gp (by simp [Value.ownBlock])
  rw [e, hb2] at hgt
  injection hgt with hgt
  injection hgt with _ hgt _
  cases hgt
theorem taken_key {lr l' : List Hd} {x : Hd} (h : Heap lr) (hl : 0 < lr.length) (hp : lr.Perm (x :: l')) (hm : ∀ z ∈ l', x.le z) : x.key = (at_ lr 0).key := by
  have h1 : at_ lr 0 ∈ lr := by rw [at_get lr 0 hl]; exact List.getElem_mem hl
  have h2 : x.le (at_ lr 0) := by
    rcases List.mem_cons.1 (hp.mem_iff.1 h1) with e | e
    · rw [e]; exact Hd.le_refl _
    · exact hm _ e
  obtain ⟨j, hj, e⟩ := List.getElem_of_mem (hp.mem_iff.2 (List.mem_cons_self (a := x)))
  have h3 := h.root j hj
  rw [at_get lr j hj, e] at h3
  unfold Hd.le Hd.Lt at h2 h3
  omega
theorem len_pass {lr l' pas : List Hd} {x : Hd} {n : Nat} (hp : lr.Perm (x :: l')) (h : (lr ++ pas).length ≤ n) : (l' ++ (pas ++ [x])).length ≤ n := by
  have h1 := hp.length_eq
  simp only [List.length_append, List.length_cons, List.length_nil] at h h1 ⊢
  omega
theorem len_less {lr l' : List Hd} {x : Hd} {n : Nat} (hp : lr.Perm (x :: l')) (h : lr.length ≤ n) : l'.length < n := by
  have h1 := hp.length_eq
  simp only [List.length_cons] at h1
  omega
theorem len_start {lr pas : List Hd} {n : Nat} (h : (lr ++ pas).length ≤ n) : lr.length + (pas.length - 0) ≤ n := by
  rw [List.length_append] at h
  omega
theorem drop_at {l : List Hd} {j : Nat} (h : j < l.length) : l.drop j = at_ l j :: l.drop (j + 1) := by rw [at_get l j h]; exact List.drop_eq_getElem_cons h
section
variable {W X Y Z : World} {T T' : Blocks} {v v' : Value} {l l' : List Hd}
theorem HState.pass (h : HState W T Y v l) {gp : Nat} (hs : Y.heap.size ≤ Z.heap.size) (hk : ∀ k, k < Y.heap.size → k ≠ gp → Z.heap[k]? = Y.heap[k]?) (hg : gp ≠ W.heap.size) (hv : v.ownBlock ≠ some gp) : HState W (withNew T Y Z) Z v l :=
  ⟨Nat.le_trans h.size hs, fun k hk2 => by
    have := h.size
    rcases hk2 with hk2 | hk2
    · have := h.lo k hk2; omega
    · omega, .inl h.th, (hk _ (h.lo _ h.th).2 (Ne.symm hg)).trans h.box, h.row.keep (fun k hk2 => hk k (h.row.blocks k hk2).2 (fun e => hv (e ▸ hk2))), fun k h2 => .inl (h.tv k h2), h.heap⟩
section
variable {α : Type} {ek : α → Int} {ev : α → Int} {rem : List (List α)}
theorem pass_round {w1 w2 : World} {lr pas : List Hd} {gp np cp : Nat} {x : Hd} {o : Obj} {vp' : Value} (K2 : HState W T X v lr) (K4 : HRow X W.heap.size 101 (.slice (some ⟨gp, 0, none⟩) np cp) pas) (KT : T gp) (hne : v.ownBlock ≠ some gp)
    (K6 : Heads ek (RestAt ek ev X W.heap.size T) (lr ++ pas) rem)
    (p1 : w1.heap[W.heap.size]? = some (.cells #[v'] 98 (0, 0))) (p2 : HRow w1 W.heap.size 101 v' l') (p3 : Heap l') (p4 : lr.Perm (x :: l')) (p6 : v'.ownBlock = v.ownBlock) (p7 : Turns (fun k => k = W.heap.size ∨ v.ownBlock = some k) X w1)
    (q1 : w2.ownsRow W.heap.size 101 3 vp' (pas.length + 1) (rowCells pas ++ [.int .u64 x.key, .int .i64 x.frm, .slice x.ad x.len x.cap])) (q2 : (w1.alloc o).grownBy w2 (some gp)) (q3 : vp'.ownBlock = some gp ∨ vp'.ownBlock = some (w1.alloc o).heap.size) :
    ∃ T' gp' cp', vp' = .slice (some ⟨gp', 0, none⟩) (pas.length + 1) cp' ∧ HState W T' w2 v' l' ∧ HRow w2 W.heap.size 101 vp' (pas ++ [x]) ∧ T' gp' ∧ gp ≤ gp' ∧ Heads ek (RestAt ek ev w2 W.heap.size T') (l' ++ (pas ++ [x])) rem ∧ Turned T T' X w2 ∧ (∀ ds, Marks ds T X → Marks ds T' w2) ∧ (∀ D : Blocks, (∀ k, D k → k < W.heap.size) → Same D X w2) ∧
      (∀ k, k < X.heap.size → k ≠ W.heap.size → v.ownBlock ≠ some k → k ≠ gp → w2.heap[k]? = X.heap[k]?) := by
  obtain ⟨cur, hgt⟩ := K4.typed gp (by simp [Value.ownBlock])
  have hgX := (Array.getElem?_eq_some_iff.1 hgt).1
  have hgW : gp ≠ W.heap.size := fun e => by
    have hb := K2.box
    rw [← e, hgt] at hb
    injection hb with hb
    injection hb with _ hb _
    cases hb
  have hgb : W.heap.size ≤ gp := (K4.blocks gp (by simp [Value.ownBlock])).1
  obtain ⟨s1, s2⟩ := K2.turn p7 p1 p2 p3 (.inl p6)
  have hgt1 : w1.heap[gp]? = some (.cells cur 101 (0, 0)) := (p7.same gp hgX (fun e => e.elim hgW hne)).trans hgt
  have hs12 : w1.heap.size ≤ w2.heap.size := by
    have h1 := q2.size
    rw [World.size_alloc] at h1
    omega
  have hk12 : ∀ k, k < w1.heap.size → k ≠ gp → w2.heap[k]? = w1.heap[k]? := fun k hk hn =>
    (q2.block k (by rw [World.size_alloc]; omega) (fun e => by injection e with e; exact hn e)).trans (Below.heap_alloc w1 o k hk)
  have s3 := s1.pass hs12 hk12 hgW (by rw [p6]; exact hne)
  have s4 : Turned (withNew T X w1) (withNew (withNew T X w1) w1 w2) w1 w2 := Turned.grow q2.os q2.tape q2.output hs12 (fun k hk hn => hk12 k hk (fun e => hn (by subst e; exact .inl KT)))
  have hlen : pas.length + 1 = (pas ++ [x]).length := by simp
  obtain ⟨gp', cp', e1, e2⟩ : ∃ gp' cp', vp' = .slice (some ⟨gp', 0, none⟩) (pas.length + 1) cp' ∧ (gp' = gp ∨ gp' = (w1.alloc o).heap.size) := by
    obtain ⟨gg, cg, ev', _, _⟩ := q1.form (Nat.succ_pos _)
    refine ⟨gg, cg, ev', ?_⟩
    subst ev'
    simp only [Value.ownBlock, Option.some.injEq] at q3
    exact q3
  refine ⟨_, gp', cp', e1, s3, HRow.more rfl K4.2 q1, ?_, ?_, ?_, s2.trans s4, fun ds hm => ((K2.marks p7 hm).keep (fun _ h => .inl h) (fun k hk hd => hk12 k (s1.lo k hk).2 (fun e => by subst e; rw [hgt1] at hd; cases hd))), fun D hD k hk hl => (hk12 k (Nat.lt_of_lt_of_le hl p7.size) (fun e => by have := hD k hk; omega)).trans (K2.turn_low p7 hD k hk hl), fun k hk h1 h2 h3 => (hk12 k (Nat.lt_of_lt_of_le hk p7.size) h3).trans (p7.same k hk (fun e => e.elim h1 h2))⟩
  · rcases e2 with e2 | e2
    · subst e2; exact .inl (.inl KT)
    · have := q1.lt gp' (by rw [e1]; rfl)
      rw [World.size_alloc] at e2
      exact .inr ⟨by omega, this.2⟩
  · rcases e2 with e2 | e2
    · omega
    · rw [World.size_alloc] at e2
      have := p7.size
      omega
  · have hp : (l' ++ (pas ++ [x])).Perm (lr ++ pas) := by
      have a1 : (l' ++ (pas ++ [x])).Perm ((x :: l') ++ pas) := by
        rw [← List.append_assoc]
        exact List.perm_append_comm (l₁ := l' ++ pas) (l₂ := [x])
      exact a1.trans (List.Perm.append_right pas p4.symm)
    refine (K6.perm hp).mono (fun y ys _ hR => (K2.rests p7 hR).keep _ _ (fun _ h => .inl h) (fun g cs hg hc => hk12 g (s1.lo g hg).2 (fun e => by subst e; rw [hgt1] at hc; injection hc with hc; injection hc with _ hc _; cases hc)))
theorem pick_min {y : α} (h : pick ek rem = some y) : ∀ (i : Nat) (z : α) (zs : List α), rem[i]? = some (z :: zs) → ek y ≤ ek z := by
  induction rem generalizing y with
  | nil => simp [pick] at h
  | cons l r ih =>
    intro i z zs hi
    cases l with
    | nil =>
      cases i with
      | zero => simp at hi
      | succ i => exact ih (by simpa [pick] using h) i z zs (by simpa using hi)
    | cons a t =>
      simp only [pick] at h
      cases hp : pick ek r with
      | none =>
        rw [hp] at h
        simp only [Option.some.injEq] at h
        subst h
        cases i with
        | zero => simp at hi; rw [hi.1]; exact Int.le_refl _
        | succ i =>
          have := (pick_none ek).1 hp (z :: zs) (List.mem_of_getElem? (by simpa using hi))
          cases this
      | some b =>
        rw [hp] at h
        simp only at h
        cases i with
        | zero =>
          simp only [List.getElem?_cons_zero, Option.some.injEq, List.cons.injEq] at hi
          obtain ⟨rfl, _⟩ := hi
          split at h <;> (injection h with h; subst h; omega)
        | succ i =>
          have := ih hp i z zs (by simpa using hi)
          split at h <;> (injection h with h; subst h; omega)
theorem no_more {R : Hd → List α → Prop} {lr pas : List Hd} {f : Nat} {y : α} {q : List α} (hp : Heap lr) (hh : Heads ek R (lr ++ pas) rem) (hm : mergeF ek (f + 1) rem = y :: q) (h0 : 0 < lr.length → (at_ lr 0).key ≠ ek y) : ∀ x ∈ lr, x.key ≠ ek y := by
  have hpk : pick ek rem = some y := by
    unfold mergeF at hm
    cases h : pick ek rem with
    | none => rw [h] at hm; cases hm
    | some b => rw [h] at hm; simp only [List.cons.injEq] at hm; rw [hm.1]
  have hge : ∀ x ∈ lr, ek y ≤ x.key := fun x hx => by
    obtain ⟨i, z, zs, _, e2, e3, _⟩ := hh.each x (List.mem_append_left _ hx)
    rw [e3]
    exact pick_min hpk i z zs e2
  intro x hx e
  obtain ⟨j, hj, rfl⟩ := List.getElem_of_mem hx
  have hl : 0 < lr.length := by omega
  have h1 := hp.root j hj
  rw [at_get lr j hj] at h1
  have h2 := hge (at_ lr 0) (by rw [at_get lr 0 hl]; exact List.getElem_mem hl)
  have h3 := h0 hl
  unfold Hd.le Hd.Lt at h1
  omega
theorem Mid.mono {R R' : Hd → List α → Prop} {k : Int} {rem0 : List (List α)} {lr ps : List Hd} (h : Mid ek R k rem0 lr ps rem) (hR : ∀ x xs, x ∈ lr ++ ps → R x xs → R' x xs) : Mid ek R' k rem0 lr ps rem := ⟨h.heads.mono hR, h.keys, h.len, h.old, h.new⟩
theorem Mid.perm {R : Hd → List α → Prop} {k : Int} {rem0 : List (List α)} {lr lr' ps : List Hd} (h : Mid ek R k rem0 lr ps rem) (hp : lr'.Perm lr) : Mid ek R k rem0 lr' ps rem := ⟨h.heads.perm (List.Perm.append_right ps hp), h.keys, h.len, h.old, h.new⟩
theorem gone_round {gp np cp : Nat} {pas lr ps : List Hd} {k : Int} {rem0 : List (List α)} (L2 : HState W T X v l) (L3 : HRow X W.heap.size 101 (.slice (some ⟨gp, 0, none⟩) np cp) pas) (L5 : Mid ek (RestAt ek ev X W.heap.size T) k rem0 lr ps rem) (o : Obj) :
    ∃ T', HState W T' (X.alloc o) v l ∧ HRow (X.alloc o) W.heap.size 101 (.slice (some ⟨gp, 0, none⟩) np cp) pas ∧ (∀ k, T k → T' k) ∧ Mid ek (RestAt ek ev (X.alloc o) W.heap.size T') k rem0 lr ps rem ∧ Turned T T' X (X.alloc o) ∧ (∀ ds, Marks ds T X → Marks ds T' (X.alloc o)) ∧ (∀ D : Blocks, Same D X (X.alloc o)) := by
  have ho : ∀ k, k < X.heap.size → (X.alloc o).heap[k]? = X.heap[k]? := fun k hk => Below.heap_alloc X o k hk
  have hs : X.heap.size ≤ (X.alloc o).heap.size := by simp
  refine ⟨_, L2.old hs ho, L3.keep (fun k hk => ho k (L3.blocks k hk).2), fun _ h => .inl h, Mid.mono L5 (fun x xs _ hR => hR.keep _ _ (fun _ h => .inl h) (fun g cs hg _ => ho g (L2.lo g hg).2)), Turned.grow rfl rfl rfl hs (fun k hk _ => ho k hk), fun ds hm => hm.keep (fun _ h => .inl h) (fun k hk _ => ho k (L2.lo k hk).2), fun D k _ hl => ho k hl⟩
theorem more_round {w1 w2 : World} {gp np cp : Nat} {pas ps : List Hd} {k : Int} {rem0 : List (List α)} {x : Hd} (L2 : HState W T X v l) (L3 : HRow X W.heap.size 101 (.slice (some ⟨gp, 0, none⟩) np cp) pas) (hne : v.ownBlock ≠ some gp) (L5 : Mid ek (RestAt ek ev X W.heap.size T) k rem0 (x :: l) ps rem)
    (hbl : Below X.heap.size X w1) (p6 : Turns (fun k => k = W.heap.size ∨ v.ownBlock = some k) w1 w2) (p1 : w2.heap[W.heap.size]? = some (.cells #[v'] 98 (0, 0))) (p2 : HRow w2 W.heap.size 101 v' l') (p3 : Heap l') (p4 : l'.Perm (x :: l)) (p5 : v'.ownBlock = v.ownBlock ∨ ∃ b, v'.ownBlock = some b ∧ w1.heap.size ≤ b) :
    ∃ T', HState W T' w2 v' l' ∧ HRow w2 W.heap.size 101 (.slice (some ⟨gp, 0, none⟩) np cp) pas ∧ (∀ k, T k → T' k) ∧ v'.ownBlock ≠ some gp ∧ Mid ek (RestAt ek ev w2 W.heap.size T') k rem0 l' ps rem ∧ Turned T T' X w2 ∧ (∀ ds, Marks ds T X → Marks ds T' w2) ∧ (∀ D : Blocks, (∀ k, D k → k < W.heap.size) → Same D X w2) := by
  have hgX : gp < X.heap.size := (L3.blocks gp (by simp [Value.ownBlock])).2
  have hgW := sep_types L3 L2.box
  have s1 := L2.old hbl.size (fun k hk => hbl.block k hk)
  have s2 : Turned T (withNew T X w1) X w1 := Turned.grow hbl.os hbl.tape hbl.output hbl.size (fun k hk _ => hbl.block k hk)
  obtain ⟨q1, q2⟩ := s1.turn p6 p1 p2 p3 p5
  have r1 : HRow w1 W.heap.size 101 (.slice (some ⟨gp, 0, none⟩) np cp) pas := L3.keep (fun k hk => hbl.block k (L3.blocks k hk).2)
  refine ⟨_, q1, r1.turn p6 (fun k hk e => ?_), fun k hk => .inl (.inl hk), ?_, ?_, s2.trans q2, fun ds hm => s1.marks p6 (hm.keep (fun _ h => .inl h) (fun k hk _ => hbl.block k (L2.lo k hk).2)), fun D hD k hk hl => (s1.turn_low p6 hD k hk (Nat.lt_of_lt_of_le hl hbl.size)).trans (hbl.block k hl)⟩
  · simp only [Value.ownBlock, Option.some.injEq] at hk
    subst hk
    exact e.elim hgW hne
  · intro e
    rcases p5 with p5 | ⟨b, p5, p7⟩
    · rw [p5] at e; exact hne e
    · rw [p5] at e
      injection e with e
      have := hbl.size
      omega
  · exact Mid.mono (Mid.perm L5 p4) (fun y ys _ hR => s1.rests p6 (hR.keep _ _ (fun _ h => .inl h) (fun g cs hg _ => hbl.block g (L2.lo g hg).2)))
theorem rest_next {g5 o5 pc : Nat} {cs5 : Array Value} {base : Nat} {z a : α} {t : List α} {i5 : Nat} (h : t.length + 1 + 1 ≤ pc ∧ pc ≤ maxLen ∧ base ≤ g5 ∧ T g5 ∧ X.heap[g5]? = some (.cells cs5 3 (0, 0)) ∧ CellsAt ek ev X g5 o5 (z :: a :: t)) :
    RestAt ek ev X base T ⟨ek a, i5, some ⟨g5, o5 + 1, none⟩, (a :: t).length, pc - 1⟩ (a :: t) ∧ X.cell? ⟨g5, o5 + 1, none⟩ = some (.int .i64 (ev a)) := by
  obtain ⟨h1, h2, h3, h4, h5, h6⟩ := h
  have h7 : CellsAt ek ev X g5 (o5 + 1) (a :: t) := fun j x hj => by
    have := h6 (j + 1) x (by simpa using hj)
    rw [show o5 + 1 + j = o5 + (j + 1) from by omega]
    exact this
  refine ⟨⟨g5, o5 + 1, cs5, rfl, rfl, ?_, ?_, h3, h4, h5, h7⟩, ?_⟩
  · simp only [List.length_cons]; omega
  · show pc - 1 ≤ maxLen; omega
  · have := h7 0 a rfl
    simpa using this
theorem left_more {a b j j2 n : Nat} (h : a + (b - j) ≤ n) (hj : j + 1 = j2) (hl : j < b) : a + (b - j2) ≤ n ∧ a + 1 + (b - j2) ≤ n := by omega
theorem len_left {l l' : List Hd} {x : Hd} {b j n : Nat} (hp : l'.Perm (x :: l)) (h : l.length + 1 + (b - j) ≤ n) : l'.length + (b - j) ≤ n := by
  rw [hp.length_eq, List.length_cons]
  exact h
theorem fits_one {a b j n m : Nat} (h : a + 1 + (b - j) ≤ n) (hm : n = m) (hn : (m + 1) * 40 ≤ 140737488355328) : (a + 1) * 40 ≤ 140737488355328 := by omega
theorem full_done {R : Hd → List α → Prop} {k : Int} {rem0 : List (List α)} {pas : List Hd} {j : Nat} (hj : ¬ j < pas.length) (h : Mid ek R k rem0 l (pas.drop j) rem) (hl : l.length + (pas.length - j) ≤ rem0.length) : rem = MergeL.step ek k rem0 ∧ Heads ek R l rem ∧ l.length ≤ rem.length ∧ rem.length = rem0.length := by
  have e : pas.drop j = [] := List.drop_eq_nil_of_le (Nat.not_lt.1 hj)
  rw [e] at h
  refine ⟨h.done.1, h.done.2, ?_, h.len⟩
  rw [h.len]
  omega
end
end
end Go.Proofs.Ytojbfjfjhfnopaa.MergeI
end

section
/- merge.Merge's iterator at entries. -/
namespace Go.Proofs.Ytojbfjfjhfnopaa.MergeI
open Go.RowKit Go.Shelf RangeD SeqI MergeL HeapL HeapI
attribute [local go_sem] Oper.semAt_some
set_option linter.unusedVariables false
section
variable {α : Type} (ek : α → Int) (ev : α → Int)
set_option maxRecDepth 1000000 in
set_option maxHeartbeats 4000000 in
theorem merge_in (l bL bK : Nat) (A : Option Addr) (gL cap kf : Nat) (its : List (It α)) (J Jx : List α → Blocks → World → Prop) (hJ : Abide J) (hJx : Abide Jx)
    (hkf : ∀ args w, (callFunc kf args).run Try.prog w = .ok (.enter kf args) w)
    (hkey : ∀ x w, Calls Try.prog kf #[agg ek ev x] w fun e w' => e = .returned (.int .u64 (ek x)) ∧ Below w.heap.size w w')
    (hY : ∀ pre x T W, J pre T W → (∃ more, pre ++ [x] ++ more = mergeL ek (its.map It.xs)) → YieldAt Fence.wide 0 Try.prog l #[agg ek ev x] W fun e W' =>
      (e = .returned (.bool true) ∧ J (pre ++ [x]) T W' ∧ W.heap.size ≤ W'.heap.size ∧ Same (fun k => MDeps bL bK gL its k ∨ T k) W W') ∨ (e = .returned (.bool false) ∧ Jx (pre ++ [x]) T W' ∧ W.heap.size ≤ W'.heap.size ∧ Same (fun k => MDeps bL bK gL its k ∨ T k) W W'))
    (W : World) (hst : MLaid ek ev W bL bK A gL cap kf its) (h0 : J [] (fun _ => False) W) :
    CallsIn Fence.wide 0 Try.prog 53 #[.func (.yield l) #[] #[], .pointer (some ⟨bL, 0, none⟩), .pointer (some ⟨bK, 0, none⟩)] W fun e W' => (∃ v, e = .returned v) ∧
      ((∃ T, J (mergeL ek (its.map It.xs)) T W') ∨ (∃ pre T, (∃ more, pre ++ more = mergeL ek (its.map It.xs)) ∧ Jx pre T W')) := by
  refine callsIn_of_wp_marks Try.func53 rfl trivial (wpIn_wide.2 ?_) rfl
  simp only [Try.ntmps53, List.size_toArray, List.length_cons, List.length_nil, Nat.reduceAdd, Nat.reduceSub, Array.replicate_succ, Array.replicate_zero, List.push_toArray, List.append_toArray, List.nil_append, List.cons_append]
  have hcl : W.cell? ⟨bL, 0, none⟩ = some (.slice A its.length cap) := by rw [cell_of_row W bL 0 _ _ _ hst.lists]; rfl
  have hblt : bL < W.heap.size := (Array.getElem?_eq_some_iff.1 hst.lists).1
  have hklt : bK < W.heap.size := (Array.getElem?_eq_some_iff.1 hst.key).1
  have hlen := hst.len
  go_wp2_with fail
  have hM0 : MState ek ev W (fun k => k = W.heap.size) (W.alloc (.cells #[.slice none 0 0] 98)) (.slice none 0 0) [] ([] : List (List α)) :=
    ⟨by simp, fun k hk => by (obtain rfl : k = W.heap.size := hk); simp, rfl, World.alloc_heap_new W _, HRow.nil _ _ _, fun k hk => (by simp [Value.ownBlock] at hk), fun j h0 hj => (by simp at hj), Heads.nil _, Nat.le_refl _⟩
  have hJ0 : J [] (fun k => k = W.heap.size) (W.alloc (.cells #[.slice none 0 0] 98)) := hJ _ _ _ _ _ h0 ⟨rfl, rfl, rfl, by simp, fun k hk => hk.elim, fun k hk => .inr (by (obtain rfl : k = W.heap.size := hk); simp), fun k hk _ => Below.heap_alloc _ _ _ hk⟩
  have hD0 : Same (MDeps bL bK gL its) W (W.alloc (.cells #[.slice none 0 0] 98)) := fun k _ hk => Below.heap_alloc _ _ _ hk
  refine wp_loop_ghost_k (fun kq a' w' => ∃ (ds : List Deferred) (i : Nat) (u5 u6 u7 u8 u16 u17 u18 u19 u20 u21 u22 u23 u24 u25 u26 u27 u28 u29 u30 u31 u32 u33 u34 u35 u36 u37 u38 : Value), (∃ T v lh, Hid (i ≤ its.length ∧ its.length ≤ kq + i) ∧ Hid (Marks ds T w') ∧ Hid (MState ek ev W T w' v lh ((its.take i).map It.xs)) ∧ Hid (J [] T w') ∧ Hid (Same (MDeps bL bK gL its) W w')) ∧ a' = { tmps := #[.func (.yield l) #[] #[], .pointer (some ⟨bL, 0, none⟩), .pointer (some ⟨bK, 0, none⟩), undef, .pointer (some ⟨W.heap.size, 0, none⟩), u5, u6, u7, u8, undef, undef, undef, undef, .slice A its.length cap, .int .i64 (its.length : Int), .int .i64 (i : Int), u16, u17, u18, u19, u20, u21, u22, u23, u24, u25, u26, u27, u28, u29, u30, u31, u32, u33, u34, u35, u36, u37, u38, undef, undef, undef, undef, undef, undef, undef, undef, undef, undef, undef, undef, undef, undef, undef, undef, undef, undef, undef, undef, undef, undef, undef, undef, undef, undef, undef, undef, undef, undef, undef, undef, undef, undef, undef, undef, undef, undef, undef, undef, undef, undef, undef, undef, undef, undef, undef, undef, undef, undef, undef, undef, undef, undef, undef, undef, undef, undef, undef], defers := ds }) its.length ?_ ?_
  · refine ⟨_, 0, _, _, _, _, _, _, _, _, _, _, _, _, _, _, _, _, _, _, _, _, _, _, _, _, _, _, _, ⟨_, _, _, Lib.hid ⟨Nat.zero_le _, Nat.le_refl _⟩, Lib.hid (Marks.nil _ _), Lib.hid hM0, Lib.hid hJ0, Lib.hid hD0⟩, rfl⟩
  · rintro gk _ wr ⟨ds, i, u5, u6, u7, u8, u16, u17, u18, u19, u20, u21, u22, u23, u24, u25, u26, u27, u28, u29, u30, u31, u32, u33, u34, u35, u36, u37, u38, ⟨T, v, lh, HI, HM, HS, HJ, HD⟩, rfl⟩ JJ KK hJJ hKK
    have HST := Lib.hid hst
    clear hM0 hJ0 hD0 hcl hst
    have hi1 := HI.out.1
    have hlaid := HST.out.keep _ _ HS.out.size HD.out
    by_cases hlt : i < its.length
    · have hd : decide ((i : Int) < (its.length : Int)) = true := decide_eq_true (by omega)
      obtain rfl := HST.out.at_ (by omega)
      have hfn := hlaid.fns i its[i] (List.getElem?_eq_getElem hlt)
      obtain ⟨it, hit⟩ : ∃ it, its[i] = it := ⟨_, rfl⟩
      rw [hit] at hfn
      have hb1 : (0 : Int) ≤ (i : Int) := by omega
      have hb2 : (i : Int) < (its.length : Int) := by omega
      have HL := Lib.hid hlaid
      clear hlaid
      go_wp2_with fail
      obtain ⟨i0, hi0, hz0, hz1, hz2⟩ := info_parts infoElem
      have hok := HL.out.oks it (by rw [← hit]; exact List.getElem_mem hlt)
      obtain ⟨X1, hX1⟩ : ∃ X1, wr.alloc (.cells #[.slice none 0 0] 73) = X1 := ⟨_, rfl⟩
      have hsz1 : X1.heap.size = wr.heap.size + 1 := by rw [← hX1]; simp
      have h71 : X1.heap[wr.heap.size]? = some (.cells #[.slice none 0 0] 73 (0, 0)) := by rw [← hX1]; exact World.alloc_heap_new wr _
      have hS1 : Same it.D wr X1 := by rw [← hX1]; exact fun k _ hk => Below.heap_alloc wr _ k hk
      have ha7 : wr.heap.size < X1.heap.size := by omega
      rw [hX1]
      refine (wpIn_wide (n := 0)).1 ?_
      refine wpIn_rangeFunc_D (ps := #[21]) (gf := it.gf) (lb := it.lb) rfl hok.goes (hok.seq.same (by omega) hS1) (fun k hk => by have := hok.lt k hk; omega) (fun _ => rfl)
        (GI ek ev X1 wr.heap.size) (fun _ _ _ _ => False)
        (fun pre x T' a' Y => a' = { tmps := #[.func (.yield l) #[] #[], .pointer (some ⟨bL, 0, none⟩), .pointer (some ⟨bK, 0, none⟩), undef, .pointer (some ⟨W.heap.size, 0, none⟩), .int .i64 (i : Int), .func (.func it.gf) #[] it.lb, .pointer (some ⟨wr.heap.size, 0, none⟩), .int .i64 (ev x), undef, undef, undef, undef, .slice (some ⟨gL, 0, none⟩) its.length cap, .int .i64 (its.length : Int), .int .i64 (i : Int), .bool true, .int .i64 (i : Int), .pointer (some ⟨gL, i, none⟩), .func (.func it.gf) #[] it.lb, .func (.func it.gf) #[] it.lb, agg ek ev x, u22, u23, u24, u25, u26, u27, u28, u29, u30, u31, u32, u33, u34, u35, u36, u37, u38, undef, undef, undef, undef, undef, undef, undef, undef, undef, undef, undef, undef, undef, undef, undef, undef, undef, undef, undef, undef, undef, undef, undef, undef, undef, undef, undef, undef, undef, undef, undef, undef, undef, undef, undef, undef, undef, undef, undef, undef, undef, undef, undef, undef, undef, undef, undef, undef, undef, undef, undef, undef, undef, undef, undef, undef, undef, undef, undef], defers := [] })
        (GI.abide ha7) (fun _ _ _ _ _ _ h _ => h) (GI.ownT ha7) (fun _ _ _ _ _ _ h _ _ => h) ?hAo (GI.start h71) ?assign ?body ?done ?stop
      case hAo => exact fun pre x T' a' _ Y Y' row h _ _ => h
      case stop => exact fun _ _ _ _ _ _ _ h => h.elim
      case assign =>
        intro lr pre x T' Y K hG hnx hK
        gi_wp2
        exact hK _ _ (KeepsFrom.refl _ Y) (fun k _ hk => rfl) hG rfl
      case body =>
        rintro lr pre x T' a' Y hB hrec hnT hG rfl ⟨more, hmore⟩
        obtain ⟨v7, g1, g2, g3⟩ := hG.row
        obtain ⟨A7, c7, rfl⟩ : ∃ A c, v7 = .slice A pre.length c := by
          rcases g2.2 with ⟨e, hn⟩ | ⟨g, cap2, cur, e, _⟩
          · exact ⟨none, 0, by rw [hn]; exact e⟩
          · exact ⟨_, _, e⟩
        have hpl := len_bound hmore hok.len
        have hg7 : ∀ k, (Value.slice A7 pre.length c7).ownBlock = some k → ¬ T' k ∧ X1.heap.size ≤ k := fun k hk => ⟨g3 k hk, (g2.lt k hk).1⟩
        have hx3 : ∀ u ∈ [(.int .i64 (ev x) : Value)], u.oneCell' = true := by
          intro u hu
          rw [List.mem_singleton] at hu
          subst hu
          rfl
        have hYl := hG.lt
        have hYs := hG.size
        have ca : Y.cell? ⟨wr.heap.size, 0, none⟩ = some (.slice A7 pre.length c7) := by rw [cell_of_row Y _ 0 _ _ _ g1]; rfl
        have HG := Lib.hid hG
        have HG1 := Lib.hid g1
        have HG2 := Lib.hid g2
        have HG7 := Lib.hid hg7
        have HX3 := Lib.hid hx3
        have HPL := Lib.hid hpl
        have ha7n : (Value.slice A7 pre.length c7).ownBlock ≠ some wr.heap.size := fun e => by have := (hg7 _ e).2; omega
        have HA7 := Lib.hid ha7n
        clear hG g1 g2 g3 hg7 hx3 hpl hmore hrec hB hnT ha7n
        gi_wp2_with (first | (gi_at_builtin; go_must (refine wpListIn_append_own_at _ rfl (.tmp 22) (.tmp 24) 73 rfl X1.heap.size 3 i0 _ 1 8 Try.underlying73 hi0 hz0 hz1 hz2 rfl (by decide) (.slice A7 pre.length c7) pre.length (erow ek ev pre) (by rfl) (HG2.out.alloc _) ⟨Y.heap.size, 0, none⟩ 1 1 [.int .i64 (ev x)] (by rfl) (by rfl) (World.news_of_block (cs := #[.int .i64 (ev x)]) (t := 3) (fr := (0, 0)) (World.alloc_heap_new Y _)) HX3.out (len_max HPL.out) (fits_by HPL.out) (by rw [World.size_alloc]; exact Nat.le_succ_of_le hYs) ?_; intro v' w1 hown1 hgrow hnil hat; obtain ⟨gg, cg, ev', _, _⟩ := hown1.form (Nat.succ_pos _); subst ev'; have hcz : w1.heap[wr.heap.size]? = some (.cells #[.slice A7 pre.length c7] 73 (0, 0)) := ((hgrow.block _ (by rw [World.size_alloc]; exact Nat.lt_succ_of_lt hYl) (fun e => HA7.out e.symm)).trans (Below.heap_alloc Y _ _ hYl)).trans HG1.out; have hcz1 : w1.cell? ⟨wr.heap.size, 0, none⟩ = some (.slice A7 pre.length c7) := (by rw [cell_of_row w1 _ 0 _ _ _ hcz]; rfl); have hcz2 : w1.frozen? ⟨wr.heap.size, 0, none⟩ = false := (by simp [World.frozen?, hcz]); have HOWN1 := Lib.hid hown1; have HGR := Lib.hid hgrow; have HAT := Lib.hid hat; clear hown1 hgrow hnil hat hcz)))
        obtain ⟨q1, q2, q3⟩ := GI.next ha7 HG.out HG1.out HG7.out HOWN1.out HGR.out HAT.out
        exact ⟨q2, q3 it.D (fun k hk => ⟨Nat.lt_trans (hok.lt k hk) ha7, Nat.ne_of_lt (hok.lt k hk)⟩), q1⟩
      case done =>
        intro C xs T' Y hC hxs hG hmark
        obtain rfl := hxs
        obtain ⟨hYs, hold, hTu⟩ := after_gather (ek := ek) (ev := ev) hX1 hG
        have hS2 := HS.out.old _ _ hYs hold
        have hJ2 := hJ _ _ _ _ _ HJ.out hTu
        have hD2 : Same (MDeps bL bK gL its) W Y := HD.out.trans HS.out.size (fun k _ hk => hold k hk)
        have hCl : C < Y.heap.size := (Array.getElem?_eq_some_iff.1 hmark).1
        have hCw : wr.heap.size ≤ C := Nat.le_trans (Nat.le_of_lt ha7) hC
        have hM2 := (HM.out.keep (T' := withNew T wr Y) (fun _ h => .inl h) (fun k hk _ => hold k (HS.out.lo k hk).2)).more C (.inr ⟨hCw, hCl⟩) hmark (fun k _ _ hm e => absurd (HS.out.lo k (HM.out.mem hm)).2 (by rw [e]; exact Nat.not_lt.2 hCw))
        obtain ⟨v7, g1, g2, g3⟩ := hG.row
        obtain ⟨A7, c7, rfl⟩ : ∃ A c, v7 = .slice A it.xs.length c := by
          rcases g2.2 with ⟨e, hn⟩ | ⟨g, cap2, cur, e, _⟩
          · exact ⟨none, 0, by rw [hn]; exact e⟩
          · exact ⟨_, _, e⟩
        have ca : Y.cell? ⟨wr.heap.size, 0, none⟩ = some (.slice A7 it.xs.length c7) := by rw [cell_of_row Y _ 0 _ _ _ g1]; rfl
        obtain ⟨i2, hi2⟩ : ∃ i2, i + 1 = i2 := ⟨_, rfl⟩
        have hi3 : (i : Int) + 1 = (i2 : Int) := by rw [← hi2]; rfl
        have htk : (its.take i2).map It.xs = (its.take i).map It.xs ++ [it.xs] := by rw [← hi2, List.take_succ_eq_append_getElem hlt, hit, List.map_append]; rfl
        have HI2 := Lib.hid (loop_nums hi2 hlt HI.out.2)
        have hw2 : IntKind.i64.wrap (i2 : Int) = (i2 : Int) := IntWalk.i64_in _ (loop_fits HST.out.len HI2.out.1)
        have HS2 := Lib.hid hS2
        have HJ2 := Lib.hid hJ2
        have HD2 := Lib.hid hD2
        have HM2 := Lib.hid hM2
        have HTK := Lib.hid htk
        have HG := Lib.hid hG
        have HG1 := Lib.hid g1
        clear hS2 hJ2 hD2 hM2 htk hG g1 g2 g3 hmark hC hCl hCw hTu hi2 h71 hS1
        dsimp only
        by_cases hx0 : it.xs.length = 0
        · have hd0 : decide ((it.xs.length : Int) > 0) = false := decide_eq_false (by rw [hx0]; decide)
          have hd1 : decide (0 < it.xs.length) = false := decide_eq_false (by rw [hx0]; exact Nat.lt_irrefl 0)
          have hx1 : it.xs = [] := List.eq_nil_of_length_eq_zero hx0
          have HX1 := Lib.hid hx1
          clear hx0 hx1
          go_wp2_with fail
          refine Handed.intro (its.length - i2) HI2.out.2.2 (hJJ _ _ _ ⟨_, i2, _, _, _, _, _, _, _, _, _, _, _, _, _, _, _, _, _, _, _, _, _, _, _, _, _, _, _, ⟨withNew T wr Y, v, lh, Lib.hid ⟨HI2.out.1, HI2.out.2.1⟩, HM2, ?_, HJ2, HD2⟩, rfl⟩)
          rw [HTK.out, HX1.out]
          exact Lib.hid ⟨HS2.out.size, HS2.out.lo, HS2.out.th, HS2.out.box, HS2.out.row, HS2.out.tv, HS2.out.heap, HS2.out.heads.empty, Nat.le_trans HS2.out.short (by rw [List.length_append]; exact Nat.le_add_right _ _)⟩
        · have hpos : 0 < it.xs.length := Nat.pos_of_ne_zero hx0
          have hd0 : decide ((it.xs.length : Int) > 0) = true := decide_eq_true (Int.ofNat_lt.2 hpos)
          have hd1 : decide (0 < it.xs.length) = true := decide_eq_true hpos
          have hb3 : (0 : Int) < (it.xs.length : Int) := Int.ofNat_lt.2 hpos
          obtain ⟨g, rfl, hRA⟩ := RestAt.fresh (ek := ek) (ev := ev) (T := T) HS.out.size hX1 HG.out HG1.out hpos (i : Int)
          obtain ⟨y, ys, hxy⟩ : ∃ y ys, it.xs = y :: ys := by
            cases h : it.xs with
            | nil => rw [h] at hpos; exact absurd hpos (Nat.lt_irrefl 0)
            | cons y ys => exact ⟨y, ys, rfl⟩
          have y0 : Y.cell? ⟨g, 0, none⟩ = some (.int .i64 (ev y)) := by
            obtain ⟨g', o, cs, e1, _, _, _, _, _, _, hc⟩ := hRA 0
            injection e1 with e1
            injection e1 with e1 e2
            subst e1 e2
            exact hc 0 y (by rw [hxy]; rfl)
          have hkc := (HST.out.keep _ _ HS2.out.size HD2.out).key
          have ck : Y.cell? ⟨bK, 0, none⟩ = some (.func (.func kf) #[] #[]) := by rw [cell_of_row Y _ 0 _ _ _ hkc]; rfl
          have HRA := Lib.hid hRA
          have HXY := Lib.hid hxy
          have HPOS := Lib.hid hpos
          clear hx0 hRA hxy hkc
          have hlen2 : ((its.take i).map It.xs).length = i := by rw [List.length_map, List.length_take, Nat.min_eq_left (Nat.le_of_lt hlt)]
          have HLF : Hid ((lh.length + 1) * 40 ≤ 140737488355328) := Lib.hid (heap_fits HST.out.len hlt (Nat.le_trans HS2.out.short (Nat.le_of_eq hlen2)))
          have HLEN := Lib.hid hlen2
          have nb7 : ¬ (wr.heap.size = W.heap.size ∨ v.ownBlock = some wr.heap.size) := HS2.out.apart _ _ HG1.out (fun _ e => (by cases e)) (fun _ e => (by cases e))
          have nbK : ¬ (bK = W.heap.size ∨ v.ownBlock = some bK) := HS2.out.apart _ _ (HST.out.keep _ _ HS2.out.size HD2.out).key (fun _ e => (by cases e)) (fun _ e => (by cases e))
          have nbg : ¬ (g = W.heap.size ∨ v.ownBlock = some g) := by
            obtain ⟨g', o, cs, e1, _, _, _, _, _, hc, _⟩ := HRA.out 0
            injection e1 with e1
            injection e1 with e1 e2
            subst e1 e2
            exact HS2.out.apart _ _ hc (fun _ e => (by cases e)) (fun _ e => (by cases e))
          clear hlen2
          go_upto_region 9 with (fail)
          go_region_held3 (fun w' => w'.cell? ⟨bK, 0, none⟩ = some (.func (.func kf) #[] #[]) ∧ w'.cell? ⟨wr.heap.size, 0, none⟩ = some (.slice (some ⟨g, 0, none⟩) it.xs.length c7) ∧ w'.cell? ⟨g, 0, none⟩ = some (.int .i64 (ev y)))
            (first
              | go_keep
              | (go_split_ands
                 refine ⟨?_, ?_, ?_⟩ <;> (refine (hbl.cell (World.block_lt_of_cell? _ _ (by assumption))).trans ?_; assumption))
              | (go_split_ands
                 refine ⟨?_, ?_, ?_⟩ <;> (refine (World.cell?_of_block (p6.same _ (World.block_lt_of_cell? _ _ (by assumption)) (by assumption))).trans ?_; assumption)))
            (first
              | (refine (hkey y _).mono ?_; rintro e w1 ⟨rfl, hbl⟩)
              | (go_at_call 54; refine (put_calls ⟨ek y, i, some ⟨g, 0, none⟩, it.xs.length, c7⟩ lh HS2.out.heap W.heap.size W.heap.size v _ ((hbl.block _ (HS2.out.lo _ HS2.out.th).2).trans HS2.out.box) (HRow.turn (w := Y.drew) HS2.out.row.drew (Turns.of_below (fun _ => False) hbl) (fun _ _ h => h)) (Nat.le_trans HS2.out.size hbl.size) HLF.out).mono ?_; rintro e w2 ⟨rfl, v', l', p1, p2, p3, p4, p5, p6⟩))
          go_wp2_with fail
          have hh := heads_more HS2.out.heads HXY.out ⟨ek y, i, some ⟨g, 0, none⟩, it.xs.length, c7⟩ (by rw [HLEN.out]) rfl (HRA.out (ek y))
          rw [← HTK.out] at hh
          obtain ⟨T3, m1, m2, m3, m4, m5⟩ := HS2.out.more _ _ ((Below.refl Y.heap.size Y).drew.trans hbl) p6 p1 p2 p3 p4 p5 hh (by rw [HTK.out, List.length_append]; exact Nat.succ_le_succ HS2.out.short)
          exact Handed.intro (its.length - i2) HI2.out.2.2 (hJJ _ _ _ ⟨_, i2, _, _, _, _, _, _, _, _, _, _, _, _, _, _, _, _, _, _, _, _, _, _, _, _, _, _, _, ⟨T3, v', l', Lib.hid ⟨HI2.out.1, HI2.out.2.1⟩, Lib.hid (m4 _ HM2.out), Lib.hid m1, Lib.hid (hJ _ _ _ _ _ HJ2.out m2), Lib.hid (HD2.out.trans HS2.out.size (m5 _ (fun k hk => HST.out.deps _ _ k hk)))⟩, rfl⟩)
    · have hd : decide ((i : Int) < (its.length : Int)) = false := decide_eq_false (fun h => hlt (Int.ofNat_lt.1 h))
      have hd2 : decide (i < its.length) = false := decide_eq_false hlt
      have hie : i = its.length := Nat.le_antisymm HI.out.1 (Nat.not_lt.1 hlt)
      have HS1 : Hid (MState ek ev W T wr v lh (its.map It.xs)) := Lib.hid (by have := HS.out; rwa [hie, List.take_length] at this)
      clear hie hlt hlaid HI HS
      go_wp2_with fail
      go_loopg [] (total (its.map It.xs)) (fun kq w' => ∃ (T : Blocks) (v : Value) (lh : List Hd) (pre : List α) (rem : List (List α)) (f : Nat), Hid (total rem ≤ f ∧ f ≤ kq) ∧ Hid (pre ++ mergeF ek f rem = mergeL ek (its.map It.xs)) ∧ Hid (rem.length = its.length) ∧ Hid (Marks ds T w') ∧ Hid (MState ek ev W T w' v lh rem) ∧ Hid (J pre T w') ∧ Hid (Same (MDeps bL bK gL its) W w'))
      case atStart => exact ⟨T, v, lh, [], its.map It.xs, _, Lib.hid ⟨Nat.le_refl _, Nat.le_refl _⟩, Lib.hid rfl, Lib.hid (List.length_map _), HM, HS1, HJ, HD⟩
      case round =>
        obtain ⟨T2, v2, l2, pre, rem, f, HF, HP, HRL, HM2, HS2, HJ2, HD2⟩ := hrel
        obtain ⟨A2, c2, hv2, hlc2⟩ := HS2.out.row.slice
        subst hv2
        have hbx := HS2.out.box
        have ch : wr.cell? ⟨W.heap.size, 0, none⟩ = some (.slice A2 l2.length c2) := by rw [cell_of_row wr _ 0 _ _ _ hbx]; rfl
        clear hbx hlc2
        by_cases hl0 : l2.length = 0
        · have hd3 : decide ((l2.length : Int) > 0) = false := decide_eq_false (by rw [hl0]; decide)
          have hd4 : decide (0 < l2.length) = false := decide_eq_false (by rw [hl0]; exact Nat.lt_irrefl 0)
          have hl1 : l2 = [] := List.eq_nil_of_length_eq_zero hl0
          have HL1 := Lib.hid hl1
          clear hl0 hl1
          go_wp2_with fail
          refine HM2.out.leave rfl (fun W' hW' => ⟨⟨_, rfl⟩, .inl ⟨T2, ?_⟩⟩)
          have h1 := HS2.out.heads
          rw [HL1.out] at h1
          have h2 := HP.out
          rw [h1.done, List.append_nil] at h2
          rw [← h2]
          exact hJ _ _ _ _ _ HJ2.out hW'
        · have hl1 : 0 < l2.length := Nat.pos_of_ne_zero hl0
          have hd3 : decide ((l2.length : Int) > 0) = true := decide_eq_true (Int.ofNat_lt.2 hl1)
          have hd4 : decide (0 < l2.length) = true := decide_eq_true hl1
          have HL1 := Lib.hid hl1
          have HLF : Hid ((l2.length + 1) * 40 ≤ 140737488355328) := Lib.hid (heap_fits2 hlen (Nat.le_trans HS2.out.short (Nat.le_of_eq HRL.out)))
          clear hl0 hl1
          go_upto_region 13 with (go_at_call 55; refine (take_calls l2 HS2.out.heap HL1.out W.heap.size W.heap.size _ wr HS2.out.box HS2.out.row HS2.out.size HLF.out).mono ?_; rintro e w1 ⟨x, rfl, v3, l3, p1, p2, p3, p4, p5, p6, p7⟩; have P1 := Lib.hid p1; have P2 := Lib.hid p2; have P3 := Lib.hid p3; have P4 := Lib.hid p4; have P5 := Lib.hid p5; have P6 := Lib.hid p6; have P7 := Lib.hid p7; clear p1 p2 p3 p4 p5 p6 p7)
          have hmem : x ∈ l2 := P4.out.mem_iff.2 List.mem_cons_self
          have hmin : ∀ z ∈ l2, x.le z := fun z hz => by
            rcases List.mem_cons.1 (P4.out.mem_iff.1 hz) with e | e
            · subst e; exact Hd.le_refl _
            · exact P5.out z e
          obtain ⟨i3, y, ys, f1, f2, f3, f4, f5⟩ := HS2.out.heads.told hmem hmin
          obtain ⟨g, o, cs, e1, e2, e3, e4, e5, e6, e7, e8⟩ := f4
          have hg1 : w1.heap[g]? = wr.heap[g]? := HS2.out.state.turn_same P7.out e7 (fun _ e => (by cases e)) (fun _ e => (by cases e))
          have y0 := (e8.keep (W' := w1) _ _ hg1) 0 y rfl
          simp only [Nat.add_zero] at y0
          obtain ⟨xk, xf, xa, xn, xc⟩ := x
          simp only [] at e1 e2 f1 f3
          subst e1 f3
          have hglt : g < w1.heap.size := (Array.getElem?_eq_some_iff.1 (hg1.trans e7)).1
          have hxn : (0 : Int) < (xn : Int) := by rw [e2, List.length_cons]; exact Int.ofNat_lt.2 (Nat.succ_pos _)
          have hxn2 : 0 < xn := Int.ofNat_lt.1 hxn
          obtain ⟨T3, t1, t2, t3, t4, t5, t6, t7⟩ := HS2.out.taken P7.out P1.out P2.out P3.out P6.out P4.out (.cells #[.int .u64 (ek y), .int .i64 xf, .slice (some ⟨g, o, none⟩) xn xc] 101)
          obtain ⟨f, rfl, hmf, htf⟩ := merge_round f HF.out.1 f2 f5
          obtain ⟨fn, tmps, assign, body, hy, hR⟩ := hY pre y T3 _ (hJ _ _ _ _ _ HJ2.out t3) ⟨mergeF ek f (MergeL.step ek (ek y) rem), by rw [← HP.out, hmf, List.append_assoc]; rfl⟩
          have HT1 := Lib.hid t1
          have HT2 := Lib.hid t2
          have HT4 := Lib.hid t4
          have HT5 := Lib.hid t5
          have HT7 := Lib.hid t7
          have HT6 := Lib.hid t6
          have HMF := Lib.hid hmf
          have HTF := Lib.hid htf
          have HE := Lib.hid (And.intro e2 (And.intro e3 (And.intro e4 e8)))
          have HF12 := Lib.hid (And.intro f1 f2)
          have HXX := Lib.hid hxn2
          clear t1 t2 t3 t4 t5 t6 t7 hmf htf hmem hmin hg1 e2 e3 e4 e5 e6 e7 e8 f1 f2 f5
          go_cut [50] from 39 to 97 (fun v50 wd => (v50 = .bool true ∧ Hid (Jx (pre ++ [y]) T3 wd ∧ Marks ds T3 wd)) ∨ (v50 = .bool false ∧ Hid (HState W T3 wd v3 l3 ∧ Heads ek (RestAt ek ev wd W.heap.size T3) (l3 ++ [⟨ek y, xf, some ⟨g, o, none⟩, xn, xc⟩]) rem ∧ Marks ds T3 wd ∧ J (pre ++ [y]) T3 wd ∧ Same (MDeps bL bK gL its) W wd ∧ wd.heap[w1.heap.size]? = some (.cells #[.int .u64 (ek y), .int .i64 xf, .slice (some ⟨g, o, none⟩) xn xc] 101 (0, 0)) ∧ w1.heap.size < wd.heap.size)))
          case first =>
            refine (wpIn_wide (n := 0)).1 ?_
            gi_wp2
            refine ⟨rfl, hR.mono ?_⟩
            rintro e W4 (⟨rfl, j1, j2, j3⟩ | ⟨rfl, j1, j2, j3⟩)
            · have hsame : Same T3 _ W4 := fun k hk hl => j3 k (.inr hk) hl
              have HR4 := Lib.hid (And.intro (HT1.out.same j2 hsame) (And.intro (HT1.out.rested HT2.out hsame) (And.intro ((HT4.out ds HM2.out).keep (fun _ h => h) (fun k hk _ => hsame k hk (HT1.out.lo k hk).2)) (And.intro j1 (And.intro ((HD2.out.trans HS2.out.size (HT5.out _ (fun k hk => HST.out.deps _ _ k hk))).trans HT1.out.size (fun k hk hl => j3 k (.inl hk) hl)) (And.intro ((hsame _ HT6.out (HT1.out.lo _ HT6.out).2).trans HT7.out) (Nat.lt_of_lt_of_le (HT1.out.lo _ HT6.out).2 j2)))))))
              clear j1 j2 j3 hsame hR hy
              gi_wp2
              go_meet
              case rel => exact .inr ⟨rfl, HR4⟩
            · have HR4 := Lib.hid (And.intro j1 ((HT4.out ds HM2.out).keep (T' := T3) (W' := W4) (fun _ h => h) (fun k hk _ => j3 k (.inr hk) (HT1.out.lo k hk).2)))
              clear j1 j2 j3 hR hy
              gi_wp2
              go_meet
              case rel => exact .inl ⟨rfl, HR4⟩
          case rest =>
            rcases hcut with ⟨rfl, HR4⟩ | ⟨rfl, HR4⟩
            · go_wp2_with fail
              refine HR4.out.2.leave rfl (fun W' hW' => ⟨⟨_, rfl⟩, .inr ⟨pre ++ [y], ⟨_, by rw [← HP.out, HMF.out, List.append_assoc]; rfl⟩, T3, hJx _ _ _ _ _ HR4.out.1 hW'⟩⟩)
            · obtain ⟨r1, r2, r3, r4, r5, r6, r7⟩ := HR4.out
              have cx0 : wc.cell? ⟨w1.heap.size, 0, none⟩ = some (.int .u64 (ek y)) := by rw [cell_of_row wc _ 0 _ _ _ r6]; rfl
              have cx1 : wc.cell? ⟨w1.heap.size, 1, none⟩ = some (.int .i64 xf) := by rw [cell_of_row wc _ 1 _ _ _ r6]; rfl
              have cx2 : wc.cell? ⟨w1.heap.size, 2, none⟩ = some (.slice (some ⟨g, o, none⟩) xn xc) := by rw [cell_of_row wc _ 2 _ _ _ r6]; rfl
              have H3 := Lib.hid (show v3.ownBlock ≠ some w1.heap.size from fun e => by
                rw [P6.out] at e
                exact absurd (HS2.out.row.blocks _ e).2 (Nat.not_lt.2 P7.out.size))
              clear r1 r2 r3 r4 r5 r6 r7
              go_wp2_with fail
              go_loopg [10] l3.length (fun kq v10 w' => ∃ (T : Blocks) (vv : Value) (lr pas : List Hd) (gp np cp : Nat), v10 = .slice (some ⟨gp, 0, none⟩) np cp ∧ Hid (lr.length ≤ kq) ∧ Hid (HState W T w' vv lr) ∧ Hid (vv.ownBlock = v3.ownBlock) ∧ Hid (HRow w' W.heap.size 101 (.slice (some ⟨gp, 0, none⟩) np cp) pas) ∧ Hid (T gp ∧ wc.heap.size ≤ gp ∧ 0 < pas.length ∧ (lr ++ pas).length ≤ rem.length) ∧ Hid (Heads ek (RestAt ek ev w' W.heap.size T) (lr ++ pas) rem) ∧ Hid (∀ z ∈ pas, z.key = ek y) ∧ Hid (Marks ds T w') ∧ Hid (J (pre ++ [y]) T w') ∧ Hid (Same (MDeps bL bK gL its) W w') ∧ Hid (w'.heap[w1.heap.size]? = some (.cells #[.int .u64 (ek y), .int .i64 xf, .slice (some ⟨g, o, none⟩) xn xc] 101 (0, 0))))
              case atStart =>
                obtain ⟨r1, r2, r3, r4, r5, r6, r7⟩ := HR4.out
                have ho : ∀ k, k < wc.heap.size → (wc.alloc (.cells #[.int .u64 (ek y), .int .i64 xf, .slice (some ⟨g, o, none⟩) xn xc] 101)).heap[k]? = wc.heap[k]? := fun k hk => Below.heap_alloc wc _ k hk
                have hs : wc.heap.size ≤ (wc.alloc (.cells #[.int .u64 (ek y), .int .i64 xf, .slice (some ⟨g, o, none⟩) xn xc] 101)).heap.size := by simp
                exact ⟨withNew T3 wc _, v3, l3, [⟨ek y, xf, some ⟨g, o, none⟩, xn, xc⟩], wc.heap.size, 1, 1, rfl, Lib.hid (Nat.le_refl _), Lib.hid (r1.old hs ho), Lib.hid rfl, Lib.hid (one_row wc W.heap.size r1.size ⟨ek y, xf, some ⟨g, o, none⟩, xn, xc⟩), Lib.hid ⟨.inr ⟨Nat.le_refl _, by simp⟩, Nat.le_refl _, Nat.succ_pos _, Nat.le_trans (Nat.le_of_eq (by rw [P4.out.length_eq]; simp)) HS2.out.short⟩,
                  Lib.hid (r2.mono (fun _ _ _ hR => hR.keep _ _ (fun _ h => .inl h) (fun g cs hg _ => ho g (r1.lo g hg).2))), Lib.hid (fun z hz => by rw [List.mem_singleton] at hz; subst hz; rfl), Lib.hid (r3.keep (fun _ h => .inl h) (fun k hk _ => ho k (r1.lo k hk).2)), Lib.hid (hJ _ _ _ _ _ r4 (Turned.grow rfl rfl rfl hs (fun k hk _ => ho k hk))), Lib.hid (r5.trans r1.size (fun k _ hl => ho k hl)), Lib.hid ((ho _ r7).trans r6)⟩
              case round =>
                obtain ⟨T4, vv, lr, pas, gp, np, cp, rfl, K1, K2, K3, K4, K5, K6, K7, K8, K9, K10, K11⟩ := hrel
                obtain ⟨Ah, ch2, hvv, hlch⟩ := K2.out.row.slice
                subst hvv
                have hbx2 := K2.out.box
                have ch3 : wr.cell? ⟨W.heap.size, 0, none⟩ = some (.slice Ah lr.length ch2) := by rw [cell_of_row wr _ 0 _ _ _ hbx2]; rfl
                have cx3 : wr.cell? ⟨w1.heap.size, 0, none⟩ = some (.int .u64 (ek y)) := by rw [cell_of_row wr _ 0 _ _ _ K11.out]; rfl
                clear hbx2 hlch cx0 cx1 cx2 ch
                go_upto_region 15 with (fail)
                go_cut [66] from 53 to 70 (fun v66 wd => ∃ b : Bool, v66 = .bool b ∧ Hid (b = true → 0 < lr.length ∧ (at_ lr 0).key = ek y) ∧ Hid (b = false → 0 < lr.length → (at_ lr 0).key ≠ ek y) ∧ Hid (∃ n, wd = wr.drewN n))
                case first =>
                  by_cases hl0 : lr.length = 0
                  · have hd3 : decide ((lr.length : Int) > 0) = false := decide_eq_false (by rw [hl0]; decide)
                    have hd4 : decide (0 < lr.length) = false := decide_eq_false (by rw [hl0]; exact Nat.lt_irrefl 0)
                    have HL0 := Lib.hid hl0
                    clear hl0
                    go_quiet (fail)
                    go_wp2_with (fail)
                    go_meet
                    case rel => exact ⟨false, rfl, Lib.hid (fun h => nomatch h), Lib.hid (fun _ h => absurd h (by rw [HL0.out]; exact Nat.lt_irrefl 0)), Lib.hid ⟨_, rfl⟩⟩
                  · have hl1 : 0 < lr.length := Nat.pos_of_ne_zero hl0
                    obtain ⟨g4, cap4, cur4, e4, _⟩ := K2.out.row.form hl1
                    injection e4 with e4 _ e5
                    subst e4 e5
                    obtain ⟨k0, _, _⟩ := K2.out.row.cell 0 hl1
                    rw [Nat.zero_mul] at k0
                    have hd3 : decide ((lr.length : Int) > 0) = true := decide_eq_true (Int.ofNat_lt.2 hl1)
                    have hd4 : decide (0 < lr.length) = true := decide_eq_true hl1
                    have hb5 : (0 : Int) < (lr.length : Int) := Int.ofNat_lt.2 hl1
                    have HB1 : Hid (((at_ lr 0).key == ek y) = true → (at_ lr 0).key = ek y) := Lib.hid (fun h => beq_iff_eq.1 h)
                    have HB2 : Hid (((at_ lr 0).key == ek y) = false → (at_ lr 0).key ≠ ek y) := Lib.hid (fun h => beq_eq_false_iff_ne.1 h)
                    generalize hbb : ((at_ lr 0).key == ek y) = bb at HB1 HB2
                    go_quiet (fail)
                    go_wp2_with (fail)
                    go_meet
                    case rel => exact ⟨bb, rfl, Lib.hid (fun h => ⟨hl1, HB1.out h⟩), Lib.hid (fun h _ => HB2.out h), Lib.hid ⟨_, rfl⟩⟩
                case rest =>
                  obtain ⟨b, rfl, G1, G2, G3⟩ := hcut
                  obtain ⟨n15, rfl⟩ := G3.out
                  obtain ⟨hnp, hpc, hpm⟩ := K4.out.cap
                  subst hnp
                  have KX2 : Hid (HState W T4 (wr.drewN n15) (.slice Ah lr.length ch2) lr) := Lib.hid (K2.out.same (Nat.le_refl _) (fun _ _ _ => rfl))
                  have KX4 : Hid (HRow (wr.drewN n15) W.heap.size 101 (.slice (some ⟨gp, 0, none⟩) pas.length cp) pas) := Lib.hid (K4.out.keep (fun _ _ => rfl))
                  have KX6 : Hid (Heads ek (RestAt ek ev (wr.drewN n15) W.heap.size T4) (lr ++ pas) rem) := Lib.hid (K6.out.mono (fun _ _ _ hR => hR.keep _ _ (fun _ h => h) (fun _ _ _ _ => rfl)))
                  have KX8 : Hid (Marks ds T4 (wr.drewN n15)) := Lib.hid (K8.out.keep (fun _ h => h) (fun _ _ _ => rfl))
                  have KX9 : Hid (J (pre ++ [y]) T4 (wr.drewN n15)) := Lib.hid (hJ _ _ _ _ _ K9.out (Turned.drewN _ _ _))
                  have KX10 : Hid (Same (MDeps bL bK gL its) W (wr.drewN n15)) := Lib.hid (K10.out.trans K2.out.size (fun _ _ _ => rfl))
                  have KX11 : Hid ((wr.drewN n15).heap[w1.heap.size]? = some (.cells #[.int .u64 (ek y), .int .i64 xf, .slice (some ⟨g, o, none⟩) xn xc] 101 (0, 0))) := Lib.hid K11.out
                  have HPM := Lib.hid hpm
                  have HPC := Lib.hid hpc
                  have HNE : Hid ((Value.slice Ah lr.length ch2).ownBlock ≠ some gp) := Lib.hid (fun e => by
                    rw [K3.out] at e
                    exact absurd (HR4.out.1.row.blocks _ e).2 (Nat.not_lt.2 K5.out.2.1))
                  clear hpm hpc ch3 cx3
                  cases b with
                  | true =>
                    obtain ⟨hl1, hk1⟩ := G1.out rfl
                    have HK1 := Lib.hid hk1
                    have HL9 := Lib.hid hl1
                    have HLF2 : Hid ((lr.length + 1) * 40 ≤ 140737488355328) := Lib.hid (fits_l K5.out.2.2.2 HRL.out hlen)
                    have HLP2 : Hid ((pas.length + 1) * 40 ≤ 140737488355328) := Lib.hid (fits_r K5.out.2.2.2 HRL.out hlen)
                    clear hl1 hk1
                    obtain ⟨i82, hi82, hz820, hz821, hz822⟩ := info_parts info101
                    have hx3 : ∀ x2 : Hd, ∀ u ∈ [Value.int .u64 x2.key, .int .i64 x2.frm, .slice x2.ad x2.len x2.cap], u.oneCell' = true := by
                      intro x2 u hu
                      simp only [List.mem_cons, List.not_mem_nil, or_false] at hu
                      rcases hu with hu | hu | hu <;> subst hu <;> rfl
                    have HX3 := Lib.hid hx3
                    clear hx3
                    go_wp2_with (first
                      | (go_at_call 55; go_must (refine (take_calls lr KX2.out.heap HL9.out W.heap.size W.heap.size _ (wr.drewN n15) KX2.out.box KX2.out.row KX2.out.size HLF2.out).mono ?_; rintro e w2 ⟨x2, rfl, v4, l4, p1, p2, p3, p4, p5, p6, p7⟩; have KQ : Hid (HRow w2 W.heap.size 101 (.slice (some ⟨gp, 0, none⟩) pas.length cp) pas) := Lib.hid (KX4.out.keep (fun k hk => p7.same k (KX4.out.blocks k hk).2 (fun e => by simp only [Value.ownBlock, Option.some.injEq] at hk; subst hk; exact e.elim (fun e => sep_types KX4.out KX2.out.box e) HNE.out))); have R1 := Lib.hid p1; have R2 := Lib.hid p2; have R3 := Lib.hid p3; have R4 := Lib.hid p4; have R5 := Lib.hid p5; have R6 := Lib.hid p6; have R7 := Lib.hid p7; clear p1 p2 p3 p4 p5 p6 p7))
                      | (at_builtin; go_must (refine wpList_append_own_at _ rfl (.tmp 67) (.tmp 69) 96 rfl W.heap.size 101 i82 _ 3 40 Try.underlying96 hi82 hz820 hz821 hz822 rfl (by decide) (.slice (some ⟨gp, 0, none⟩) pas.length cp) pas.length (rowCells pas) (by rfl) (KQ.out.1.alloc _) ⟨w2.heap.size, 0, none⟩ 1 1 [.int .u64 x2.key, .int .i64 x2.frm, .slice x2.ad x2.len x2.cap] (by rfl) (by rfl) (World.news_of_block (cs := #[.int .u64 x2.key, .int .i64 x2.frm, .slice x2.ad x2.len x2.cap]) (t := 101) (fr := (0, 0)) (World.alloc_heap_new w2 _)) (HX3.out x2) (max40 HLP2.out) HLP2.out (by rw [World.size_alloc]; exact Nat.le_succ_of_le (Nat.le_trans KX2.out.size R7.out.size)) ?_; intro v5 w3 hown1 hgrow hnil hat; have HOWN1 := Lib.hid hown1; have HGR := Lib.hid hgrow; have HAT := Lib.hid hat; clear hown1 hgrow hnil hat)))
                    obtain ⟨T5, gp5, cp5, e5, s1, s2, s3, s4, s5, s6, s7, s8, s9⟩ := pass_round KX2.out KX4.out K5.out.1 HNE.out KX6.out R1.out R2.out R3.out R4.out R6.out R7.out HOWN1.out HGR.out HAT.out
                    subst e5
                    have hkx := taken_key KX2.out.heap HL9.out R4.out R5.out
                    have M1 := len_less R4.out K1.out
                    have M2 := Lib.hid (R6.out.trans K3.out)
                    have M3 := Lib.hid (And.intro s3 (And.intro (Nat.le_trans K5.out.2.1 s4) (And.intro (show 0 < (pas ++ [x2]).length by simp) (len_pass R4.out K5.out.2.2.2))))
                    have M4 : Hid (∀ z ∈ pas ++ [x2], z.key = ek y) := Lib.hid (fun z hz => by
                      rcases List.mem_append.1 hz with hz | hz
                      · exact K7.out z hz
                      · rw [List.mem_singleton] at hz; rw [hz, hkx]; exact HK1.out)
                    have M5 := Lib.hid (s7 _ KX8.out)
                    have M6 := Lib.hid (hJ _ _ _ _ _ KX9.out s6)
                    have M7 := Lib.hid (KX10.out.trans KX2.out.size (s8 _ (fun k hk => HST.out.deps _ _ k hk)))
                    have M8 := Lib.hid ((s9 w1.heap.size (Array.getElem?_eq_some_iff.1 KX11.out).1 (fun e => absurd (Nat.lt_of_lt_of_le (HS2.out.lo _ HS2.out.th).2 P7.out.size) (by rw [e]; exact Nat.lt_irrefl _)) (fun e => H3.out (by rw [← K3.out]; exact e)) (fun e => absurd (Nat.lt_of_lt_of_le HR4.out.2.2.2.2.2.2 K5.out.2.1) (by rw [e]; exact Nat.lt_irrefl _))).trans KX11.out)
                    have S1 := Lib.hid s1
                    have S2 := Lib.hid s2
                    have S5 := Lib.hid s5
                    clear s1 s2 s3 s4 s5 s6 s7 s8 s9 hkx
                    go_roundg l4.length
                    case measure => exact M1
                    case rel => exact ⟨T5, v4, l4, pas ++ [x2], gp5, pas.length + 1, cp5, rfl, Lib.hid (Nat.le_refl _), S1, M2, S2, M3, S5, M4, M5, M6, M7, M8⟩
                  | false =>
                    have HNM := no_more KX2.out.heap KX6.out HMF.out (G2.out rfl)
                    have HMID := Lib.hid (Mid.start KX6.out K7.out HNM)
                    clear HNM
                    go_wp2_with (fail)
                    go_loopg [73] pas.length (fun kq v73 w' => ∃ (T : Blocks) (vv : Value) (lr' : List Hd) (j : Nat) (rem' : List (List α)), v73 = .int .i64 (j : Int) ∧ Hid (j ≤ pas.length ∧ pas.length ≤ kq + j) ∧ Hid (HState W T w' vv lr') ∧ Hid (HRow w' W.heap.size 101 (.slice (some ⟨gp, 0, none⟩) pas.length cp) pas) ∧ Hid (T gp ∧ vv.ownBlock ≠ some gp ∧ lr'.length + (pas.length - j) ≤ rem.length) ∧ Hid (Mid ek (RestAt ek ev w' W.heap.size T) (ek y) rem lr' (pas.drop j) rem') ∧ Hid (Marks ds T w') ∧ Hid (J (pre ++ [y]) T w') ∧ Hid (Same (MDeps bL bK gL its) W w'))
                    case atStart => exact ⟨T4, _, lr, 0, rem, rfl, Lib.hid ⟨Nat.zero_le _, Nat.le_refl _⟩, KX2, KX4, Lib.hid ⟨K5.out.1, HNE.out, len_start K5.out.2.2.2⟩, HMID, KX8, KX9, KX10⟩
                    case round =>
                      obtain ⟨T5, v5, l5, j, rem5, rfl, L1, L2, L3, L4, L5, L6, L7, L8⟩ := hrel
                      obtain ⟨Ah5, ch5, hvv5, hlc5⟩ := L2.out.row.slice
                      subst hvv5
                      clear hlc5
                      by_cases hjl : j < pas.length
                      · have hd5 : decide ((j : Int) < (pas.length : Int)) = true := decide_eq_true (Int.ofNat_lt.2 hjl)
                        have hd6 : decide (j < pas.length) = true := decide_eq_true hjl
                        have hb7 : (0 : Int) ≤ (j : Int) := Int.natCast_nonneg j
                        have hb8 : (j : Int) < (pas.length : Int) := Int.ofNat_lt.2 hjl
                        obtain ⟨c0, c1, c2⟩ := L3.out.cell j hjl
                        have hmd := L5.out
                        rw [drop_at hjl] at hmd
                        obtain ⟨pj, hpj⟩ : ∃ p, at_ pas j = p := ⟨_, rfl⟩
                        rw [hpj] at c0 c1 c2 hmd
                        obtain ⟨pk, pf, pa, pn, pc⟩ := pj
                        obtain ⟨i5, z, zs, m1, m2, ⟨g5, o5, cs5, r1, r2, r3, r4, r5, r6, r7, r8⟩, m4, m5⟩ := hmd.next
                        simp only [] at r1 r2 r3 r4 c0 c1 c2 m1
                        subst r1 m1
                        rw [List.length_cons] at r2
                        subst r2
                        have HMD := Lib.hid hmd
                        have HM4 := Lib.hid m4
                        have HM5 := Lib.hid m5
                        have HR8 := Lib.hid (And.intro r3 (And.intro r4 (And.intro r5 (And.intro r6 (And.intro r7 r8)))))
                        have HJL := Lib.hid hjl
                        have HM2 := Lib.hid m2
                        clear hmd m4 m5 r3 r4 r5 r6 r7 r8 hpj hjl m2
                        obtain ⟨j2, hj2⟩ : ∃ j2, j + 1 = j2 := ⟨_, rfl⟩
                        have hj3 : (j : Int) + 1 = (j2 : Int) := by rw [← hj2]; rfl
                        have HJ3 := Lib.hid (loop_nums hj2 HJL.out L1.out.2)
                        have HJ4 := Lib.hid (left_more L4.out.2.2 hj2 HJL.out)
                        have hw3 : IntKind.i64.wrap (j2 : Int) = (j2 : Int) := IntWalk.i64_in _ (loop_fits (fits_r K5.out.2.2.2 HRL.out hlen) HJ3.out.1)
                        rw [hj2] at HM4 HM5
                        clear hj2
                        cases zs with
                        | nil =>
                          have hz1 : ¬ 0 < ([] : List α).length := Nat.lt_irrefl 0
                          go_wp2_with (fail)
                          all_goals
                            obtain ⟨T6, q1, q2, q3, q4, q5, q6, q7⟩ := gone_round L2.out L3.out (HM4.out (by trivial)) _
                            have Q := Lib.hid (And.intro q1 (And.intro q2 (And.intro (q3 _ L4.out.1) (And.intro q4 (And.intro (q6 _ L6.out) (And.intro (hJ _ _ _ _ _ L7.out q5) (L8.out.trans L2.out.size (q7 _))))))))
                            clear q1 q2 q3 q4 q5 q6 q7
                            go_roundg (pas.length - j2)
                            case measure => exact HJ3.out.2.2
                            case rel => exact ⟨T6, _, l5, j2, _, rfl, Lib.hid ⟨HJ3.out.1, HJ3.out.2.1⟩, Lib.hid Q.out.1, Lib.hid Q.out.2.1, Lib.hid ⟨Q.out.2.2.1, L4.out.2.1, HJ4.out.1⟩, Lib.hid Q.out.2.2.2.1, Lib.hid Q.out.2.2.2.2.1, Lib.hid Q.out.2.2.2.2.2.1, Lib.hid Q.out.2.2.2.2.2.2⟩
                        | cons a tl =>
                          have hz1 : 0 < (a :: tl).length := Nat.succ_pos _
                          have hz2 : ¬ pc = 1 := fun e => by
                            have := HR8.out.1
                            rw [e, List.length_cons] at this
                            exact absurd (Nat.le_of_succ_le_succ this) (Nat.not_succ_le_zero _)
                          obtain ⟨n1, n2⟩ := rest_next (i5 := i5) HR8.out
                          have HN := Lib.hid (HM5.out a tl ⟨ek a, i5, some ⟨g5, o5 + 1, none⟩, (a :: tl).length, pc - 1⟩ rfl rfl rfl n1)
                          clear n1
                          go_upto_region 22 with (fail)
                          obtain ⟨q1, q2, q3, q4, q5, q6, q7⟩ := (gone_round L2.out L3.out HN.out (.cells #[.int .u64 pk, .int .i64 (i5 : Int), .slice (some ⟨g5, o5 + 1, none⟩) (tl.length + 1) (pc - 1)] 101)).choose_spec
                          obtain ⟨T6, hT6⟩ : ∃ T6, (gone_round L2.out L3.out HN.out (.cells #[.int .u64 pk, .int .i64 (i5 : Int), .slice (some ⟨g5, o5 + 1, none⟩) (tl.length + 1) (pc - 1)] 101)).choose = T6 := ⟨_, rfl⟩
                          rw [hT6] at q1 q3 q4 q5 q6
                          clear hT6
                          have b12 := World.alloc_heap_new wr (.cells #[.int .u64 pk, .int .i64 (i5 : Int), .slice (some ⟨g5, o5 + 1, none⟩) (tl.length + 1) (pc - 1)] 101)
                          have hg5 : (wr.alloc (.cells #[.int .u64 pk, .int .i64 (i5 : Int), .slice (some ⟨g5, o5 + 1, none⟩) (tl.length + 1) (pc - 1)] 101)).heap[g5]? = wr.heap[g5]? := Below.heap_alloc wr _ _ (Array.getElem?_eq_some_iff.1 HR8.out.2.2.2.2.1).1
                          have nb12 : ¬ (wr.heap.size = W.heap.size ∨ (Value.slice Ah5 l5.length ch5).ownBlock = some wr.heap.size) := fun e => e.elim (fun e => absurd (L2.out.lo _ L2.out.th).2 (by rw [e]; exact Nat.lt_irrefl _)) (fun e => absurd (L2.out.row.blocks _ e).2 (Nat.lt_irrefl _))
                          generalize hX1 : wr.alloc (.cells #[.int .u64 pk, .int .i64 (i5 : Int), .slice (some ⟨g5, o5 + 1, none⟩) (tl.length + 1) (pc - 1)] 101) = X1 at q1 q2 q4 q5 q6 q7 b12 hg5 ⊢
                          have d1 : X1.cell? ⟨wr.heap.size, 1, none⟩ = some (.int .i64 (i5 : Int)) := by rw [cell_of_row X1 _ 1 _ _ _ b12]; rfl
                          have d2 : X1.cell? ⟨wr.heap.size, 2, none⟩ = some (.slice (some ⟨g5, o5 + 1, none⟩) (tl.length + 1) (pc - 1)) := by rw [cell_of_row X1 _ 2 _ _ _ b12]; rfl
                          have y3 : X1.cell? ⟨g5, o5 + 1, none⟩ = some (.int .i64 (ev a)) := (World.cell?_of_block hg5).trans n2
                          have hkc := (HST.out.keep _ _ q1.size (L8.out.trans L2.out.size (q7 _))).key
                          have ck : X1.cell? ⟨bK, 0, none⟩ = some (.func (.func kf) #[] #[]) := by rw [cell_of_row X1 _ 0 _ _ _ hkc]; rfl
                          have nbK : ¬ (bK = W.heap.size ∨ (Value.slice Ah5 l5.length ch5).ownBlock = some bK) := q1.apart hkc (fun _ e => (by cases e)) (fun _ e => (by cases e))
                          have nbg : ¬ (g5 = W.heap.size ∨ (Value.slice Ah5 l5.length ch5).ownBlock = some g5) := L2.out.apart HR8.out.2.2.2.2.1 (fun _ e => (by cases e)) (fun _ e => (by cases e))
                          have Q1 := Lib.hid q1
                          have Q2 := Lib.hid q2
                          have Q3 := Lib.hid q3
                          have Q4 := Lib.hid q4
                          have Q6 := Lib.hid (q6 _ L6.out)
                          have Q5 := Lib.hid (hJ _ _ _ _ _ L7.out q5)
                          have Q7 := Lib.hid (L8.out.trans L2.out.size (q7 (MDeps bL bK gL its)))
                          have HLF5 : Hid ((l5.length + 1) * 40 ≤ 140737488355328) := Lib.hid (fits_one HJ4.out.2 HRL.out hlen)
                          have hb9 : (0 : Int) < ((tl.length + 1 : Nat) : Int) := Int.ofNat_lt.2 (Nat.succ_pos _)
                          clear q1 q2 q3 q4 q5 q6 q7 b12 hg5 hkc n2 hX1 c0 c1 c2
                          go_region_held3 (fun w' => w'.cell? ⟨bK, 0, none⟩ = some (.func (.func kf) #[] #[]) ∧ w'.cell? ⟨wr.heap.size, 1, none⟩ = some (.int .i64 (i5 : Int)) ∧ w'.cell? ⟨wr.heap.size, 2, none⟩ = some (.slice (some ⟨g5, o5 + 1, none⟩) (tl.length + 1) (pc - 1)) ∧ w'.cell? ⟨g5, o5 + 1, none⟩ = some (.int .i64 (ev a)))
                            (first
                              | go_keep
                              | (go_split_ands
                                 refine ⟨?_, ?_, ?_, ?_⟩ <;> (refine (hbl.cell (World.block_lt_of_cell? _ _ (by assumption))).trans ?_; assumption))
                              | (go_split_ands
                                 refine ⟨?_, ?_, ?_, ?_⟩ <;> (refine (World.cell?_of_block (p6.same _ (World.block_lt_of_cell? _ _ (by assumption)) (by assumption))).trans ?_; assumption)))
                            (first
                              | (refine (hkey a _).mono ?_; rintro e wk ⟨rfl, hbl⟩)
                              | (go_at_call 54; refine (put_calls ⟨ek a, i5, some ⟨g5, o5 + 1, none⟩, tl.length + 1, pc - 1⟩ l5 Q1.out.heap W.heap.size W.heap.size (.slice Ah5 l5.length ch5) _ ((hbl.block _ (Q1.out.lo _ Q1.out.th).2).trans Q1.out.box) (HRow.turn (w := X1.drew) Q1.out.row.drew (Turns.of_below (fun _ => False) hbl) (fun _ _ h => h)) (Nat.le_trans Q1.out.size hbl.size) HLF5.out).mono ?_; rintro e wp ⟨rfl, v', l', p1, p2, p3, p4, p5, p6⟩))
                          go_wp2_with (fail)
                          obtain ⟨T7, u1, u2, u3, u4, u5', u6', u7', u8'⟩ := more_round Q1.out Q2.out L4.out.2.1 Q4.out ((Below.refl X1.heap.size X1).drew.trans hbl) p6 p1 p2 p3 p4 p5
                          have U := Lib.hid (And.intro u1 (And.intro u2 (And.intro (And.intro (u3 _ (Q3.out _ L4.out.1)) (And.intro u4 (len_left p4 HJ4.out.2))) (And.intro u5' (And.intro (u7' _ Q6.out) (And.intro (hJ _ _ _ _ _ Q5.out u6') (Q7.out.trans Q1.out.size (u8' _ (fun k hk => HST.out.deps _ _ k hk)))))))))
                          clear u1 u2 u3 u4 u5' u6' u7' u8'
                          go_roundg (pas.length - j2)
                          case measure => exact HJ3.out.2.2
                          case rel => exact ⟨T7, _, l', j2, _, rfl, Lib.hid ⟨HJ3.out.1, HJ3.out.2.1⟩, Lib.hid U.out.1, Lib.hid U.out.2.1, Lib.hid U.out.2.2.1, Lib.hid U.out.2.2.2.1, Lib.hid U.out.2.2.2.2.1, Lib.hid U.out.2.2.2.2.2.1, Lib.hid U.out.2.2.2.2.2.2⟩
                      · have hd5 : decide ((j : Int) < (pas.length : Int)) = false := decide_eq_false (fun h => hjl (Int.ofNat_lt.1 h))
                        have hd6 : decide (j < pas.length) = false := decide_eq_false hjl
                        obtain ⟨e1, e2, e3, e4⟩ := full_done hjl L5.out L4.out.2.2
                        have E := Lib.hid (And.intro e1 (And.intro e2 (And.intro e3 e4)))
                        clear e1 e2 e3 e4 hjl
                        go_wp2_with (fail)
                        go_roundg f
                        case measure => exact HF.out.2
                        case rel => exact ⟨T5, _, l5, pre ++ [y], rem5, f, Lib.hid ⟨by rw [E.out.1]; exact HTF.out, Nat.le_refl _⟩, Lib.hid (by rw [E.out.1, ← HP.out, HMF.out, List.append_assoc]; rfl), Lib.hid (E.out.2.2.2.trans HRL.out), L6, Lib.hid (L2.out.full E.out.2.1 E.out.2.2.1), L7, L8⟩
end
end Go.Proofs.Ytojbfjfjhfnopaa.MergeI
end

section
/- listed, slices.Clone, merge.Merge at entries: what they make. -/
namespace Go.Proofs.Ytojbfjfjhfnopaa.MergeI
open Go.RowKit Go.Shelf RangeD SeqI MergeL HeapL HeapI
attribute [local go_sem] Oper.semAt_some
set_option linter.unusedVariables false
theorem Below.cell1 {w w1 : World} {g j : Nat} {u : Value} (hb : Below w.heap.size w w1) (h : w.cell? ⟨g, j, none⟩ = some u) : w1.cell? ⟨g, j, none⟩ = some u := (hb.cell (World.block_lt_of_cell? _ _ h)).trans h
theorem info69 : (Try.prog.info? 69).map (fun i => (i.zero, i.size, i.bytes)) = some (some .nilFunc, 1, 8) := by kernel_rfl
theorem goes44 : ∀ args w, (callFunc 53 args).run Try.prog w = .ok (.enter 53 args) w := by
  intro args w
  have hf := Try.func53
  simp [callFunc, go_sem, hf, Try.f53]
set_option maxRecDepth 100000 in
theorem listed_calls (A : Option Addr) (n c : Nat) (w : World) : Calls Try.prog 38 #[.slice A n c] w fun e w' => e = .returned (.func (.func 56) #[] #[.pointer (some ⟨w.heap.size, 0, none⟩)]) ∧ Below w.heap.size w w' ∧ w'.heap[w.heap.size]? = some (.cells #[.slice A n c] 73 (0, 0)) := by
  go_enter Try.func38, Try.ntmps38
  go_wp2
  refine bodyPost_ret (results_tmp rfl _ _ _) rfl ?_
  exact ⟨rfl, (Below.refl _ w).alloc (Nat.le_refl _) _, World.alloc_heap_new w _⟩
set_option maxRecDepth 100000 in
theorem clone_calls (g c : Nat) (vs : List Value) (w : World) (hc : ∀ j u, vs[j]? = some u → w.cell? ⟨g, j, none⟩ = some u) (hone : ∀ u ∈ vs, u.oneCell' = true) (hl : vs.length ≤ 3518437208882) :
    Calls Try.prog 52 #[.slice (some ⟨g, 0, none⟩) vs.length c] w fun e w' => ∃ A' c', e = .returned (.slice A' vs.length c') ∧ Below w.heap.size w w' ∧ ∃ g', w.heap.size ≤ g' ∧ g' < w'.heap.size ∧ (0 < vs.length → A' = some ⟨g', 0, none⟩) ∧ ∀ j u, vs[j]? = some u → w'.cell? ⟨g', j, none⟩ = some u := by
  obtain ⟨i0, hi0, hz0, hz1, hz2⟩ := info_parts info69
  have HC := Lib.hid hc
  have HO := Lib.hid hone
  have HL := Lib.hid hl
  clear hc hone hl
  have hnil : ∀ W, (binOp .eql 93 (.slice (some ⟨g, 0, none⟩) vs.length c) (.slice none 0 0)).run Try.prog W = .ok (.bool false) W := fun W => by kernel_rfl
  go_enter Try.func52, Try.ntmps52
  go_wp2_with (first | (at_builtin; go_must (refine wpList_append_own_at _ rfl (.tmp 5) (.tmp 6) 93 rfl w.heap.size 69 i0 _ 1 8 Try.underlying93 hi0 hz0 hz1 hz2 rfl (by decide) (.slice (some ⟨w.heap.size, 0, none⟩) 0 0) 0 [] (by rfl) (World.ownsRow_lit (base := w.heap.size) (e := 69) (size := 1) w #[] 0 (Nat.le_refl _) (by unfold maxLen; omega) rfl) ⟨g, 0, none⟩ vs.length c vs (by rfl) (by simp) (fun j u hj => by rw [show (⟨g, 0, none⟩ : Addr).add j = ⟨g, j, none⟩ from by unfold Addr.add; split <;> simp_all]; exact Below.cell1 ((Below.refl _ w).alloc (Nat.le_refl _) _) (HC.out j u hj)) HO.out (by have := HL.out; unfold maxLen; omega) (by have := HL.out; omega) (by simp) ?_; intro v5 w3 hown1 hgrow hnil hat; have HOWN1 := Lib.hid hown1; have HGR := Lib.hid hgrow; have HAT := Lib.hid hat; clear hown1 hgrow hnil hat)))
  refine bodyPost_ret (results_tmp rfl _ _ _) rfl ?_
  have hb : Below w.heap.size w w3 := by
    have h1 := (Below.refl w.heap.size w).alloc (Nat.le_refl _) (.cells #[] 69)
    refine h1.trans ⟨HGR.out.os, HGR.out.tape, HGR.out.output, HGR.out.size, fun k hk => HGR.out.block k (by rw [World.size_alloc]; omega) (fun e => ?_)⟩
    simp only [Value.ownBlock, Option.some.injEq] at e
    omega
  have ho := HOWN1.out
  rw [Nat.zero_add, List.nil_append] at ho
  rcases ho.2 with ⟨e, hn⟩ | ⟨g', cap, cur, e, h1, h2, h3, h4, h5, h6⟩
  · subst e
    refine ⟨none, 0, by rw [hn]; rfl, hb, w.heap.size, Nat.le_refl _, ?_, fun h => ?_, fun j u hj => ?_⟩
    · have := hb.size
      have h2 := HGR.out.size
      rw [World.size_alloc] at h2
      omega
    · rw [hn] at h; simp at h
    · rw [List.eq_nil_of_length_eq_zero hn] at hj; simp at hj
  · subst e
    refine ⟨_, cap, rfl, hb, g', h1, (Array.getElem?_eq_some_iff.1 h2).1, fun _ => rfl, fun j u hj => ?_⟩
    have hlt : j < vs.length := (List.getElem?_eq_some_iff.1 hj).1
    rw [World.ownsRow.cellAt ho j (by omega)]
    exact hj
section
variable {α : Type} {ek : α → Int} {ev : α → Int}
theorem ItOk.below {it : It α} {w w1 : World} (h : ItOk ek ev it w) (hb : Below w.heap.size w w1) : ItOk ek ev it w1 :=
  ⟨h.seq.same hb.size (fun k _ hk => hb.block k hk), h.goes, fun k hk => Nat.lt_of_lt_of_le (h.lt k hk) hb.size, h.len⟩
set_option maxRecDepth 100000 in
theorem merge_calls (kf g c : Nat) (its : List (It α)) (w : World) (hc : ∀ (i : Nat) it, its[i]? = some it → w.cell? ⟨g, i, none⟩ = some (.func (.func it.gf) #[] it.lb)) (hok : ∀ it ∈ its, ItOk ek ev it w) (hl : (its.length + 1) * 40 ≤ 140737488355328) :
    Calls Try.prog 36 #[.func (.func kf) #[] #[], .slice (some ⟨g, 0, none⟩) its.length c] w fun e w' => ∃ bL bK A gL cap, e = .returned (.func (.func 53) #[] #[.pointer (some ⟨bL, 0, none⟩), .pointer (some ⟨bK, 0, none⟩)]) ∧ Below w.heap.size w w' ∧ MLaid ek ev w' bL bK A gL cap kf its ∧ w.heap.size ≤ bL ∧ w.heap.size ≤ bK ∧ w.heap.size ≤ gL := by
  obtain ⟨vs, hvs⟩ : ∃ vs, its.map (fun it => Value.func (.func it.gf) #[] it.lb) = vs := ⟨_, rfl⟩
  have hlen : vs.length = its.length := by rw [← hvs, List.length_map]
  have hv : ∀ j u, vs[j]? = some u → ∃ it : It α, its[j]? = some it ∧ u = Value.func (.func it.gf) #[] it.lb := fun j u hj => by
    rw [← hvs, List.getElem?_map] at hj
    cases h : its[j]? with
    | none => rw [h] at hj; cases hj
    | some it => rw [h] at hj; injection hj with hj; exact ⟨it, by first | rfl | exact h, hj.symm⟩
  have HV1 : Hid (∀ w1 : World, Below w.heap.size w w1 → ∀ j u, vs[j]? = some u → w1.cell? ⟨g, j, none⟩ = some u) := Lib.hid (fun w1 hb j u hj => by
    obtain ⟨it, h1, rfl⟩ := hv j u hj
    exact Below.cell1 hb (hc j it h1))
  have HV2 : Hid (∀ u ∈ vs, u.oneCell' = true) := Lib.hid (fun u hu => by
    obtain ⟨j, hj, rfl⟩ := List.getElem_of_mem hu
    obtain ⟨it, _, e⟩ := hv j _ (List.getElem?_eq_getElem hj)
    rw [e]
    rfl)
  have HV3 : Hid (vs.length ≤ 3518437208882) := Lib.hid (by omega)
  have HV4 : Hid (∀ (j : Nat) (it : It α), its[j]? = some it → vs[j]? = some (Value.func (.func it.gf) #[] it.lb)) := Lib.hid (fun j it h => by rw [← hvs, List.getElem?_map, h]; rfl)
  have HO := Lib.hid hok
  have HL := Lib.hid hl
  have HLEN := Lib.hid hlen
  rw [← hlen]
  clear hc hok hl hv hvs hlen
  go_enter Try.func36, Try.ntmps36
  go_wp2_with (first | (go_at_call 52; go_must (refine (clone_calls g c vs _ (HV1.out _ ((Below.refl _ w).alloc (Nat.le_refl _) _)) HV2.out HV3.out).mono ?_; rintro e w2 ⟨A', c', rfl, hb, g', q1, q2, q3, q4⟩; have HB := Lib.hid hb; have Q := Lib.hid (And.intro q1 (And.intro q2 (And.intro q3 q4))); clear hb q1 q2 q3 q4)))
  refine bodyPost_ret (results_tmp rfl _ _ _) rfl ?_
  obtain ⟨q1, q2, q3, q4⟩ := Q.out
  have b1 : Below w.heap.size w (w.alloc (.cells #[.func (.func kf) #[] #[]] 71)) := (Below.refl _ w).alloc (Nat.le_refl _) _
  have b2 := HB.out
  have b3 : Below w2.heap.size w2 (w2.alloc (.cells #[.slice A' vs.length c'] 93)) := (Below.refl _ w2).alloc (Nat.le_refl _) _
  have hs2 := b2.size
  rw [World.size_alloc] at hs2 q1
  have b12 : Below w.heap.size w w2 := b1.trans (b2.mono (by rw [World.size_alloc]; omega))
  have b123 : Below w.heap.size w (w2.alloc (.cells #[.slice A' vs.length c'] 93)) := b12.trans (b3.mono (by omega))
  have hk : (w2.alloc (.cells #[.slice A' vs.length c'] 93)).heap[w.heap.size]? = some (.cells #[.func (.func kf) #[] #[]] 71 (0, 0)) := (b3.block _ (by omega)).trans ((b2.block _ (by rw [World.size_alloc]; omega)).trans (World.alloc_heap_new w _))
  refine ⟨w2.heap.size, w.heap.size, A', g', c', rfl, b123, ⟨by rw [← HLEN.out]; exact World.alloc_heap_new w2 _, fun h => q3 (by rw [HLEN.out]; exact h), by rw [World.size_alloc]; omega, fun i it hi => Below.cell1 b3 (q4 i _ (HV4.out i it hi)), hk, fun it hi => (HO.out it hi).below b123, HL.out⟩, by omega, Nat.le_refl _, by omega⟩
/-- What Merge's iterator owes to whoever ranges over it. -/
theorem merge_seq (bL bK : Nat) (A : Option Addr) (gL cap kf : Nat) (its : List (It α))
    (hkf : ∀ args w, (callFunc kf args).run Try.prog w = .ok (.enter kf args) w)
    (hkey : ∀ x w, Calls Try.prog kf #[agg ek ev x] w fun e w' => e = .returned (.int .u64 (ek x)) ∧ Below w.heap.size w w')
    (W : World) (hst : MLaid ek ev W bL bK A gL cap kf its) :
    SeqD Try.prog 53 #[.pointer (some ⟨bL, 0, none⟩), .pointer (some ⟨bK, 0, none⟩)] (fun x : α => #[agg ek ev x]) (MDeps bL bK gL its) (fun ys => ys = mergeL ek (its.map It.xs)) (fun pre => ∃ more, pre ++ more = mergeL ek (its.map It.xs)) (fun pre x => ∃ more, pre ++ [x] ++ more = mergeL ek (its.map It.xs)) W := by
  intro l J Jx W0 hs0 hd0 hJ hJx hY h0
  refine (merge_in ek ev l bL bK A gL cap kf its J Jx hJ hJx hkf hkey hY W0 (hst.keep _ _ hs0 hd0) h0).mono ?_
  rintro e W' ⟨hv, (⟨T, hj⟩ | ⟨pre, T, hm, hj⟩)⟩
  · exact ⟨hv, .inl ⟨_, T, rfl, hj⟩⟩
  · exact ⟨hv, .inr ⟨pre, T, hm, hj⟩⟩
/-- Merge's iterator as one more that may be gone through. -/
def mergeIt (ek : α → Int) (bL bK gL : Nat) (its : List (It α)) : It α := ⟨53, #[.pointer (some ⟨bL, 0, none⟩), .pointer (some ⟨bK, 0, none⟩)], MDeps bL bK gL its, mergeL ek (its.map It.xs)⟩
theorem mergeIt_ok {bL bK : Nat} {A : Option Addr} {gL cap kf : Nat} {its : List (It α)}
    (hkf : ∀ args w, (callFunc kf args).run Try.prog w = .ok (.enter kf args) w)
    (hkey : ∀ x w, Calls Try.prog kf #[agg ek ev x] w fun e w' => e = .returned (.int .u64 (ek x)) ∧ Below w.heap.size w w')
    (W : World) (hst : MLaid ek ev W bL bK A gL cap kf its) (hlen : ((mergeL ek (its.map It.xs)).length + 1) * 24 ≤ 140737488355328) : ItOk ek ev (mergeIt ek bL bK gL its) W :=
  ⟨merge_seq bL bK A gL cap kf its hkf hkey W hst, goes44, fun k hk => hst.deps _ _ k hk, hlen⟩
end
end Go.Proofs.Ytojbfjfjhfnopaa.MergeI
end

section
/- shown, at its ints: five numbers by their last digits. -/
namespace Go.Proofs.Ytojbfjfjhfnopaa.MergeI
open Go.RowKit Go.Shelf RangeD SeqI MergeL HeapL HeapI
attribute [local go_sem] Oper.semAt_some
set_option linter.unusedVariables false
inductive N5 where
  | a | b | c | d | e
def N5.v : N5 → Int
  | .a => 1 | .b => 12 | .c => 23 | .d => 2 | .e => 33
def N5.k : N5 → Int
  | .a => 1 | .b => 2 | .c => 3 | .d => 2 | .e => 3
theorem goes37 : ∀ args w, (callFunc 37 args).run Try.prog w = .ok (.enter 37 args) w := by
  intro args w
  have hf := Try.func37
  simp [callFunc, go_sem, hf, Try.f37]
theorem goes56 : ∀ args w, (callFunc 56 args).run Try.prog w = .ok (.enter 56 args) w := by
  intro args w
  have hf := Try.func56
  simp [callFunc, go_sem, hf, Try.f56]
theorem goes35 : ∀ args w, (callFunc 35 args).run Try.prog w = .ok (.enter 35 args) w := by
  intro args w
  have hf := Try.func35
  simp [callFunc, go_sem, hf, Try.f35]
set_option maxRecDepth 100000 in
theorem key37_calls (x : N5) (w : World) : Calls Try.prog 37 #[agg N5.k N5.v x] w fun e w' => e = .returned (.int .u64 (N5.k x)) ∧ Below w.heap.size w w' := by
  cases x
  all_goals
    simp only [agg, N5.v, N5.k]
    go_enter Try.func37, Try.ntmps37
    go_wp2
    refine bodyPost_ret (results_tmp rfl _ _ _) rfl ?_
    exact ⟨rfl, Below.refl _ w⟩
set_option maxRecDepth 100000 in
theorem is3_calls (k : Int) (w : World) : Calls Try.prog 35 (#[.int .u64 k] ++ #[]) w fun e w' => e = .returned (.bool (k == 3)) ∧ ∃ n, w' = w.drewN n := by
  rw [Array.append_empty]
  go_enter Try.func35, Try.ntmps35
  go_wp2
  refine bodyPost_ret (results_tmp rfl _ _ _) rfl ?_
  exact ⟨rfl, 0, rfl⟩
theorem merged : mergeL N5.k [[.a, .b, .c], [.d, .e]] = [.a, .b, .c] := rfl
def num (pre : List N5) : Int := pre.foldl (fun n x => 100 * n + N5.v x) 0
/-- While shown goes through the numbers: X is the world at the range's begin; bn, bm are n's and m's cells. -/
structure NI (X : World) (bn bm : Nat) (pre : List N5) (T : Blocks) (Y : World) : Prop where
  os : Y.os = X.os
  tape : Y.tape = X.tape
  output : Y.output = X.output
  size : X.heap.size ≤ Y.heap.size
  same : ∀ k, k < X.heap.size → k ≠ bn → k ≠ bm → Y.heap[k]? = X.heap[k]?
  own : ∀ k, T k → X.heap.size ≤ k
  n : Y.heap[bn]? = some (.cells #[.int .i64 (num pre)] 3 (0, 0))
  m : Y.heap[bm]? = some (.cells #[.int .i64 (pre.length : Int)] 3 (0, 0))
theorem NI.start {X : World} {bn bm : Nat} (hn : X.heap[bn]? = some (.cells #[.int .i64 0] 3 (0, 0))) (hm : X.heap[bm]? = some (.cells #[.int .i64 0] 3 (0, 0))) : NI X bn bm [] (fun _ => False) X :=
  ⟨rfl, rfl, rfl, Nat.le_refl _, fun _ _ _ _ => rfl, fun _ h => h.elim, hn, hm⟩
theorem NI.abide {X : World} {bn bm : Nat} (hn : bn < X.heap.size) (hm : bm < X.heap.size) : Abide (NI X bn bm) := by
  intro pre T T' A A' h ht
  have hs := h.size
  have far : ∀ k, k < X.heap.size → A'.heap[k]? = A.heap[k]? := fun k hk => ht.same k (by omega) (fun hT => by have := h.own k hT; omega)
  refine ⟨ht.os.trans h.os, ht.tape.trans h.tape, ht.output.trans h.output, Nat.le_trans hs ht.size, fun k hk h1 h2 => (far k hk).trans (h.same k hk h1 h2), fun k hk => ?_, (far _ hn).trans h.n, (far _ hm).trans h.m⟩
  rcases ht.new k hk with hk | hk
  · exact h.own k hk
  · omega
theorem NI.ownT {X : World} {bn bm : Nat} (hn : bn < X.heap.size) (hm : bm < X.heap.size) : OwnT X.heap.size (NI X bn bm) := by
  intro T pre Y Y' row h hg hr
  have hs := h.size
  have far : ∀ k, k < X.heap.size → Y'.heap[k]? = Y.heap[k]? := fun k hk => hg.block k (by omega) (fun e => by have := (hr k e.symm).1; omega)
  exact ⟨hg.os.trans h.os, hg.tape.trans h.tape, hg.output.trans h.output, Nat.le_trans hs hg.size, fun k hk h1 h2 => (far k hk).trans (h.same k hk h1 h2), h.own, (far _ hn).trans h.n, (far _ hm).trans h.m⟩
theorem NI.next {X : World} {bn bm : Nat} {pre : List N5} {x : N5} {T : Blocks} {Y : World} {u v : Value} (h : NI X bn bm pre T Y) (hnm : bn ≠ bm) (hn : bn < X.heap.size) (hm : bm < X.heap.size) (hu : u = .int .i64 (num (pre ++ [x]))) (hv : v = .int .i64 ((pre ++ [x]).length : Int)) (d1 d2 : Nat) :
    NI X bn bm (pre ++ [x]) T ((Y.setCell ⟨bn, 0, none⟩ u).setCell ⟨bm, 0, none⟩ v) ∧ KeepsFrom X.heap.size Y ((Y.setCell ⟨bn, 0, none⟩ u).setCell ⟨bm, 0, none⟩ v) ∧ ∀ D : Blocks, (∀ k, D k → k < X.heap.size ∧ k ≠ bn ∧ k ≠ bm) → Same (fun k => D k ∨ T k) Y ((Y.setCell ⟨bn, 0, none⟩ u).setCell ⟨bm, 0, none⟩ v) := by
  subst hu hv
  have hs := h.size
  have far : ∀ k, k ≠ bn → k ≠ bm → ((Y.setCell ⟨bn, 0, none⟩ (.int .i64 (num (pre ++ [x])))).setCell ⟨bm, 0, none⟩ (.int .i64 ((pre ++ [x]).length : Int))).heap[k]? = Y.heap[k]? := fun k h1 h2 => (Below.heap_setCell _ ⟨bm, 0, none⟩ _ k h2).trans (Below.heap_setCell _ ⟨bn, 0, none⟩ _ k h1)
  have hsz : ((Y.setCell ⟨bn, 0, none⟩ (.int .i64 (num (pre ++ [x])))).setCell ⟨bm, 0, none⟩ (.int .i64 ((pre ++ [x]).length : Int))).heap.size = Y.heap.size := by simp [World.setCell]
  refine ⟨⟨h.os, h.tape, h.output, by rw [hsz]; exact hs, fun k hk h1 h2 => (far k h1 h2).trans (h.same k hk h1 h2), h.own, ?_, ?_⟩, ⟨by rw [hsz]; exact Nat.le_refl _, fun k ob hk ho hc => (far k (by omega) (by omega)).trans ho⟩, fun D hD k hk hl => ?_⟩
  · exact (Below.heap_setCell _ ⟨bm, 0, none⟩ _ bn hnm).trans ((setCell_blk h.n _).trans rfl)
  · exact (setCell_blk ((Below.heap_setCell _ ⟨bn, 0, none⟩ _ bm (Ne.symm hnm)).trans h.m) _).trans rfl
  · rcases hk with hk | hk
    · have := hD k hk
      exact far k this.2.1 this.2.2
    · have := h.own k hk
      exact far k (by omega) (by omega)
end Go.Proofs.Ytojbfjfjhfnopaa.MergeI
end

section
-- Written by a program of this session (wip/gprint.py: the kit's print, with contracts proved by hand)
namespace Go.Proofs.Ytojbfjfjhfnopaa.G
open Go.RowKit Go.Proofs.YtojbfjfjhfnopaaW.PrintWords Go.Proofs.YtojbfjfjhfnopaaW.PrintLast Go.Proofs.YtojbfjfjhfnopaaW.PrintMore
attribute [local go_sem] max2_int min2_int max_two min_two max_three min_three max_four min_four   -- for this text's walks alone
set_option linter.unusedVariables false
set_option linter.unusedSimpArgs false

theorem eqA32 (d : Nat) (w : World) (x0 y0 : Int) (x1 y1 : Int) (x2 y2 : Bool) :
    (Op.equalIn (d + 2) 32 (.agg #[.int .u64 x0, .int .u64 x1, .bool x2]) (.agg #[.int .u64 y0, .int .u64 y1, .bool y2])).run Try.prog w = .ok (x0 == y0 && (x1 == y1 && (x2 == y2))) w := by
  refine eqA_of Try.underlying32 (by kernel_rfl) ?_
  refine eqf_cons (by rfl) (by go_simp; rfl) (by go_simp; rfl) (by go_simp) ?_
  refine eqf_cons (by rfl) (by go_simp; rfl) (by go_simp; rfl) (by go_simp) ?_
  exact eqf_last (by rfl) (by go_simp; rfl) (by go_simp; rfl) (by go_simp)
end Go.Proofs.Ytojbfjfjhfnopaa.G
end

section
-- Written by a program of this session (wip/gprint.py: the kit's print, with contracts proved by hand)
namespace Go.Proofs.Ytojbfjfjhfnopaa.G
open Go.RowKit Go.Proofs.YtojbfjfjhfnopaaW.PrintWords Go.Proofs.YtojbfjfjhfnopaaW.PrintLast Go.Proofs.YtojbfjfjhfnopaaW.PrintMore
attribute [local go_sem] max2_int min2_int max_two min_two max_three min_three max_four min_four   -- for this text's walks alone
set_option linter.unusedVariables false
set_option linter.unusedSimpArgs false

attribute [local go_sem high] eqA32
/-! ### inclinelaw13_same: function 14 -/
def inclinelaw13_same.l0 : Nat → List (S32) → List (S32) → Int → Option (Bool)
  | 0, _, _, _ => none
  | k + 1, x0, x1, x5 => if x5 < (x0.length : Int) then (if 0 ≤ x5 then (if x5 < (x1.length : Int) then (if (!(((rd_T32 x0 x5).f0) == ((rd_T32 x1 x5).f0)) || (!(((rd_T32 x0 x5).f1) == ((rd_T32 x1 x5).f1)) || (!(((rd_T32 x0 x5).f2) == ((rd_T32 x1 x5).f2))))) = true then (some false) else (inclinelaw13_same.l0 k x0 x1 (wrap64 (x5 + 1)))) else (none)) else (none)) else (some true)
def inclinelaw13_same.f (k : Nat) (l0 : List (S32)) (l1 : List (S32)) : Option (Bool) := if (l0.length : Int) = (l1.length : Int) then (inclinelaw13_same.l0 k l0 l1 0) else (some false)
theorem inclinelaw13_same.mono_l : ∀ k, (∀ y0 y1 y2, LeO (inclinelaw13_same.l0 k y0 y1 y2) (inclinelaw13_same.l0 (k + 1) y0 y1 y2))
  | 0 => fun _ _ _ r h => by simp [inclinelaw13_same.l0] at h
  | k + 1 => by
    have ih0 := inclinelaw13_same.mono_l k
    · intro y0 y1 y2
      unfold inclinelaw13_same.l0
      repeat' first
      | (with_reducible exact ih0 _ _ _)
      | (with_reducible exact LeO.refl _)
      | (with_reducible exact LeO.none _)
      | (with_reducible refine LeO.ite ?_ ?_)
      | (with_reducible refine LeO.bind ?_ (fun _ => ?_))
      | exact ih0 _ _ _
      | exact LeO.none _
      | refine LeO.ite ?_ ?_
      | refine LeO.bind ?_ (fun _ => ?_)
theorem inclinelaw13_same.mono : ∀ a0 a1 k, LeO (inclinelaw13_same.f k a0 a1) (inclinelaw13_same.f (k + 1) a0 a1) := by
  intro a0 a1 k
  have ih0 := inclinelaw13_same.mono_l k
  unfold inclinelaw13_same.f
  repeat' first
      | (with_reducible exact ih0 _ _ _)
      | (with_reducible exact LeO.refl _)
      | (with_reducible exact LeO.none _)
      | (with_reducible refine LeO.ite ?_ ?_)
      | (with_reducible refine LeO.bind ?_ (fun _ => ?_))
      | exact ih0 _ _ _
      | exact LeO.none _
      | refine LeO.ite ?_ ?_
      | refine LeO.bind ?_ (fun _ => ?_)
set_option maxHeartbeats 8000000 in
set_option maxRecDepth 100000 in
theorem inclinelaw13_same.calls (k : Nat) (A0 : Option Addr) (c0 : Nat) (l0 : List (S32)) (A1 : Option Addr) (c1 : Nat) (l1 : List (S32)) (r : Bool) (w : World) (hr0 : Kd.C k32 w A0 l0.length l0) (hc0 : l0.length ≤ c0) (hr1 : Kd.C k32 w A1 l1.length l1) (hc1 : l1.length ≤ c1) (h : inclinelaw13_same.f k l0 l1 = some r) :
    Calls Try.prog 14 #[.slice A0 l0.length c0, .slice A1 l1.length c1] w fun e w' => e = .returned (.bool r) ∧ Drawn0 w w' := by
  have hu32 := Try.underlying32
  have HR0 := Aside0.mk hr0
  have HC0 := Aside0.mk hc0
  clear hr0 hc0
  have HR1 := Aside0.mk hr1
  have HC1 := Aside0.mk hc1
  clear hr1 hc1
  have H : (if (l0.length : Int) = (l1.length : Int) then (inclinelaw13_same.l0 k l0 l1 0) else (some false)) = some r := h
  clear h
  by_cases c3 : (l0.length : Int) = (l1.length : Int)
  · rw [if_pos c3] at H
    have c3b0 : ((l0.length : Int) == (l1.length : Int)) = true := beq_iff_eq.mpr c3
    have c3b1 : ((l0.length : Int) != (l1.length : Int)) = false := bne_eq_false_iff_eq.mpr c3
    have c3b2 : (l0.length == l1.length) = true := by first | simpa using c3 | (simp at c3 ⊢; omega)
    clear c3
    have H' := Aside0.mk H
    clear H
    go_enter Try.func14, Try.ntmps14
    go_wp2
    repeat (go_quiet (fail); try go_wp2)
    go_loopg [5] k (fun kq v5 w' => ∃ (x5_1 : Int), v5 = .int .i64 x5_1 ∧ Aside0 (inclinelaw13_same.l0 kq l0 l1 x5_1 = some r) ∧ Aside0 (kq ≤ k) ∧ Drawn0 w w')
    case atStart => exact ⟨(0), (by first | rfl | (simp; done) | (simp [*]; done)), H', ⟨Nat.le_refl _⟩, by repeat (first | exact Drawn0.refl _ | apply Drawn0.step)⟩
    case round =>
      clear H'
      try clear c1
      try clear p2
      try clear c3
      try clear c3b0
      try clear c3b1
      try clear c3b2
      obtain ⟨x5_1, rfl, HA, HK1, ⟨m1, rfl⟩⟩ := hrel
      cases gk with
      | zero => exact absurd HA.out (by simp [inclinelaw13_same.l0])
      | succ k1 =>
        have H := HA.out
        clear HA
        simp only [inclinelaw13_same.l0] at H
        by_cases c4 : x5_1 < (l0.length : Int)
        · rw [if_pos c4] at H
          have c4b0 : decide (x5_1 < (l0.length : Int)) = true := decide_eq_true c4
          clear c4
          by_cases c5 : 0 ≤ x5_1
          · rw [if_pos c5] at H
            have c5b0 : decide (0 ≤ x5_1) = true := decide_eq_true c5
            clear c5
            by_cases c6 : x5_1 < (l1.length : Int)
            · rw [if_pos c6] at H
              have c6b0 : decide (x5_1 < (l1.length : Int)) = true := decide_eq_true c6
              clear c6
              by_cases c7 : (!(((rd_T32 l0 x5_1).f0) == ((rd_T32 l1 x5_1).f0)) || (!(((rd_T32 l0 x5_1).f1) == ((rd_T32 l1 x5_1).f1)) || (!(((rd_T32 l0 x5_1).f2) == ((rd_T32 l1 x5_1).f2))))) = true
              · rw [if_pos c7] at H
                have c7b0 : (!(((rd_T32 l0 x5_1).f0) == ((rd_T32 l1 x5_1).f0)) || (!(((rd_T32 l0 x5_1).f1) == ((rd_T32 l1 x5_1).f1)) || (!(((rd_T32 l0 x5_1).f2) == ((rd_T32 l1 x5_1).f2))))) = true := c7
                clear c7
                obtain rfl := Option.some.inj H
                have p179 : 0 ≤ (x5_1 : Int) := of_decide_eq_true (by first | (with_reducible assumption) | assumption)
                have q179 : x5_1 < (l0.length : Int) := of_decide_eq_true (by first | (with_reducible assumption) | assumption)
                obtain ⟨ad179, e179, hx179_0, hx179_1, hx179_2⟩ := at_T32 HR0.out x5_1 p179 q179
                cases e179
                replace p179 := eq_true p179
                replace q179 := eq_true q179
                have p180 : 0 ≤ (x5_1 : Int) := of_decide_eq_true (by first | (with_reducible assumption) | assumption)
                have q180 : x5_1 < (l1.length : Int) := of_decide_eq_true (by first | (with_reducible assumption) | assumption)
                obtain ⟨ad180, e180, hx180_0, hx180_1, hx180_2⟩ := at_T32 HR1.out x5_1 p180 q180
                cases e180
                replace p180 := eq_true p180
                replace q180 := eq_true q180
                go_wp2
                repeat (go_quiet (fail); try go_wp2)
                go_ret
                exact ⟨by first | rfl | (simp; done) | (simp [*]; done), by repeat (first | exact Drawn0.refl _ | apply Drawn0.step)⟩
              · rw [if_neg c7] at H
                have c7b0 : (!(((rd_T32 l0 x5_1).f0) == ((rd_T32 l1 x5_1).f0)) || (!(((rd_T32 l0 x5_1).f1) == ((rd_T32 l1 x5_1).f1)) || (!(((rd_T32 l0 x5_1).f2) == ((rd_T32 l1 x5_1).f2))))) = false := by simpa using c7
                clear c7
                have H' := Aside0.mk H
                clear H
                have p179 : 0 ≤ (x5_1 : Int) := of_decide_eq_true (by first | (with_reducible assumption) | assumption)
                have q179 : x5_1 < (l0.length : Int) := of_decide_eq_true (by first | (with_reducible assumption) | assumption)
                obtain ⟨ad179, e179, hx179_0, hx179_1, hx179_2⟩ := at_T32 HR0.out x5_1 p179 q179
                cases e179
                replace p179 := eq_true p179
                replace q179 := eq_true q179
                have p180 : 0 ≤ (x5_1 : Int) := of_decide_eq_true (by first | (with_reducible assumption) | assumption)
                have q180 : x5_1 < (l1.length : Int) := of_decide_eq_true (by first | (with_reducible assumption) | assumption)
                obtain ⟨ad180, e180, hx180_0, hx180_1, hx180_2⟩ := at_T32 HR1.out x5_1 p180 q180
                cases e180
                replace p180 := eq_true p180
                replace q180 := eq_true q180
                go_wp2
                repeat (go_quiet (fail); try go_wp2)
                go_roundg k1
                case measure => have := HK1.out; omega
                case rel => exact ⟨(wrap64 (x5_1 + 1)), (by first | rfl | (simp; done) | (simp [*]; done)), H', ⟨by have := HK1.out; omega⟩, by repeat (first | exact Drawn0.refl _ | apply Drawn0.step)⟩
            · rw [if_neg c6] at H
              exact absurd H (by simp)
          · rw [if_neg c5] at H
            exact absurd H (by simp)
        · rw [if_neg c4] at H
          have c4b0 : decide (x5_1 < (l0.length : Int)) = false := decide_eq_false c4
          clear c4
          obtain rfl := Option.some.inj H
          go_wp2
          repeat (go_quiet (fail); try go_wp2)
          go_ret
          exact ⟨by first | rfl | (simp; done) | (simp [*]; done), by repeat (first | exact Drawn0.refl _ | apply Drawn0.step)⟩
  · rw [if_neg c3] at H
    have c3b0 : ((l0.length : Int) == (l1.length : Int)) = false := beq_eq_false_iff_ne.mpr c3
    have c3b1 : ((l0.length : Int) != (l1.length : Int)) = true := bne_iff_ne.mpr c3
    have c3b2 : (l0.length == l1.length) = false := by first | simpa using c3 | (simp at c3 ⊢; omega)
    obtain rfl := Option.some.inj H
    go_enter Try.func14, Try.ntmps14
    go_wp2
    repeat (go_quiet (fail); try go_wp2)
    go_ret
    exact ⟨by first | rfl | (simp; done) | (simp [*]; done), by repeat (first | exact Drawn0.refl _ | apply Drawn0.step)⟩

end Go.Proofs.Ytojbfjfjhfnopaa.G
end

section
/- shown: true. -/
namespace Go.Proofs.Ytojbfjfjhfnopaa.G
open Go.RowKit Go.Shelf RangeD Go.Proofs.YtojbfjfjhfnopaaW.PrintWords Go.Proofs.YtojbfjfjhfnopaaW.PrintLast Go.Proofs.YtojbfjfjhfnopaaW.PrintMore
open SeqE MergeL MergeE
attribute [local go_sem] Oper.semAt_some
set_option linter.unusedVariables false
set_option linter.unusedSimpArgs false
def inclinelaw13_shown.f : Option Bool := some true
abbrev E (a b : Int) (c : Bool) : S32 := ⟨a, b, c⟩
abbrev row (xs : List S32) : Array Value := (erow S32.f0 S32.f1 S32.f2 xs).toArray
theorem lit_C (W : World) (xs : List S32) (cs : Array Value) (h : cs.toList = erow S32.f0 S32.f1 S32.f2 xs) (hm : xs.length ≤ maxLen) : Kd.C k32 (W.alloc (.cells cs 32)) (some ⟨W.heap.size, 0, none⟩) xs.length xs := by
  have hs : cs.size = xs.length * 3 := by rw [← Array.length_toList, h, erow_length]
  have h1 := World.ownsRow_lit (base := W.heap.size) (e := 32) (size := 3) W cs xs.length (Nat.le_refl _) hm hs
  rw [h] at h1
  exact (Kd.R_reads' (R_of_own h1)).2.2
theorem own_C {w : World} {base : Nat} {A : Option Addr} {c : Nat} {n : Nat} {xs : List S32} (h : w.ownsRow base 32 3 (.slice A n c) xs.length (erow S32.f0 S32.f1 S32.f2 xs)) : Kd.C k32 w A xs.length xs ∧ xs.length ≤ c ∧ n = xs.length := by
  have h1 := Kd.R_reads' (R_of_own h)
  exact ⟨h1.2.2, by have := h1.1; have := h1.2.1; omega, h1.1⟩
theorem merged_a : mergeL S32.f0 [[E 1 10 false, E 3 30 false], [E 1 11 false, E 2 22 false]] = [E 1 10 false, E 2 22 false, E 3 30 false] := rfl
theorem merged_b : mergeL S32.f0 [[E 5 1 false, E 5 2 false], [E 5 3 false, E 4 4 false]] = [E 5 1 false, E 4 4 false, E 5 2 false] := rfl
theorem cells2 {w : World} {b : Nat} {x y : S32} (h : w.heap[b]? = some (.cells #[.int .u64 x.f0, .int .u64 x.f1, .bool x.f2, .int .u64 y.f0, .int .u64 y.f1, .bool y.f2] 32 (0, 0))) : CellsAt S32.f0 S32.f1 S32.f2 w b 0 [x, y] := by
  intro j z hj
  match j, hj with
  | 0, hj =>
    simp only [List.getElem?_cons_zero, Option.some.injEq] at hj
    subst hj
    exact ⟨by rw [cell_of_row w b _ _ _ _ h]; rfl, by rw [cell_of_row w b _ _ _ _ h]; rfl, by rw [cell_of_row w b _ _ _ _ h]; rfl⟩
  | 1, hj =>
    simp only [List.getElem?_cons_succ, List.getElem?_cons_zero, Option.some.injEq] at hj
    subst hj
    exact ⟨by rw [cell_of_row w b _ _ _ _ h]; rfl, by rw [cell_of_row w b _ _ _ _ h]; rfl, by rw [cell_of_row w b _ _ _ _ h]; rfl⟩
  | j + 2, hj => simp at hj
theorem ent2 (w : World) (b0 b1 b2 : Nat) (x0 x1 y0 y1 : S32) (m : List S32) (hm : mergeL S32.f0 [[x0, x1], [y0, y1]] = m) (hl : m.length ≤ 1000)
    (h0 : w.heap[b0]? = some (.cells #[.int .u64 x0.f0, .int .u64 x0.f1, .bool x0.f2, .int .u64 x1.f0, .int .u64 x1.f1, .bool x1.f2] 32 (0, 0)))
    (h1 : w.heap[b1]? = some (.cells #[.int .u64 y0.f0, .int .u64 y0.f1, .bool y0.f2, .int .u64 y1.f0, .int .u64 y1.f1, .bool y1.f2] 32 (0, 0)))
    (h2 : w.heap[b2]? = some (.cells #[.slice (some ⟨b0, 0, none⟩) 2 2, .slice (some ⟨b1, 0, none⟩) 2 2] 25 (0, 0))) :
    Calls Try.prog 13 #[.slice (some ⟨b2, 0, none⟩) 2 2] w fun e w' => ∃ v, e = .returned v ∧ w'.ownsRow w.heap.size 32 3 v m.length (erow S32.f0 S32.f1 S32.f2 m) ∧ Below w.heap.size w w' := by
  subst hm
  refine entries_calls (some ⟨b2, 0, none⟩) 2 b2 0 [[x0, x1], [y0, y1]] w (fun _ => rfl) (fun i xs hi => ?_) (by simp) (fun xs hx => ?_) (by omega)
  · match i, hi with
    | 0, hi =>
      simp only [List.getElem?_cons_zero, Option.some.injEq] at hi
      subst hi
      exact ⟨some ⟨b0, 0, none⟩, 2, b0, 0, by rw [cell_of_row w b2 _ _ _ _ h2]; rfl, fun _ => rfl, cells2 h0, (Array.getElem?_eq_some_iff.1 h0).1⟩
    | 1, hi =>
      simp only [List.getElem?_cons_succ, List.getElem?_cons_zero, Option.some.injEq] at hi
      subst hi
      exact ⟨some ⟨b1, 0, none⟩, 2, b1, 0, by rw [cell_of_row w b2 _ _ _ _ h2]; rfl, fun _ => rfl, cells2 h1, (Array.getElem?_eq_some_iff.1 h1).1⟩
    | i + 2, hi => simp at hi
  · simp only [List.mem_cons, List.not_mem_nil, or_false] at hx
    rcases hx with hx | hx <;> subst hx <;> simp
theorem ent0 (w : World) : Calls Try.prog 13 #[.slice none 0 0] w fun e w' => ∃ v, e = .returned v ∧ w'.ownsRow w.heap.size 32 3 v 0 [] ∧ Below w.heap.size w w' :=
  entries_calls (ek := S32.f0) (ev := S32.f1) (eb := S32.f2) none 0 0 0 [] w (fun h => absurd h (by simp)) (fun i xs hi => by simp at hi) (by simp) (fun xs hx => by cases hx) (by simp [mergeL, mergeF, total])
theorem own_lower {w : World} {base base' n : Nat} {v : Value} {xs : List Value} (h : w.ownsRow base 32 3 v n xs) (hb : base' ≤ base) : w.ownsRow base' 32 3 v n xs := by
  refine ⟨h.1, ?_⟩
  rcases h.2 with h | ⟨g, cap2, cur2, e, h1, h2⟩
  · exact .inl h
  · exact .inr ⟨g, cap2, cur2, e, Nat.le_trans hb h1, h2⟩
theorem ent2lit (w : World) (x0 x1 y0 y1 : S32) (m : List S32) (hm : mergeL S32.f0 [[x0, x1], [y0, y1]] = m) (hl : m.length ≤ 1000) :
    Calls Try.prog 13 #[.slice (some ⟨w.heap.size + 1 + 1, 0, none⟩) 2 2] (((w.alloc (.cells #[.int .u64 x0.f0, .int .u64 x0.f1, .bool x0.f2, .int .u64 x1.f0, .int .u64 x1.f1, .bool x1.f2] 32)).alloc (.cells #[.int .u64 y0.f0, .int .u64 y0.f1, .bool y0.f2, .int .u64 y1.f0, .int .u64 y1.f1, .bool y1.f2] 32)).alloc (.cells #[.slice (some ⟨w.heap.size, 0, none⟩) 2 2, .slice (some ⟨w.heap.size + 1, 0, none⟩) 2 2] 25))
      fun e w' => ∃ A c, e = .returned (.slice A m.length c) ∧ w'.ownsRow w.heap.size 32 3 (.slice A m.length c) m.length (erow S32.f0 S32.f1 S32.f2 m) ∧ Below w.heap.size w w' := by
  have hb : ∀ (o1 o2 o3 : Obj), Below w.heap.size w (((w.alloc o1).alloc o2).alloc o3) := fun o1 o2 o3 => (((Below.refl _ w).alloc (Nat.le_refl _) _).alloc (by simp) _).alloc (by simp; omega) _
  refine (ent2 _ w.heap.size (w.heap.size + 1) (w.heap.size + 1 + 1) x0 x1 y0 y1 m hm hl ?_ ?_ ?_).mono ?_
  · exact (Below.heap_alloc _ _ _ (by simp; omega)).trans ((Below.heap_alloc _ _ _ (by simp)).trans (World.alloc_heap_new w _))
  · have := World.alloc_heap_new (w.alloc (.cells #[.int .u64 x0.f0, .int .u64 x0.f1, .bool x0.f2, .int .u64 x1.f0, .int .u64 x1.f1, .bool x1.f2] 32)) (.cells #[.int .u64 y0.f0, .int .u64 y0.f1, .bool y0.f2, .int .u64 y1.f0, .int .u64 y1.f1, .bool y1.f2] 32)
    rw [World.size_alloc] at this
    exact (Below.heap_alloc _ _ _ (by simp)).trans this
  · have := World.alloc_heap_new ((w.alloc (.cells #[.int .u64 x0.f0, .int .u64 x0.f1, .bool x0.f2, .int .u64 x1.f0, .int .u64 x1.f1, .bool x1.f2] 32)).alloc (.cells #[.int .u64 y0.f0, .int .u64 y0.f1, .bool y0.f2, .int .u64 y1.f0, .int .u64 y1.f1, .bool y1.f2] 32)) (.cells #[.slice (some ⟨w.heap.size, 0, none⟩) 2 2, .slice (some ⟨w.heap.size + 1, 0, none⟩) 2 2] 25)
    rw [World.size_alloc, World.size_alloc] at this
    exact this
  · rintro e w' ⟨v, rfl, h1, h2⟩
    obtain ⟨A, c, rfl⟩ := own_slice h1 rfl
    exact ⟨A, c, rfl, own_lower h1 (hb _ _ _).size, (hb _ _ _).trans (h2.mono (hb _ _ _).size)⟩
theorem lit_cells (W : World) (xs : List S32) (cs : Array Value) (h : cs.toList = erow S32.f0 S32.f1 S32.f2 xs) (hm : xs.length ≤ maxLen) : CellsAt S32.f0 S32.f1 S32.f2 (W.alloc (.cells cs 32)) W.heap.size 0 xs := by
  have hs : cs.size = xs.length * 3 := by rw [← Array.length_toList, h, erow_length]
  have h1 := World.ownsRow_lit (base := W.heap.size) (e := 32) (size := 3) W cs xs.length (Nat.le_refl _) hm hs
  rw [h] at h1
  exact cellsAt_of_own _ _ _ h1
theorem pre_cases {pre more : List MergeI.N5} {x : MergeI.N5} (h : pre ++ [x] ++ more = [.a, .b, .c]) : (pre = [] ∧ x = .a) ∨ (pre = [.a] ∧ x = .b) ∨ (pre = [.a, .b] ∧ x = .c) := by
  match pre, h with
  | [], h => simp at h; exact .inl ⟨rfl, h.1⟩
  | [p], h => simp at h; exact .inr (.inl ⟨by rw [h.1], h.2.1⟩)
  | [p, q], h => simp at h; exact .inr (.inr ⟨by rw [h.1, h.2.1], h.2.2.1⟩)
  | p :: q :: r :: t, h => simp at h
theorem same_a : inclinelaw13_same.f 10 [E 1 10 false, E 2 22 false, E 3 30 false] [E 1 10 false, E 2 22 false, E 3 30 false] = some true := by kernel_rfl
theorem same_b : inclinelaw13_same.f 10 [E 5 1 false, E 4 4 false, E 5 2 false] [E 5 1 false, E 4 4 false, E 5 2 false] = some true := by kernel_rfl
theorem same_d : inclinelaw13_same.f 10 [E 1 10 false, E 3 0 true] [E 1 10 false, E 3 0 true] = some true := by kernel_rfl
theorem sift3 : sift S32.f0 S32.f2 (fun k => k == 3) [E 1 10 false, E 2 0 true, E 3 0 true] = [E 1 10 false, E 3 0 true] := rfl
theorem siftlit (w : World) : Calls Try.prog 25 #[.slice (some ⟨w.heap.size, 0, none⟩) 3 3, .func (.func 35) #[] #[]] (w.alloc (.cells #[.int .u64 1, .int .u64 10, .bool false, .int .u64 2, .int .u64 0, .bool true, .int .u64 3, .int .u64 0, .bool true] 32))
    fun e w' => ∃ A c, e = .returned (.slice A 2 c) ∧ w'.ownsRow w.heap.size 32 3 (.slice A 2 c) 2 (erow S32.f0 S32.f1 S32.f2 [E 1 10 false, E 3 0 true]) ∧ Below w.heap.size w w' := by
  have hb : ∀ (o1 : Obj), Below w.heap.size w (w.alloc o1) := fun o1 => (Below.refl _ w).alloc (Nat.le_refl _) _
  refine (sift_calls (some ⟨w.heap.size, 0, none⟩) w.heap.size 0 3 35 #[] (fun k => k == 3) [E 1 10 false, E 2 0 true, E 3 0 true] _ (fun _ => rfl) (lit_cells w _ _ rfl (by simp [maxLen])) (fun _ => by simp) (by simp) MergeI.goes35 (fun x _ w1 _ => MergeI.is3_calls _ w1)).mono ?_
  rw [sift3]
  rintro e w' ⟨v, rfl, h1, h2⟩
  obtain ⟨A, c, rfl⟩ := own_slice h1 rfl
  exact ⟨A, c, rfl, own_lower h1 (hb _).size, (hb _).trans (h2.mono (hb _).size)⟩
theorem int_it (W : World) (p b : Nat) (xs : List MergeI.N5) (cs : Array Value) (hbox : W.heap[p]? = some (.cells #[.slice (some ⟨b, 0, none⟩) xs.length xs.length] 73 (0, 0))) (hb : W.heap[b]? = some (.cells cs 3 (0, 0))) (hcs : cs.toList = xs.map (fun x => .int .i64 x.v)) (hl : xs.length ≤ 1000) :
    MergeI.ItOk MergeI.N5.k MergeI.N5.v ⟨56, #[.pointer (some ⟨p, 0, none⟩)], fun k => k = p ∨ k = b, xs⟩ W := by
  have h1 := (Array.getElem?_eq_some_iff.1 hbox).1
  have h2 := (Array.getElem?_eq_some_iff.1 hb).1
  refine ⟨SeqI.listed_seq _ _ p (some ⟨b, 0, none⟩) b 0 xs.length xs W ⟨hbox, fun _ => rfl, fun j x hj => ?_, h2, by omega⟩, MergeI.goes56, fun k hk => ?_, by show (xs.length + 1) * 24 ≤ _; omega⟩
  · rw [Nat.zero_add, cell_of_row W b _ _ _ _ hb, ← Array.getElem?_toList, hcs, List.getElem?_map, hj]; rfl
  · rcases hk with e | e <;> omega
theorem ints_merge (w4 w5 w6 : World) (o1 o2 : Obj) (e1 : o1 = .cells #[.int .i64 1, .int .i64 12, .int .i64 23] 3) (e2 : o2 = .cells #[.int .i64 2, .int .i64 33] 3)
    (B5 : Below (w4.alloc o1).heap.size (w4.alloc o1) w5) (N5 : w5.heap[(w4.alloc o1).heap.size]? = some (.cells #[.slice (some ⟨w4.heap.size, 0, none⟩) 3 3] 73 (0, 0)))
    (B6 : Below (w5.alloc o2).heap.size (w5.alloc o2) w6) (N6 : w6.heap[(w5.alloc o2).heap.size]? = some (.cells #[.slice (some ⟨w5.heap.size, 0, none⟩) 2 2] 73 (0, 0))) :
    Calls Try.prog 36 #[.func (.func 37) #[] #[], .slice (some ⟨w6.heap.size, 0, none⟩) 2 2] (w6.alloc (.cells #[.func (.func 56) #[] #[.pointer (some ⟨w4.heap.size + 1, 0, none⟩)], .func (.func 56) #[] #[.pointer (some ⟨w5.heap.size + 1, 0, none⟩)]] 69))
      fun e w7 => ∃ lb D, e = .returned (.func (.func 53) #[] lb) ∧ Below w4.heap.size w4 w7 ∧ MergeI.ItOk MergeI.N5.k MergeI.N5.v ⟨53, lb, D, [.a, .b, .c]⟩ w7 := by
  subst e1 e2
  have b4 : Below w4.heap.size w4 (w4.alloc (.cells #[.int .i64 1, .int .i64 12, .int .i64 23] 3)) := (Below.refl _ w4).alloc (Nat.le_refl _) _
  have b5 : Below w4.heap.size w4 w5 := b4.trans (B5.mono b4.size)
  have b5a : Below w5.heap.size w5 (w5.alloc (.cells #[.int .i64 2, .int .i64 33] 3)) := (Below.refl _ w5).alloc (Nat.le_refl _) _
  have b56 : Below w5.heap.size w5 w6 := b5a.trans (B6.mono b5a.size)
  have b6 : Below w4.heap.size w4 w6 := b5.trans (b56.mono b5.size)
  have s4 := B5.size
  rw [World.size_alloc] at s4 N5
  have hlt5 := (Array.getElem?_eq_some_iff.1 N5).1
  have s5 := B6.size
  rw [World.size_alloc] at s5 N6
  have hlt6 := (Array.getElem?_eq_some_iff.1 N6).1
  generalize hob : (Obj.cells #[.func (.func 56) #[] #[.pointer (some ⟨w4.heap.size + 1, 0, none⟩)], .func (.func 56) #[] #[.pointer (some ⟨w5.heap.size + 1, 0, none⟩)]] 69) = ob
  have b6a : Below w6.heap.size w6 (w6.alloc ob) := (Below.refl _ w6).alloc (Nat.le_refl _) _
  have hg : (w6.alloc ob).heap[w6.heap.size]? = some (.cells #[.func (.func 56) #[] #[.pointer (some ⟨w4.heap.size + 1, 0, none⟩)], .func (.func 56) #[] #[.pointer (some ⟨w5.heap.size + 1, 0, none⟩)]] 69 (0, 0)) := by rw [← hob]; exact World.alloc_heap_new w6 _
  have hp1 : (w6.alloc ob).heap[w4.heap.size + 1]? = some (.cells #[.slice (some ⟨w4.heap.size, 0, none⟩) 3 3] 73 (0, 0)) := (b6a.block _ (by omega)).trans ((b56.block _ (by omega)).trans N5)
  have hr1 : (w6.alloc ob).heap[w4.heap.size]? = some (.cells #[.int .i64 1, .int .i64 12, .int .i64 23] 3 (0, 0)) := (b6a.block _ (by omega)).trans ((b56.block _ (by omega)).trans ((B5.block _ (by rw [World.size_alloc]; omega)).trans (World.alloc_heap_new w4 _)))
  have hp2 : (w6.alloc ob).heap[w5.heap.size + 1]? = some (.cells #[.slice (some ⟨w5.heap.size, 0, none⟩) 2 2] 73 (0, 0)) := (b6a.block _ (by omega)).trans N6
  have hr2 : (w6.alloc ob).heap[w5.heap.size]? = some (.cells #[.int .i64 2, .int .i64 33] 3 (0, 0)) := (b6a.block _ (by omega)).trans ((B6.block _ (by rw [World.size_alloc]; omega)).trans (World.alloc_heap_new w5 _))
  have i1 := int_it (w6.alloc ob) (w4.heap.size + 1) w4.heap.size [.a, .b, .c] _ hp1 hr1 rfl (by simp)
  have i2 := int_it (w6.alloc ob) (w5.heap.size + 1) w5.heap.size [.d, .e] _ hp2 hr2 rfl (by simp)
  have hits : ∀ it ∈ [(⟨56, #[.pointer (some ⟨w4.heap.size + 1, 0, none⟩)], fun k => k = w4.heap.size + 1 ∨ k = w4.heap.size, [.a, .b, .c]⟩ : MergeI.It MergeI.N5), ⟨56, #[.pointer (some ⟨w5.heap.size + 1, 0, none⟩)], fun k => k = w5.heap.size + 1 ∨ k = w5.heap.size, [.d, .e]⟩], MergeI.ItOk MergeI.N5.k MergeI.N5.v it (w6.alloc ob) := fun it hit => by
    rcases List.mem_cons.1 hit with h | h
    · rw [h]; exact i1
    · rw [List.mem_singleton] at h; rw [h]; exact i2
  refine (MergeI.merge_calls 37 w6.heap.size 2 [(⟨56, #[.pointer (some ⟨w4.heap.size + 1, 0, none⟩)], fun k => k = w4.heap.size + 1 ∨ k = w4.heap.size, [.a, .b, .c]⟩ : MergeI.It MergeI.N5), ⟨56, #[.pointer (some ⟨w5.heap.size + 1, 0, none⟩)], fun k => k = w5.heap.size + 1 ∨ k = w5.heap.size, [.d, .e]⟩] (w6.alloc ob) (fun i it hi => ?_) hits (by simp)).mono ?_
  · match i, hi with
    | 0, hi =>
      simp only [List.getElem?_cons_zero, Option.some.injEq] at hi
      subst hi
      rw [cell_of_row _ w6.heap.size _ _ _ _ hg]; rfl
    | 1, hi =>
      simp only [List.getElem?_cons_succ, List.getElem?_cons_zero, Option.some.injEq] at hi
      subst hi
      rw [cell_of_row _ w6.heap.size _ _ _ _ hg]; rfl
    | i + 2, hi => simp at hi
  · rintro e w7 ⟨bL, bK, A, gL, cap, rfl, hb, hml, _⟩
    have hit := MergeI.mergeIt_ok MergeI.goes37 MergeI.key37_calls w7 hml (by rw [show List.map MergeI.It.xs _ = [[MergeI.N5.a, .b, .c], [.d, .e]] from rfl, MergeI.merged]; simp)
    unfold MergeI.mergeIt at hit
    rw [show List.map MergeI.It.xs _ = [[MergeI.N5.a, .b, .c], [.d, .e]] from rfl, MergeI.merged] at hit
    exact ⟨_, _, rfl, b6.trans ((b6a.trans (hb.mono b6a.size)).mono b6.size), hit⟩
set_option maxRecDepth 1000000 in
set_option maxHeartbeats 4000000 in
theorem inclinelaw13_shown.calls (r : Bool) (w : World) (h : inclinelaw13_shown.f = some r) : Calls Try.prog 10 #[] w fun e w' => e = .returned (.bool r) ∧ Below w.heap.size w w' := by
  injection h with h
  subst h
  refine (callsIn_wide (n := 0)).1 (callsIn_of_wp_marks Try.func10 rfl trivial (wpIn_wide.2 ?_) rfl)
  simp only [Try.ntmps10, List.size_toArray, List.length_cons, List.length_nil, Nat.reduceAdd, Nat.reduceSub, Array.replicate_succ, Array.replicate_zero, List.push_toArray, List.append_toArray, List.nil_append, List.cons_append]
  go_upto_region 2 with (go_at_call 13; go_must (refine (ent2lit w (E 1 10 false) (E 3 30 false) (E 1 11 false) (E 2 22 false) _ merged_a (by simp)).mono ?_; rintro e w1 ⟨A1, c1, rfl, h1, b1⟩; have H1 := Lib.hid h1; have B1 := Lib.hid b1; clear h1 b1))
  go_upto_region 3 with (go_at_call 13; go_must (refine (ent2lit w1 (E 5 1 false) (E 5 2 false) (E 5 3 false) (E 4 4 false) _ merged_b (by simp)).mono ?_; rintro e w2 ⟨A2, c2, rfl, h2, b2⟩; have H2 := Lib.hid h2; have B2 := Lib.hid b2; clear h2 b2))
  go_upto_region 4 with (go_at_call 13; go_must (refine (ent0 w2).mono ?_; rintro e w3 ⟨v3, rfl, h3, b3⟩; obtain ⟨A3, c3, rfl⟩ := own_slice (α := S32) (ek := S32.f0) (ev := S32.f1) (eb := S32.f2) (xs := []) h3 rfl; have B3 := Lib.hid b3; clear h3 b3))
  go_upto_region 5 with (go_at_call 25; go_must (refine (siftlit w3).mono ?_; rintro e w4 ⟨A4, c4, rfl, h4, b4⟩; have H4 := Lib.hid h4; have B4 := Lib.hid b4; clear h4 b4))
  go_upto_region 6 with (first
    | (go_at_call 38; refine (MergeI.listed_calls (some ⟨w4.heap.size, 0, none⟩) 3 3 _).mono ?_; rintro e w5 ⟨rfl, b5, n5⟩; have B5 := Lib.hid b5; have N5 := Lib.hid n5; clear b5 n5)
    | (go_at_call 38; refine (MergeI.listed_calls (some ⟨w5.heap.size, 0, none⟩) 2 2 _).mono ?_; rintro e w6 ⟨rfl, b6, n6⟩; have B6 := Lib.hid b6; have N6 := Lib.hid n6; clear b6 n6)
    | (go_at_call 36; go_must (refine (ints_merge w4 w5 w6 _ _ rfl rfl B5.out N5.out B6.out N6.out).mono ?_; rintro e w7 ⟨lb, D, rfl, b7, hit⟩; have B7 := Lib.hid b7; have HIT := Lib.hid hit; clear b7 hit B5 N5 B6 N6)))
  have hnil : ∀ W, (binOp .eql 69 (.func (.func 53) #[] lb) .nilFunc).run Try.prog W = .ok (.bool false) W := fun W => by kernel_rfl
  go_wp2_with (fail)
  obtain ⟨X1, hX1⟩ : ∃ X1, (w7.alloc (.cells #[.int .i64 0] 3)).alloc (.cells #[.int .i64 0] 3) = X1 := ⟨_, rfl⟩
  have hsz1 : X1.heap.size = w7.heap.size + 1 + 1 := by rw [← hX1]; simp
  have hn1 : X1.heap[w7.heap.size]? = some (.cells #[.int .i64 0] 3 (0, 0)) := by rw [← hX1]; exact (Below.heap_alloc _ _ _ (by simp)).trans (World.alloc_heap_new w7 _)
  have hm1 : X1.heap[w7.heap.size + 1]? = some (.cells #[.int .i64 0] 3 (0, 0)) := by
    rw [← hX1]
    have := World.alloc_heap_new (w7.alloc (.cells #[.int .i64 0] 3)) (.cells #[.int .i64 0] 3)
    rw [World.size_alloc] at this
    exact this
  have b8 : Below w7.heap.size w7 X1 := by rw [← hX1]; exact ((Below.refl _ w7).alloc (Nat.le_refl _) _).alloc (by simp) _
  have hbn : w7.heap.size < X1.heap.size := by omega
  have hbm : w7.heap.size + 1 < X1.heap.size := by omega
  have hnm : w7.heap.size ≠ w7.heap.size + 1 := by omega
  have hDlt : ∀ k, D k → k < w7.heap.size := HIT.out.lt
  rw [hX1]
  refine (wpIn_wide (n := 0)).1 ?_
  refine wpIn_rangeFunc_D (ps := #[40]) (gf := 53) (lb := lb) rfl MergeI.goes44 (HIT.out.seq.same (by omega) (fun k hk hl => b8.block k hl)) (fun k hk => by have := hDlt k hk; omega) (fun _ => rfl)
    (MergeI.NI X1 w7.heap.size (w7.heap.size + 1)) (fun _ _ _ _ => False)
    (fun pre x T a' Y => a' = { tmps := #[Value.bool false, Value.slice A1 3 c1, Value.slice A2 3 c2, Value.slice A3 0 c3, Value.slice A4 2 c4, Value.func (Fn.func 53) #[] lb, Value.pointer (some { block := w7.heap.size, off := 0 }), Value.pointer (some { block := w7.heap.size + 1, off := 0 }), .int .i64 (MergeI.N5.v x), Value.agg #[Value.int IntKind.u64 1, Value.int IntKind.u64 10, Value.bool false], Value.agg #[Value.int IntKind.u64 3, Value.int IntKind.u64 30, Value.bool false], Value.slice (some { block := w.heap.size, off := 0 }) 2 2, Value.agg #[Value.int IntKind.u64 1, Value.int IntKind.u64 11, Value.bool false], Value.agg #[Value.int IntKind.u64 2, Value.int IntKind.u64 22, Value.bool false], Value.slice (some { block := w.heap.size + 1, off := 0 }) 2 2, Value.slice (some { block := w.heap.size + 1 + 1, off := 0 }) 2 2, Value.slice A1 3 c1, Value.agg #[Value.int IntKind.u64 5, Value.int IntKind.u64 1, Value.bool false], Value.agg #[Value.int IntKind.u64 5, Value.int IntKind.u64 2, Value.bool false], Value.slice (some { block := w1.heap.size, off := 0 }) 2 2, Value.agg #[Value.int IntKind.u64 5, Value.int IntKind.u64 3, Value.bool false], Value.agg #[Value.int IntKind.u64 4, Value.int IntKind.u64 4, Value.bool false], Value.slice (some { block := w1.heap.size + 1, off := 0 }) 2 2, Value.slice (some { block := w1.heap.size + 1 + 1, off := 0 }) 2 2, Value.slice A2 3 c2, Value.slice A3 0 c3, Value.agg #[Value.int IntKind.u64 1, Value.int IntKind.u64 10, Value.bool false], Value.agg #[Value.int IntKind.u64 2, Value.int IntKind.u64 0, Value.bool true], Value.agg #[Value.int IntKind.u64 3, Value.int IntKind.u64 0, Value.bool true], Value.slice (some { block := w3.heap.size, off := 0 }) 3 3, Value.slice A4 2 c4, Value.slice (some { block := w4.heap.size, off := 0 }) 3 3, Value.func (Fn.func 56) #[] #[Value.pointer (some { block := w4.heap.size + 1, off := 0 })], Value.slice (some { block := w5.heap.size, off := 0 }) 2 2, Value.func (Fn.func 56) #[] #[Value.pointer (some { block := w5.heap.size + 1, off := 0 })], Value.slice (some { block := w6.heap.size, off := 0 }) 2 2, Value.func (Fn.func 53) #[] lb, Value.func (Fn.func 53) #[] lb, Value.bool false, Value.func (Fn.func 53) #[] lb, .int .i64 (MergeI.N5.v x), undef, undef, undef, undef, undef, undef, undef, undef, undef, undef, undef, undef, undef, undef, undef, undef, undef, undef, undef, undef, undef, undef, undef, undef, undef, undef, undef, undef, undef, undef, undef, undef, undef, undef, undef, undef, undef, undef, undef, undef], defers := [] })
    (MergeI.NI.abide hbn hbm) (fun _ _ _ _ _ _ h _ => h) (MergeI.NI.ownT hbn hbm) (fun _ _ _ _ _ _ h _ _ => h) (fun pre x T a' _ Y Y' row h _ _ => h) (MergeI.NI.start hn1 hm1) ?assign ?body ?done ?stop
  case stop => exact fun _ _ _ _ _ _ _ h => h.elim
  case assign =>
    intro lr pre x T' Y K hG hnx hK
    gi_wp2
    exact hK _ _ (KeepsFrom.refl _ Y) (fun k _ hk => rfl) hG rfl
  case body =>
    rintro lr pre x T' a' Y hB hrec hnT hG rfl ⟨more, hmore⟩
    have HG := Lib.hid hG
    have cn := hG.n
    have cm := hG.m
    have hY7 := (Array.getElem?_eq_some_iff.1 cn).1
    have hY8 := (Array.getElem?_eq_some_iff.1 cm).1
    have fn0 : Y.frozen? ⟨w7.heap.size, 0, none⟩ = false := by simp [World.frozen?, cn]
    have fm0 : Y.frozen? ⟨w7.heap.size + 1, 0, none⟩ = false := by simp [World.frozen?, cm]
    have hcs : (pre = [] ∧ x = .a) ∨ (pre = [.a] ∧ x = .b) ∨ (pre = [.a, .b] ∧ x = .c) := pre_cases hmore
    have HD := Lib.hid hDlt
    have HBN := Lib.hid (And.intro hnm (And.intro hbn hbm))
    clear hmore hG hrec hB hnT hDlt b8 hX1 hn1 hm1 hnil
    rcases hcs with ⟨rfl, rfl⟩ | ⟨rfl, rfl⟩ | ⟨rfl, rfl⟩
    · have cn0 : Y.cell? ⟨w7.heap.size, 0, none⟩ = some (.int .i64 0) := by rw [cell_of_row Y _ 0 _ _ _ cn]; rfl
      have cm0 : Y.cell? ⟨w7.heap.size + 1, 0, none⟩ = some (.int .i64 0) := by rw [cell_of_row Y _ 0 _ _ _ cm]; rfl
      clear cn cm
      simp only [MergeI.N5.v]
      gi_wp2
      obtain ⟨q1, q2, q3⟩ := HG.out.next HBN.out.1 HBN.out.2.1 HBN.out.2.2 (x := .a) (u := .int .i64 1) (v := .int .i64 1) rfl rfl 0 0
      exact ⟨q2, q3 D (fun k hk => by have := HD.out k hk; omega), q1⟩
    · have cn0 : Y.cell? ⟨w7.heap.size, 0, none⟩ = some (.int .i64 1) := by rw [cell_of_row Y _ 0 _ _ _ cn]; rfl
      have cm0 : Y.cell? ⟨w7.heap.size + 1, 0, none⟩ = some (.int .i64 1) := by rw [cell_of_row Y _ 0 _ _ _ cm]; rfl
      clear cn cm
      simp only [MergeI.N5.v]
      gi_wp2
      obtain ⟨q1, q2, q3⟩ := HG.out.next HBN.out.1 HBN.out.2.1 HBN.out.2.2 (x := .b) (u := .int .i64 112) (v := .int .i64 2) rfl rfl 0 0
      exact ⟨q2, q3 D (fun k hk => by have := HD.out k hk; omega), q1⟩
    · have cn0 : Y.cell? ⟨w7.heap.size, 0, none⟩ = some (.int .i64 112) := by rw [cell_of_row Y _ 0 _ _ _ cn]; rfl
      have cm0 : Y.cell? ⟨w7.heap.size + 1, 0, none⟩ = some (.int .i64 2) := by rw [cell_of_row Y _ 0 _ _ _ cm]; rfl
      clear cn cm
      simp only [MergeI.N5.v]
      gi_wp2
      obtain ⟨q1, q2, q3⟩ := HG.out.next HBN.out.1 HBN.out.2.1 HBN.out.2.2 (x := .c) (u := .int .i64 11223) (v := .int .i64 3) rfl rfl 0 0
      exact ⟨q2, q3 D (fun k hk => by have := HD.out k hk; omega), q1⟩
  case done =>
    intro C xs T' Y hC hxs hG hmark
    have hxs2 : xs = [.a, .b, .c] := hxs
    subst hxs2
    have HMK := Lib.hid hmark
    have yn : Y.cell? ⟨w7.heap.size, 0, none⟩ = some (.int .i64 11223) := by rw [cell_of_row Y _ 0 _ _ _ hG.n]; rfl
    have ym : Y.cell? ⟨w7.heap.size + 1, 0, none⟩ = some (.int .i64 3) := by rw [cell_of_row Y _ 0 _ _ _ hG.m]; rfl
    have b9 : Below w7.heap.size w7 Y := b8.trans ⟨hG.os, hG.tape, hG.output, hG.size, fun k hk => hG.same k (by omega) (by omega) (by omega)⟩
    have b49 : Below w4.heap.size w4 Y := B7.out.trans (b9.mono B7.out.size)
    have b39 : Below w3.heap.size w3 Y := B4.out.trans (b49.mono B4.out.size)
    have b29 : Below w2.heap.size w2 Y := B3.out.trans (b39.mono B3.out.size)
    have b19 : Below w1.heap.size w1 Y := B2.out.trans (b29.mono B2.out.size)
    have b09 : Below w.heap.size w Y := B1.out.trans (b19.mono B1.out.size)
    have C1 := Lib.hid (own_C (ownsRow_keep H1.out (fun k hk => b19.block k (H1.out.lt k hk).2)))
    have C2 := Lib.hid (own_C (ownsRow_keep H2.out (fun k hk => b29.block k (H2.out.lt k hk).2)))
    have C4 := Lib.hid (own_C (xs := [E 1 10 false, E 3 0 true]) (ownsRow_keep H4.out (fun k hk => b49.block k (H4.out.lt k hk).2)))
    have BY := Lib.hid b09
    have HC9 := Lib.hid (And.intro hC (Nat.le_trans (b9.mono (Nat.le_refl _)).size (Nat.le_refl _)))
    have hXw : Hid (w.heap.size ≤ C) := Lib.hid (by have h1 := B1.out.size; have h2 := B2.out.size; have h3 := B3.out.size; have h4 := B4.out.size; have h7 := B7.out.size; omega)
    clear b49 b39 b29 b19 b09 b9 b8 hG hxs hmark hDlt
    have tok1 : Hid True := Lib.hid trivial
    have tok2 : Hid True := Lib.hid trivial
    have tok3 : Hid True := Lib.hid trivial
    dsimp only
    go_wp2_with (first
      | (go_at_call 14; have _t := tok1; clear _t tok1; go_must (refine (inclinelaw13_same.calls 10 A1 c1 [E 1 10 false, E 2 22 false, E 3 30 false] (some ⟨Y.heap.size, 0, none⟩) 3 [E 1 10 false, E 2 22 false, E 3 30 false] true _ (Kd.C_alloc C1.out.1 _) C1.out.2.1 (lit_C Y _ #[.int .u64 1, .int .u64 10, .bool false, .int .u64 2, .int .u64 22, .bool false, .int .u64 3, .int .u64 30, .bool false] rfl (by simp [maxLen])) (by simp) same_a).mono ?_); rintro e z1 ⟨rfl, ⟨nd, hz⟩⟩; have Z1 : Hid (Below Y.heap.size Y z1) := Lib.hid (by rw [hz]; exact pw_below_drewN ((Below.refl _ Y).alloc (Nat.le_refl _) _) _); clear hz)
      | (go_at_call 14; have _t := tok2; clear _t tok2; go_must (refine (inclinelaw13_same.calls 10 A2 c2 [E 5 1 false, E 4 4 false, E 5 2 false] (some ⟨z1.heap.size, 0, none⟩) 3 [E 5 1 false, E 4 4 false, E 5 2 false] true _ (Kd.C_alloc (Kd.C_below C2.out.1 Z1.out) _) C2.out.2.1 (lit_C z1 _ #[.int .u64 5, .int .u64 1, .bool false, .int .u64 4, .int .u64 4, .bool false, .int .u64 5, .int .u64 2, .bool false] rfl (by simp [maxLen])) (by simp) same_b).mono ?_); rintro e z2 ⟨rfl, ⟨nd, hz⟩⟩; have Z2 : Hid (Below Y.heap.size Y z2) := Lib.hid (by rw [hz]; exact pw_below_drewN (Z1.out.alloc Z1.out.size _) _); clear hz)
      | (go_at_call 14; have _t := tok3; clear _t tok3; go_must (refine (inclinelaw13_same.calls 10 A4 c4 [E 1 10 false, E 3 0 true] (some ⟨z2.heap.size, 0, none⟩) 2 [E 1 10 false, E 3 0 true] true _ (Kd.C_alloc (Kd.C_below C4.out.1 Z2.out) _) C4.out.2.1 (lit_C z2 _ #[.int .u64 1, .int .u64 10, .bool false, .int .u64 3, .int .u64 0, .bool true] rfl (by simp [maxLen])) (by simp) same_d).mono ?_); rintro e z3 ⟨rfl, ⟨nd, hz⟩⟩; have Z3 : Hid (Below Y.heap.size Y z3) := Lib.hid (by rw [hz]; exact pw_below_drewN (Z2.out.alloc Z2.out.size _) _); have yn3 : z3.cell? ⟨w7.heap.size, 0, none⟩ = some (.int .i64 11223) := Below.cell1 Z3.out yn; have ym3 : z3.cell? ⟨w7.heap.size + 1, 0, none⟩ = some (.int .i64 3) := Below.cell1 Z3.out ym; clear hz))
    have hCY := (Array.getElem?_eq_some_iff.1 HMK.out).1
    have bz : Below w.heap.size w z3 := BY.out.trans (Z3.out.mono BY.out.size)
    refine leave_one rfl ((Z3.out.block _ hCY).trans HMK.out) ⟨rfl, bz.os, bz.tape, bz.output, ?_, fun k hk => ?_⟩
    · simp [World.putObj]; exact bz.size
    · exact (World.putObj_heap_other (by have := hXw.out; omega)).trans (bz.block k hk)
end Go.Proofs.Ytojbfjfjhfnopaa.G
end

section
/- How an argument's reading gives a value of a kind of the print's words: whole numbers, bools, strings, structs, slices, in any depth; with what the row's reach says of its sizes, and its bulk. -/
namespace Go.Proofs.Ytojbfjfjhfnopaa.Reading
open Go.RowKit Go.ChangeShapes Go.WideShapes Go.Deep Go.Proofs.YtojbfjfjhfnopaaW.PrintWords
set_option linter.unusedVariables false

def reach : Nat := 140737488351232
theorem reach_eq : reachBytes = reach := by kernel_rfl

section
variable {H : Type} (enc : TypeId × Value → H) (P : Program) (w : World) (base : Nat) (spare : Nat → Bool) (held : Bool)
/-- What reads as data of type t is a value of kind k, of which 'good' holds, and whose bulk is at most the datum's. -/
def Opens {α : Type} (t : TypeId) (k : Kd α) (good : α → Prop) (bk : α → Nat) : Prop :=
  ∀ (fuel : Nat) (cs : List Value) (x : DataW H × List MemPlace), DataW.trod enc P w base spare held fuel t cs = some x → (∀ n ∈ DataW.weights P t x.1, n ≤ reach) → ∃ a, k.K w a cs ∧ good a ∧ bk a ≤ Rows.uptoBulk x.1
/-- The same of cells in line, a list of types. -/
def OpensAt {α : Type} (ts : List TypeId) (k : Kd α) (good : α → Prop) (bk : α → Nat) : Prop :=
  ∀ (fuel : Nat) (css : List (List Value)) (xs : List (DataW H × List MemPlace)), css.length = ts.length → xs.length = ts.length →
    (∀ (i : Nat) (t : TypeId) (c : List Value) (x : DataW H × List MemPlace), ts[i]? = some t → css[i]? = some c → xs[i]? = some x → DataW.trod enc P w base spare held fuel t c = some x) → (∀ n ∈ DataW.weightsEach P ts (xs.map (·.1)), n ≤ reach) →
    ∃ a, k.K w a css.flatten ∧ good a ∧ bk a ≤ Rows.uptoBulkAll (xs.map (·.1))
end

section
variable {H : Type} {enc : TypeId × Value → H} {P : Program} {w : World} {base : Nat} {spare : Nat → Bool} {held : Bool}
theorem of_int {t : TypeId} {k : IntKind} (ht : P.underlying t = some (.int k)) : Opens enc P w base spare held t (Kd.int k) (fun n => (Lit.int k n).wf = true) (fun _ => 1) := by
  intro fuel cs x h _
  obtain ⟨n, rfl, rfl, hw⟩ := DataW.trod_int ht h
  exact ⟨n, rfl, hw, by simp [Rows.uptoBulk]⟩
theorem of_bool {t : TypeId} (ht : P.underlying t = some .bool) : Opens enc P w base spare held t Kd.bool (fun _ => True) (fun _ => 1) := by
  intro fuel cs x h _
  obtain ⟨n, rfl, rfl⟩ := DataW.trod_bool ht h
  exact ⟨n, rfl, trivial, by simp [Rows.uptoBulk]⟩
theorem of_string {t : TypeId} (ht : P.underlying t = some .string) : Opens enc P w base spare held t Kd.string (fun s => s.size ≤ reach) (fun s => s.size + 1) := by
  intro fuel cs x h hw
  obtain ⟨s, rfl, rfl, _⟩ := DataW.trod_string ht h
  have e : s.data.toList.length = s.size := by rw [Array.length_toList]; rfl
  exact ⟨s, rfl, by have := hw s.data.toList.length (by simp [DataW.weights]); omega, by simp only [Rows.uptoBulk]; omega⟩
theorem of_iso {α β : Type} {t : TypeId} {k : Kd α} {good : α → Prop} {bk : α → Nat} (f : β → α) (mk : α → β) (hf : ∀ a, f (mk a) = a) (h : Opens enc P w base spare held t k good bk) :
    Opens enc P w base spare held t (Kd.iso k f) (fun b => good (f b)) (fun b => bk (f b)) := by
  intro fuel cs x hx hw
  obtain ⟨a, hK, hg, hb⟩ := h fuel cs x hx hw
  refine ⟨mk a, ?_, ?_, ?_⟩
  · show k.K w (f (mk a)) cs
    rw [hf]; exact hK
  · show good (f (mk a))
    rw [hf]; exact hg
  · show bk (f (mk a)) ≤ _
    rw [hf]; exact hb
theorem Opens.imp {α : Type} {t : TypeId} {k : Kd α} {good good' : α → Prop} {bk bk' : α → Nat} (h : Opens enc P w base spare held t k good bk) (hg : ∀ a, good a → good' a) (hb : ∀ a, bk' a ≤ bk a) :
    Opens enc P w base spare held t k good' bk' := fun fuel cs x hx hw => by
  obtain ⟨a, hK, h1, h2⟩ := h fuel cs x hx hw
  exact ⟨a, hK, hg a h1, Nat.le_trans (hb a) h2⟩
theorem at_one {α : Type} {t : TypeId} {k : Kd α} {good : α → Prop} {bk : α → Nat} (h : Opens enc P w base spare held t k good bk) : OpensAt enc P w base spare held [t] k good bk := by
  intro fuel css xs hc hx hh hw
  match css, xs, hc, hx with
  | [c], [x], _, _ =>
    obtain ⟨a, hK, hg, hb⟩ := h fuel c x (hh 0 t c x rfl rfl rfl) (fun n hn => hw n (by simpa [DataW.weightsEach] using hn))
    exact ⟨a, by simpa using hK, hg, by simp only [List.map_cons, List.map_nil, Rows.uptoBulkAll]; omega⟩
theorem at_cons {α β : Type} {t : TypeId} {ts : List TypeId} {k : Kd α} {good : α → Prop} {bk : α → Nat} {k' : Kd β} {good' : β → Prop} {bk' : β → Nat} (h : Opens enc P w base spare held t k good bk) (h' : OpensAt enc P w base spare held ts k' good' bk') :
    OpensAt enc P w base spare held (t :: ts) (Kd.pair k k') (fun x => good x.1 ∧ good' x.2) (fun x => bk x.1 + bk' x.2) := by
  intro fuel css xs hc hx hh hw
  match css, xs, hc, hx with
  | c :: css, x :: xs, hc, hx =>
    obtain ⟨a, hK, hg, hb⟩ := h fuel c x (hh 0 t c x rfl rfl rfl) (fun n hn => hw n (by simp only [List.map_cons, DataW.weightsEach]; exact List.mem_append_left _ hn))
    obtain ⟨a', hK', hg', hb'⟩ := h' fuel css xs (by simpa using hc) (by simpa using hx) (fun i t' c' x' h1 h2 h3 => hh (i + 1) t' c' x' (by simpa using h1) (by simpa using h2) (by simpa using h3)) (fun n hn => hw n (by simp only [List.map_cons, DataW.weightsEach]; exact List.mem_append_right _ hn))
    exact ⟨(a, a'), ⟨c, css.flatten, by simp, hK, hK'⟩, ⟨hg, hg'⟩, by simp only [List.map_cons, Rows.uptoBulkAll]; omega⟩

/-- The fields lie one behind the other. -/
def inLine (P : Program) : Nat → List Field → Bool
  | _, [] => true
  | o, f :: fs => f.offset == o && inLine P (o + P.cellsOf f.type) fs
def widths (P : Program) : List Field → Nat
  | [] => 0
  | f :: fs => P.cellsOf f.type + widths P fs
theorem cut_flat (cs : List Value) : ∀ (fs : List Field) (o : Nat), inLine P o fs = true → (fs.map fun f => (cs.drop f.offset).take (P.cellsOf f.type)).flatten = (cs.drop o).take (widths P fs)
  | [], o, _ => by simp [widths]
  | f :: fs, o, h => by
    simp only [inLine, Bool.and_eq_true, beq_iff_eq] at h
    rw [List.map_cons, List.flatten_cons, cut_flat cs fs _ h.2, h.1, widths, List.take_add, ← List.drop_drop]
theorem of_struct {α : Type} {t : TypeId} {fs : Array Field} {k : Kd α} {good : α → Prop} {bk : α → Nat} (ht : P.underlying t = some (.struct fs)) (hl : inLine P 0 fs.toList = true) (hc : P.cellsOf t = widths P fs.toList)
    (h : OpensAt enc P w base spare held (fs.toList.map (·.type)) k good bk) : Opens enc P w base spare held t k good bk := by
  intro fuel cs x hx hw
  obtain ⟨xs, n, _, rfl, hcl, hxl, hf⟩ := DataW.trod_struct ht hx
  have hw' : ∀ m ∈ DataW.weightsEach P (fs.toList.map (·.type)) (xs.map (·.1)), m ≤ reach := fun m hm => hw m (by simp only [DataW.weights, ht]; exact hm)
  obtain ⟨a, hK, hg, hb⟩ := h n (fs.toList.map fun f => (cs.drop f.offset).take (P.cellsOf f.type)) xs (by simp) (by simpa using hxl) (fun i t' c x' h1 h2 h3 => by
    rw [List.getElem?_map] at h1 h2
    obtain ⟨f, hf1, rfl⟩ := Option.map_eq_some_iff.1 h1
    rw [hf1] at h2
    obtain rfl := Option.some.inj h2
    rw [hf i f (by simpa using hf1)]
    exact h3) hw'
  rw [cut_flat cs fs.toList 0 hl, List.drop_zero, List.take_of_length_le (by omega)] at hK
  exact ⟨a, hK, hg, by simp only [Rows.uptoBulk]; omega⟩

theorem bulk_append (l r : List (DataW H)) : Rows.uptoBulkAll (l ++ r) = Rows.uptoBulkAll l + Rows.uptoBulkAll r := by
  induction l with
  | nil => simp [Rows.uptoBulkAll]
  | cons x l ih => simp only [List.cons_append, Rows.uptoBulkAll, ih]; omega
theorem bulk_range {α : Type} (D : Nat → DataW H) (f : Nat → α) (bk : α → Nat) : ∀ n, (∀ i, i < n → bk (f i) ≤ Rows.uptoBulk (D i)) → (((List.range n).map f).map bk).sum ≤ Rows.uptoBulkAll ((List.range n).map D)
  | 0, _ => by simp
  | n + 1, h => by
    have ih := bulk_range D f bk n (fun i hi => h i (by omega))
    have h0 := h n (by omega)
    rw [List.range_succ, List.map_append, List.map_append, List.map_append, List.sum_append, bulk_append]
    simp only [List.map_cons, List.map_nil, List.sum_cons, List.sum_nil, Rows.uptoBulkAll]
    omega
theorem weightsAll_append (e : TypeId) (l r : List (DataW H)) : DataW.weightsAll P e (l ++ r) = DataW.weightsAll P e l ++ DataW.weightsAll P e r := by
  induction l with
  | nil => simp [DataW.weightsAll]
  | cons x l ih => simp only [List.cons_append, DataW.weightsAll, ih, List.append_assoc]
theorem weightsAll_mem (e : TypeId) (l : List (DataW H)) {d : DataW H} (h : d ∈ l) {n : Nat} (hn : n ∈ DataW.weights P e d) : n ∈ DataW.weightsAll P e l := by
  induction l with
  | nil => cases h
  | cons x l ih =>
    simp only [DataW.weightsAll]
    rcases List.mem_cons.1 h with rfl | h
    · exact List.mem_append_left _ hn
    · exact List.mem_append_right _ (ih h)

/-- A slice: as long as the reach allows; each element good. -/
theorem of_slice {α : Type} [Inhabited α] {t e : TypeId} {B : Nat} {d : Kd α} {good : α → Prop} {bk : α → Nat} (ht : P.underlying t = some (.slice e)) (hB : P.bytesOf e = B) (hsz : P.cellsOf e = d.sz) (h : Opens enc P w base spare held e d good bk) :
    Opens enc P w base spare held t (Kd.slice e d) (fun xs => (xs.length * B ≤ reach ∧ xs.length ≤ maxLen) ∧ ∀ x ∈ xs, good x) (fun xs => (xs.map bk).sum + 1) := by
  intro fuel cs x hx hw
  rcases open_slice ht hx with ⟨rfl, rfl⟩ | ⟨a, len, cap, m, n, D, Pl, rfl, hb, hl, hm, hmm, rfl, hi⟩
  · exact ⟨[], ⟨none, 0, rfl, Nat.le_refl _, ⟨rfl, by simp, fun hp => absurd hp (by simp)⟩⟩, ⟨⟨by simp, Nat.zero_le _⟩, fun x hx => by cases hx⟩, by simp [Rows.uptoBulk]⟩
  · have hlm : len ≤ m := by rw [hmm]; split <;> omega
    have hwm : ∀ i, i < len → ∀ q ∈ DataW.weights P e (D i), q ≤ reach := fun i hi' q hq => hw q (by
      simp only [DataW.weights, ht]
      refine List.mem_cons_of_mem _ (List.mem_append_left _ (weightsAll_mem e _ (d := D i) ?_ hq))
      exact List.mem_map.2 ⟨i, List.mem_range.2 hi', rfl⟩)
    have hA : ∀ i, i < len → ∃ v : α, (∃ c, c.length = d.sz ∧ d.K w v c ∧ ∀ j u, c[j]? = some u → w.cell? (a.add (i * d.sz + j)) = some u) ∧ good v ∧ bk v ≤ Rows.uptoBulk (D i) := by
      intro i hi'
      obtain ⟨cs', h1, h2⟩ := hi i (by omega)
      obtain ⟨v, hK, hg, hbk⟩ := h n cs' _ h2 (hwm i hi')
      obtain ⟨_, hcl, hat⟩ := World.cells?_some h1
      rw [hsz] at hcl hat
      refine ⟨v, ⟨cs', hcl, hK, fun j u hu => ?_⟩, hg, hbk⟩
      have hj : j < d.sz := by have := (List.getElem?_eq_some_iff.1 hu).1; omega
      rw [← Go.Deep.add_add, hat j hj, hu]
    obtain ⟨f, hf⟩ := choose_lt hA
    have hlen : ((List.range len).map f).length = len := by simp
    have hweight : len * B ≤ reach := by
      have h3 := hw ((((List.range len).map D).length + ((List.range (m - len)).map fun j => D (len + j)).length) * P.bytesOf e) (by simp [DataW.weights, ht])
      rw [hB] at h3
      refine Nat.le_trans (Nat.mul_le_mul_right B ?_) h3
      simp
    refine ⟨(List.range len).map f, ⟨some a, cap, by rw [hlen], by rw [hlen]; exact hl, ?_⟩, ⟨⟨by rw [hlen]; exact hweight, by rw [hlen]; omega⟩, ?_⟩, ?_⟩
    · rw [hlen]
      refine ⟨hlen, by unfold maxLen at hm; omega, fun _ => ⟨a, rfl, fun j p hj => ?_⟩⟩
      have hj' : j < len := by have := (List.getElem?_eq_some_iff.1 hj).1; omega
      rw [List.getElem?_map, List.getElem?_range hj'] at hj
      obtain rfl := Option.some.inj hj
      exact (hf j hj').1
    · intro x hx
      obtain ⟨i, hi', rfl⟩ := List.mem_map.1 hx
      exact (hf i (List.mem_range.1 hi')).2.1
    · have := bulk_range D f bk len (fun i hi' => (hf i hi').2.2)
      simp only [Rows.uptoBulk]
      omega

/-- The slice's own value. -/
theorem slice_top {α : Type} {t e : TypeId} {d : Kd α} {good : List α → Prop} {bk : List α → Nat} {v : Value} {x : DataW H} {ps : List MemPlace} (hv : ∃ a n c, v = .slice a n c)
    (h : Opens enc P w base spare held t (Kd.slice e d) good bk) (hx : DataW.Trod enc P w base spare held t v x ps) (hw : ∀ n ∈ DataW.weights P t x, n ≤ reach) :
    ∃ (A : Option Addr) (c : Nat) (l : List α), v = .slice A l.length c ∧ l.length ≤ c ∧ Kd.C d w A l.length l ∧ good l ∧ bk l ≤ Rows.uptoBulk x := by
  obtain ⟨fuel, hf⟩ := hx
  obtain ⟨l, ⟨A, c, hc, hl, hC⟩, hg, hb⟩ := h fuel _ _ hf hw
  obtain ⟨a, n, q, rfl⟩ := hv
  simp only [Value.cells, List.cons.injEq, and_true] at hc
  exact ⟨A, c, l, hc, hl, hC, hg, hb⟩
theorem okWide_slice' {r : Reach} {b0 : Nat} {t e : TypeId} {v : Value} (ht : P.underlying t = some (.slice e)) (h : Value.okWide P w r b0 t v) : ∃ a n c, v = .slice a n c := okWide_slice ht h
theorem okWide_struct' {r : Reach} {b0 : Nat} {t : TypeId} {fs : Array Field} {v : Value} (ht : P.underlying t = some (.struct fs)) (h : Value.okWide P w r b0 t v) : ∃ cs, v = .agg cs := by
  obtain ⟨cs, h, _⟩ := okWide_struct ht h
  exact ⟨cs, h⟩
/-- A struct's own value. -/
theorem agg_top {α : Type} {t : TypeId} {d : Kd α} {good : α → Prop} {bk : α → Nat} {v : Value} {x : DataW H} {ps : List MemPlace} (hv : ∃ cs, v = .agg cs)
    (h : Opens enc P w base spare held t d good bk) (hx : DataW.Trod enc P w base spare held t v x ps) (hw : ∀ n ∈ DataW.weights P t x, n ≤ reach) :
    ∃ (cs : List Value) (a : α), v = .agg cs.toArray ∧ d.K w a cs ∧ good a ∧ bk a ≤ Rows.uptoBulk x := by
  obtain ⟨fuel, hf⟩ := hx
  obtain ⟨a, hK, hg, hb⟩ := h fuel _ _ hf hw
  obtain ⟨cs, rfl⟩ := hv
  exact ⟨cs.toList, a, rfl, hK, hg, hb⟩
theorem weights_at {ts : List TypeId} {ds : List (DataW H)} (h : (DataW.weightsEach P ts ds).all (· ≤ reachBytes) = true) : ∀ n ∈ DataW.weightsEach P ts ds, n ≤ reach := by
  intro n hn
  have := List.all_eq_true.1 h n hn
  rw [← reach_eq]
  simpa using this
end
end Go.Proofs.Ytojbfjfjhfnopaa.Reading
end

section
/- How the merge laws' arguments read. -/
namespace Go.Proofs.Ytojbfjfjhfnopaa
open Go.RowKit Go.Proofs.YtojbfjfjhfnopaaW.PrintWords Go.Proofs.Ytojbfjfjhfnopaa.Reading G
instance : Inhabited S32 := ⟨z32⟩
theorem open32 {H : Type} (enc : TypeId × Value → H) (w : World) (base : Nat) (spare : Nat → Bool) (held : Bool) : Opens enc Try.prog w base spare held 32 k32 (fun x => (Lit.int .u64 x.f0).wf = true ∧ (Lit.int .u64 x.f1).wf = true ∧ True) (fun _ => 1) :=
  (of_iso (fun x : S32 => (x.f0, x.f1, x.f2)) (fun p => ⟨p.1, p.2.1, p.2.2⟩) (fun _ => rfl)
    (of_struct Try.underlying32 (by kernel_rfl) (by kernel_rfl) (at_cons (of_int Try.underlying30) (at_cons (of_int Try.underlying30) (at_one (of_bool Try.underlying4)))))).imp (fun _ h => h) (fun _ => by show 1 ≤ 1 + (1 + 1); omega)
theorem open25 {H : Type} (enc : TypeId × Value → H) (w : World) (base : Nat) (spare : Nat → Bool) (held : Bool) :
    Opens enc Try.prog w base spare held 25 (Kd.slice 32 k32) (fun l => (l.length * 24 ≤ reach ∧ l.length ≤ maxLen) ∧ ∀ x ∈ l, (Lit.int .u64 x.f0).wf = true ∧ (Lit.int .u64 x.f1).wf = true ∧ True) (fun l => l.length) :=
  (of_slice Try.underlying25 (by kernel_rfl) (by kernel_rfl) (open32 enc w base spare held)).imp (fun _ h => h) (fun l => by
    have : ∀ l : List S32, l.length ≤ (l.map (fun _ => 1)).sum := fun l => by induction l with
      | nil => simp
      | cons x l ih => simp only [List.length_cons, List.map_cons, List.sum_cons]; omega
    have := this l
    omega)
theorem open25b {H : Type} (enc : TypeId × Value → H) (w : World) (base : Nat) (spare : Nat → Bool) (held : Bool) :
    Opens enc Try.prog w base spare held 25 (Kd.slice 32 k32) (fun l => (l.length * 24 ≤ reach ∧ l.length ≤ maxLen) ∧ ∀ x ∈ l, (Lit.int .u64 x.f0).wf = true ∧ (Lit.int .u64 x.f1).wf = true ∧ True) (fun l => l.length + 1) :=
  (of_slice Try.underlying25 (by kernel_rfl) (by kernel_rfl) (open32 enc w base spare held)).imp (fun _ h => h) (fun l => by
    have : ∀ l : List S32, l.length ≤ (l.map (fun _ => 1)).sum := fun l => by induction l with
      | nil => simp
      | cons x l ih => simp only [List.length_cons, List.map_cons, List.sum_cons]; omega
    have := this l
    omega)
theorem open22 {H : Type} (enc : TypeId × Value → H) (w : World) (base : Nat) (spare : Nat → Bool) (held : Bool) :
    Opens enc Try.prog w base spare held 22 (Kd.slice 25 (Kd.slice 32 k32)) (fun l => (l.length * 24 ≤ reach ∧ l.length ≤ maxLen) ∧ ∀ xs ∈ l, (xs.length * 24 ≤ reach ∧ xs.length ≤ maxLen) ∧ ∀ x ∈ xs, (Lit.int .u64 x.f0).wf = true ∧ (Lit.int .u64 x.f1).wf = true ∧ True) (fun l => l.length + (l.map List.length).sum) :=
  (of_slice Try.underlying22 (by kernel_rfl) (by kernel_rfl) (open25b enc w base spare held)).imp (fun _ h => h) (fun l => by
    have : ∀ l : List (List S32), l.length + (l.map List.length).sum ≤ (l.map (fun l => l.length + 1)).sum := fun l => by induction l with
      | nil => simp
      | cons x l ih => simp only [List.length_cons, List.map_cons, List.sum_cons]; omega
    have := this l
    omega)
end Go.Proofs.Ytojbfjfjhfnopaa
end

section
-- Written by a program of this session (wip/gprint.py: the kit's print, with contracts proved by hand)
namespace Go.Proofs.Ytojbfjfjhfnopaa.G
open Go.RowKit Go.Proofs.YtojbfjfjhfnopaaW.PrintWords Go.Proofs.YtojbfjfjhfnopaaW.PrintLast Go.Proofs.YtojbfjfjhfnopaaW.PrintMore
attribute [local go_sem] max2_int min2_int max_two min_two max_three min_three max_four min_four   -- for this text's walks alone
set_option linter.unusedVariables false
set_option linter.unusedSimpArgs false

/-! ### inclineref03_Of: function 29 -/
def inclineref03_Of.l0 : Nat → List (S32) → List Int → Int → Option (List Int)
  | 0, _, _, _ => none
  | k + 1, x0, x3, x4 => if x4 < (x0.length : Int) then (if 0 ≤ x4 then (if x3.length < 17592186044416 then (inclineref03_Of.l0 k x0 (x3 ++ [(rd_T32 x0 x4).f0]) (wrap64 (x4 + 1))) else (none)) else (none)) else (some x3)
def inclineref03_Of.f (k : Nat) (l0 : List (S32)) : Option (List Int) := inclineref03_Of.l0 k l0 (([] : List Int)) 0
theorem inclineref03_Of.mono_l : ∀ k, (∀ y0 y1 y2, LeO (inclineref03_Of.l0 k y0 y1 y2) (inclineref03_Of.l0 (k + 1) y0 y1 y2))
  | 0 => fun _ _ _ r h => by simp [inclineref03_Of.l0] at h
  | k + 1 => by
    have ih0 := inclineref03_Of.mono_l k
    · intro y0 y1 y2
      unfold inclineref03_Of.l0
      repeat' first
      | (with_reducible exact ih0 _ _ _)
      | (with_reducible exact LeO.refl _)
      | (with_reducible exact LeO.none _)
      | (with_reducible refine LeO.ite ?_ ?_)
      | (with_reducible refine LeO.bind ?_ (fun _ => ?_))
      | exact ih0 _ _ _
      | exact LeO.none _
      | refine LeO.ite ?_ ?_
      | refine LeO.bind ?_ (fun _ => ?_)
theorem inclineref03_Of.mono : ∀ a0 k, LeO (inclineref03_Of.f k a0) (inclineref03_Of.f (k + 1) a0) := by
  intro a0 k
  have ih0 := inclineref03_Of.mono_l k
  unfold inclineref03_Of.f
  repeat' first
      | (with_reducible exact ih0 _ _ _)
      | (with_reducible exact LeO.refl _)
      | (with_reducible exact LeO.none _)
      | (with_reducible refine LeO.ite ?_ ?_)
      | (with_reducible refine LeO.bind ?_ (fun _ => ?_))
      | exact ih0 _ _ _
      | exact LeO.none _
      | refine LeO.ite ?_ ?_
      | refine LeO.bind ?_ (fun _ => ?_)
set_option maxHeartbeats 8000000 in
set_option maxRecDepth 100000 in
theorem inclineref03_Of.calls (k : Nat) (A0 : Option Addr) (c0 : Nat) (l0 : List (S32)) (r : List Int) (w : World) (hr0 : Kd.C k32 w A0 l0.length l0) (hc0 : l0.length ≤ c0) (h : inclineref03_Of.f k l0 = some r) :
    Calls Try.prog 29 #[.slice A0 l0.length c0] w fun e w' => ∃ v0_ : Value, e = .returned (v0_) ∧ Kd.R (Kd.int .u64) 30 w' w.heap.size (fun _ => True) v0_ r ∧ Below w.heap.size w w' := by
  have HR0 := Aside0.mk hr0
  have HC0 := Aside0.mk hc0
  clear hr0 hc0
  have HB := Aside0.mk (Below.refl w.heap.size w)
  have H : (inclineref03_Of.l0 k l0 (([] : List Int)) 0) = some r := h
  clear h
  obtain ⟨y214, hy214⟩ : ∃ y_ : List Int, y_ = (([] : List Int)) := ⟨_, rfl⟩
  replace H : (inclineref03_Of.l0 k l0 y214 0) = some r := by first | (rw [hy214]; with_reducible exact H) | (have H2_ := (Option.bind_some _ _).symm.trans H; rw [hy214]; with_reducible exact H2_) | (have H2_ := (Option.bind_some _ _).symm.trans H; with_reducible exact H2_) | with_reducible exact H | (rw [hy214]; exact H) | exact H
  have Ny214 := Aside0.mk hy214
  clear hy214
  have H' := Aside0.mk H
  clear H
  go_enter Try.func29, Try.ntmps29
  go_wp2_with (first | ((with_reducible refine gate_dst (N := 5) rfl ?_); refine Kd.R_lit (Kd.int .u64) _ 30 ?hg (N := 5) ?hd (xs := ([] : List Int)) (inner := []) (ok := fun _ => True) (okp := fun _ => True) ?hr ?hp (fun _ hk => hk) trivial (Below.refl _ _) (Nat.le_refl _) (by simp) ?_; (case hd => rfl); (case hg => rfl); (case hr => first | (go_simp; done) | (go_simp; rfl)); (case hp => exact (Reps.none _ _)); intro v215 w2 ho3 hb hg_ hnew_; clear hg_ hnew_; (first | rw [← Ny214.out] at ho3 | (simp only [Int.reduceToNat] at ho3; rw [← Ny214.out] at ho3)); have n0_ := Aside0.mk (Kd.R_lower ho3 (below_size (by repeat (first | (with_reducible first | exact HB.out | apply below_alloc | apply pw_below_drewN | apply below_drew1) | exact HB.out)))); have n1_ := Aside0.mk (below_step (by repeat (first | (with_reducible first | exact HB.out | apply below_alloc | apply pw_below_drewN | apply below_drew1) | exact HB.out)) hb); clear HB; have HO216 := n0_; have HB := n1_; clear n0_ n1_; clear hb ho3))
  go_loopg [3, 4] k (fun kq v3 v4 w' => ∃ (x3_1 : List Int) (x4_1 : Int), v4 = .int .i64 x4_1 ∧ Aside0 (inclineref03_Of.l0 kq l0 x3_1 x4_1 = some r) ∧ Aside0 (kq ≤ k) ∧ Aside0 (Kd.R (Kd.int .u64) 30 w' w.heap.size (fun _ => True) v3 x3_1) ∧ Aside0 (Below w.heap.size w w'))
  case atStart => exact ⟨(y214), (0), (by first | rfl | (simp; done) | (simp [*]; done)), H', ⟨Nat.le_refl _⟩, ⟨by (with_reducible repeat (first | apply Kd.R_alloc | apply Kd.R_drewN | apply Kd.R_drew)); exact HO216.out⟩, ⟨by repeat (first | (with_reducible first | exact HB.out | apply below_alloc | apply pw_below_drewN | apply below_drew1) | exact HB.out)⟩⟩
  case round =>
    clear H'
    try clear c2
    try clear p2
    obtain ⟨x3_1, x4_1, rfl, HA, HK1, HO_3, HB⟩ := hrel
    cases gk with
    | zero => exact absurd HA.out (by simp [inclineref03_Of.l0])
    | succ k1 =>
      have H := HA.out
      clear HA
      simp only [inclineref03_Of.l0] at H
      by_cases c4 : x4_1 < (l0.length : Int)
      · rw [if_pos c4] at H
        have c4b0 : decide (x4_1 < (l0.length : Int)) = true := decide_eq_true c4
        clear c4
        by_cases c5 : 0 ≤ x4_1
        · rw [if_pos c5] at H
          have c5b0 : decide (0 ≤ x4_1) = true := decide_eq_true c5
          clear c5
          by_cases c6 : x3_1.length < 17592186044416
          · rw [if_pos c6] at H
            have LMc6 := Aside0.mk c6
            clear c6
            obtain ⟨y218, hy218⟩ : ∃ y_ : List Int, y_ = (x3_1 ++ [(rd_T32 l0 x4_1).f0]) := ⟨_, rfl⟩
            replace H : (inclineref03_Of.l0 k1 l0 y218 (wrap64 (x4_1 + 1))) = some r := by first | (rw [hy218]; with_reducible exact H) | (have H2_ := (Option.bind_some _ _).symm.trans H; rw [hy218]; with_reducible exact H2_) | (have H2_ := (Option.bind_some _ _).symm.trans H; with_reducible exact H2_) | with_reducible exact H | (rw [hy218]; exact H) | exact H
            have Ny218 := Aside0.mk hy218
            clear hy218
            have H' := Aside0.mk H
            clear H
            have p217 : 0 ≤ (x4_1 : Int) := of_decide_eq_true (by first | (with_reducible assumption) | assumption)
            have q217 : x4_1 < (l0.length : Int) := of_decide_eq_true (by first | (with_reducible assumption) | assumption)
            obtain ⟨ad217, e217, hx217_0, hx217_1, hx217_2⟩ := at_T32 HR0.out x4_1 p217 q217
            cases e217
            replace hx217_0 := (HB.out.cell (World.block_lt_of_cell? w _ hx217_0)).trans hx217_0
            replace hx217_1 := (HB.out.cell (World.block_lt_of_cell? w _ hx217_1)).trans hx217_1
            replace hx217_2 := (HB.out.cell (World.block_lt_of_cell? w _ hx217_2)).trans hx217_2
            replace p217 := eq_true p217
            replace q217 := eq_true q217
            go_wp2_with (first | ((with_reducible refine gate_builtin (b := .append) (xs := #[.tmp 12, .tmp 18]) rfl ?_); at_builtin; refine Kd.R_append (Kd.int .u64) (w0 := w) w.heap.size rfl (.tmp 12) (.tmp 18) 49 30 (.int .u64 0) 8 rfl Try.underlying49 info30 rfl (by decide) (by omega) u3 x3_1 ((rd_T32 l0 x4_1).f0) [.int .u64 ((rd_T32 l0 x4_1).f0)] (fun _ => True) (fun _ => False) rfl rfl ?aP (fun _ hk => hk.elim) ?aF ?aO ?aB ?aS ?aL ?_; (case aP => exact rfl); (case aB => exact (by repeat (first | (with_reducible first | exact HB.out | apply below_alloc | apply pw_below_drewN | apply below_drew1) | exact HB.out))); (case aF => exact (fun _ _ => trivial)); (case aO => exact (by (with_reducible repeat (first | apply Kd.R_alloc | apply Kd.R_drewN | apply Kd.R_drew)); exact HO_3.out)); (case aS => exact (below_size (by repeat (first | (with_reducible first | exact HB.out | apply below_alloc | apply pw_below_drewN | apply below_drew1) | exact HB.out)))); (case aL => have := LMc6.out; omega); intro v219 w7 ho hb hg hat; rw [← Ny218.out] at ho; have n0_ := Aside0.mk (hb); have n1_ := Aside0.mk (ho); clear HB; clear HO_3; have HB := n0_; have HO220 := n1_; clear n0_ n1_; clear ho hb hg hat))
            go_roundg k1
            case measure => have := HK1.out; omega
            case rel => exact ⟨(y218), (wrap64 (x4_1 + 1)), (by first | rfl | (simp; done) | (simp [*]; done)), H', ⟨by have := HK1.out; omega⟩, ⟨by (with_reducible repeat (first | apply Kd.R_alloc | apply Kd.R_drewN | apply Kd.R_drew)); exact HO220.out⟩, ⟨by repeat (first | (with_reducible first | exact HB.out | apply below_alloc | apply pw_below_drewN | apply below_drew1) | exact HB.out)⟩⟩
          · rw [if_neg c6] at H
            exact absurd H (by simp)
        · rw [if_neg c5] at H
          exact absurd H (by simp)
      · rw [if_neg c4] at H
        have c4b0 : decide (x4_1 < (l0.length : Int)) = false := decide_eq_false c4
        clear c4
        obtain rfl := Option.some.inj H
        go_wp2
        go_ret
        exact ⟨_, by first | rfl | (simp [errW_none, errW_some] <;> rfl) | (simp [*, errW_none, errW_some] <;> rfl), by (with_reducible repeat (first | apply Kd.R_alloc | apply Kd.R_drewN | apply Kd.R_drew)); exact HO_3.out, by repeat (first | (with_reducible first | exact HB.out | apply below_alloc | apply pw_below_drewN | apply below_drew1) | exact HB.out)⟩

end Go.Proofs.Ytojbfjfjhfnopaa.G
end

section
-- Written by a program of this session (wip/gprint.py: the kit's print, with contracts proved by hand)
namespace Go.Proofs.Ytojbfjfjhfnopaa.G
open Go.RowKit Go.Proofs.YtojbfjfjhfnopaaW.PrintWords Go.Proofs.YtojbfjfjhfnopaaW.PrintLast Go.Proofs.YtojbfjfjhfnopaaW.PrintMore
attribute [local go_sem] max2_int min2_int max_two min_two max_three min_three max_four min_four   -- for this text's walks alone
set_option linter.unusedVariables false
set_option linter.unusedSimpArgs false

/-! ### inclineref03_Rising: function 30 -/
def inclineref03_Rising.l0 : Nat → List Int → Int → Option (Bool)
  | 0, _, _ => none
  | k + 1, x0, x3 => if x3 < (x0.length : Int) then (if 0 ≤ x3 then (if 0 ≤ (wrap64 (x3 - 1)) then (if (wrap64 (x3 - 1)) < (x0.length : Int) then (if (rd x0 x3) ≤ (rd x0 (wrap64 (x3 - 1))) then (some false) else (inclineref03_Rising.l0 k x0 (wrap64 (x3 + 1)))) else (none)) else (none)) else (none)) else (some true)
def inclineref03_Rising.f (k : Nat) (l0 : List Int) : Option (Bool) := inclineref03_Rising.l0 k l0 1
theorem inclineref03_Rising.mono_l : ∀ k, (∀ y0 y1, LeO (inclineref03_Rising.l0 k y0 y1) (inclineref03_Rising.l0 (k + 1) y0 y1))
  | 0 => fun _ _ r h => by simp [inclineref03_Rising.l0] at h
  | k + 1 => by
    have ih0 := inclineref03_Rising.mono_l k
    · intro y0 y1
      unfold inclineref03_Rising.l0
      repeat' first
      | (with_reducible exact ih0 _ _)
      | (with_reducible exact LeO.refl _)
      | (with_reducible exact LeO.none _)
      | (with_reducible refine LeO.ite ?_ ?_)
      | (with_reducible refine LeO.bind ?_ (fun _ => ?_))
      | exact ih0 _ _
      | exact LeO.none _
      | refine LeO.ite ?_ ?_
      | refine LeO.bind ?_ (fun _ => ?_)
theorem inclineref03_Rising.mono : ∀ a0 k, LeO (inclineref03_Rising.f k a0) (inclineref03_Rising.f (k + 1) a0) := by
  intro a0 k
  have ih0 := inclineref03_Rising.mono_l k
  unfold inclineref03_Rising.f
  repeat' first
      | (with_reducible exact ih0 _ _)
      | (with_reducible exact LeO.refl _)
      | (with_reducible exact LeO.none _)
      | (with_reducible refine LeO.ite ?_ ?_)
      | (with_reducible refine LeO.bind ?_ (fun _ => ?_))
      | exact ih0 _ _
      | exact LeO.none _
      | refine LeO.ite ?_ ?_
      | refine LeO.bind ?_ (fun _ => ?_)
set_option maxHeartbeats 8000000 in
set_option maxRecDepth 100000 in
theorem inclineref03_Rising.calls (k : Nat) (A0 : Option Addr) (c0 : Nat) (l0 : List Int) (r : Bool) (w : World) (hr0 : Kd.C (Kd.int .u64) w A0 l0.length l0) (hc0 : l0.length ≤ c0) (h : inclineref03_Rising.f k l0 = some r) :
    Calls Try.prog 30 #[.slice A0 l0.length c0] w fun e w' => e = .returned (.bool r) ∧ Drawn0 w w' := by
  have HR0 := Aside0.mk hr0
  have HC0 := Aside0.mk hc0
  clear hr0 hc0
  have H : (inclineref03_Rising.l0 k l0 1) = some r := h
  clear h
  have H' := Aside0.mk H
  clear H
  go_enter Try.func30, Try.ntmps30
  go_wp2
  repeat (go_quiet (fail); try go_wp2)
  go_loopg [3] k (fun kq v3 w' => ∃ (x3_1 : Int), v3 = .int .i64 x3_1 ∧ Aside0 (inclineref03_Rising.l0 kq l0 x3_1 = some r) ∧ Aside0 (kq ≤ k) ∧ Drawn0 w w')
  case atStart => exact ⟨(1), (by first | rfl | (simp; done) | (simp [*]; done)), H', ⟨Nat.le_refl _⟩, by repeat (first | exact Drawn0.refl _ | apply Drawn0.step)⟩
  case round =>
    clear H'
    obtain ⟨x3_1, rfl, HA, HK1, ⟨m1, rfl⟩⟩ := hrel
    cases gk with
    | zero => exact absurd HA.out (by simp [inclineref03_Rising.l0])
    | succ k1 =>
      have H := HA.out
      clear HA
      simp only [inclineref03_Rising.l0] at H
      by_cases c2 : x3_1 < (l0.length : Int)
      · rw [if_pos c2] at H
        have c2b0 : decide (x3_1 < (l0.length : Int)) = true := decide_eq_true c2
        clear c2
        by_cases c3 : 0 ≤ x3_1
        · rw [if_pos c3] at H
          have c3b0 : decide (0 ≤ x3_1) = true := decide_eq_true c3
          clear c3
          obtain ⟨ji4, hji4⟩ : ∃ j_ : Int, (wrap64 (x3_1 - 1)) = j_ := ⟨_, rfl⟩
          replace H : (if 0 ≤ (ji4) then (if (ji4) < (l0.length : Int) then (if (rd l0 x3_1) ≤ (rd l0 (ji4)) then (some false) else (inclineref03_Rising.l0 k1 l0 (wrap64 (x3_1 + 1)))) else (none)) else (none)) = some r := by first | (rw [hji4] at H; exact H) | (simp only [hji4] at H ⊢; exact H)
          have hji4w : (IntKind.i64.wrap (x3_1 - 1)) = ji4 := (i64_w _).trans hji4
          by_cases c5 : 0 ≤ (ji4)
          · rw [if_pos c5] at H
            have c5b0 : decide (0 ≤ (ji4)) = true := decide_eq_true c5
            clear c5
            by_cases c6 : (ji4) < (l0.length : Int)
            · rw [if_pos c6] at H
              have c6b0 : decide ((ji4) < (l0.length : Int)) = true := decide_eq_true c6
              clear c6
              by_cases c7 : (rd l0 x3_1) ≤ (rd l0 (ji4))
              · rw [if_pos c7] at H
                have c7b0 : decide ((rd l0 x3_1) ≤ (rd l0 (ji4))) = true := decide_eq_true c7
                clear c7
                obtain rfl := Option.some.inj H
                have p221 : 0 ≤ (x3_1 : Int) := of_decide_eq_true (by first | (with_reducible assumption) | assumption)
                have q221 : x3_1 < (l0.length : Int) := of_decide_eq_true (by first | (with_reducible assumption) | assumption)
                obtain ⟨ad221, e221, hx221_0⟩ := Kd.at_int HR0.out x3_1 p221 q221
                cases e221
                replace p221 := eq_true p221
                replace q221 := eq_true q221
                have p222 : 0 ≤ ((ji4) : Int) := of_decide_eq_true (by first | (with_reducible assumption) | assumption)
                have q222 : (ji4) < (l0.length : Int) := of_decide_eq_true (by first | (with_reducible assumption) | assumption)
                obtain ⟨ad222, e222, hx222_0⟩ := Kd.at_int HR0.out (ji4) p222 q222
                obtain rfl : ad221 = ad222 := (by injection e222)
                replace p222 := eq_true p222
                replace q222 := eq_true q222
                go_wp2
                repeat (go_quiet (fail); try go_wp2)
                go_ret
                exact ⟨by first | rfl | (simp; done) | (simp only [← hji4] <;> (first | rfl | simp)) | (simp [*]; done), by repeat (first | exact Drawn0.refl _ | apply Drawn0.step)⟩
              · rw [if_neg c7] at H
                have c7b0 : decide ((rd l0 x3_1) ≤ (rd l0 (ji4))) = false := decide_eq_false c7
                clear c7
                have H' := Aside0.mk H
                clear H
                have p221 : 0 ≤ (x3_1 : Int) := of_decide_eq_true (by first | (with_reducible assumption) | assumption)
                have q221 : x3_1 < (l0.length : Int) := of_decide_eq_true (by first | (with_reducible assumption) | assumption)
                obtain ⟨ad221, e221, hx221_0⟩ := Kd.at_int HR0.out x3_1 p221 q221
                cases e221
                replace p221 := eq_true p221
                replace q221 := eq_true q221
                have p222 : 0 ≤ ((ji4) : Int) := of_decide_eq_true (by first | (with_reducible assumption) | assumption)
                have q222 : (ji4) < (l0.length : Int) := of_decide_eq_true (by first | (with_reducible assumption) | assumption)
                obtain ⟨ad222, e222, hx222_0⟩ := Kd.at_int HR0.out (ji4) p222 q222
                obtain rfl : ad221 = ad222 := (by injection e222)
                replace p222 := eq_true p222
                replace q222 := eq_true q222
                go_wp2
                repeat (go_quiet (fail); try go_wp2)
                go_roundg k1
                case measure => have := HK1.out; omega
                case rel => exact ⟨(wrap64 (x3_1 + 1)), (by first | rfl | (simp; done) | (simp [*]; done)), H', ⟨by have := HK1.out; omega⟩, by repeat (first | exact Drawn0.refl _ | apply Drawn0.step)⟩
            · rw [if_neg c6] at H
              exact absurd H (by simp)
          · rw [if_neg c5] at H
            exact absurd H (by simp)
        · rw [if_neg c3] at H
          exact absurd H (by simp)
      · rw [if_neg c2] at H
        have c2b0 : decide (x3_1 < (l0.length : Int)) = false := decide_eq_false c2
        clear c2
        obtain rfl := Option.some.inj H
        go_wp2
        repeat (go_quiet (fail); try go_wp2)
        go_ret
        exact ⟨by first | rfl | (simp; done) | (simp [*]; done), by repeat (first | exact Drawn0.refl _ | apply Drawn0.step)⟩

end Go.Proofs.Ytojbfjfjhfnopaa.G
end

section
-- Written by a program of this session (wip/gprint.py: the kit's print, with contracts proved by hand)
namespace Go.Proofs.Ytojbfjfjhfnopaa.G
open Go.RowKit Go.Proofs.YtojbfjfjhfnopaaW.PrintWords Go.Proofs.YtojbfjfjhfnopaaW.PrintLast Go.Proofs.YtojbfjfjhfnopaaW.PrintMore
attribute [local go_sem] max2_int min2_int max_two min_two max_three min_three max_four min_four   -- for this text's walks alone
set_option linter.unusedVariables false
set_option linter.unusedSimpArgs false

/-! ### inclinelaw13_rising: function 27 -/
def inclinelaw13_rising.l0 : Nat → List (List (S32)) → Int → Option (Bool)
  | 0, _, _ => none
  | k + 1, x0, x3 => if x3 < (x0.length : Int) then (if 0 ≤ x3 then ((inclineref03_Of.f k (rd_L3 x0 x3)).bind fun t224 => ((inclineref03_Rising.f k t224).bind fun t227 => (if t227 = true then (inclinelaw13_rising.l0 k x0 (wrap64 (x3 + 1))) else (some false)))) else (none)) else (some true)
def inclinelaw13_rising.f (k : Nat) (l0 : List (List (S32))) : Option (Bool) := inclinelaw13_rising.l0 k l0 0
theorem inclinelaw13_rising.mono_l : ∀ k, (∀ y0 y1, LeO (inclinelaw13_rising.l0 k y0 y1) (inclinelaw13_rising.l0 (k + 1) y0 y1))
  | 0 => fun _ _ r h => by simp [inclinelaw13_rising.l0] at h
  | k + 1 => by
    have ih0 := inclinelaw13_rising.mono_l k
    · intro y0 y1
      unfold inclinelaw13_rising.l0
      repeat' first
      | (with_reducible exact ih0 _ _)
      | (with_reducible exact inclineref03_Of.mono _ _)
      | (with_reducible exact inclineref03_Rising.mono _ _)
      | (with_reducible exact LeO.refl _)
      | (with_reducible exact LeO.none _)
      | (with_reducible refine LeO.ite ?_ ?_)
      | (with_reducible refine LeO.bind ?_ (fun _ => ?_))
      | exact ih0 _ _
      | exact inclineref03_Of.mono _ _
      | exact inclineref03_Rising.mono _ _
      | exact LeO.none _
      | refine LeO.ite ?_ ?_
      | refine LeO.bind ?_ (fun _ => ?_)
theorem inclinelaw13_rising.mono : ∀ a0 k, LeO (inclinelaw13_rising.f k a0) (inclinelaw13_rising.f (k + 1) a0) := by
  intro a0 k
  have ih0 := inclinelaw13_rising.mono_l k
  unfold inclinelaw13_rising.f
  repeat' first
      | (with_reducible exact ih0 _ _)
      | (with_reducible exact inclineref03_Of.mono _ _)
      | (with_reducible exact inclineref03_Rising.mono _ _)
      | (with_reducible exact LeO.refl _)
      | (with_reducible exact LeO.none _)
      | (with_reducible refine LeO.ite ?_ ?_)
      | (with_reducible refine LeO.bind ?_ (fun _ => ?_))
      | exact ih0 _ _
      | exact inclineref03_Of.mono _ _
      | exact inclineref03_Rising.mono _ _
      | exact LeO.none _
      | refine LeO.ite ?_ ?_
      | refine LeO.bind ?_ (fun _ => ?_)
set_option maxHeartbeats 8000000 in
set_option maxRecDepth 100000 in
theorem inclinelaw13_rising.calls (k : Nat) (A0 : Option Addr) (c0 : Nat) (l0 : List (List (S32))) (r : Bool) (w : World) (hr0 : Kd.C (Kd.slice 32 k32) w A0 l0.length l0) (hc0 : l0.length ≤ c0) (h : inclinelaw13_rising.f k l0 = some r) :
    Calls Try.prog 27 #[.slice A0 l0.length c0] w fun e w' => e = .returned (.bool r) ∧ Below w.heap.size w w' := by
  have HR0 := Aside0.mk hr0
  have HC0 := Aside0.mk hc0
  clear hr0 hc0
  have HB := Aside0.mk (Below.refl w.heap.size w)
  have H : (inclinelaw13_rising.l0 k l0 0) = some r := h
  clear h
  have H' := Aside0.mk H
  clear H
  go_enter Try.func27, Try.ntmps27
  go_wp2
  go_loopg [3] k (fun kq v3 w' => ∃ (x3_1 : Int), v3 = .int .i64 x3_1 ∧ Aside0 (inclinelaw13_rising.l0 kq l0 x3_1 = some r) ∧ Aside0 (kq ≤ k) ∧ Aside0 (Below w.heap.size w w'))
  case atStart => exact ⟨(0), (by first | rfl | (simp; done) | (simp [*]; done)), H', ⟨Nat.le_refl _⟩, ⟨by repeat (first | (with_reducible first | exact HB.out | apply below_alloc | apply pw_below_drewN | apply below_drew1) | exact HB.out)⟩⟩
  case round =>
    clear H'
    obtain ⟨x3_1, rfl, HA, HK1, HB⟩ := hrel
    cases gk with
    | zero => exact absurd HA.out (by simp [inclinelaw13_rising.l0])
    | succ k1 =>
      have H := HA.out
      clear HA
      simp only [inclinelaw13_rising.l0] at H
      by_cases c2 : x3_1 < (l0.length : Int)
      · rw [if_pos c2] at H
        have c2b0 : decide (x3_1 < (l0.length : Int)) = true := decide_eq_true c2
        clear c2
        by_cases c3 : 0 ≤ x3_1
        · rw [if_pos c3] at H
          have c3b0 : decide (0 ≤ x3_1) = true := decide_eq_true c3
          clear c3
          replace H := Option.bind_eq_some_iff.mp H
          obtain ⟨t224, A40, H⟩ := H
          replace H : ((inclineref03_Rising.f k1 t224).bind fun t227 => (if t227 = true then (inclinelaw13_rising.l0 k1 l0 (wrap64 (x3_1 + 1))) else (some false))) = some r := H
          have A4 := Aside0.mk A40
          clear A40
          replace H := Option.bind_eq_some_iff.mp H
          obtain ⟨t227, A50, H⟩ := H
          replace H : (if t227 = true then (inclinelaw13_rising.l0 k1 l0 (wrap64 (x3_1 + 1))) else (some false)) = some r := H
          have A5 := Aside0.mk A50
          clear A50
          by_cases c6 : t227 = true
          · subst c6
            have H1 : (inclinelaw13_rising.l0 k1 l0 (wrap64 (x3_1 + 1))) = some r := by rw [if_pos rfl] at H; exact H
            clear H
            have H := H1
            clear H1
            have H' := Aside0.mk H
            clear H
            have p223 : 0 ≤ (x3_1 : Int) := of_decide_eq_true (by first | (with_reducible assumption) | assumption)
            have q223 : x3_1 < (l0.length : Int) := of_decide_eq_true (by first | (with_reducible assumption) | assumption)
            obtain ⟨ad223, A223_0, c223_0, e223, hx223_0, hl223_0, hi223_0⟩ := at_L3 HR0.out x3_1 p223 q223
            cases e223
            replace hx223_0 := (HB.out.cell (World.block_lt_of_cell? w _ hx223_0)).trans hx223_0
            have HR223_0 := Aside0.mk hi223_0
            have HC223_0 := Aside0.mk hl223_0
            clear hi223_0 hl223_0
            replace p223 := eq_true p223
            replace q223 := eq_true q223
            go_wp2_with (first | ((with_reducible refine gate_callee (f := 29) rfl ?_); refine goesL_ (some 14) rfl rfl Try.func29 (by kernel_rfl) rfl #[.slice A223_0 (rd_L3 l0 x3_1).length c223_0] rfl (by (try simp only [List.map_toArray, List.map_cons, List.map_nil]); first | done | rfl | (simp only [List.length_drop, List.length_take]; rfl)) ?_; (with_reducible refine (inclineref03_Of.calls k1 _ _ (rd_L3 l0 x3_1) t224 _ ?side1 ?side2 A4.out).mono ?_); (case side1 => repeat (first | exact (Kd.C_below HR223_0.out HB.out) | (with_reducible refine Kd.C_alloc ?_ _) | (with_reducible refine Kd.C_drewN ?_ _) | (with_reducible refine Kd.C_drew ?_))); (case side2 => exact HC223_0.out); rintro e w7 ⟨v225, rfl, ho0, hb⟩; refine ⟨_, rfl, ?_⟩; have n0_ := Aside0.mk (Kd.R_lower ho0 (below_size (by repeat (first | (with_reducible first | exact HB.out | apply below_alloc | apply pw_below_drewN | apply below_drew1) | exact HB.out)))); have n1_ := Aside0.mk (below_step (by repeat (first | (with_reducible first | exact HB.out | apply below_alloc | apply pw_below_drewN | apply below_drew1) | exact HB.out)) hb); clear HB; have HO226 := n0_; have HB := n1_; clear n0_ n1_; (try clear hb); (try clear hb2); (try clear hk); (try clear hi); (try clear ho0); obtain ⟨Ao8, co8, eo8⟩ := Kd.R_slice HO226.out; subst eo8) | ((with_reducible refine gate_callee (f := 30) rfl ?_); refine goesL_ (some 15) rfl rfl Try.func30 (by kernel_rfl) rfl #[.slice Ao8 t224.length co8] rfl (by (try simp only [List.map_toArray, List.map_cons, List.map_nil]); first | done | rfl | (simp only [List.length_drop, List.length_take]; rfl)) ?_; (with_reducible refine (inclineref03_Rising.calls k1 _ _ t224 true _ ?side1 ?side2 A5.out).mono ?_); (case side1 => repeat (first | exact (Kd.R_reads' HO226.out).2.2 | (with_reducible refine Kd.C_alloc ?_ _) | (with_reducible refine Kd.C_drewN ?_ _) | (with_reducible refine Kd.C_drew ?_))); (case side2 => exact (Kd.R_reads' HO226.out).2.1); rintro e w' ⟨rfl, ⟨nd, rfl⟩⟩; refine ⟨_, rfl, ?_⟩))
            go_roundg k1
            case measure => have := HK1.out; omega
            case rel => exact ⟨(wrap64 (x3_1 + 1)), (by first | rfl | (simp; done) | (simp [*]; done)), H', ⟨by have := HK1.out; omega⟩, ⟨by repeat (first | (with_reducible first | exact HB.out | apply below_alloc | apply pw_below_drewN | apply below_drew1) | exact HB.out)⟩⟩
          · replace c6 := Bool.eq_false_iff.mpr c6
            subst c6
            have H1 : (some false) = some r := by rw [if_neg (show ¬ (false = true) by decide)] at H; exact H
            clear H
            have H := H1
            clear H1
            obtain rfl := Option.some.inj H
            have p223 : 0 ≤ (x3_1 : Int) := of_decide_eq_true (by first | (with_reducible assumption) | assumption)
            have q223 : x3_1 < (l0.length : Int) := of_decide_eq_true (by first | (with_reducible assumption) | assumption)
            obtain ⟨ad223, A223_0, c223_0, e223, hx223_0, hl223_0, hi223_0⟩ := at_L3 HR0.out x3_1 p223 q223
            cases e223
            replace hx223_0 := (HB.out.cell (World.block_lt_of_cell? w _ hx223_0)).trans hx223_0
            have HR223_0 := Aside0.mk hi223_0
            have HC223_0 := Aside0.mk hl223_0
            clear hi223_0 hl223_0
            replace p223 := eq_true p223
            replace q223 := eq_true q223
            go_wp2_with (first | ((with_reducible refine gate_callee (f := 29) rfl ?_); refine goesL_ (some 14) rfl rfl Try.func29 (by kernel_rfl) rfl #[.slice A223_0 (rd_L3 l0 x3_1).length c223_0] rfl (by (try simp only [List.map_toArray, List.map_cons, List.map_nil]); first | done | rfl | (simp only [List.length_drop, List.length_take]; rfl)) ?_; (with_reducible refine (inclineref03_Of.calls k1 _ _ (rd_L3 l0 x3_1) t224 _ ?side1 ?side2 A4.out).mono ?_); (case side1 => repeat (first | exact (Kd.C_below HR223_0.out HB.out) | (with_reducible refine Kd.C_alloc ?_ _) | (with_reducible refine Kd.C_drewN ?_ _) | (with_reducible refine Kd.C_drew ?_))); (case side2 => exact HC223_0.out); rintro e w9 ⟨v225, rfl, ho0, hb⟩; refine ⟨_, rfl, ?_⟩; have n0_ := Aside0.mk (Kd.R_lower ho0 (below_size (by repeat (first | (with_reducible first | exact HB.out | apply below_alloc | apply pw_below_drewN | apply below_drew1) | exact HB.out)))); have n1_ := Aside0.mk (below_step (by repeat (first | (with_reducible first | exact HB.out | apply below_alloc | apply pw_below_drewN | apply below_drew1) | exact HB.out)) hb); clear HB; have HO226 := n0_; have HB := n1_; clear n0_ n1_; (try clear hb); (try clear hb2); (try clear hk); (try clear hi); (try clear ho0); obtain ⟨Ao10, co10, eo10⟩ := Kd.R_slice HO226.out; subst eo10) | ((with_reducible refine gate_callee (f := 30) rfl ?_); refine goesL_ (some 15) rfl rfl Try.func30 (by kernel_rfl) rfl #[.slice Ao10 t224.length co10] rfl (by (try simp only [List.map_toArray, List.map_cons, List.map_nil]); first | done | rfl | (simp only [List.length_drop, List.length_take]; rfl)) ?_; (with_reducible refine (inclineref03_Rising.calls k1 _ _ t224 false _ ?side1 ?side2 A5.out).mono ?_); (case side1 => repeat (first | exact (Kd.R_reads' HO226.out).2.2 | (with_reducible refine Kd.C_alloc ?_ _) | (with_reducible refine Kd.C_drewN ?_ _) | (with_reducible refine Kd.C_drew ?_))); (case side2 => exact (Kd.R_reads' HO226.out).2.1); rintro e w' ⟨rfl, ⟨nd, rfl⟩⟩; refine ⟨_, rfl, ?_⟩))
            go_ret
            exact ⟨by first | rfl | (simp [errW_none, errW_some] <;> rfl) | (simp [*, errW_none, errW_some] <;> rfl), by repeat (first | (with_reducible first | exact HB.out | apply below_alloc | apply pw_below_drewN | apply below_drew1) | exact HB.out)⟩
        · rw [if_neg c3] at H
          exact absurd H (by simp)
      · rw [if_neg c2] at H
        have c2b0 : decide (x3_1 < (l0.length : Int)) = false := decide_eq_false c2
        clear c2
        obtain rfl := Option.some.inj H
        go_wp2
        go_ret
        exact ⟨by first | rfl | (simp [errW_none, errW_some] <;> rfl) | (simp [*, errW_none, errW_some] <;> rfl), by repeat (first | (with_reducible first | exact HB.out | apply below_alloc | apply pw_below_drewN | apply below_drew1) | exact HB.out)⟩

end Go.Proofs.Ytojbfjfjhfnopaa.G
end

section
-- Written by a program of this session (wip/gprint.py: the kit's print, with contracts proved by hand)
namespace Go.Proofs.Ytojbfjfjhfnopaa.G
open Go.RowKit Go.Proofs.YtojbfjfjhfnopaaW.PrintWords Go.Proofs.YtojbfjfjhfnopaaW.PrintLast Go.Proofs.YtojbfjfjhfnopaaW.PrintMore
attribute [local go_sem] max2_int min2_int max_two min_two max_three min_three max_four min_four   -- for this text's walks alone
set_option linter.unusedVariables false
set_option linter.unusedSimpArgs false

/-! ### inclineref03_Rank: function 28 -/
def inclineref03_Rank.l0 : Nat → List Int → Int → Int → Bool → Int → Option (Int × Bool)
  | 0, _, _, _, _, _ => none
  | k + 1, x0, x1, x6, x7, x8 => if x8 < (x0.length : Int) then (if 0 ≤ x8 then (if (rd x0 x8) < x1 then (if x7 = true then (inclineref03_Rank.l0 k x0 x1 (wrap64 (x6 + 1)) true (wrap64 (x8 + 1))) else (inclineref03_Rank.l0 k x0 x1 (wrap64 (x6 + 1)) ((rd x0 x8) == x1) (wrap64 (x8 + 1)))) else (if x7 = true then (inclineref03_Rank.l0 k x0 x1 x6 true (wrap64 (x8 + 1))) else (inclineref03_Rank.l0 k x0 x1 x6 ((rd x0 x8) == x1) (wrap64 (x8 + 1))))) else (none)) else (some (x6, x7))
def inclineref03_Rank.f (k : Nat) (l0 : List Int) (a1 : Int) : Option (Int × Bool) := (inclineref03_Rising.f k l0).bind fun t228 => (if t228 = true then (inclineref03_Rank.l0 k l0 a1 0 false 0) else (some ((-1), false)))
theorem inclineref03_Rank.mono_l : ∀ k, (∀ y0 y1 y2 y3 y4, LeO (inclineref03_Rank.l0 k y0 y1 y2 y3 y4) (inclineref03_Rank.l0 (k + 1) y0 y1 y2 y3 y4))
  | 0 => fun _ _ _ _ _ r h => by simp [inclineref03_Rank.l0] at h
  | k + 1 => by
    have ih0 := inclineref03_Rank.mono_l k
    · intro y0 y1 y2 y3 y4
      unfold inclineref03_Rank.l0
      repeat' first
      | (with_reducible exact ih0 _ _ _ _ _)
      | (with_reducible exact inclineref03_Rising.mono _ _)
      | (with_reducible exact LeO.refl _)
      | (with_reducible exact LeO.none _)
      | (with_reducible refine LeO.ite ?_ ?_)
      | (with_reducible refine LeO.bind ?_ (fun _ => ?_))
      | exact ih0 _ _ _ _ _
      | exact inclineref03_Rising.mono _ _
      | exact LeO.none _
      | refine LeO.ite ?_ ?_
      | refine LeO.bind ?_ (fun _ => ?_)
theorem inclineref03_Rank.mono : ∀ a0 a1 k, LeO (inclineref03_Rank.f k a0 a1) (inclineref03_Rank.f (k + 1) a0 a1) := by
  intro a0 a1 k
  have ih0 := inclineref03_Rank.mono_l k
  unfold inclineref03_Rank.f
  repeat' first
      | (with_reducible exact ih0 _ _ _ _ _)
      | (with_reducible exact inclineref03_Rising.mono _ _)
      | (with_reducible exact LeO.refl _)
      | (with_reducible exact LeO.none _)
      | (with_reducible refine LeO.ite ?_ ?_)
      | (with_reducible refine LeO.bind ?_ (fun _ => ?_))
      | exact ih0 _ _ _ _ _
      | exact inclineref03_Rising.mono _ _
      | exact LeO.none _
      | refine LeO.ite ?_ ?_
      | refine LeO.bind ?_ (fun _ => ?_)
set_option maxHeartbeats 8000000 in
set_option maxRecDepth 100000 in
theorem inclineref03_Rank.calls (k : Nat) (A0 : Option Addr) (c0 : Nat) (l0 : List Int) (a1 : Int) (r1 : Int) (r2 : Bool) (w : World) (hr0 : Kd.C (Kd.int .u64) w A0 l0.length l0) (hc0 : l0.length ≤ c0) (h : inclineref03_Rank.f k l0 a1 = some (r1, r2)) :
    Calls Try.prog 28 #[.slice A0 l0.length c0, .int .u64 a1] w fun e w' => e = .returned (.tuple #[.int .i64 r1, .bool r2]) ∧ Drawn0 w w' := by
  have HR0 := Aside0.mk hr0
  have HC0 := Aside0.mk hc0
  clear hr0 hc0
  have H : ((inclineref03_Rising.f k l0).bind fun t228 => (if t228 = true then (inclineref03_Rank.l0 k l0 a1 0 false 0) else (some ((-1), false)))) = some (r1, r2) := h
  clear h
  replace H := Option.bind_eq_some_iff.mp H
  obtain ⟨t228, A30, H⟩ := H
  replace H : (if t228 = true then (inclineref03_Rank.l0 k l0 a1 0 false 0) else (some ((-1), false))) = some (r1, r2) := H
  have A3 := Aside0.mk A30
  clear A30
  by_cases c4 : t228 = true
  · subst c4
    have H1 : (inclineref03_Rank.l0 k l0 a1 0 false 0) = some (r1, r2) := by rw [if_pos rfl] at H; exact H
    clear H
    have H := H1
    clear H1
    have H' := Aside0.mk H
    clear H
    go_enter Try.func28, Try.ntmps28
    go_wp2_with (first | ((with_reducible refine gate_callee (f := 30) rfl ?_); refine goesL_ (some 10) rfl rfl Try.func30 (by kernel_rfl) rfl #[.slice A0 l0.length c0] rfl (by (try simp only [List.map_toArray, List.map_cons, List.map_nil]); first | done | rfl | (simp only [List.length_drop, List.length_take]; rfl)) ?_; (with_reducible refine (inclineref03_Rising.calls k _ _ l0 true _ ?side1 ?side2 A3.out).mono ?_); (case side1 => repeat (first | exact HR0.out | (with_reducible refine Kd.C_alloc ?_ _) | (with_reducible refine Kd.C_drewN ?_ _) | (with_reducible refine Kd.C_drew ?_))); (case side2 => exact HC0.out); rintro e w' ⟨rfl, ⟨nd, rfl⟩⟩; refine ⟨_, rfl, ?_⟩))
    go_loopg [6, 7, 8] k (fun kq v6 v7 v8 w' => ∃ (x6_1 : Int) (x7_1 : Bool) (x8_1 : Int), v6 = .int .i64 x6_1 ∧ v7 = .bool x7_1 ∧ v8 = .int .i64 x8_1 ∧ Aside0 (inclineref03_Rank.l0 kq l0 a1 x6_1 x7_1 x8_1 = some (r1, r2)) ∧ Aside0 (kq ≤ k) ∧ Drawn0 w w')
    case atStart => exact ⟨(0), (false), (0), (by first | rfl | (simp; done) | (simp [*]; done)), (by first | rfl | (simp; done) | (simp [*]; done)), (by first | rfl | (simp; done) | (simp [*]; done)), H', ⟨Nat.le_refl _⟩, by repeat (first | exact Drawn0.refl _ | apply Drawn0.step)⟩
    case round =>
      clear H'
      try clear c2
      try clear p2
      try clear c3
      try clear c4
      obtain ⟨x6_1, x7_1, x8_1, rfl, rfl, rfl, HA, HK1, ⟨m1, rfl⟩⟩ := hrel
      cases gk with
      | zero => exact absurd HA.out (by simp [inclineref03_Rank.l0])
      | succ k1 =>
        have H := HA.out
        clear HA
        simp only [inclineref03_Rank.l0] at H
        by_cases c5 : x8_1 < (l0.length : Int)
        · rw [if_pos c5] at H
          have c5b0 : decide (x8_1 < (l0.length : Int)) = true := decide_eq_true c5
          clear c5
          by_cases c6 : 0 ≤ x8_1
          · rw [if_pos c6] at H
            have c6b0 : decide (0 ≤ x8_1) = true := decide_eq_true c6
            clear c6
            by_cases c7 : (rd l0 x8_1) < a1
            · rw [if_pos c7] at H
              have c7b0 : decide ((rd l0 x8_1) < a1) = true := decide_eq_true c7
              clear c7
              by_cases c8 : x7_1 = true
              · subst c8
                have H1 : (inclineref03_Rank.l0 k1 l0 a1 (wrap64 (x6_1 + 1)) true (wrap64 (x8_1 + 1))) = some (r1, r2) := by rw [if_pos rfl] at H; exact H
                clear H
                have H := H1
                clear H1
                have H' := Aside0.mk H
                clear H
                have p229 : 0 ≤ (x8_1 : Int) := of_decide_eq_true (by first | (with_reducible assumption) | assumption)
                have q229 : x8_1 < (l0.length : Int) := of_decide_eq_true (by first | (with_reducible assumption) | assumption)
                obtain ⟨ad229, e229, hx229_0⟩ := Kd.at_int HR0.out x8_1 p229 q229
                cases e229
                replace p229 := eq_true p229
                replace q229 := eq_true q229
                go_wp2
                go_roundg k1
                case measure => have := HK1.out; omega
                case rel => exact ⟨(wrap64 (x6_1 + 1)), (true), (wrap64 (x8_1 + 1)), (by first | rfl | (simp; done) | (simp [*]; done)), (by first | rfl | (simp; done) | (simp [*]; done)), (by first | rfl | (simp; done) | (simp [*]; done)), H', ⟨by have := HK1.out; omega⟩, by repeat (first | exact Drawn0.refl _ | apply Drawn0.step)⟩
              · replace c8 := Bool.eq_false_iff.mpr c8
                subst c8
                have H1 : (inclineref03_Rank.l0 k1 l0 a1 (wrap64 (x6_1 + 1)) ((rd l0 x8_1) == a1) (wrap64 (x8_1 + 1))) = some (r1, r2) := by rw [if_neg (show ¬ (false = true) by decide)] at H; exact H
                clear H
                have H := H1
                clear H1
                have H' := Aside0.mk H
                clear H
                have p229 : 0 ≤ (x8_1 : Int) := of_decide_eq_true (by first | (with_reducible assumption) | assumption)
                have q229 : x8_1 < (l0.length : Int) := of_decide_eq_true (by first | (with_reducible assumption) | assumption)
                obtain ⟨ad229, e229, hx229_0⟩ := Kd.at_int HR0.out x8_1 p229 q229
                cases e229
                replace p229 := eq_true p229
                replace q229 := eq_true q229
                have p230 : 0 ≤ (x8_1 : Int) := of_decide_eq_true (by first | (with_reducible assumption) | assumption)
                have q230 : x8_1 < (l0.length : Int) := of_decide_eq_true (by first | (with_reducible assumption) | assumption)
                obtain ⟨ad230, e230, hx230_0⟩ := Kd.at_int HR0.out x8_1 p230 q230
                obtain rfl : ad229 = ad230 := (by injection e230)
                replace p230 := eq_true p230
                replace q230 := eq_true q230
                go_wp2
                go_roundg k1
                case measure => have := HK1.out; omega
                case rel => exact ⟨(wrap64 (x6_1 + 1)), (((rd l0 x8_1) == a1)), (wrap64 (x8_1 + 1)), (by first | rfl | (simp; done) | (simp [*]; done)), (by first | rfl | (simp; done) | (simp [*]; done)), (by first | rfl | (simp; done) | (simp [*]; done)), H', ⟨by have := HK1.out; omega⟩, by repeat (first | exact Drawn0.refl _ | apply Drawn0.step)⟩
            · rw [if_neg c7] at H
              have c7b0 : decide ((rd l0 x8_1) < a1) = false := decide_eq_false c7
              clear c7
              by_cases c9 : x7_1 = true
              · subst c9
                have H1 : (inclineref03_Rank.l0 k1 l0 a1 x6_1 true (wrap64 (x8_1 + 1))) = some (r1, r2) := by rw [if_pos rfl] at H; exact H
                clear H
                have H := H1
                clear H1
                have H' := Aside0.mk H
                clear H
                have p229 : 0 ≤ (x8_1 : Int) := of_decide_eq_true (by first | (with_reducible assumption) | assumption)
                have q229 : x8_1 < (l0.length : Int) := of_decide_eq_true (by first | (with_reducible assumption) | assumption)
                obtain ⟨ad229, e229, hx229_0⟩ := Kd.at_int HR0.out x8_1 p229 q229
                cases e229
                replace p229 := eq_true p229
                replace q229 := eq_true q229
                go_wp2
                go_roundg k1
                case measure => have := HK1.out; omega
                case rel => exact ⟨(x6_1), (true), (wrap64 (x8_1 + 1)), (by first | rfl | (simp; done) | (simp [*]; done)), (by first | rfl | (simp; done) | (simp [*]; done)), (by first | rfl | (simp; done) | (simp [*]; done)), H', ⟨by have := HK1.out; omega⟩, by repeat (first | exact Drawn0.refl _ | apply Drawn0.step)⟩
              · replace c9 := Bool.eq_false_iff.mpr c9
                subst c9
                have H1 : (inclineref03_Rank.l0 k1 l0 a1 x6_1 ((rd l0 x8_1) == a1) (wrap64 (x8_1 + 1))) = some (r1, r2) := by rw [if_neg (show ¬ (false = true) by decide)] at H; exact H
                clear H
                have H := H1
                clear H1
                have H' := Aside0.mk H
                clear H
                have p229 : 0 ≤ (x8_1 : Int) := of_decide_eq_true (by first | (with_reducible assumption) | assumption)
                have q229 : x8_1 < (l0.length : Int) := of_decide_eq_true (by first | (with_reducible assumption) | assumption)
                obtain ⟨ad229, e229, hx229_0⟩ := Kd.at_int HR0.out x8_1 p229 q229
                cases e229
                replace p229 := eq_true p229
                replace q229 := eq_true q229
                have p231 : 0 ≤ (x8_1 : Int) := of_decide_eq_true (by first | (with_reducible assumption) | assumption)
                have q231 : x8_1 < (l0.length : Int) := of_decide_eq_true (by first | (with_reducible assumption) | assumption)
                obtain ⟨ad231, e231, hx231_0⟩ := Kd.at_int HR0.out x8_1 p231 q231
                obtain rfl : ad229 = ad231 := (by injection e231)
                replace p231 := eq_true p231
                replace q231 := eq_true q231
                go_wp2
                go_roundg k1
                case measure => have := HK1.out; omega
                case rel => exact ⟨(x6_1), (((rd l0 x8_1) == a1)), (wrap64 (x8_1 + 1)), (by first | rfl | (simp; done) | (simp [*]; done)), (by first | rfl | (simp; done) | (simp [*]; done)), (by first | rfl | (simp; done) | (simp [*]; done)), H', ⟨by have := HK1.out; omega⟩, by repeat (first | exact Drawn0.refl _ | apply Drawn0.step)⟩
          · rw [if_neg c6] at H
            exact absurd H (by simp)
        · rw [if_neg c5] at H
          have c5b0 : decide (x8_1 < (l0.length : Int)) = false := decide_eq_false c5
          clear c5
          simp only [Option.some.injEq, Prod.mk.injEq] at H
          obtain ⟨rfl, rfl⟩ := H
          go_wp2
          go_ret2
          exact ⟨by first | rfl | (simp; done) | (simp [*]; done), by repeat (first | exact Drawn0.refl _ | apply Drawn0.step)⟩
  · replace c4 := Bool.eq_false_iff.mpr c4
    subst c4
    have H1 : (some ((-1), false)) = some (r1, r2) := by rw [if_neg (show ¬ (false = true) by decide)] at H; exact H
    clear H
    have H := H1
    clear H1
    simp only [Option.some.injEq, Prod.mk.injEq] at H
    obtain ⟨rfl, rfl⟩ := H
    go_enter Try.func28, Try.ntmps28
    go_wp2_with (first | ((with_reducible refine gate_callee (f := 30) rfl ?_); refine goesL_ (some 10) rfl rfl Try.func30 (by kernel_rfl) rfl #[.slice A0 l0.length c0] rfl (by (try simp only [List.map_toArray, List.map_cons, List.map_nil]); first | done | rfl | (simp only [List.length_drop, List.length_take]; rfl)) ?_; (with_reducible refine (inclineref03_Rising.calls k _ _ l0 false _ ?side1 ?side2 A3.out).mono ?_); (case side1 => repeat (first | exact HR0.out | (with_reducible refine Kd.C_alloc ?_ _) | (with_reducible refine Kd.C_drewN ?_ _) | (with_reducible refine Kd.C_drew ?_))); (case side2 => exact HC0.out); rintro e w' ⟨rfl, ⟨nd, rfl⟩⟩; refine ⟨_, rfl, ?_⟩))
    go_ret2
    exact ⟨by first | rfl | (simp; done) | (simp [*]; done), by repeat (first | exact Drawn0.refl _ | apply Drawn0.step)⟩

end Go.Proofs.Ytojbfjfjhfnopaa.G
end

section
/- Plain laws of layer 3's reference: Of, Rising, Rank, Live (as in the chapter keys). -/
namespace Go.Proofs.Ytojbfjfjhfnopaa.Pure
open Go.RowKit Go.Proofs.Ytojbfjfjhfnopaa.G Go.Proofs.YtojbfjfjhfnopaaW.PrintWords Go.Proofs.YtojbfjfjhfnopaaW.PrintLast
def risesTo (l : List Int) (k : Nat) : Bool := (List.range k).all fun i => i == 0 || decide (l.getD (i - 1) 0 < l.getD i 0)
theorem risesTo_zero (l : List Int) : risesTo l 0 = true := rfl
theorem risesTo_succ (l : List Int) (k : Nat) : risesTo l (k + 1) = (risesTo l k && (k == 0 || decide (l.getD (k - 1) 0 < l.getD k 0))) := by
  unfold risesTo
  rw [List.range_succ, List.all_append]
  simp
theorem risesTo_le (l : List Int) {j k : Nat} (h : j ≤ k) (hk : risesTo l k = true) : risesTo l j = true := by
  unfold risesTo at *
  rw [List.all_eq_true] at *
  intro i hi
  exact hk i (by simp only [List.mem_range] at *; omega)
theorem risesTo_bad (l : List Int) {k n : Nat} (h : k < n) (h0 : 0 < k) (hb : ¬ l.getD (k - 1) 0 < l.getD k 0) : risesTo l n = false := by
  rw [Bool.eq_false_iff]
  intro ht
  have h1 := risesTo_le l (show k + 1 ≤ n from h) ht
  rw [risesTo_succ, Bool.and_eq_true, Bool.or_eq_true] at h1
  rcases h1.2 with h2 | h2
  · have : k = 0 := by simpa using h2
    omega
  · exact hb (of_decide_eq_true h2)
def keysOf (l : List S32) : List Int := l.map (·.f0)
theorem w64 {i : Int} (h0 : -9223372036854775808 ≤ i) (h1 : i ≤ 9223372036854775807) : wrap64 i = i := by unfold wrap64; omega

/-- How many keys are below q. -/
def rankOf (l : List Int) (q : Int) : Nat := l.countP fun x => decide (x < q)
theorem rankOf_le (l : List Int) (q : Int) : rankOf l q ≤ l.length := List.countP_le_length
def Rises (l : List Int) : Prop := ∀ i j, i < j → j < l.length → l.getD i 0 < l.getD j 0
theorem rises_iff (l : List Int) : risesTo l l.length = true ↔ Rises l := by
  constructor
  · intro h i j hij hj
    have step : ∀ m, 0 < m → m < l.length → l.getD (m - 1) 0 < l.getD m 0 := fun m h0 hm => by
      have h1 := risesTo_le l (show m + 1 ≤ l.length from hm) h
      rw [risesTo_succ, Bool.and_eq_true, Bool.or_eq_true] at h1
      rcases h1.2 with h2 | h2
      · have : m = 0 := by simpa using h2
        omega
      · exact of_decide_eq_true h2
    induction j with
    | zero => omega
    | succ j ih =>
      have h2 := step (j + 1) (by omega) hj
      simp only [Nat.add_sub_cancel] at h2
      rcases Nat.lt_or_ge i j with h3 | h3
      · have := ih h3 (by omega)
        omega
      · have : i = j := by omega
        subst this
        exact h2
  · intro h
    unfold risesTo
    rw [List.all_eq_true]
    intro i hi
    rw [List.mem_range] at hi
    rw [Bool.or_eq_true]
    rcases Nat.eq_zero_or_pos i with h0 | h0
    · left; simp [h0]
    · right; exact decide_eq_true (h _ _ (by omega) hi)
theorem rises_false (l : List Int) (h : ¬ Rises l) : risesTo l l.length = false := by
  rw [Bool.eq_false_iff]
  exact fun h' => h ((rises_iff l).1 h')
theorem getD_mem (l : List Int) (i : Nat) (h : i < l.length) : l.getD i 0 ∈ l := by
  rw [List.getD_eq_getElem?_getD, List.getElem?_eq_getElem h]
  exact List.getElem_mem h
theorem mem_getD (l : List Int) (x : Int) (h : x ∈ l) : ∃ i, i < l.length ∧ l.getD i 0 = x := by
  obtain ⟨i, hi, e⟩ := List.getElem_of_mem h
  exact ⟨i, hi, by rw [List.getD_eq_getElem?_getD, List.getElem?_eq_getElem hi]; exact e⟩
theorem rank_split (l : List Int) (q : Int) (i : Nat) (hi : i ≤ l.length) (h0 : ∀ j, j < i → l.getD j 0 < q) (h1 : ∀ j, i ≤ j → j < l.length → q ≤ l.getD j 0) : rankOf l q = i := by
  unfold rankOf
  rw [← List.take_append_drop i l, List.countP_append]
  have a : (l.take i).countP (fun x => decide (x < q)) = (l.take i).length := by
    rw [List.countP_eq_length]
    intro x hx
    obtain ⟨j, hj, rfl⟩ := mem_getD _ _ hx
    rw [List.length_take] at hj
    have := h0 j (by omega)
    rw [List.getD_eq_getElem?_getD, List.getElem?_take, if_pos (by omega), ← List.getD_eq_getElem?_getD]
    exact decide_eq_true this
  have b : (l.drop i).countP (fun x => decide (x < q)) = 0 := by
    rw [List.countP_eq_zero]
    intro x hx
    obtain ⟨j, hj, rfl⟩ := mem_getD _ _ hx
    rw [List.length_drop] at hj
    have := h1 (i + j) (by omega) (by omega)
    rw [List.getD_eq_getElem?_getD, List.getElem?_drop, ← List.getD_eq_getElem?_getD]
    simp only [decide_eq_true_eq]
    omega
  rw [a, b, List.length_take]
  omega
/-- Of keys that rise: those below the rank's place are below, the others are not. -/
theorem rank_lt (l : List Int) (q : Int) (hr : Rises l) : (∀ j, j < rankOf l q → l.getD j 0 < q) ∧ ∀ j, rankOf l q ≤ j → j < l.length → q ≤ l.getD j 0 := by
  have key : ∃ i, i ≤ l.length ∧ (∀ j, j < i → l.getD j 0 < q) ∧ ∀ j, i ≤ j → j < l.length → q ≤ l.getD j 0 := by
    have : ∀ n, n ≤ l.length → ∃ i, i ≤ n ∧ (∀ j, j < i → l.getD j 0 < q) ∧ ∀ j, i ≤ j → j < n → q ≤ l.getD j 0 := by
      intro n
      induction n with
      | zero => exact fun _ => ⟨0, Nat.le_refl _, fun j h => by omega, fun j h h' => by omega⟩
      | succ n ih =>
        intro hn
        obtain ⟨i, hi, h0, h1⟩ := ih (by omega)
        rcases Nat.lt_or_ge i n with hlt | hge
        · refine ⟨i, by omega, h0, fun j hj hj' => ?_⟩
          rcases Nat.lt_or_ge j n with h2 | h2
          · exact h1 j hj h2
          · have e : j = n := by omega
            subst e
            have := h1 i (Nat.le_refl _) hlt
            have := hr i j hlt (by omega)
            omega
        · have e : i = n := by omega
          subst e
          rcases Int.lt_or_le (l.getD i 0) q with h2 | h2
          · refine ⟨i + 1, Nat.le_refl _, fun j hj => ?_, fun j hj hj' => by omega⟩
            rcases Nat.lt_or_ge j i with h3 | h3
            · exact h0 j h3
            · have : j = i := by omega
              subst this
              exact h2
          · refine ⟨i, by omega, h0, fun j hj hj' => ?_⟩
            have : j = i := by omega
            subst this
            exact h2
    exact this l.length (Nat.le_refl _)
  obtain ⟨i, hi, h0, h1⟩ := key
  rw [rank_split l q i hi h0 h1]
  exact ⟨h0, h1⟩
theorem there_iff (l : List Int) (q : Int) (hr : Rises l) : l.contains q = true ↔ rankOf l q < l.length ∧ l.getD (rankOf l q) 0 = q := by
  obtain ⟨h0, h1⟩ := rank_lt l q hr
  rw [List.contains_iff_mem]
  constructor
  · intro h
    obtain ⟨i, hi, e⟩ := mem_getD _ _ h
    have a : rankOf l q ≤ i := by
      rcases Nat.lt_or_ge i (rankOf l q) with h2 | h2
      · have := h0 i h2; omega
      · exact h2
    rcases Nat.lt_or_ge (rankOf l q) i with h2 | h2
    · have := h1 (rankOf l q) (Nat.le_refl _) (by omega)
      have := hr _ _ h2 hi
      omega
    · have : rankOf l q = i := by omega
      rw [this]
      exact ⟨hi, e⟩
  · rintro ⟨h, e⟩
    rw [← e]
    exact getD_mem _ _ h

/-! ### the printed functions -/
theorem refRising_is (l : List Int) (hl : l.length ≤ 17592186044416) : ∀ (d : Nat) (i : Nat) (k : Nat), 1 ≤ i → l.length ≤ i + d → d < k → (risesTo l (min i l.length) = true) →
    inclineref03_Rising.l0 k l i = some (risesTo l l.length) := by
  intro d
  induction d with
  | zero =>
    intro i k h1 h2 hk hr
    obtain ⟨k, rfl⟩ : ∃ m, k = m + 1 := ⟨k - 1, by omega⟩
    simp only [inclineref03_Rising.l0]
    rw [if_neg (by omega)]
    rw [show min i l.length = l.length from by omega] at hr
    rw [hr]
  | succ d ih =>
    intro i k h1 h2 hk hr
    obtain ⟨k, rfl⟩ : ∃ m, k = m + 1 := ⟨k - 1, by omega⟩
    simp only [inclineref03_Rising.l0]
    by_cases hlt : i < l.length
    · rw [if_pos (by omega), if_pos (by omega), w64 (by omega) (by omega), if_pos (by omega), if_pos (by omega)]
      rw [show min i l.length = i from by omega] at hr
      have e1 : rd l (i : Int) = l.getD i 0 := rfl
      have e2 : rd l ((i : Int) - 1) = l.getD (i - 1) 0 := by unfold rd; congr 1; omega
      rw [e1, e2]
      by_cases hle : l.getD i 0 ≤ l.getD (i - 1) 0
      · rw [if_pos hle, risesTo_bad l hlt (by omega) (by omega)]
      · rw [if_neg hle, w64 (by omega) (by omega)]
        have := ih (i + 1) k (by omega) (by omega) (by omega) (by
          rw [show min (i + 1) l.length = i + 1 from by omega, risesTo_succ, hr]
          simp only [Bool.true_and, Bool.or_eq_true]
          right
          exact decide_eq_true (by omega))
        exact this
    · rw [if_neg (by omega)]
      rw [show min i l.length = l.length from by omega] at hr
      rw [hr]
theorem refRising_f (l : List Int) (hl : l.length ≤ 17592186044416) (k : Nat) (hk : l.length < k) : inclineref03_Rising.f k l = some (risesTo l l.length) := by
  refine refRising_is l hl l.length 1 k (by omega) (by omega) hk ?_
  rcases Nat.eq_zero_or_pos l.length with h | h
  · rw [h]; rfl
  · rw [show min 1 l.length = 1 from by omega]; rfl

theorem rankOf_take_succ (l : List Int) (q : Int) (i : Nat) (h : i < l.length) : rankOf (l.take (i + 1)) q = rankOf (l.take i) q + if l.getD i 0 < q then 1 else 0 := by
  unfold rankOf
  rw [List.take_succ_eq_append_getElem h, List.countP_append]
  have : l.getD i 0 = l[i] := by rw [List.getD_eq_getElem?_getD, List.getElem?_eq_getElem h]; rfl
  rw [this]
  simp [List.countP_cons]
theorem contains_take_succ (l : List Int) (q : Int) (i : Nat) (h : i < l.length) : (l.take (i + 1)).contains q = ((l.take i).contains q || (l.getD i 0 == q)) := by
  rw [List.take_succ_eq_append_getElem h]
  have : l.getD i 0 = l[i] := by rw [List.getD_eq_getElem?_getD, List.getElem?_eq_getElem h]; rfl
  rw [this, Bool.eq_iff_iff, Bool.or_eq_true, List.contains_iff_mem, List.contains_iff_mem, List.mem_append, List.mem_singleton, beq_iff_eq]
  constructor
  · rintro (h | h)
    · exact .inl h
    · exact .inr h.symm
  · rintro (h | h)
    · exact .inl h
    · exact .inr h.symm

theorem refRank_is (l : List Int) (q : Int) (hl : l.length ≤ 17592186044416) : ∀ (d : Nat) (i : Nat) (k : Nat), i ≤ l.length → l.length ≤ i + d → d < k →
    inclineref03_Rank.l0 k l q (rankOf (l.take i) q) ((l.take i).contains q) i = some ((rankOf l q : Int), l.contains q) := by
  intro d
  induction d with
  | zero =>
    intro i k h1 h2 hk
    obtain ⟨k, rfl⟩ : ∃ m, k = m + 1 := ⟨k - 1, by omega⟩
    simp only [inclineref03_Rank.l0]
    rw [if_neg (by omega), List.take_of_length_le (by omega)]
  | succ d ih =>
    intro i k h1 h2 hk
    obtain ⟨k, rfl⟩ : ∃ m, k = m + 1 := ⟨k - 1, by omega⟩
    by_cases hlt : i < l.length
    · have := ih (i + 1) k (by omega) (by omega) (by omega)
      rw [rankOf_take_succ l q i hlt, contains_take_succ l q i hlt] at this
      have hle := rankOf_le (l.take i) q
      rw [List.length_take] at hle
      simp only [inclineref03_Rank.l0]
      have e1 : rd l (i : Int) = l.getD i 0 := rfl
      rw [if_pos (by omega), if_pos (by omega), w64 (i := (i : Int) + 1) (by omega) (by omega), w64 (i := (rankOf (l.take i) q : Int) + 1) (by omega) (by omega), e1]
      generalize (l.take i).contains q = b at *
      by_cases hq : l.getD i 0 < q
      · rw [if_pos hq] at this ⊢
        cases b
        · rw [if_neg (by simp)]
          simpa using this
        · rw [if_pos rfl]
          simpa using this
      · rw [if_neg hq] at this ⊢
        cases b
        · rw [if_neg (by simp)]
          simpa using this
        · rw [if_pos rfl]
          simpa using this
    · simp only [inclineref03_Rank.l0]
      rw [if_neg (by omega), List.take_of_length_le (by omega)]
theorem refRank_f (l : List Int) (q : Int) (hl : l.length ≤ 17592186044416) (k : Nat) (hk : l.length < k) :
    inclineref03_Rank.f k l q = some (if risesTo l l.length = true then ((rankOf l q : Int), l.contains q) else (-1, false)) := by
  unfold inclineref03_Rank.f
  rw [refRising_f l hl k hk]
  simp only [Option.bind_some]
  by_cases h : risesTo l l.length = true
  · rw [if_pos h, if_pos h]
    have := refRank_is l q hl l.length 0 k (by omega) (by omega) hk
    simpa [rankOf] using this
  · rw [if_neg h, if_neg h]
theorem up {α : Type} {f : Nat → Option α} (h : ∀ k, LeO (f k) (f (k + 1))) {k m : Nat} (hk : k ≤ m) {r : α} (hr : f k = some r) : f m = some r := by
  induction m with
  | zero => rw [show k = 0 from by omega] at hr; exact hr
  | succ m ih =>
    rcases Nat.lt_or_ge m k with h1 | h1
    · rw [show k = m + 1 from by omega] at hr; exact hr
    · exact h m r (ih h1)
set_option maxRecDepth 100000 in
theorem rd_get (l : List S32) (i : Nat) (h : i < l.length) : rd_T32 l (i : Int) = l[i] := by
  unfold rd_T32
  rw [Int.toNat_natCast, List.getD_eq_getElem?_getD, List.getElem?_eq_getElem h]; rfl
theorem refOf_is (l : List S32) (hl : l.length < 17592186044416) : ∀ (d : Nat) (i : Nat) (k : Nat), l.length ≤ i + d → i ≤ l.length → d < k →
    inclineref03_Of.l0 k l ((keysOf l).take i) i = some (keysOf l) := by
  intro d
  induction d with
  | zero =>
    intro i k h1 h2 hk
    obtain ⟨k, rfl⟩ : ∃ m, k = m + 1 := ⟨k - 1, by omega⟩
    simp only [inclineref03_Of.l0]
    rw [if_neg (by omega), List.take_of_length_le (by simp [keysOf]; omega)]
  | succ d ih =>
    intro i k h1 h2 hk
    by_cases hlt : i < l.length
    · obtain ⟨k, rfl⟩ : ∃ m, k = m + 1 := ⟨k - 1, by omega⟩
      have := ih (i + 1) k (by omega) (by omega) (by omega)
      have hk' : i < (keysOf l).length := by simpa [keysOf] using hlt
      rw [List.take_succ_eq_append_getElem hk'] at this
      have e : (keysOf l)[i] = (rd_T32 l (i : Int)).f0 := by rw [rd_get l i hlt]; simp [keysOf]
      rw [e] at this
      have hle : ((keysOf l).take i).length < 17592186044416 := by rw [List.length_take]; omega
      simp only [inclineref03_Of.l0]
      rw [if_pos (by omega), if_pos (by omega), if_pos hle, w64 (by omega) (by omega)]
      exact this
    · exact ih i k (by omega) h2 (by omega)
theorem refOf_f (l : List S32) (hl : l.length < 17592186044416) (k : Nat) (hk : l.length < k) : inclineref03_Of.f k l = some (keysOf l) := by
  have := refOf_is l hl l.length 0 k (by omega) (by omega) hk
  simpa [inclineref03_Of.f] using this

theorem rank_self (l : List Int) (hr : Rises l) (i : Nat) (hi : i < l.length) : rankOf l (l.getD i 0) = i :=
  rank_split l _ i (by omega) (fun j hj => hr j i hj hi) (fun j hj hj' => by
    rcases Nat.lt_or_ge i j with h | h
    · exact Int.le_of_lt (hr i j h hj')
    · rw [show j = i from by omega]; exact Int.le_refl _)
end Go.Proofs.Ytojbfjfjhfnopaa.Pure
end
