/- Some of the claim's own texts, in one file: SeqsS, GatherS, HeapGS, HeapTS, MergeSS, MergeHS, MergeRS, MergeES, PartsS, WordsW, Gx7. Conditions: each theorem's own. -/
import Derived.Test.YtojbfjfjhfnopaaZBase1
import Derived.Laws.Rows
import Derived.Deep.RegionHeld3
import Derived.Deep.QuietTactic
import Derived.BigQuiet
import Derived.BigRegion
import Derived.Deep.LoopGhost
import Derived.WalkSpells
import Derived.StillTactics
import Derived.KernelRfl
import Derived.Lib.Hide
import Derived.Deep.DeepCutAuto
import Derived.Deep.CutBlock
import Derived.Maps.AppendAt
import Derived.Laws.OwnMore
import Derived.Deep.OwnRows
import Derived.Laws.Slices
import Derived.RowKit3
import Derived.WideLaws
import Derived.OrdersHeld
import Derived.RowKit
import Derived.Deep.RegionLaw
import Derived.Maps.OwnIn
import Derived.Deep.DeepMust
import Derived.Laws.EntriesVeiled
section
/- listed's and slices.Values' iterators at entries. -/
namespace Go.Proofs.Ytojbfjfjhfnopaa.SeqS
open Go.RowKit Go.Shelf RangeD
attribute [local go_sem] Oper.semAt_some
set_option linter.unusedVariables false
section
variable {α : Type} (ek : α → Int) (ev : α → ByteArray)
abbrev agg (ek : α → Int) (ev : α → ByteArray) (x : α) : Value := .string (ev x)
/-- The cells of a row of things from (g, o) on. -/
def CellsAt (ek : α → Int) (ev : α → ByteArray) (W : World) (g o : Nat) (xs : List α) : Prop := ∀ j x, xs[j]? = some x → W.cell? ⟨g, o + j, none⟩ = some (.string (ev x))
theorem CellsAt.keep {W W' : World} {g o : Nat} {xs : List α} (h : CellsAt ek ev W g o xs) (hk : W'.heap[g]? = W.heap[g]?) : CellsAt ek ev W' g o xs := by
  have hc : ∀ i, W'.cell? ⟨g, i, none⟩ = W.cell? ⟨g, i, none⟩ := fun i => by unfold World.cell?; simp only [hk]
  intro j x hj
  rw [hc]
  exact h j x hj
/-- What lies for an iterator: a cell with a slice, the slice's things. -/
structure Laid (W : World) (b t : Nat) (A : Option Addr) (g o cap : Nat) (xs : List α) : Prop where
  box : W.heap[b]? = some (.cells #[.slice A xs.length cap] t (0, 0))
  at_ : 0 < xs.length → A = some ⟨g, o, none⟩
  cells : CellsAt ek ev W g o xs
  lt : g < W.heap.size
  len : xs.length ≤ 140737488355328
theorem Laid.keep {W W' : World} {b t : Nat} {A : Option Addr} {g o cap : Nat} {xs : List α} (h : Laid ek ev W b t A g o cap xs) (hs : W.heap.size ≤ W'.heap.size) (hk : Same (fun k => k = b ∨ k = g) W W') : Laid ek ev W' b t A g o cap xs :=
  ⟨(hk b (.inl rfl) (Array.getElem?_eq_some_iff.1 h.box).1).trans h.box, h.at_, h.cells.keep _ _ (hk g (.inr rfl) h.lt), Nat.lt_of_lt_of_le h.lt hs, h.len⟩
set_option maxRecDepth 100000 in
set_option maxHeartbeats 4000000 in
theorem listed_in (l b : Nat) (A : Option Addr) (g o cap : Nat) (xs : List α) (J Jx : List α → World → Prop)
    (hY : ∀ pre x W, J pre W → (∃ more, pre ++ [x] ++ more = xs) → YieldAt Fence.wide 0 Try.prog l #[agg ek ev x] W fun e W' =>
      (e = .returned (.bool true) ∧ J (pre ++ [x]) W' ∧ W.heap.size ≤ W'.heap.size ∧ Same (fun k => k = b ∨ k = g) W W') ∨ (e = .returned (.bool false) ∧ Jx (pre ++ [x]) W'))
    (W : World) (hst : Laid ek ev W b 48 A g o cap xs) (h0 : J [] W) :
    CallsIn Fence.wide 0 Try.prog 47 #[.func (.yield l) #[] #[], .pointer (some ⟨b, 0, none⟩)] W fun e W' => (∃ v, e = .returned v) ∧
      ((J xs W') ∨ (∃ pre, (∃ more, pre ++ more = xs) ∧ Jx pre W')) := by
  refine callsIn_of_wp Try.func47 rfl trivial ?_ rfl
  simp only [Try.ntmps47, List.size_toArray, List.length_cons, List.length_nil, Nat.reduceAdd, Nat.reduceSub, Array.replicate_succ, Array.replicate_zero, List.push_toArray, List.append_toArray, List.nil_append, List.cons_append]
  gi_wp2
  gi_loopw [3] (fun v wr => ∃ (i : Nat), v = .int .i64 i ∧ i ≤ xs.length ∧ Laid ek ev wr b 48 A g o cap xs ∧ J (xs.take i) wr)
    (fun v _ => match v with | .int _ i => xs.length - i.toNat | _ => 0)
  case atStart => exact ⟨0, rfl, Nat.zero_le _, hst, h0⟩
  case round =>
    obtain ⟨i, rfl, hi, HS, hJs⟩ := hrel
    have hc1 : wr.cell? ⟨b, 0, none⟩ = some (.slice A xs.length cap) := by rw [cell_of_row wr b 0 _ _ _ HS.box]; rfl
    have hln := HS.len
    by_cases hlt : i < xs.length
    · have hd : decide ((i : Int) < (xs.length : Int)) = true := decide_eq_true (by omega)
      have c0 := HS.cells i _ (List.getElem?_eq_getElem hlt)
      have htk : xs.take i ++ [xs[i]] = xs.take (i + 1) := by rw [List.take_succ_eq_append_getElem hlt]
      obtain ⟨fn, tmps, assign, body, hy, hR⟩ := hY (xs.take i) xs[i] wr hJs ⟨xs.drop (i + 1), by rw [htk, List.take_append_drop]⟩
      have hb1 : (0 : Int) ≤ (i : Int) := by omega
      have hb2 : (i : Int) < (xs.length : Int) := by omega
      obtain rfl := HS.at_ (by omega)
      gi_wp2
      rw [htk] at hR
      refine ⟨rfl, hR.mono ?_⟩
      rintro e W3 (⟨rfl, hJ3, hs3, hk3⟩ | ⟨rfl, hJx3⟩)
      · have HS3 := HS.keep _ _ hs3 hk3
        clear hk3 hR hy HS hY
        gi_wp2
        go_roundw
        case rel => exact ⟨i + 1, by simp, by omega, HS3, hJ3⟩
        case measure => simp; omega
      · gi_wp2
        refine bodyPost_ret (results_none rfl _ _ _) rfl ?_
        exact ⟨⟨_, rfl⟩, .inr ⟨_, ⟨xs.drop (i + 1), List.take_append_drop _ _⟩, hJx3⟩⟩
    · have hd : decide ((i : Int) < (xs.length : Int)) = false := decide_eq_false (by omega)
      have he : i = xs.length := by omega
      have hJ2 : J xs wr := by rw [he, List.take_length] at hJs; exact hJs
      clear he hJs
      gi_wp2
      go_end0
      exact ⟨⟨_, rfl⟩, .inl hJ2⟩
/-- What listed's iterator owes to whoever ranges over it. -/
theorem listed_seq (b : Nat) (A : Option Addr) (g o cap : Nat) (xs : List α) (W : World) (hst : Laid ek ev W b 48 A g o cap xs) :
    SeqD Try.prog 47 #[.pointer (some ⟨b, 0, none⟩)] (fun x : α => #[agg ek ev x]) (fun k => k = b ∨ k = g) (fun ys => ys = xs) (fun pre => ∃ more, pre ++ more = xs) (fun pre x => ∃ more, pre ++ [x] ++ more = xs) W := by
  intro l J Jx W0 hs0 hd0 hJ hJx hY h0
  refine (listed_in ek ev l b A g o cap xs (fun pre W => J pre (fun _ => False) W) (fun pre W => Jx pre (fun _ => False) W) ?_ W0 (hst.keep _ _ hs0 hd0) h0).mono ?_
  · intro pre x W1 h1 hnx
    obtain ⟨fn, tmps, assign, body, hy, hR⟩ := hY pre x _ W1 h1 hnx
    refine ⟨fn, tmps, assign, body, hy, hR.mono ?_⟩
    rintro e W' (⟨he, hj, hs, hk⟩ | h)
    · exact .inl ⟨he, hj, hs, fun k hk2 hl => hk k (.inl hk2) hl⟩
    · exact .inr ⟨h.1, h.2.1⟩
  · rintro e W' ⟨hv, (hj | ⟨pre, hm, hj⟩)⟩
    · exact ⟨hv, .inl ⟨xs, _, rfl, hj⟩⟩
    · exact ⟨hv, .inr ⟨pre, _, hm, hj⟩⟩
end
end Go.Proofs.Ytojbfjfjhfnopaa.SeqS
end

section
/- What is kept while a list is gathered ('all = append(all, x)' in a range over a function), at entries. -/
namespace Go.Proofs.Ytojbfjfjhfnopaa.MergeS
open Go.RowKit Go.Shelf RangeD SeqS HeapL
set_option linter.unusedVariables false
section
variable {α : Type} (ek : α → Int) (ev : α → ByteArray)
def ecells (ek : α → Int) (ev : α → ByteArray) (x : α) : List Value := [.string (ev x)]
def erow (ek : α → Int) (ev : α → ByteArray) (xs : List α) : List Value := xs.flatMap (ecells ek ev)
theorem erow_snoc (xs : List α) (x : α) : erow ek ev (xs ++ [x]) = erow ek ev xs ++ ecells ek ev x := by simp [erow]
theorem erow_length (xs : List α) : (erow ek ev xs).length = xs.length * 1 := by
  induction xs with
  | nil => rfl
  | cons x l ih =>
    have e : erow ek ev (x :: l) = ecells ek ev x ++ erow ek ev l := rfl
    rw [e, List.length_append, ih]
    simp [ecells]
    omega
theorem erow_get (xs : List α) : ∀ (j r : Nat) (x : α), xs[j]? = some x → r < 1 → (erow ek ev xs)[j * 1 + r]? = (ecells ek ev x)[r]? := by
  induction xs with
  | nil => intro j r x h; simp at h
  | cons y l ih =>
    intro j r x h hr
    have e : erow ek ev (y :: l) = ecells ek ev y ++ erow ek ev l := rfl
    have hl : (ecells ek ev y).length = 1 := rfl
    rw [e]
    cases j with
    | zero =>
      simp only [List.getElem?_cons_zero, Option.some.injEq] at h
      subst h
      rw [List.getElem?_append_left (by omega), Nat.zero_mul, Nat.zero_add]
    | succ j =>
      rw [List.getElem?_append_right (by omega), hl, show (j + 1) * 1 + r - 1 = j * 1 + r from by omega]
      exact ih j r x (by simpa using h) hr
theorem ownsRow_keep {w w' : World} {base e size n : Nat} {v : Value} {xs : List Value} (h : w.ownsRow base e size v n xs) (hk : ∀ k, v.ownBlock = some k → w'.heap[k]? = w.heap[k]?) : w'.ownsRow base e size v n xs := by
  refine ⟨h.1, ?_⟩
  rcases h.2 with hn | ⟨g, cap, cur, rfl, hb, hgg, rest⟩
  · exact .inl hn
  · exact .inr ⟨g, cap, cur, rfl, hb, (hk g (by simp [Value.ownBlock])).trans hgg, rest⟩
/-- A row of one's own, read. -/
theorem cellsAt_of_own {w : World} {base g cap : Nat} {xs : List α} {n : Nat} (h : w.ownsRow base 9 1 (.slice (some ⟨g, 0, none⟩) n cap) n (erow ek ev xs)) : CellsAt ek ev w g 0 xs := by
  have hc := h.cells (g := g) (by simp [Value.ownBlock])
  have hadd : ∀ j, (⟨g, 0, none⟩ : Addr).add j = ⟨g, j, none⟩ := fun j => by unfold Addr.add; split <;> simp_all
  intro j x hj
  rw [Nat.zero_add]
  have := hc (j * 1 + 0) _ ((erow_get ek ev xs j 0 x hj (by omega)).trans rfl)
  rw [hadd] at this
  simpa using this
/-- While the list is gathered: X is the world at the range's begin, a7 the cell of 'all'. -/
structure GI (X : World) (a7 : Nat) (pre : List α) (T : Blocks) (Y : World) : Prop where
  os : Y.os = X.os
  tape : Y.tape = X.tape
  output : Y.output = X.output
  size : X.heap.size ≤ Y.heap.size
  same : ∀ k, k < X.heap.size → k ≠ a7 → Y.heap[k]? = X.heap[k]?
  own : ∀ k, T k → X.heap.size ≤ k ∧ k < Y.heap.size
  row : ∃ v, Y.heap[a7]? = some (.cells #[v] 48 (0, 0)) ∧ Y.ownsRow X.heap.size 9 1 v pre.length (erow ek ev pre) ∧ ∀ k, v.ownBlock = some k → ¬ T k
variable {ek ev}
theorem GI.start {X : World} {a7 : Nat} (h : X.heap[a7]? = some (.cells #[.slice none 0 0] 48 (0, 0))) : GI ek ev X a7 [] (fun _ => False) X :=
  ⟨rfl, rfl, rfl, Nat.le_refl _, fun _ _ _ => rfl, fun _ h => h.elim, _, h, World.ownsRow_nil X _ 9 1, fun _ _ h => h⟩
theorem GI.lt {X : World} {a7 : Nat} {pre : List α} {T : Blocks} {Y : World} (h : GI ek ev X a7 pre T Y) : a7 < Y.heap.size := by
  obtain ⟨v, hb, _⟩ := h.row
  exact (Array.getElem?_eq_some_iff.1 hb).1
theorem GI.abide {X : World} {a7 : Nat} (ha : a7 < X.heap.size) : Abide (GI ek ev X a7) := by
  intro pre T T' A A' h ht
  have hsz := ht.size
  obtain ⟨v, h1, h2, h3⟩ := h.row
  refine ⟨ht.os.trans h.os, ht.tape.trans h.tape, ht.output.trans h.output, Nat.le_trans h.size ht.size, fun k hk hn => ?_, fun k hk => ?_, v, ?_, ?_, fun k hk hT => ?_⟩
  · have hs := h.size
    exact (ht.same k (by omega) (fun hT => by have := (h.own k hT).1; omega)).trans (h.same k hk hn)
  · rcases ht.new k hk with hk | hk
    · have := h.own k hk; omega
    · have hs := h.size; omega
  · exact (ht.same a7 (Array.getElem?_eq_some_iff.1 h1).1 (fun hT => by have := (h.own a7 hT).1; omega)).trans h1
  · exact ownsRow_keep h2 (fun k hk => ht.same k (h2.lt k hk).2 (h3 k hk))
  · rcases ht.new k hT with hT | hT
    · exact h3 k hk hT
    · have := (h2.lt k hk).2; omega
theorem GI.ownT {X : World} {a7 : Nat} (ha : a7 < X.heap.size) : OwnT X.heap.size (GI ek ev X a7) := by
  intro T pre Y Y' row h hg hr
  obtain ⟨v, h1, h2, h3⟩ := h.row
  refine ⟨hg.os.trans h.os, hg.tape.trans h.tape, hg.output.trans h.output, Nat.le_trans h.size hg.size, fun k hk hn => ?_, fun k hk => ⟨(h.own k hk).1, Nat.lt_of_lt_of_le (h.own k hk).2 hg.size⟩, v, ?_, ?_, h3⟩
  · have hs := h.size
    exact (hg.block k (by omega) (fun e => by have := (hr k e.symm).1; omega)).trans (h.same k hk hn)
  · exact (hg.block a7 (Array.getElem?_eq_some_iff.1 h1).1 (fun e => by have := (hr a7 e.symm).1; omega)).trans h1
  · refine ownsRow_keep h2 (fun k hk => hg.block k (h2.lt k hk).2 (fun e => ?_))
    obtain ⟨_, o, ho, hc⟩ := hr k e.symm
    rcases h2.2 with ⟨rfl, _⟩ | ⟨g, cap, cur, rfl, hb, hgg, rest⟩
    · simp [Value.ownBlock] at hk
    · have : g = k := by simpa [Value.ownBlock] using hk
      subst this
      rw [ho] at hgg
      injection hgg with hgg
      subst hgg
      cases hc
/-- The thing is appended: W1 is what append leaves, its new thing having lain in a block of its own. -/
theorem GI.next {X : World} {a7 : Nat} (ha : a7 < X.heap.size) {pre : List α} {T : Blocks} {Y W1 : World} {v v' : Value} {x : α} {o : Obj} (h : GI ek ev X a7 pre T Y)
    (hv : Y.heap[a7]? = some (.cells #[v] 48 (0, 0))) (ht : ∀ k, v.ownBlock = some k → ¬ T k ∧ X.heap.size ≤ k) (h1 : W1.ownsRow X.heap.size 9 1 v' (pre.length + 1) (erow ek ev pre ++ [.string (ev x)])) (h2 : (Y.alloc o).grownBy W1 v.ownBlock) (h3 : v'.ownBlock = v.ownBlock ∨ v'.ownBlock = some (Y.alloc o).heap.size) :
    GI ek ev X a7 (pre ++ [x]) T (W1.setCell ⟨a7, 0, none⟩ v') ∧ KeepsFrom X.heap.size Y (W1.setCell ⟨a7, 0, none⟩ v') ∧ ∀ D : Blocks, (∀ k, D k → k < X.heap.size ∧ k ≠ a7) → Same (fun k => D k ∨ T k) Y (W1.setCell ⟨a7, 0, none⟩ v') := by
  have hs := h.size
  have hs1 : Y.heap.size + 1 ≤ W1.heap.size := by have := h2.size; simpa using this
  have hb : ∀ k, k < Y.heap.size → v.ownBlock ≠ some k → k ≠ a7 → (W1.setCell ⟨a7, 0, none⟩ v').heap[k]? = Y.heap[k]? := fun k hk hn hn2 =>
    (Below.heap_setCell W1 ⟨a7, 0, none⟩ v' k hn2).trans ((h2.block k (by simp; omega) (fun e => hn e.symm)).trans (Below.heap_alloc Y o k hk))
  have hsz : (W1.setCell ⟨a7, 0, none⟩ v').heap.size = W1.heap.size := by simp [World.setCell]
  have ha7 : v.ownBlock ≠ some a7 := fun e => by have := (ht a7 e).2; omega
  have hlt7 := h.lt
  have hW7 : W1.heap[a7]? = some (.cells #[v] 48 (0, 0)) := ((h2.block a7 (by simp; omega) (fun e => ha7 e.symm)).trans (Below.heap_alloc Y o a7 hlt7)).trans hv
  refine ⟨⟨h2.os.trans h.os, h2.tape.trans h.tape, h2.output.trans h.output, by omega, fun k hk hn => ?_, fun k hk => ⟨(h.own k hk).1, by have := (h.own k hk).2; omega⟩, v', ?_, ?_, fun k hk => ?_⟩, ⟨by omega, fun k ob hk ho hc => ?_⟩, fun D hD k hk hl => ?_⟩
  · exact (hb k (by omega) (fun e => by have := (ht k e).2; omega) hn).trans (h.same k hk hn)
  · exact (setCell_blk hW7 v').trans rfl
  · rw [erow_snoc, List.length_append]
    refine ownsRow_keep h1 (fun k hk => Below.heap_setCell W1 ⟨a7, 0, none⟩ v' k (fun e => ?_))
    have := (h1.lt k hk).1
    simp at e
    omega
  · rcases h3 with h3 | h3
    · exact (ht k (by rw [← h3]; exact hk)).1
    · intro hT
      rw [h3] at hk
      injection hk with hk
      have := (h.own k hT).2
      rw [World.size_alloc] at hk
      omega
  · have hkl : k < Y.heap.size := (Array.getElem?_eq_some_iff.1 ho).1
    refine (hb k hkl (fun e => ?_) (by omega)).trans ho
    obtain ⟨v2, q1, q2, q3⟩ := h.row
    rw [hv] at q1
    injection q1 with q1
    injection q1 with q1
    have : v = v2 := by simpa using q1
    subst this
    rcases q2.2 with ⟨rfl, _⟩ | ⟨g, cap, cur, rfl, hb2, hgg, rest⟩
    · simp [Value.ownBlock] at e
    · have : g = k := by simpa [Value.ownBlock] using e
      subst this
      rw [ho] at hgg
      injection hgg with hgg
      subst hgg
      cases hc
  · rcases hk with hk | hk
    · have := hD k hk
      exact hb k hl (fun e => by have := (ht k e).2; omega) this.2
    · have := h.own k hk
      exact hb k hl (fun e => (ht k e).1 hk) (by omega)
end
end Go.Proofs.Ytojbfjfjhfnopaa.MergeS
end

section
/- merge.heap at entries: less, put, take. -/
namespace Go.Proofs.Ytojbfjfjhfnopaa.HeapS
open Go.RowKit HeapL
set_option linter.unusedVariables false
theorem box2 (w : World) (o : Obj) (cs : Array Value) (t : TypeId) : ((w.alloc o).alloc (.cells cs t)).drew.heap[w.heap.size + 1]? = some (.cells cs t (0, 0)) := by
  have := heap_alloc_new (w.alloc o) (.cells cs t)
  rw [World.size_alloc] at this
  exact this
theorem box_frozen {w : World} {hb : Nat} {cs : Array Value} {t : TypeId} (h : w.heap[hb]? = some (.cells cs t (0, 0))) (o o2 : Obj) : ((w.alloc o).alloc o2).drew.frozen? ⟨hb, 0, none⟩ = false := by
  have hlt : hb < w.heap.size := (Array.getElem?_eq_some_iff.1 h).1
  have : ((w.alloc o).alloc o2).drew.heap[hb]? = some (.cells cs t (0, 0)) := (Below.heap_alloc (w.alloc o) o2 hb (by simp; omega)).trans ((Below.heap_alloc w o hb hlt).trans h)
  simp [World.frozen?, this]
theorem drew_heap {w : World} {k : Nat} {o : Option Obj} (h : w.heap[k]? = o) : w.drew.heap[k]? = o := h
theorem info91 : (Try.prog.info? 91).map (fun i => (i.zero, i.size, i.bytes)) = some (some (.agg #[.int .u64 0, .int .i64 0, .slice none 0 0]), 3, 40) := by kernel_rfl
theorem box_cell {w : World} {hb : Nat} {a : Value} {t : TypeId} (h : w.heap[hb]? = some (.cells #[a] t (0, 0))) (o o2 : Obj) : ((w.alloc o).alloc o2).drew.cell? ⟨hb, 0, none⟩ = some a := by
  have hlt : hb < w.heap.size := (Array.getElem?_eq_some_iff.1 h).1
  have : ((w.alloc o).alloc o2).drew.heap[hb]? = some (.cells #[a] t (0, 0)) := (Below.heap_alloc (w.alloc o) o2 hb (by simp; omega)).trans ((Below.heap_alloc w o hb hlt).trans h)
  rw [cell_of_row _ hb 0 _ _ _ this]
  rfl
/-- What the append into the heap's field leaves. -/
def Put0 (w : World) (hb base : Nat) (v : Value) (l : List Hd) (v' : Value) (W : World) : Prop :=
  W.heap[hb]? = some (.cells #[v'] 88 (0, 0)) ∧ HRow W base 91 v' l ∧ (v'.ownBlock = v.ownBlock ∨ ∃ b, v'.ownBlock = some b ∧ w.heap.size ≤ b) ∧ v'.ownBlock ≠ some hb ∧ Turns (fun k => k = hb ∨ v.ownBlock = some k) w W
theorem put0 {w w1 : World} {hb base gg cap : Nat} {v : Value} {l : List Hd} {x : Hd} {o o2 : Obj} (hx : x.rest.oneCell' = true) (hh : w.heap[hb]? = some (.cells #[v] 88 (0, 0))) (hr : HRow w base 91 v l) (hne : v.ownBlock ≠ some hb)
    (hown1 : w1.ownsRow base 91 3 (.slice (some ⟨gg, 0, none⟩) (l.length + 1) cap) (l.length + 1) (rowCells l ++ [.int .u64 x.key, .int .i64 x.frm, .slice x.ad x.len x.cap])) (hgrow : ((w.alloc o).alloc o2).drew.grownBy w1 v.ownBlock) (hat : v.ownBlock = some gg ∨ gg = w.heap.size + 2) :
    Put0 w hb base v (l ++ [x]) (.slice (some ⟨gg, 0, none⟩) (l.length + 1) cap) (w1.setCell ⟨hb, 0, none⟩ (.slice (some ⟨gg, 0, none⟩) (l.length + 1) cap)) := by
  have hlt : hb < w.heap.size := (Array.getElem?_eq_some_iff.1 hh).1
  have hb1 : w1.heap[hb]? = some (.cells #[v] 88 (0, 0)) := (hgrow.block hb (by show hb < ((w.alloc o).alloc o2).heap.size; simp; omega) (Ne.symm hne)).trans ((Below.heap_alloc (w.alloc o) o2 hb (by simp; omega)).trans ((Below.heap_alloc w o hb hlt).trans hh))
  have hgg : gg ≠ hb := by
    rcases hat with h | h
    · intro e; subst e; exact hne h
    · omega
  refine ⟨(setCell_blk hb1 _).trans rfl, (HRow.more hx hr.2 hown1).keep (fun k hk => ?_), ?_, ?_, ?_⟩
  · simp [Value.ownBlock] at hk
    subst hk
    exact Below.heap_setCell w1 ⟨hb, 0, none⟩ _ gg hgg
  · rcases hat with h | h
    · exact .inl (by rw [h]; rfl)
    · exact .inr ⟨gg, rfl, by omega⟩
  · simp [Value.ownBlock]; exact hgg
  · refine Turns.set ?_ (fun _ => .inl rfl) _
    have h1 : Turns (fun k => k = hb ∨ v.ownBlock = some k) w ((w.alloc o).alloc o2).drew := (((Turns.refl _ w).alloc o).alloc o2).drew
    exact h1.trans (Turns.of_grown (T := fun k => v.ownBlock = some k) hgrow (fun k hk => hk)) (fun j hj _ => .inr hj)
set_option maxRecDepth 100000 in
theorem less_calls (a b : Hd) (w : World) : Calls Try.prog 60 #[.agg #[.int .u64 a.key, .int .i64 a.frm, .slice a.ad a.len a.cap], .agg #[.int .u64 b.key, .int .i64 b.frm, .slice b.ad b.len b.cap]] w fun e w' => e = .returned (.bool (decide (a.Lt b))) ∧ Below w.heap.size w w' := by
  obtain ⟨ak, af, aa, an, ac⟩ := a
  obtain ⟨bk, bf, ba, bn, bc⟩ := b
  by_cases h1 : ak < bk
  · have hd1 : decide (ak < bk) = true := decide_eq_true h1
    rw [show decide (Hd.Lt ⟨ak, af, aa, an, ac⟩ ⟨bk, bf, ba, bn, bc⟩) = true from decide_eq_true (.inl h1)]
    go_enter Try.func60, Try.ntmps60
    go_wp2
    go_ret
    exact ⟨rfl, ((Below.refl _ _).alloc (Nat.le_refl _) _).alloc (by simp) _⟩
  · have hd1 : decide (ak < bk) = false := decide_eq_false h1
    by_cases h2 : ak = bk
    · have hd2 : (ak == bk) = true := beq_iff_eq.2 h2
      rw [show decide (Hd.Lt ⟨ak, af, aa, an, ac⟩ ⟨bk, bf, ba, bn, bc⟩) = decide (af < bf) from by
        have : (Hd.Lt ⟨ak, af, aa, an, ac⟩ ⟨bk, bf, ba, bn, bc⟩) ↔ af < bf := by unfold Hd.Lt; simp only []; omega
        simp only [this]]
      clear h2 h1
      go_enter Try.func60, Try.ntmps60
      go_wp2
      go_ret
      exact ⟨rfl, ((Below.refl _ _).alloc (Nat.le_refl _) _).alloc (by simp) _⟩
    · have hd2 : (ak == bk) = false := beq_eq_false_iff_ne.2 h2
      rw [show decide (Hd.Lt ⟨ak, af, aa, an, ac⟩ ⟨bk, bf, ba, bn, bc⟩) = false from decide_eq_false (by unfold Hd.Lt; simp only []; omega)]
      clear h2 h1
      go_enter Try.func60, Try.ntmps60
      go_wp2
      go_ret
      exact ⟨rfl, ((Below.refl _ _).alloc (Nat.le_refl _) _).alloc (by simp) _⟩
set_option maxHeartbeats 4000000 in
set_option maxRecDepth 1000000 in
theorem put_calls (x : Hd) (l : List Hd) (hp : Heap l) (hb base : Nat) (v : Value) (w : World) (hh : w.heap[hb]? = some (.cells #[v] 88 (0, 0))) (hr : HRow w base 91 v l) (hbase : base ≤ w.heap.size) (hl : (l.length + 1) * 40 ≤ 140737488355328) :
    Calls Try.prog 50 #[.pointer (some ⟨hb, 0, none⟩), .agg #[.int .u64 x.key, .int .i64 x.frm, .slice x.ad x.len x.cap]] w fun e w' => e = .returned (.tuple #[]) ∧
      ∃ v' l', w'.heap[hb]? = some (.cells #[v'] 88 (0, 0)) ∧ HRow w' base 91 v' l' ∧ Heap l' ∧ l'.Perm (x :: l) ∧ (v'.ownBlock = v.ownBlock ∨ ∃ b, v'.ownBlock = some b ∧ w.heap.size ≤ b) ∧ Turns (fun k => k = hb ∨ v.ownBlock = some k) w w' := by
  obtain ⟨i0, hi0, hz0, hz1, hz2⟩ := info_parts info91
  obtain ⟨A, c, rfl, hlc⟩ := hr.slice
  have hc0 : w.cell? ⟨hb, 0, none⟩ = some (.slice A l.length c) := by rw [cell_of_row w hb 0 _ _ _ hh]; rfl
  have hf0 : w.frozen? ⟨hb, 0, none⟩ = false := by simp [World.frozen?, hh]
  have hblt : hb < w.heap.size := (Array.getElem?_eq_some_iff.1 hh).1
  have hne : (Value.slice A l.length c).ownBlock ≠ some hb := fun e => by
    obtain ⟨cur, hcur⟩ := hr.typed hb e
    rw [hcur] at hh
    injection hh with hh
    injection hh with _ hh _
    cases hh
  have hnb : (Value.slice A l.length c).ownBlock ≠ some w.heap.size := fun e => by have := (hr.blocks _ e).2; omega
  have hnl : l.length + 1 ≤ maxLen := by unfold maxLen; omega
  have hx3 : ∀ u ∈ [Value.int .u64 x.key, .int .i64 x.frm, .slice x.ad x.len x.cap], u.oneCell' = true := by
    intro u hu
    simp only [List.mem_cons, List.not_mem_nil, or_false] at hu
    rcases hu with hu | hu | hu <;> subst hu
    · rfl
    · rfl
    · rfl
  have HX3 := Lib.hid hx3
  have HOWN := Lib.hid hr.1
  have HL0 : Hid (l.length ≤ 3518437208882) := Lib.hid (by omega)
  go_enter Try.func50, Try.ntmps50
  go_wp2_with fail
  go_upto_region 1 with (fail)
  go_cut [13] (fun v13 wc => ∃ v', v13 = v' ∧ Hid (Put0 w hb base (.slice A l.length c) (l ++ [x]) v' wc))
  case first =>
    go_region_law
      ((refine step_append_lies _ (by rfl) _ _ _ (by rfl) base 91 i0 _ 3 40 Try.underlying86 hi0 hz0 hz1 hz2 rfl (by omega) (.slice A l.length c) l.length (rowCells l) (by rfl) (((HOWN.out.alloc _).alloc _).drew) ⟨w.heap.size + 1, 0, none⟩ 1 1 [.int .u64 x.key, .int .i64 x.frm, .slice x.ad x.len x.cap] (by rfl) (by rfl) (World.news_of_block (cs := #[.int .u64 x.key, .int .i64 x.frm, .slice x.ad x.len x.cap]) (t := 91) (fr := (0, 0)) (box2 w _ _ 91)) HX3.out (by omega) hnl hl (by simp; omega) (w.heap.size + 2) (by simp) ?_; intro gg cap w1 hown1 hgrow hat hlt; have hfz : w1.frozen? ⟨hb, 0, none⟩ = false := (hgrow.frozen_far _ (by simp; omega) (Ne.symm hne)).trans (box_frozen hh _ _); have hcz : w1.cell? ⟨hb, 0, none⟩ = some (.slice A l.length c) := (hgrow.cell_far _ (by simp; omega) (Ne.symm hne)).trans (box_cell hh _ _)))
    all_goals
      (try go_wp2)
      go_meet
      case rel => exact ⟨_, rfl, Lib.hid (put0 (x := x) rfl hh hr hne hown1 hgrow hat)⟩
  case rest =>
    obtain ⟨v', rfl, HP⟩ := hcut
    obtain ⟨q1, q2, q3, q4, q5⟩ := HP.out
    obtain ⟨g, cap, cur, ev, hgb, hgg, hlc2, hcm, hcs, hct⟩ := q2.form (by simp)
    have hlen : (l ++ [x]).length = l.length + 1 := by simp
    rw [hlen] at ev hlc2
    subst ev
    have hcw : wc.cell? ⟨hb, 0, none⟩ = some (.slice (some ⟨g, 0, none⟩) (l.length + 1) cap) := by rw [cell_of_row wc hb 0 _ _ _ q1]; rfl
    have hg0 : g ≠ hb := fun e => q4 (by rw [e]; rfl)
    have Q1 := Lib.hid q1
    have Q2 := Lib.hid q2
    have Q3 := Lib.hid q3
    have Q5 := Lib.hid q5
    clear HP q1 q2 q3 q4 q5 hgg hct hcs hc0 hf0 hne hnb hx3 HX3 HOWN hr hh
    have hup0 := Lib.hid (Up.start hp x)
    have hnn := HL0.out
    go_wp2_with (fail)
    clear hcw
    obtain ⟨n, hn⟩ : ∃ n, l.length + 1 = n := ⟨_, rfl⟩
    rw [hn] at Q1 Q2 Q3
    have HNN : Hid (n ≤ 3518437208883) := Lib.hid (by omega)
    go_loopg [4] n (fun kq v4 w' => ∃ (i : Nat) (lk : List Hd), v4 = .int .i64 i ∧ i < n ∧ i ≤ kq ∧ Hid (lk.length = n) ∧ Hid (Up lk i) ∧ Hid (lk.Perm (l ++ [x])) ∧ Hid (HRow w' base 91 (.slice (some ⟨g, 0, none⟩) n cap) lk) ∧ Hid (w'.heap[hb]? = some (.cells #[.slice (some ⟨g, 0, none⟩) n cap] 88 (0, 0))) ∧ Hid (Turns (fun k => k = hb ∨ k = g) wc w'))
    case atStart => exact ⟨l.length, l ++ [x], rfl, by omega, by omega, Lib.hid (by rw [hlen, hn]), hup0, Lib.hid (List.Perm.refl _), Q2, Q1, Lib.hid (Turns.refl _ _)⟩
    case round =>
      obtain ⟨i, lk, rfl, hin, hik, HL, HU, HPM, HR, HB, HT⟩ := hrel
      have hn1 := HNN.out
      have hTT : ∀ W, Turns (fun k => k = hb ∨ k = g) wr W → Turns (fun k => k = hb ∨ (Value.slice A l.length c).ownBlock = some k) w W := fun W hW => by
        have h1 := HT.out.trans hW (fun j hj _ => hj)
        refine Q5.out.trans h1 (fun j hj hlt => ?_)
        rcases hj with hj | hj
        · exact .inl hj
        · rcases Q3.out with h2 | ⟨b, h2, h3⟩
          · right; rw [← h2, hj]; rfl
          · have : b = g := by simpa [Value.ownBlock] using h2.symm
            omega
      have HTT := Lib.hid hTT
      have hat1 : (Value.slice (some ⟨g, 0, none⟩) n cap).ownBlock = (Value.slice A l.length c).ownBlock ∨ ∃ b, (Value.slice (some ⟨g, 0, none⟩) n cap).ownBlock = some b ∧ w.heap.size ≤ b := Q3.out
      have HAT := Lib.hid hat1
      have HPX : Hid (∀ lk2 : List Hd, lk2.Perm lk → lk2.Perm (x :: l)) := Lib.hid (fun lk2 h => (h.trans HPM.out).trans (List.perm_append_comm (l₁ := l)))
      clear hTT hat1 hup0 hn
      by_cases h00 : i = 0
      · subst h00
        go_wp2_with (fail)
        go_end0
        exact ⟨rfl, _, lk, HB.out, HR.out, HU.out.stop (.inl rfl), HPX.out _ (List.Perm.refl _), HAT.out, HTT.out _ (Turns.refl _ _)⟩
      · obtain ⟨p, hp2⟩ : ∃ p, (i - 1) / 2 = p := ⟨_, rfl⟩
        have hp3 : ((i : Int) - 1) / 2 = (p : Int) := by omega
        have hl1 := HL.out
        obtain ⟨ci0, ci1, ci2⟩ := HR.out.cell i (by omega)
        obtain ⟨cp0, cp1, cp2⟩ := HR.out.cell p (by omega)
        have hcw : wr.cell? ⟨hb, 0, none⟩ = some (.slice (some ⟨g, 0, none⟩) n cap) := by rw [cell_of_row wr hb 0 _ _ _ HB.out]; rfl
        have hdi : decide ((i : Int) > 0) = true := decide_eq_true (by omega)
        have b0 : (0 : Int) ≤ (i : Int) - 1 := by omega
        have b1 : (p : Int) < (n : Int) := by omega
        have b2 : p < n := by omega
        have b3 : (i : Int) < (n : Int) := by omega
        have hpi := Lib.hid (show (i - 1) / 2 = p from hp2)
        have hi0 : 0 < i := by omega
        clear hl1 hp2 h00
        by_cases hlt : (at_ lk i).Lt (at_ lk p)
        · have hd : decide ((at_ lk i).Lt (at_ lk p)) = true := decide_eq_true hlt
          have HLT := Lib.hid hlt
          clear hlt
          go_wp2_with (fail)
          go_region_held3 (fun w' => w'.cell? ⟨hb, 0, none⟩ = some (.slice (some ⟨g, 0, none⟩) n cap) ∧ w'.cell? ⟨g, i * 3, none⟩ = some (.int .u64 (at_ lk i).key) ∧ w'.cell? ⟨g, i * 3 + 1, none⟩ = some (.int .i64 (at_ lk i).frm) ∧ w'.cell? ⟨g, i * 3 + 2, none⟩ = some (.slice (at_ lk i).ad (at_ lk i).len (at_ lk i).cap) ∧ w'.cell? ⟨g, p * 3, none⟩ = some (.int .u64 (at_ lk p).key) ∧ w'.cell? ⟨g, p * 3 + 1, none⟩ = some (.int .i64 (at_ lk p).frm) ∧ w'.cell? ⟨g, p * 3 + 2, none⟩ = some (.slice (at_ lk p).ad (at_ lk p).len (at_ lk p).cap))
            (first
              | go_keep
              | (go_split_ands
                 refine ⟨?_, ?_, ?_, ?_, ?_, ?_, ?_⟩ <;> (refine (hbl.cell (World.block_lt_of_cell? _ _ (by assumption))).trans ?_; assumption)))
            ((go_at_call 60; refine (less_calls (at_ lk i) (at_ lk p) _).mono ?_; rintro e w1 ⟨rfl, hbl⟩))
          go_wp2_with (fail)
          obtain ⟨e0, ei0, ei1, ei2, ep0, ep1, ep2⟩ := ‹(_ ∧ _ ∧ _ ∧ _ ∧ _ ∧ _ ∧ _)›
          have HR1 : Hid (HRow w1 base 91 (.slice (some ⟨g, 0, none⟩) n cap) lk) := Lib.hid (HRow.turn (w := wr.drew) HR.out (Turns.of_below (fun _ => False) hbl) (fun _ _ h => h))
          have HB1 : Hid (w1.heap[hb]? = some (.cells #[.slice (some ⟨g, 0, none⟩) n cap] 88 (0, 0))) := Lib.hid ((hbl.block hb (Array.getElem?_eq_some_iff.1 HB.out).1).trans HB.out)
          have HT1 : Hid (Turns (fun k => k = hb ∨ k = g) wc w1) := Lib.hid ((HT.out.drew).trans (Turns.of_below (fun _ => False) hbl) (fun _ h _ => h.elim))
          have z0 := HR1.out.frozen (i * 3)
          have z1 := HR1.out.frozen (i * 3 + 1)
          have z2 := HR1.out.frozen (i * 3 + 2)
          have z3 := HR1.out.frozen (p * 3)
          have z4 := HR1.out.frozen (p * 3 + 1)
          have z5 := HR1.out.frozen (p * 3 + 2)
          have hpi2 := hpi.out
          have n0 : ¬ (i * 3 = p * 3) := by omega
          have n1 : ¬ (i * 3 = p * 3 + 1) := by omega
          have n2 : ¬ (i * 3 = p * 3 + 2) := by omega
          have n3 : ¬ (i * 3 + 1 = p * 3) := by omega
          have n4 : ¬ (i * 3 + 2 = p * 3) := by omega
          have m0 : ¬ (p * 3 = i * 3) := by omega
          have m1 : ¬ (p * 3 = i * 3 + 1) := by omega
          have m2 : ¬ (p * 3 = i * 3 + 2) := by omega
          have m3 : ¬ (p * 3 + 1 = i * 3) := by omega
          have m4 : ¬ (p * 3 + 2 = i * 3) := by omega
          have n5 : ¬ (i = p) := by omega
          have m5 : ¬ (p = i) := by omega
          clear hpi2 hbl ci0 ci1 ci2 cp0 cp1 cp2 hcw
          go_region
          go_wp2_with (fail)
          have hil : i < lk.length := by rw [HL.out]; omega
          have hpl : p < lk.length := by rw [HL.out]; omega
          have hup : Up (swap lk i p) p := by
            have := Up.step HU.out hi0 hil (by rw [hpi.out]; exact HLT.out)
            rwa [hpi.out] at this
          have F1 := Lib.hid (HR1.out.swap i p hil hpl).drew
          have F2 : Hid ((storeHd (storeHd w1 g i (at_ lk p)) g p (at_ lk i)).drew.heap[hb]? = some (.cells #[.slice (some ⟨g, 0, none⟩) n cap] 88 (0, 0))) := Lib.hid (drew_heap ((storeHd_far (storeHd w1 g i (at_ lk p)) g p (at_ lk i) hb (Ne.symm hg0)).trans ((storeHd_far w1 g i (at_ lk p) hb (Ne.symm hg0)).trans HB1.out)))
          have F3 := Lib.hid (storeHd_turns (storeHd_turns HT1.out g i (at_ lk p) (fun _ => .inr rfl)) g p (at_ lk i) (fun _ => .inr rfl)).drew
          have F4 := Lib.hid ((swap_perm lk i p hil hpl).trans HPM.out)
          have F5 : Hid ((swap lk i p).length = n) := Lib.hid (by rw [swap_length]; exact HL.out)
          have F6 := Lib.hid hup
          simp only [storeHd] at F1 F2 F3
          clear n0 n1 n2 n3 n4 n5 m0 m1 m2 m3 m4 m5 z0 z1 z2 z3 z4 z5 e0 ei0 ei1 ei2 ep0 ep1 ep2 hup HR1 HB1 HT1
          go_roundg p
          case measure => omega
          case rel => exact ⟨p, swap lk i p, rfl, b2, Nat.le_refl _, F5, F6, F4, F1, F2, F3⟩
        · have hd : decide ((at_ lk i).Lt (at_ lk p)) = false := decide_eq_false hlt
          have HLT := Lib.hid hlt
          clear hlt
          go_wp2_with (fail)
          go_region_held3 (fun w' => w'.cell? ⟨hb, 0, none⟩ = some (.slice (some ⟨g, 0, none⟩) n cap) ∧ w'.cell? ⟨g, i * 3, none⟩ = some (.int .u64 (at_ lk i).key) ∧ w'.cell? ⟨g, i * 3 + 1, none⟩ = some (.int .i64 (at_ lk i).frm) ∧ w'.cell? ⟨g, i * 3 + 2, none⟩ = some (.slice (at_ lk i).ad (at_ lk i).len (at_ lk i).cap) ∧ w'.cell? ⟨g, p * 3, none⟩ = some (.int .u64 (at_ lk p).key) ∧ w'.cell? ⟨g, p * 3 + 1, none⟩ = some (.int .i64 (at_ lk p).frm) ∧ w'.cell? ⟨g, p * 3 + 2, none⟩ = some (.slice (at_ lk p).ad (at_ lk p).len (at_ lk p).cap))
            (first
              | go_keep
              | (go_split_ands
                 refine ⟨?_, ?_, ?_, ?_, ?_, ?_, ?_⟩ <;> (refine (hbl.cell (World.block_lt_of_cell? _ _ (by assumption))).trans ?_; assumption)))
            ((go_at_call 60; refine (less_calls (at_ lk i) (at_ lk p) _).mono ?_; rintro e w1 ⟨rfl, hbl⟩))
          go_wp2_with (fail)
          refine bodyPost_ret (results_none rfl _ _ _) rfl ?_
          exact ⟨rfl, _, lk, (hbl.block hb (Array.getElem?_eq_some_iff.1 HB.out).1).trans HB.out, HRow.turn (w := wr.drew) HR.out.drew (Turns.of_below (fun _ => False) hbl) (fun _ _ h => h), HU.out.stop (.inr (by rw [hpi.out]; exact HLT.out)), HPX.out _ (List.Perm.refl _), HAT.out,
            HTT.out _ ((Turns.refl _ wr).drew.trans (Turns.of_below (fun _ => False) hbl) (fun _ h _ => h.elim))⟩
end Go.Proofs.Ytojbfjfjhfnopaa.HeapS
end

section
/- merge.heap at entries: take. -/
namespace Go.Proofs.Ytojbfjfjhfnopaa.HeapS
open Go.RowKit HeapL
set_option linter.unusedVariables false
/-- What take keeps while it goes down. -/
structure TakeW (w : World) (base hb g m cap : Nat) (x : Hd) (lk : List Hd) (W : World) : Prop where
  row : HRow W base 91 (.slice (some ⟨g, 0, none⟩) m cap) lk
  box : W.heap[hb]? = some (.cells #[.slice (some ⟨g, 0, none⟩) m cap] 88 (0, 0))
  got : W.heap[w.heap.size + 1]? = some (.cells #[.int .u64 x.key, .int .i64 x.frm, .slice x.ad x.len x.cap] 91 (0, 0))
  res : W.heap[w.heap.size]? = some (.cells #[.int .u64 0, .int .i64 0, .slice none 0 0] 91 (0, 0))
  turns : Turns (fun k => k = hb ∨ k = g) w W
  far : g ≠ hb
  old : g < w.heap.size
  old2 : hb < w.heap.size
theorem TakeW.below {w : World} {base hb g m cap : Nat} {x : Hd} {lk : List Hd} {W W' : World} (h : TakeW w base hb g m cap x lk W) (hb2 : Below W.heap.size W W') : TakeW w base hb g m cap x lk W' := by
  have hs := h.turns.size
  have h1 := (Array.getElem?_eq_some_iff.1 h.got).1
  exact ⟨h.row.turn (Turns.of_below (fun _ => False) hb2) (fun _ _ h => h), (hb2.block hb (by have := h.old2; omega)).trans h.box, (hb2.block _ h1).trans h.got, (hb2.block _ (by omega)).trans h.res, h.turns.trans (Turns.of_below (fun _ => False) hb2) (fun _ h _ => h.elim), h.far, h.old, h.old2⟩
theorem TakeW.drew {w : World} {base hb g m cap : Nat} {x : Hd} {lk : List Hd} {W : World} (h : TakeW w base hb g m cap x lk W) : TakeW w base hb g m cap x lk W.drew :=
  ⟨h.row.drew, h.box, h.got, h.res, h.turns.drew, h.far, h.old, h.old2⟩
theorem TakeW.drewN {w : World} {base hb g m cap : Nat} {x : Hd} {lk : List Hd} {W : World} (h : TakeW w base hb g m cap x lk W) (n : Nat) : TakeW w base hb g m cap x lk (W.drewN n) :=
  ⟨h.row.keep (fun _ _ => rfl), h.box, h.got, h.res, h.turns.drewN n, h.far, h.old, h.old2⟩
theorem TakeW.swap {w : World} {base hb g m cap : Nat} {x : Hd} {lk : List Hd} {W : World} (h : TakeW w base hb g m cap x lk W) (i j : Nat) (hi : i < lk.length) (hj : j < lk.length) :
    TakeW w base hb g m cap x (swap lk i j) (storeHd (storeHd W g i (at_ lk j)) g j (at_ lk i)) := by
  have hold := h.old
  have hf : ∀ k, k ≠ g → (storeHd (storeHd W g i (at_ lk j)) g j (at_ lk i)).heap[k]? = W.heap[k]? := fun k hk => (storeHd_far _ g j (at_ lk i) k hk).trans (storeHd_far W g i (at_ lk j) k hk)
  exact ⟨h.row.swap i j hi hj, (hf hb (Ne.symm h.far)).trans h.box, (hf _ (by omega)).trans h.got, (hf _ (by omega)).trans h.res, storeHd_turns (storeHd_turns h.turns g i (at_ lk j) (fun _ => .inr rfl)) g j (at_ lk i) (fun _ => .inr rfl), h.far, h.old, h.old2⟩
theorem take0 {w : World} {hb base g m cap : Nat} {l : List Hd} (hh : w.heap[hb]? = some (.cells #[.slice (some ⟨g, 0, none⟩) l.length cap] 88 (0, 0))) (hr : HRow w base 91 (.slice (some ⟨g, 0, none⟩) l.length cap) l) (hm : l.length = m + 1) (hg0 : g ≠ hb) (hglt : g < w.heap.size) (c : Nat) (W : World)
    (hc : c = m)
    (hW : W = ((((((w.setCell ⟨g, 0, none⟩ (.int .u64 (at_ l m).key)).setCell ⟨g, 1, none⟩ (.int .i64 (at_ l m).frm)).setCell ⟨g, 2, none⟩ (.slice (at_ l m).ad (at_ l m).len (at_ l m).cap)).setCell ⟨hb, 0, none⟩ (.slice (some ⟨g, 0, none⟩) c cap)).alloc (.cells #[.int .u64 0, .int .i64 0, .slice none 0 0] 91)).alloc (.cells #[.int .u64 (at_ l 0).key, .int .i64 (at_ l 0).frm, .slice (at_ l 0).ad (at_ l 0).len (at_ l 0).cap] 91)).drew) :
    TakeW w base hb g m cap (at_ l 0) ((l.set 0 (at_ l m)).take m) W := by
  subst hc
  have hblt : hb < w.heap.size := (Array.getElem?_eq_some_iff.1 hh).1
  have hs0 : storeHd w g 0 (at_ l c) = ((w.setCell ⟨g, 0, none⟩ (.int .u64 (at_ l c).key)).setCell ⟨g, 1, none⟩ (.int .i64 (at_ l c).frm)).setCell ⟨g, 2, none⟩ (.slice (at_ l c).ad (at_ l c).len (at_ l c).cap) := by
    unfold storeHd
    rw [Nat.zero_mul, Nat.zero_add, Nat.zero_add]
  rw [← hs0] at hW
  have r0 : HRow (storeHd w g 0 (at_ l c)) base 91 (.slice (some ⟨g, 0, none⟩) l.length cap) (l.set 0 (at_ l c)) := hr.put 0 (by omega) (at_ l c) rfl
  have r1 := r0.shrink c (by rw [List.length_set]; omega)
  have b0 : (storeHd w g 0 (at_ l c)).heap[hb]? = some (.cells #[.slice (some ⟨g, 0, none⟩) l.length cap] 88 (0, 0)) := (storeHd_far w g 0 (at_ l c) hb (Ne.symm hg0)).trans hh
  have t0 : Turns (fun k => k = hb ∨ k = g) w (storeHd w g 0 (at_ l c)) := storeHd_turns (Turns.refl _ w) g 0 (at_ l c) (fun _ => .inr rfl)
  have hsz : (storeHd w g 0 (at_ l c)).heap.size = w.heap.size := by simp [storeHd, World.setCell]
  generalize storeHd w g 0 (at_ l c) = w0 at hW r1 b0 t0 hsz
  have hsz1 : (w0.setCell ⟨hb, 0, none⟩ (.slice (some ⟨g, 0, none⟩) c cap)).heap.size = w.heap.size := by simp [World.setCell, hsz]
  have r2 : HRow (w0.setCell ⟨hb, 0, none⟩ (.slice (some ⟨g, 0, none⟩) c cap)) base 91 (.slice (some ⟨g, 0, none⟩) c cap) ((l.set 0 (at_ l c)).take c) := r1.keep (fun k hk => by
    have : k = g := by simpa [Value.ownBlock] using hk.symm
    subst this
    exact Below.heap_setCell w0 ⟨hb, 0, none⟩ _ k hg0)
  have b1 := setCell_blk (j := 0) b0 (.slice (some ⟨g, 0, none⟩) c cap)
  have t1 := t0.set (p := ⟨hb, 0, none⟩) (fun _ => .inl rfl) (.slice (some ⟨g, 0, none⟩) c cap)
  generalize w0.setCell ⟨hb, 0, none⟩ (.slice (some ⟨g, 0, none⟩) c cap) = w1 at hW r2 b1 t1 hsz1
  subst hW
  refine ⟨?_, ?_, ?_, ?_, ?_, hg0, hglt, hblt⟩
  · exact (r2.turn (((Turns.refl (fun _ => False) w1).alloc _).alloc _) (fun _ _ h => h)).drew
  · exact (Below.heap_alloc _ _ hb (by simp; omega)).trans ((Below.heap_alloc _ _ hb (by omega)).trans b1)
  · have := heap_alloc_new (w1.alloc (.cells #[.int .u64 0, .int .i64 0, .slice none 0 0] 91)) (.cells #[.int .u64 (at_ l 0).key, .int .i64 (at_ l 0).frm, .slice (at_ l 0).ad (at_ l 0).len (at_ l 0).cap] 91)
    rw [World.size_alloc, hsz1] at this
    exact this
  · have := heap_alloc_new w1 (.cells #[.int .u64 0, .int .i64 0, .slice none 0 0] 91)
    rw [hsz1] at this
    exact (Below.heap_alloc _ _ w.heap.size (by simp; omega)).trans this
  · exact ((t1.alloc _).alloc _).drew
/-- What take hands back. -/
theorem takeEnd {w : World} {base hb g m cap : Nat} {x : Hd} {lk : List Hd} {W : World} (h : TakeW w base hb g m cap x lk W) (W' : World)
    (hW : W' = ((W.setCell ⟨w.heap.size, 0, none⟩ (.int .u64 x.key)).setCell ⟨w.heap.size, 1, none⟩ (.int .i64 x.frm)).setCell ⟨w.heap.size, 2, none⟩ (.slice x.ad x.len x.cap)) :
    W'.heap[w.heap.size]? = some (.cells #[.int .u64 x.key, .int .i64 x.frm, .slice x.ad x.len x.cap] 91 (0, 0)) ∧ W'.heap[hb]? = some (.cells #[.slice (some ⟨g, 0, none⟩) m cap] 88 (0, 0)) ∧ HRow W' base 91 (.slice (some ⟨g, 0, none⟩) m cap) lk ∧ Turns (fun k => k = hb ∨ k = g) w W' := by
  have h1 := h.old
  have h2 := h.old2
  have hf : ∀ k, k ≠ w.heap.size → W'.heap[k]? = W.heap[k]? := fun k hk => by
    subst hW
    exact (Below.heap_setCell _ ⟨w.heap.size, 2, none⟩ _ k hk).trans ((Below.heap_setCell _ ⟨w.heap.size, 1, none⟩ _ k hk).trans (Below.heap_setCell W ⟨w.heap.size, 0, none⟩ _ k hk))
  refine ⟨?_, (hf hb (by omega)).trans h.box, h.row.keep (fun k hk => hf k ?_), ?_⟩
  · subst hW
    exact (setCell_blk (setCell_blk (setCell_blk h.res _) _) _).trans rfl
  · have : k = g := by simpa [Value.ownBlock] using hk.symm
    omega
  · subst hW
    exact ((h.turns.set (p := ⟨w.heap.size, 0, none⟩) (fun h => absurd h (Nat.lt_irrefl _)) _).set (p := ⟨w.heap.size, 1, none⟩) (fun h => absurd h (Nat.lt_irrefl _)) _).set (p := ⟨w.heap.size, 2, none⟩) (fun h => absurd h (Nat.lt_irrefl _)) _
theorem size91 : (Try.prog.info? 91).map (·.size) = some 3 := by kernel_rfl
set_option maxHeartbeats 4000000 in
set_option maxRecDepth 1000000 in
theorem take_calls (l : List Hd) (hp : Heap l) (h1 : 0 < l.length) (hb base : Nat) (v : Value) (w : World) (hh : w.heap[hb]? = some (.cells #[v] 88 (0, 0))) (hr : HRow w base 91 v l) (hbase : base ≤ w.heap.size) (hl : (l.length + 1) * 40 ≤ 140737488355328) :
    Calls Try.prog 51 #[.pointer (some ⟨hb, 0, none⟩)] w fun e w' => ∃ x : Hd, e = .returned (.agg #[.int .u64 x.key, .int .i64 x.frm, .slice x.ad x.len x.cap]) ∧
      ∃ v' l', w'.heap[hb]? = some (.cells #[v'] 88 (0, 0)) ∧ HRow w' base 91 v' l' ∧ Heap l' ∧ l.Perm (x :: l') ∧ (∀ y ∈ l', x.le y) ∧ v'.ownBlock = v.ownBlock ∧ Turns (fun k => k = hb ∨ v.ownBlock = some k) w w' := by
  obtain ⟨g, cap, cur, rfl, hgg, hg1, hlc, hcm, hcs, hct⟩ := hr.form h1
  have hc0 : w.cell? ⟨hb, 0, none⟩ = some (.slice (some ⟨g, 0, none⟩) l.length cap) := by rw [cell_of_row w hb 0 _ _ _ hh]; rfl
  have hf0 : w.frozen? ⟨hb, 0, none⟩ = false := by simp [World.frozen?, hh]
  have hblt : hb < w.heap.size := (Array.getElem?_eq_some_iff.1 hh).1
  have hglt : g < w.heap.size := (Array.getElem?_eq_some_iff.1 hg1).1
  have hg0 : g ≠ hb := fun e => by
    rw [e] at hg1
    rw [hg1] at hh
    injection hh with hh
    injection hh with _ hh _
    cases hh
  obtain ⟨m, hm⟩ : ∃ m, l.length = m + 1 := ⟨l.length - 1, by omega⟩
  obtain ⟨cr0, cr1, cr2⟩ := hr.cell 0 (by omega)
  obtain ⟨cm0, cm1, cm2⟩ := hr.cell m (by omega)
  rw [Nat.zero_mul] at cr0 cr1 cr2
  have z0 := hr.frozen 0
  have z1 := hr.frozen 1
  have z2 := hr.frozen 2
  rw [hm] at hc0
  have hmm : m ≤ 3518437208882 := by omega
  have b5 : m ≤ cap := by omega
  have b1 : (m : Int) < ((m + 1 : Nat) : Int) := by omega
  have b2 : (0 : Int) < ((m + 1 : Nat) : Int) := by omega
  have b3 : m ≤ m + 1 := by omega
  have b4 : ((m + 1 : Nat) : Int) - 1 = (m : Int) := by omega
  have HR := Lib.hid hr
  have HH := Lib.hid hh
  have HM := Lib.hid hm
  have HL := Lib.hid hl
  clear hr hh hg1 hgg hcs hct hm hl hlc hcm h1 hbase
  go_enter Try.func51, Try.ntmps51
  go_wp2_with fail
  go_region
  go_upto_region 4 with (fail)
  go_cut [] (fun wc => Hid (TakeW w base hb g m cap (at_ l 0) ((l.set 0 (at_ l m)).take m) wc))
  case first =>
    go_wp2_with fail
    go_meet
    case rel => exact Lib.hid (take0 HH.out HR.out HM.out hg0 hglt _ _ rfl rfl)
  case rest =>
    have HN : Hid (m ≤ 3518437208882) := Lib.hid (by have := HL.out; have := HM.out; omega)
    have HD0 := Lib.hid (Down.start hp (at_ l m) m HM.out.symm)
    have HL0 : Hid (((l.set 0 (at_ l m)).take m).length = m) := Lib.hid (by rw [List.length_take, List.length_set, HM.out]; omega)
    clear b1 b2 b3 b4 z0 z1 z2 cr0 cr1 cr2 cm0 cm1 cm2 hf0 hc0
    have hmm2 := HN.out
    go_wp2_with fail
    go_loopg [5, 6] m (fun kq v5 v6 w' => ∃ (i : Nat) (lk : List Hd), v5 = .int .i64 i ∧ i ≤ m ∧ m ≤ kq + i ∧ Hid (lk.length = m) ∧ Hid (Down lk i) ∧ Hid (lk.Perm ((l.set 0 (at_ l m)).take m)) ∧ Hid (TakeW w base hb g m cap (at_ l 0) lk w'))
    case atStart => exact ⟨0, _, rfl, by omega, by omega, HL0, HD0, Lib.hid (List.Perm.refl _), hcut⟩
    case round =>
      obtain ⟨i, lk, rfl, him, hik, HLK, HD, HP, HW⟩ := hrel
      obtain ⟨d, hd⟩ : ∃ d, 2 * i + 1 = d := ⟨_, rfl⟩
      obtain ⟨e, he⟩ : ∃ e, d + 1 = e := ⟨_, rfl⟩
      have hmm3 := HN.out
      have hd1 : 2 * (i : Int) + 1 = (d : Int) := by omega
      have he1 : (d : Int) + 1 = (e : Int) := by omega
      have HDD := Lib.hid hd
      have HEE := Lib.hid he
      clear hd he
      have HIK := Lib.hid hik
      have HIM := Lib.hid him
      have hnb0 : (d : Int) ≤ 7036874417767 := by omega
      have hnb1 : (e : Int) ≤ 7036874417768 := by omega
      have hwe : IntKind.i64.wrap (e : Int) = (e : Int) := IntWalk.i64_in _ ⟨by omega, by omega⟩
      clear hik
      go_upto_region 7 with (fail)
      go_cut [64] (fun v64 wb => ∃ b : Bool, v64 = .bool b ∧ Hid (b = true → e < m ∧ (at_ lk e).Lt (at_ lk d)) ∧ Hid (b = false → e < m → (at_ lk d).le (at_ lk e)) ∧ Hid (TakeW w base hb g m cap (at_ l 0) lk wb))
      case first =>
        have hcw : wr.cell? ⟨hb, 0, none⟩ = some (.slice (some ⟨g, 0, none⟩) m cap) := by rw [cell_of_row wr hb 0 _ _ _ HW.out.box]; rfl
        by_cases hem : e < m
        · have hg7 : decide ((e : Int) < (m : Int)) = true := decide_eq_true (by omega)
          have hb1 : (e : Int) < (m : Int) := by omega
          have hb2 : (d : Int) < (m : Int) := by omega
          obtain ⟨ci0, ci1, ci2⟩ := HW.out.row.cell e (by rw [HLK.out]; exact hem)
          obtain ⟨cp0, cp1, cp2⟩ := HW.out.row.cell d (by rw [HLK.out]; omega)
          have HEM := Lib.hid hem
          clear hem
          have hdec : Hid (decide ((at_ lk e).Lt (at_ lk d)) = true → (at_ lk e).Lt (at_ lk d)) := Lib.hid of_decide_eq_true
          have hdec2 : Hid (decide ((at_ lk e).Lt (at_ lk d)) = false → (at_ lk d).le (at_ lk e)) := Lib.hid of_decide_eq_false
          generalize hbb : decide ((at_ lk e).Lt (at_ lk d)) = bb at hdec hdec2
          go_region_held3 (fun w' => w'.cell? ⟨hb, 0, none⟩ = some (.slice (some ⟨g, 0, none⟩) m cap) ∧ w'.cell? ⟨g, e * 3, none⟩ = some (.int .u64 (at_ lk e).key) ∧ w'.cell? ⟨g, e * 3 + 1, none⟩ = some (.int .i64 (at_ lk e).frm) ∧ w'.cell? ⟨g, e * 3 + 2, none⟩ = some (.slice (at_ lk e).ad (at_ lk e).len (at_ lk e).cap) ∧ w'.cell? ⟨g, d * 3, none⟩ = some (.int .u64 (at_ lk d).key) ∧ w'.cell? ⟨g, d * 3 + 1, none⟩ = some (.int .i64 (at_ lk d).frm) ∧ w'.cell? ⟨g, d * 3 + 2, none⟩ = some (.slice (at_ lk d).ad (at_ lk d).len (at_ lk d).cap))
            (first
              | go_keep
              | (go_split_ands
                 refine ⟨?_, ?_, ?_, ?_, ?_, ?_, ?_⟩ <;> (refine (hbl.cell (World.block_lt_of_cell? _ _ (by assumption))).trans ?_; assumption)))
            ((go_at_call 60; refine (less_calls (at_ lk e) (at_ lk d) _).mono ?_; rw [hbb]; rintro e w1 ⟨rfl, hbl⟩))
          go_wp2_with (fail)
          go_meet
          case rel => exact ⟨bb, rfl, Lib.hid (fun h => ⟨HEM.out, hdec.out h⟩), Lib.hid (fun h _ => hdec2.out h), Lib.hid (HW.out.drew.below hbl)⟩
        · have hg7 : decide ((e : Int) < (m : Int)) = false := decide_eq_false (by omega)
          have hg8 : decide (e < m) = false := decide_eq_false hem
          have HEM := Lib.hid hem
          clear hem
          go_quiet (fail)
          go_wp2_with (fail)
          go_meet
          case rel => exact ⟨false, rfl, Lib.hid (fun h => nomatch h), Lib.hid (fun _ h => absurd h HEM.out), Lib.hid (HW.out.drewN _)⟩
      case rest =>
        obtain ⟨b, rfl, HB1, HB2, HW1⟩ := hcut
        clear HW
        go_upto_if 64 with (fail)
        go_cut [6] (fun v6 wd => ∃ c : Nat, v6 = .int .i64 c ∧ Hid (c ≤ e) ∧ Hid (c < m → 0 < c ∧ (c - 1) / 2 = i ∧ ∀ j, 0 < j → j < m → (j - 1) / 2 = i → (at_ lk c).le (at_ lk j)) ∧ Hid (m ≤ c → ∀ j, 0 < j → j < m → (j - 1) / 2 ≠ i) ∧ Hid (TakeW w base hb g m cap (at_ l 0) lk wd))
        case first =>
          cases b
          · go_wp2_with fail
            go_meet
            case rel =>
              have q1 := HDD.out
              have q2 := HEE.out
              have q3 := HB2.out (by simp)
              refine ⟨d, rfl, Lib.hid (by omega), Lib.hid (fun h => ⟨by omega, by omega, fun j j0 jm je => ?_⟩), Lib.hid (fun h j j0 jm je => by omega), HW1⟩
              rcases (show j = d ∨ j = e from by omega) with q | q <;> subst q
              · exact Hd.le_refl _
              · exact q3 jm
          · go_wp2_with fail
            go_meet
            case rel =>
              have q1 := HDD.out
              have q2 := HEE.out
              obtain ⟨q3, q4⟩ := HB1.out (by simp)
              refine ⟨e, rfl, Lib.hid (by omega), Lib.hid (fun h => ⟨by omega, by omega, fun j j0 jm je => ?_⟩), Lib.hid (fun h j j0 jm je => by omega), HW1⟩
              rcases (show j = d ∨ j = e from by omega) with q | q <;> subst q
              · exact Hd.le_of_lt q4
              · exact Hd.le_refl _
        case rest =>
          obtain ⟨c, rfl, HCE, HC1, HC2, HW2⟩ := hcut
          clear HW1 HB1 HB2
          have hmm4 := HN.out
          go_upto_region 9 with (fail)
          go_cut [87] (fun v87 we => ∃ b : Bool, v87 = .bool b ∧ Hid (b = true → Heap lk) ∧ Hid (b = false → c < m ∧ (at_ lk c).Lt (at_ lk i)) ∧ Hid (TakeW w base hb g m cap (at_ l 0) lk we))
          case first =>
            by_cases hcm : c < m
            · obtain ⟨hc0, hcp, hcmin⟩ := HC1.out hcm
              have hcw : wc.cell? ⟨hb, 0, none⟩ = some (.slice (some ⟨g, 0, none⟩) m cap) := by rw [cell_of_row wc hb 0 _ _ _ HW2.out.box]; rfl
              have hg9 : decide ((m : Int) ≤ (c : Int)) = false := decide_eq_false (by omega)
              have hg10 : decide (m ≤ c) = false := decide_eq_false (by omega)
              have hb1 : (c : Int) < (m : Int) := by omega
              have hb2 : (i : Int) < (m : Int) := by omega
              obtain ⟨ci0, ci1, ci2⟩ := HW2.out.row.cell c (by rw [HLK.out]; exact hcm)
              obtain ⟨cp0, cp1, cp2⟩ := HW2.out.row.cell i (by rw [HLK.out]; omega)
              have hdec : Hid (decide ((at_ lk c).Lt (at_ lk i)) = true → c < m ∧ (at_ lk c).Lt (at_ lk i)) := Lib.hid (fun h => ⟨hcm, of_decide_eq_true h⟩)
              have hdec2 : Hid (decide ((at_ lk c).Lt (at_ lk i)) = false → Heap lk) := Lib.hid (fun h => HD.out.stop (fun j j0 jm je => Hd.le_trans (of_decide_eq_false h) (hcmin j j0 (by rw [← HLK.out]; exact jm) je)))
              generalize hbb : decide ((at_ lk c).Lt (at_ lk i)) = bb at hdec hdec2
              clear hcm hc0 hcp hcmin
              go_region_held3 (fun w' => w'.cell? ⟨hb, 0, none⟩ = some (.slice (some ⟨g, 0, none⟩) m cap) ∧ w'.cell? ⟨g, c * 3, none⟩ = some (.int .u64 (at_ lk c).key) ∧ w'.cell? ⟨g, c * 3 + 1, none⟩ = some (.int .i64 (at_ lk c).frm) ∧ w'.cell? ⟨g, c * 3 + 2, none⟩ = some (.slice (at_ lk c).ad (at_ lk c).len (at_ lk c).cap) ∧ w'.cell? ⟨g, i * 3, none⟩ = some (.int .u64 (at_ lk i).key) ∧ w'.cell? ⟨g, i * 3 + 1, none⟩ = some (.int .i64 (at_ lk i).frm) ∧ w'.cell? ⟨g, i * 3 + 2, none⟩ = some (.slice (at_ lk i).ad (at_ lk i).len (at_ lk i).cap))
                (first
                  | go_keep
                  | (go_split_ands
                     refine ⟨?_, ?_, ?_, ?_, ?_, ?_, ?_⟩ <;> (refine (hbl.cell (World.block_lt_of_cell? _ _ (by assumption))).trans ?_; assumption)))
                ((go_at_call 60; refine (less_calls (at_ lk c) (at_ lk i) _).mono ?_; rw [hbb]; rintro e w1 ⟨rfl, hbl⟩))
              go_wp2_with (fail)
              go_meet
              case rel => exact ⟨!bb, rfl, Lib.hid (fun h => hdec2.out (by simpa using h)), Lib.hid (fun h => hdec.out (by simpa using h)), Lib.hid (HW2.out.drew.below hbl)⟩
            · have hg9 : decide ((m : Int) ≤ (c : Int)) = true := decide_eq_true (by omega)
              have hg10 : decide (m ≤ c) = true := decide_eq_true (by omega)
              have HCM : Hid (m ≤ c) := Lib.hid (by omega)
              clear hcm
              go_quiet (fail)
              go_wp2_with (fail)
              go_meet
              case rel => exact ⟨true, rfl, Lib.hid (fun _ => HD.out.stop (fun j j0 jm je => absurd je (HC2.out HCM.out j j0 (by rw [← HLK.out]; exact jm)))), Lib.hid (fun h => nomatch h), Lib.hid (HW2.out.drewN _)⟩
          case rest =>
            obtain ⟨b, rfl, HS1, HS2, HW3⟩ := hcut
            clear HW2
            have hmm5 := HN.out
            cases b with
            | true =>
              have hgot := HW3.out.got
              have hres := HW3.out.res
              have gx0 : wc.cell? ⟨w.heap.size + 1, 0, none⟩ = some (.int .u64 (at_ l 0).key) := by rw [cell_of_row wc _ 0 _ _ _ hgot]; rfl
              have gx1 : wc.cell? ⟨w.heap.size + 1, 1, none⟩ = some (.int .i64 (at_ l 0).frm) := by rw [cell_of_row wc _ 1 _ _ _ hgot]; rfl
              have gx2 : wc.cell? ⟨w.heap.size + 1, 2, none⟩ = some (.slice (at_ l 0).ad (at_ l 0).len (at_ l 0).cap) := by rw [cell_of_row wc _ 2 _ _ _ hgot]; rfl
              have gy0 : wc.cell? ⟨w.heap.size, 0, none⟩ = some (.int .u64 0) := by rw [cell_of_row wc _ 0 _ _ _ hres]; rfl
              have gy1 : wc.cell? ⟨w.heap.size, 1, none⟩ = some (.int .i64 0) := by rw [cell_of_row wc _ 1 _ _ _ hres]; rfl
              have gy2 : wc.cell? ⟨w.heap.size, 2, none⟩ = some (.slice none 0 0) := by rw [cell_of_row wc _ 2 _ _ _ hres]; rfl
              have gf : ∀ k, wc.frozen? ⟨w.heap.size, k, none⟩ = false := fun k => by simp [World.frozen?, hres]
              have gf0 := gf 0
              have gf1 := gf 1
              have gf2 := gf 2
              clear gf hgot hres
              have HQ := Lib.hid (HS1.out rfl)
              clear HS1 HS2
              clear hmm5
              have HFN := Lib.hid (takeEnd HW3.out _ rfl)
              go_wp2_with fail
              obtain ⟨f1, f2, f3, f4⟩ := HFN.out
              refine bodyPost_ret (results_cell_row rfl _ _ w.heap.size 91 _ (0, 0) _ rfl f1 Try.underlying91 rfl size91) rfl ?_
              refine ⟨at_ l 0, rfl, _, lk, f2, f3, HQ.out, ?_, ?_, rfl, f4.mono (fun j hj _ => ?_)⟩
              · exact ((HP.out.cons _).trans (take_perm l m HM.out.symm)).symm
              · intro y hy
                have hy2 := ((HP.out.cons (at_ l 0)).trans (take_perm l m HM.out.symm)).mem_iff.1 (List.mem_cons_of_mem _ hy)
                obtain ⟨q, hq, rfl⟩ := List.getElem_of_mem hy2
                rw [← at_get l q hq]
                exact hp.root q hq
              · rcases hj with hj | hj
                · exact .inl hj
                · exact .inr (by rw [hj]; rfl)
            | false =>
              obtain ⟨hcm, hlt⟩ := HS2.out rfl
              have HLT := Lib.hid hlt
              clear HS1 HS2 hlt
              obtain ⟨hc0, hcp, hcmin⟩ := HC1.out hcm
              have HCP := Lib.hid hcp
              have hcw : wc.cell? ⟨hb, 0, none⟩ = some (.slice (some ⟨g, 0, none⟩) m cap) := by rw [cell_of_row wc hb 0 _ _ _ HW3.out.box]; rfl
              have b1 : (c : Int) < (m : Int) := by omega
              have b2 : (i : Int) < (m : Int) := by omega
              obtain ⟨ci0, ci1, ci2⟩ := HW3.out.row.cell c (by rw [HLK.out]; exact hcm)
              obtain ⟨cp0, cp1, cp2⟩ := HW3.out.row.cell i (by rw [HLK.out]; omega)
              have z0 := HW3.out.row.frozen (c * 3)
              have z1 := HW3.out.row.frozen (c * 3 + 1)
              have z2 := HW3.out.row.frozen (c * 3 + 2)
              have z3 := HW3.out.row.frozen (i * 3)
              have z4 := HW3.out.row.frozen (i * 3 + 1)
              have z5 := HW3.out.row.frozen (i * 3 + 2)
              have n0 : ¬ (i * 3 = c * 3) := by omega
              have n1 : ¬ (i * 3 = c * 3 + 1) := by omega
              have n2 : ¬ (i * 3 = c * 3 + 2) := by omega
              have n3 : ¬ (i * 3 + 1 = c * 3) := by omega
              have n4 : ¬ (i * 3 + 2 = c * 3) := by omega
              have m0 : ¬ (c * 3 = i * 3) := by omega
              have m1 : ¬ (c * 3 = i * 3 + 1) := by omega
              have m2 : ¬ (c * 3 = i * 3 + 2) := by omega
              have m3 : ¬ (c * 3 + 1 = i * 3) := by omega
              have m4 : ¬ (c * 3 + 2 = i * 3) := by omega
              have n5 : ¬ (i = c) := by omega
              have m5 : ¬ (c = i) := by omega
              have hic : i < c := by omega
              have HIC := Lib.hid hic
              have HMIN := Lib.hid hcmin
              clear hcp hcmin hic
              go_upto_region 11 with (fail)
              go_region
              go_wp2_with (fail)
              have hil : i < lk.length := by rw [HLK.out]; omega
              have hcl : c < lk.length := by rw [HLK.out]; exact hcm
              have F1 := Lib.hid (HD.out.step hcl HCP.out hc0 (fun j j0 jm je => HMIN.out j j0 (by rw [← HLK.out]; exact jm) je) HLT.out)
              have F2 : Hid ((swap lk i c).length = m) := Lib.hid (by rw [swap_length]; exact HLK.out)
              have F3 := Lib.hid ((swap_perm lk i c hil hcl).trans HP.out)
              have F4 := Lib.hid (HW3.out.swap i c hil hcl).drew
              have F5 : m ≤ m - c + c := by omega
              have F6 : m - c < gk := by have := HIK.out; have := HIC.out; omega
              have F7 : c ≤ m := by omega
              simp only [storeHd] at F4
              clear n0 n1 n2 n3 n4 n5 m0 m1 m2 m3 m4 m5 z0 z1 z2 z3 z4 z5 ci0 ci1 ci2 cp0 cp1 cp2 hcw
              go_roundg (m - c)
              case measure => exact F6
              case rel => exact ⟨c, swap lk i c, rfl, F7, F5, F2, F1, F3, F4⟩
end Go.Proofs.Ytojbfjfjhfnopaa.HeapS
end

section
/- What lies while merge.Merge's iterator goes, at entries. -/
namespace Go.Proofs.Ytojbfjfjhfnopaa.MergeS
open Go.RowKit Go.Shelf RangeD SeqS MergeL HeapL HeapS
attribute [local go_sem] Oper.semAt_some
set_option linter.unusedVariables false
theorem infoElem : (Try.prog.info? 9).map (fun i => (i.zero, i.size, i.bytes)) = some (some (.string ByteArray.empty), 1, 16) := by kernel_rfl
theorem fits_by {n : Nat} (h : (n + 1) * 24 ≤ 140737488355328) : (n + 1) * 16 ≤ 140737488355328 := by omega
theorem loop_nums {i i2 n k : Nat} (h : i + 1 = i2) (hl : i < n) (hk : n ≤ k + i) : i2 ≤ n ∧ n ≤ n - i2 + i2 ∧ n - i2 < k := by omega
theorem loop_fits {n i : Nat} (h : (n + 1) * 40 ≤ 140737488355328) (hi : i ≤ n) : -9223372036854775808 ≤ (i : Int) ∧ (i : Int) ≤ 9223372036854775807 := by omega
theorem len_max {n : Nat} (h : (n + 1) * 24 ≤ 140737488355328) : n + 1 ≤ maxLen := by unfold maxLen; omega
theorem len_bound {α : Type} {pre more xs : List α} {x : α} (h : pre ++ [x] ++ more = xs) (h1 : (xs.length + 1) * 24 ≤ 140737488355328) : (pre.length + 1) * 24 ≤ 140737488355328 := by
  have h2 := congrArg List.length h
  simp only [List.length_append, List.length_cons, List.length_nil] at h2
  omega
section
variable {α : Type} (ek : α → Int) (ev : α → ByteArray)
/-- An iterator: its function, what it has captured, the blocks that it reads, its list. -/
structure It (α : Type) where
  gf : Nat
  lb : Array Value
  D : Blocks
  xs : List α
structure ItOk (it : It α) (W : World) : Prop where
  seq : SeqD Try.prog it.gf it.lb (fun x : α => #[agg ek ev x]) it.D (fun ys => ys = it.xs) (fun pre => ∃ more, pre ++ more = it.xs) (fun pre x => ∃ more, pre ++ [x] ++ more = it.xs) W
  goes : ∀ args w, (callFunc it.gf args).run Try.prog w = .ok (.enter it.gf args) w
  lt : ∀ k, it.D k → k < W.heap.size
  len : (it.xs.length + 1) * 24 ≤ 140737488355328
/-- What lies for Merge's iterator. -/
structure MLaid (W : World) (bL bK : Nat) (A : Option Addr) (gL cap kf : Nat) (its : List (It α)) : Prop where
  lists : W.heap[bL]? = some (.cells #[.slice A its.length cap] 43 (0, 0))
  at_ : 0 < its.length → A = some ⟨gL, 0, none⟩
  lt : gL < W.heap.size
  fns : ∀ (i : Nat) it, its[i]? = some it → W.cell? ⟨gL, i, none⟩ = some (.func (.func it.gf) #[] it.lb)
  key : W.heap[bK]? = some (.cells #[.func (.func kf) #[] #[]] 42 (0, 0))
  oks : ∀ it ∈ its, ItOk ek ev it W
  len : (its.length + 1) * 40 ≤ 140737488355328
def MDeps (bL bK gL : Nat) (its : List (It α)) : Blocks := fun k => k = bL ∨ k = bK ∨ k = gL ∨ ∃ it ∈ its, it.D k
theorem MLaid.keep {W W' : World} {bL bK : Nat} {A : Option Addr} {gL cap kf : Nat} {its : List (It α)} (h : MLaid ek ev W bL bK A gL cap kf its) (hs : W.heap.size ≤ W'.heap.size) (hk : Same (MDeps bL bK gL its) W W') : MLaid ek ev W' bL bK A gL cap kf its :=
  ⟨(hk bL (.inl rfl) (Array.getElem?_eq_some_iff.1 h.lists).1).trans h.lists, h.at_, Nat.lt_of_lt_of_le h.lt hs,
    fun i it hi => by
      have hc : W'.cell? ⟨gL, i, none⟩ = W.cell? ⟨gL, i, none⟩ := by unfold World.cell?; simp only [hk gL (.inr (.inr (.inl rfl))) h.lt]
      rw [hc]
      exact h.fns i it hi,
    (hk bK (.inr (.inl rfl)) (Array.getElem?_eq_some_iff.1 h.key).1).trans h.key,
    fun it hi => ⟨(h.oks it hi).seq.same hs (fun k hk2 hl => hk k (.inr (.inr (.inr ⟨it, hi, hk2⟩))) hl), (h.oks it hi).goes, fun k hk2 => Nat.lt_of_lt_of_le ((h.oks it hi).lt k hk2) hs, (h.oks it hi).len⟩, h.len⟩
theorem MLaid.deps {W : World} {bL bK : Nat} {A : Option Addr} {gL cap kf : Nat} {its : List (It α)} (h : MLaid ek ev W bL bK A gL cap kf its) (k : Nat) (hk : MDeps bL bK gL its k) : k < W.heap.size := by
  rcases hk with e | e | e | ⟨it, hi, hk⟩
  · subst e; exact (Array.getElem?_eq_some_iff.1 h.lists).1
  · subst e; exact (Array.getElem?_eq_some_iff.1 h.key).1
  · subst e; exact h.lt
  · exact (h.oks it hi).lt k hk
/-- What a head's rest is. -/
def RestAt (W : World) (base : Nat) (T : Blocks) (x : Hd) (zs : List α) : Prop :=
  ∃ g o cs, x.ad = some ⟨g, o, none⟩ ∧ x.len = zs.length ∧ x.len ≤ x.cap ∧ x.cap ≤ maxLen ∧ base ≤ g ∧ T g ∧ W.heap[g]? = some (.cells cs 9 (0, 0)) ∧ CellsAt ek ev W g o zs
theorem RestAt.keep {W W' : World} {base : Nat} {T T' : Blocks} {x : Hd} {zs : List α} (h : RestAt ek ev W base T x zs) (hT : ∀ k, T k → T' k) (hk : ∀ g cs, T g → W.heap[g]? = some (.cells cs 9 (0, 0)) → W'.heap[g]? = W.heap[g]?) : RestAt ek ev W' base T' x zs := by
  obtain ⟨g, o, cs, h1, h2, h3, h4, h5, h6, h7, h8⟩ := h
  have := hk g cs h6 h7
  exact ⟨g, o, cs, h1, h2, h3, h4, h5, hT _ h6, this.trans h7, h8.keep _ _ this⟩
/-- The marks that the ranges have left. -/
def Marks (ds : List Deferred) (T : Blocks) (W : World) : Prop := ∃ cs : List Nat, cs.Nodup ∧ ds = cs.map (fun C => ({ target := .collected C, args := #[] } : Deferred)) ∧ ∀ C ∈ cs, T C ∧ W.heap[C]? = some (.deferred (some []))
theorem Marks.nil (T : Blocks) (W : World) : Marks [] T W := ⟨[], List.nodup_nil, rfl, fun C h => by cases h⟩
theorem Marks.keep {ds : List Deferred} {T T' : Blocks} {W W' : World} (h : Marks ds T W) (hT : ∀ k, T k → T' k) (hk : ∀ k, T k → W.heap[k]? = some (.deferred (some [])) → W'.heap[k]? = W.heap[k]?) : Marks ds T' W' := by
  obtain ⟨cs, h1, h2, h3⟩ := h
  exact ⟨cs, h1, h2, fun C hC => ⟨hT C (h3 C hC).1, (hk C (h3 C hC).1 (h3 C hC).2).trans (h3 C hC).2⟩⟩
theorem Marks.more {ds : List Deferred} {T : Blocks} {W : World} (h : Marks ds T W) (C : Nat) (hT : T C) (hC : W.heap[C]? = some (.deferred (some []))) (hn : ∀ k, T k → W.heap[k]? = some (.deferred (some [])) → ({ target := .collected k, args := #[] } : Deferred) ∈ ds → k ≠ C) : Marks ({ target := .collected C, args := #[] } :: ds) T W := by
  obtain ⟨cs, h1, h2, h3⟩ := h
  refine ⟨C :: cs, List.nodup_cons.2 ⟨fun hm => ?_, h1⟩, by rw [h2]; rfl, fun k hk => ?_⟩
  · exact hn C (h3 C hm).1 (h3 C hm).2 (by rw [h2]; exact List.mem_map.2 ⟨C, hm, rfl⟩) rfl
  · rcases List.mem_cons.1 hk with rfl | hk
    · exact ⟨hT, hC⟩
    · exact h3 k hk
theorem Marks.mem {ds : List Deferred} {T : Blocks} {W : World} (h : Marks ds T W) {k : Nat} (hm : ({ target := .collected k, args := #[] } : Deferred) ∈ ds) : T k := by
  obtain ⟨cs, h1, h2, h3⟩ := h
  rw [h2] at hm
  obtain ⟨C, hC, e⟩ := List.mem_map.1 hm
  injection e with e
  injection e with e
  subst e
  exact (h3 C hC).1
/-- The activation is left: the marks are taken. -/
theorem Marks.leave {fn : Func} (hfn : fn.results = #[]) {tmps : Array Value} {R : Ending → World → Prop} {ds : List Deferred} {T : Blocks} {W : World} (h : Marks ds T W) (hR : ∀ W', Turned T T W W' → R (.returned (.tuple #[])) W') : LeavesInM Fence.wide 0 Try.prog fn tmps R ds .returning W := by
  obtain ⟨cs, h1, h2, h3⟩ := h
  subst h2
  induction cs generalizing W with
  | nil => exact ⟨_, results_none hfn _ _ _, hR W (Turned.refl T W)⟩
  | cons C cs ih =>
    obtain ⟨hTC, hC⟩ := h3 C List.mem_cons_self
    have ht : Turned T T W (W.putObj C (.deferred none)) := ⟨rfl, rfl, rfl, by simp [World.putObj], fun _ h => h, fun _ h => .inl h, fun k _ hn => World.putObj_heap_other (fun e => hn (by subst e; exact hTC))⟩
    refine ⟨by simp, .inl ⟨C, _, rfl, run_takeDeferred hC, ih (fun W' hW' => hR W' (ht.trans hW')) (List.nodup_cons.1 h1).2 (fun k hk => ?_)⟩⟩
    obtain ⟨q1, q2⟩ := h3 k (List.mem_cons_of_mem _ hk)
    exact ⟨q1, (World.putObj_heap_other (fun e => (List.nodup_cons.1 h1).1 (by subst e; exact hk))).trans q2⟩
/-- The heap while Merge's iterator goes: W is the world at its call; T are its own blocks. -/
structure MState (W : World) (T : Blocks) (X : World) (v : Value) (l : List Hd) (rem : List (List α)) : Prop where
  size : W.heap.size ≤ X.heap.size
  lo : ∀ k, T k → W.heap.size ≤ k ∧ k < X.heap.size
  th : T W.heap.size
  box : X.heap[W.heap.size]? = some (.cells #[v] 88 (0, 0))
  row : HRow X W.heap.size 91 v l
  tv : ∀ k, v.ownBlock = some k → T k
  heap : Heap l
  heads : Heads ek (RestAt ek ev X W.heap.size T) l rem
  short : l.length ≤ rem.length
theorem MState.keep {W X X' : World} {T T' : Blocks} {v : Value} {l : List Hd} {rem : List (List α)} (h : MState ek ev W T X v l rem) (hs : X.heap.size ≤ X'.heap.size) (hT : ∀ k, T k → T' k) (hlo : ∀ k, T' k → W.heap.size ≤ k ∧ k < X'.heap.size) (hk : Same T X X') : MState ek ev W T' X' v l rem :=
  ⟨Nat.le_trans h.size hs, hlo, hT _ h.th, (hk _ h.th (h.lo _ h.th).2).trans h.box, h.row.keep (fun k hk2 => hk k (h.tv k hk2) (h.lo _ (h.tv k hk2)).2), fun k hk2 => hT _ (h.tv k hk2), h.heap,
    h.heads.mono (fun x xs _ hr => hr.keep _ _ hT (fun g cs hg _ => hk g hg (h.lo g hg).2)), h.short⟩
theorem after_gather {X1 wr Y : World} {T T' : Blocks} {xs : List α} (hX1 : wr.alloc (.cells #[.slice none 0 0] 48) = X1) (hG : GI ek ev X1 wr.heap.size xs T' Y) : wr.heap.size ≤ Y.heap.size ∧ (∀ k, k < wr.heap.size → Y.heap[k]? = wr.heap[k]?) ∧ Turned T (withNew T wr Y) wr Y := by
  subst hX1
  have hs := hG.size
  rw [World.size_alloc] at hs
  have h1 : ∀ k, k < wr.heap.size → Y.heap[k]? = wr.heap[k]? := fun k hk => (hG.same k (by rw [World.size_alloc]; omega) (by omega)).trans (Below.heap_alloc wr _ k hk)
  exact ⟨by omega, h1, Turned.grow hG.os hG.tape hG.output (by omega) (fun k hk _ => h1 k hk)⟩
theorem MState.old {W wr Y : World} {T : Blocks} {v : Value} {l : List Hd} {rem : List (List α)} (h : MState ek ev W T wr v l rem) (hs : wr.heap.size ≤ Y.heap.size) (ho : ∀ k, k < wr.heap.size → Y.heap[k]? = wr.heap[k]?) : MState ek ev W (withNew T wr Y) Y v l rem :=
  h.keep _ _ hs (fun _ h => .inl h) (fun k hk => by
    have := h.size
    rcases hk with hk | hk
    · have := h.lo k hk; omega
    · omega) (fun k _ hk => ho k hk)
/-- A head is put in. -/
theorem MState.put {W Y Z : World} {T : Blocks} {v v' : Value} {l l' : List Hd} {rem rem' : List (List α)} {x : Hd} (h : MState ek ev W T Y v l rem) (ht : Turns (fun k => k = W.heap.size ∨ v.ownBlock = some k) Y Z)
    (h1 : Z.heap[W.heap.size]? = some (.cells #[v'] 88 (0, 0))) (h2 : HRow Z W.heap.size 91 v' l') (h3 : Heap l') (h4 : l'.Perm (x :: l)) (h5 : v'.ownBlock = v.ownBlock ∨ ∃ b, v'.ownBlock = some b ∧ Y.heap.size ≤ b)
    (hh : Heads ek (RestAt ek ev Y W.heap.size T) (x :: l) rem') (hr : l.length + 1 ≤ rem'.length) : MState ek ev W (withNew T Y Z) Z v' l' rem' ∧ Turned T (withNew T Y Z) Y Z := by
  have hs := ht.size
  have hsz := h.size
  refine ⟨⟨by omega, fun k hk => ?_, .inl h.th, h1, h2, fun k hk => ?_, h3, ?_, ?_⟩, Turned.grow ht.os ht.tape ht.output hs (fun k hk hn => ht.same k hk (fun e => hn ?_))⟩
  · rcases hk with hk | hk
    · have := h.lo k hk; omega
    · omega
  · rcases h5 with h5 | ⟨b, h5, h6⟩
    · exact .inl (h.tv k (by rw [← h5]; exact hk))
    · rw [h5] at hk
      injection hk with hk
      subst hk
      exact .inr ⟨h6, (h2.blocks _ h5).2⟩
  · refine (hh.perm h4).mono (fun y ys hy hR => hR.keep _ _ (fun k hk => .inl hk) (fun g cs hg hc => ht.same g (h.lo g hg).2 (fun e => ?_)))
    rcases e with e | e
    · have := h.box
      rw [← e, hc] at this
      injection this with this
      injection this with _ this _
      cases this
    · obtain ⟨cur, hcur⟩ := h.row.typed g e
      rw [hc] at hcur
      injection hcur with hcur
      injection hcur with _ hcur _
      cases hcur
  · rw [h4.length_eq]
    exact hr
  · rcases e with e | e
    · subst e; exact h.th
    · exact h.tv k e
theorem MState.apart {W Y : World} {T : Blocks} {v : Value} {l : List Hd} {rem : List (List α)} (h : MState ek ev W T Y v l rem) {b : Nat} {o : Obj} (hb : Y.heap[b]? = some o) (h1 : ∀ cs, o ≠ .cells cs 88 (0, 0)) (h2 : ∀ cs, o ≠ .cells cs 91 (0, 0)) : ¬ (b = W.heap.size ∨ v.ownBlock = some b) := by
  rintro (e | e)
  · subst e
    rw [h.box] at hb
    injection hb with hb
    exact h1 _ hb.symm
  · obtain ⟨cur, hc⟩ := h.row.typed b e
    rw [hc] at hb
    injection hb with hb
    exact h2 _ hb.symm
/-- The key has been asked, and the head is put in. -/
theorem MState.more {W Y w1 w2 : World} {T : Blocks} {v v' : Value} {l l' : List Hd} {rem rem' : List (List α)} {x : Hd} (h : MState ek ev W T Y v l rem) (hbl : Below Y.heap.size Y w1) (ht : Turns (fun k => k = W.heap.size ∨ v.ownBlock = some k) w1 w2)
    (h1 : w2.heap[W.heap.size]? = some (.cells #[v'] 88 (0, 0))) (h2 : HRow w2 W.heap.size 91 v' l') (h3 : Heap l') (h4 : l'.Perm (x :: l)) (h5 : v'.ownBlock = v.ownBlock ∨ ∃ b, v'.ownBlock = some b ∧ w1.heap.size ≤ b)
    (hh : Heads ek (RestAt ek ev Y W.heap.size T) (x :: l) rem') (hr : l.length + 1 ≤ rem'.length) :
    ∃ T3 : Blocks, MState ek ev W T3 w2 v' l' rem' ∧ Turned T T3 Y w2 ∧ (∀ k, T k → T3 k) ∧ (∀ ds, Marks ds T Y → Marks ds T3 w2) ∧ (∀ D : Blocks, (∀ k, D k → k < W.heap.size) → Same D Y w2) := by
  have hw := h.old _ _ hbl.size (fun k hk => hbl.block k hk)
  have hh1 := hh.mono (R' := RestAt ek ev w1 W.heap.size (withNew T Y w1)) (fun y ys _ hR => hR.keep _ _ (fun _ h => .inl h) (fun g cs hg _ => hbl.block g (h.lo g hg).2))
  obtain ⟨q1, q2⟩ := hw.put _ _ ht h1 h2 h3 h4 h5 hh1 hr
  have q3 : Turned T (withNew T Y w1) Y w1 := Turned.grow hbl.os hbl.tape hbl.output hbl.size (fun k hk _ => hbl.block k hk)
  refine ⟨_, q1, q3.trans q2, fun k hk => .inl (.inl hk), fun ds hm => hm.keep (fun k hk => .inl (.inl hk)) (fun k hk hd => ?_), fun D hD k hk hl => ?_⟩
  · have hk1 := (h.lo k hk).2
    have hk2 := hbl.block k hk1
    exact (ht.same k (Nat.lt_of_lt_of_le hk1 hbl.size) (hw.apart _ _ (hk2.trans hd) (fun _ e => (by cases e)) (fun _ e => (by cases e)))).trans hk2
  · refine (ht.same k (Nat.lt_of_lt_of_le hl hbl.size) (fun e => ?_)).trans (hbl.block k hl)
    have := hD k hk
    rcases e with e | e
    · omega
    · have := (h.row.blocks k e).1; omega
theorem heap_fits2 {l n : Nat} (h : (n + 1) * 40 ≤ 140737488355328) (hl : l ≤ n) : (l + 1) * 40 ≤ 140737488355328 := by omega
theorem heap_fits {l i n : Nat} (h : (n + 1) * 40 ≤ 140737488355328) (hi : i < n) (hl : l ≤ i) : (l + 1) * 40 ≤ 140737488355328 := by omega
theorem heads_more {R : Hd → List α → Prop} {l : List Hd} {rem : List (List α)} {key : α → Int} (h : Heads key R l rem) {zs : List α} {y : α} {ys : List α} (hz : zs = y :: ys) (x : Hd) (h1 : x.frm = (rem.length : Int)) (h2 : x.key = key y) (h3 : R x zs) : Heads key R (x :: l) (rem ++ [zs]) := by
  subst hz
  exact h.more y ys x h1 h2 h3
/-- A list that has been gathered gives a head. -/
theorem RestAt.fresh {W wr X1 Y : World} {T T' : Blocks} {xs : List α} {A7 : Option Addr} {c7 : Nat} (hW : W.heap.size ≤ wr.heap.size) (hX1 : wr.alloc (.cells #[.slice none 0 0] 48) = X1) (hG : GI ek ev X1 wr.heap.size xs T' Y) (hv : Y.heap[wr.heap.size]? = some (.cells #[.slice A7 xs.length c7] 48 (0, 0))) (hp : 0 < xs.length) (i : Int) :
    ∃ g, A7 = some ⟨g, 0, none⟩ ∧ ∀ k, RestAt ek ev Y W.heap.size (withNew T wr Y) ⟨k, i, A7, xs.length, c7⟩ xs := by
  obtain ⟨v, q1, q2, q3⟩ := hG.row
  rw [hv] at q1
  injection q1 with q1
  injection q1 with q1
  have : Value.slice A7 xs.length c7 = v := by simpa using q1
  subst this
  rcases q2.2 with ⟨e, hn⟩ | ⟨g, cap, cur, e, hb, hgg, hn, hm, _, _⟩
  · omega
  · injection e with e1 e2 e3
    subst e1 e3
    refine ⟨g, rfl, fun k => ⟨g, 0, cur, rfl, rfl, hn, hm, ?_, .inr ⟨?_, (Array.getElem?_eq_some_iff.1 hgg).1⟩, hgg, cellsAt_of_own ek ev q2⟩⟩
    · rw [← hX1, World.size_alloc] at hb; omega
    · rw [← hX1, World.size_alloc] at hb; omega
end
end Go.Proofs.Ytojbfjfjhfnopaa.MergeS
end

section
/- The heap while heads are taken and put back. -/
namespace Go.Proofs.Ytojbfjfjhfnopaa.MergeS
open Go.RowKit Go.Shelf RangeD SeqS MergeL HeapL
set_option linter.unusedVariables false
/-- The heap's own blocks: W is the world at the call, T what is the iterator's own. -/
structure HState (W : World) (T : Blocks) (X : World) (v : Value) (l : List Hd) : Prop where
  size : W.heap.size ≤ X.heap.size
  lo : ∀ k, T k → W.heap.size ≤ k ∧ k < X.heap.size
  th : T W.heap.size
  box : X.heap[W.heap.size]? = some (.cells #[v] 88 (0, 0))
  row : HRow X W.heap.size 91 v l
  tv : ∀ k, v.ownBlock = some k → T k
  heap : Heap l
/-- One head, in a row of its own. -/
theorem one_row (w : World) (base : Nat) (hb : base ≤ w.heap.size) (x : Hd) : HRow (w.alloc (.cells #[.int .u64 x.key, .int .i64 x.frm, .slice x.ad x.len x.cap] 91)) base 91 (.slice (some ⟨w.heap.size, 0, none⟩) 1 1) [x] := by
  refine ⟨⟨rfl, .inr ⟨w.heap.size, 1, _, rfl, hb, World.alloc_heap_new w _, Nat.le_refl _, by unfold maxLen; omega, rfl, rfl⟩⟩, fun y hy => ?_⟩
  rw [List.mem_singleton] at hy
  subst hy
  rfl
section
variable {W X Y Z : World} {T T' : Blocks} {v v' : Value} {l l' : List Hd}
theorem HState.keep (h : HState W T X v l) (hs : X.heap.size ≤ Y.heap.size) (hT : ∀ k, T k → T' k) (hlo : ∀ k, T' k → W.heap.size ≤ k ∧ k < Y.heap.size) (hk : Same T X Y) : HState W T' Y v l :=
  ⟨Nat.le_trans h.size hs, hlo, hT _ h.th, (hk _ h.th (h.lo _ h.th).2).trans h.box, h.row.keep (fun k hk2 => hk k (h.tv k hk2) (h.lo _ (h.tv k hk2)).2), fun k hk2 => hT _ (h.tv k hk2), h.heap⟩
theorem HState.same (h : HState W T X v l) (hs : X.heap.size ≤ Y.heap.size) (hk : Same T X Y) : HState W T Y v l :=
  h.keep hs (fun _ h => h) (fun k hk => ⟨(h.lo k hk).1, Nat.lt_of_lt_of_le (h.lo k hk).2 hs⟩) hk
theorem HState.old (h : HState W T X v l) (hs : X.heap.size ≤ Y.heap.size) (ho : ∀ k, k < X.heap.size → Y.heap[k]? = X.heap[k]?) : HState W (withNew T X Y) Y v l :=
  h.keep hs (fun _ h => .inl h) (fun k hk => by
    have := h.size
    rcases hk with hk | hk
    · have := h.lo k hk; omega
    · omega) (fun k _ hk => ho k hk)
theorem HState.apart (h : HState W T Y v l) {b : Nat} {o : Obj} (hb : Y.heap[b]? = some o) (h1 : ∀ cs, o ≠ .cells cs 88 (0, 0)) (h2 : ∀ cs, o ≠ .cells cs 91 (0, 0)) : ¬ (b = W.heap.size ∨ v.ownBlock = some b) := by
  rintro (e | e)
  · subst e
    rw [h.box] at hb
    injection hb with hb
    exact h1 _ hb.symm
  · obtain ⟨cur, hc⟩ := h.row.typed b e
    rw [hc] at hb
    injection hb with hb
    exact h2 _ hb.symm
/-- put, or take, has been called. -/
theorem HState.turn (h : HState W T Y v l) (ht : Turns (fun k => k = W.heap.size ∨ v.ownBlock = some k) Y Z) (h1 : Z.heap[W.heap.size]? = some (.cells #[v'] 88 (0, 0))) (h2 : HRow Z W.heap.size 91 v' l') (h3 : Heap l')
    (h5 : v'.ownBlock = v.ownBlock ∨ ∃ b, v'.ownBlock = some b ∧ Y.heap.size ≤ b) : HState W (withNew T Y Z) Z v' l' ∧ Turned T (withNew T Y Z) Y Z := by
  have hs := ht.size
  have hsz := h.size
  refine ⟨⟨by omega, fun k hk => ?_, .inl h.th, h1, h2, fun k hk => ?_, h3⟩, Turned.grow ht.os ht.tape ht.output hs (fun k hk hn => ht.same k hk (fun e => hn ?_))⟩
  · rcases hk with hk | hk
    · have := h.lo k hk; omega
    · omega
  · rcases h5 with h5 | ⟨b, h5, h6⟩
    · exact .inl (h.tv k (by rw [← h5]; exact hk))
    · rw [h5] at hk
      injection hk with hk
      subst hk
      exact .inr ⟨h6, (h2.blocks _ h5).2⟩
  · rcases e with e | e
    · subst e; exact h.th
    · exact h.tv k e
/-- What lies elsewhere, of another type, is left. -/
theorem HState.turn_same (h : HState W T Y v l) (ht : Turns (fun k => k = W.heap.size ∨ v.ownBlock = some k) Y Z) {b : Nat} {o : Obj} (hb : Y.heap[b]? = some o) (h1 : ∀ cs, o ≠ .cells cs 88 (0, 0)) (h2 : ∀ cs, o ≠ .cells cs 91 (0, 0)) : Z.heap[b]? = Y.heap[b]? :=
  ht.same b (Array.getElem?_eq_some_iff.1 hb).1 (h.apart hb h1 h2)
theorem HState.turn_low (h : HState W T Y v l) (ht : Turns (fun k => k = W.heap.size ∨ v.ownBlock = some k) Y Z) {D : Blocks} (hD : ∀ k, D k → k < W.heap.size) : Same D Y Z := fun k hk hl => ht.same k hl (fun e => by
  have := hD k hk
  rcases e with e | e
  · omega
  · have := (h.row.blocks k e).1; omega)
theorem Marks.turned {ds : List Deferred} (hm : Marks ds T Y) (hT : ∀ k, T k → T' k) (h : ∀ k, T k → Y.heap[k]? = some (.deferred (some [])) → Z.heap[k]? = Y.heap[k]?) : Marks ds T' Z := hm.keep hT h
section
variable {α : Type} {ek : α → Int} {ev : α → ByteArray} {rem : List (List α)}
theorem MState.state (h : MState ek ev W T X v l rem) : HState W T X v l := ⟨h.size, h.lo, h.th, h.box, h.row, h.tv, h.heap⟩
theorem HState.full (h : HState W T X v l) (hh : Heads ek (RestAt ek ev X W.heap.size T) l rem) (hr : l.length ≤ rem.length) : MState ek ev W T X v l rem := ⟨h.size, h.lo, h.th, h.box, h.row, h.tv, h.heap, hh, hr⟩
/-- The heads' rests lie on through put and take. -/
theorem HState.rests (h : HState W T Y v l) (ht : Turns (fun k => k = W.heap.size ∨ v.ownBlock = some k) Y Z) {x : Hd} {zs : List α} (hR : RestAt ek ev Y W.heap.size T x zs) : RestAt ek ev Z W.heap.size (withNew T Y Z) x zs :=
  hR.keep _ _ (fun _ h => .inl h) (fun g cs _ hc => h.turn_same ht hc (fun _ e => (by cases e)) (fun _ e => (by cases e)))
theorem HState.marks {ds : List Deferred} (h : HState W T Y v l) (ht : Turns (fun k => k = W.heap.size ∨ v.ownBlock = some k) Y Z) (hm : Marks ds T Y) : Marks ds (withNew T Y Z) Z :=
  hm.keep (fun _ h => .inl h) (fun k _ hd => h.turn_same ht hd (fun _ e => (by cases e)) (fun _ e => (by cases e)))
/-- A head has been taken, and laid in a cell of its own. -/
theorem MState.taken {w1 : World} {x : Hd} (h : MState ek ev W T Y v l rem) (ht : Turns (fun k => k = W.heap.size ∨ v.ownBlock = some k) Y w1) (h1 : w1.heap[W.heap.size]? = some (.cells #[v'] 88 (0, 0))) (h2 : HRow w1 W.heap.size 91 v' l') (h3 : Heap l') (h5 : v'.ownBlock = v.ownBlock) (h4 : l.Perm (x :: l')) (o : Obj) :
    ∃ T3 : Blocks, HState W T3 (w1.alloc o) v' l' ∧ Heads ek (RestAt ek ev (w1.alloc o) W.heap.size T3) (l' ++ [x]) rem ∧ Turned T T3 Y (w1.alloc o) ∧ (∀ ds, Marks ds T Y → Marks ds T3 (w1.alloc o)) ∧ (∀ D : Blocks, (∀ k, D k → k < W.heap.size) → Same D Y (w1.alloc o)) ∧ T3 w1.heap.size ∧ (w1.alloc o).heap[w1.heap.size]? = some o := by
  obtain ⟨q1, q2⟩ := h.state.turn ht h1 h2 h3 (.inl h5)
  have ho : ∀ k, k < w1.heap.size → (w1.alloc o).heap[k]? = w1.heap[k]? := fun k hk => Below.heap_alloc w1 o k hk
  have hs : w1.heap.size ≤ (w1.alloc o).heap.size := by simp
  have q3 := q1.old hs ho
  have q4 : Turned (withNew T Y w1) (withNew (withNew T Y w1) w1 (w1.alloc o)) w1 (w1.alloc o) := Turned.grow rfl rfl rfl hs (fun k hk _ => ho k hk)
  refine ⟨_, q3, ?_, q2.trans q4, fun ds hm => (h.state.marks ht hm).keep (fun _ h => .inl h) (fun k hk _ => ho k (q1.lo k hk).2), fun D hD => (h.state.turn_low ht hD).trans ht.size (fun k hk hl => ho k hl), .inr ⟨Nat.le_refl _, by simp⟩, World.alloc_heap_new w1 o⟩
  refine (h.heads.perm (((List.perm_append_comm (l₁ := l') (l₂ := [x])).trans h4.symm))).mono (fun y ys _ hR => (h.state.rests ht hR).keep _ _ (fun _ h => .inl h) (fun g cs hg _ => ho g (q1.lo g hg).2))
theorem HState.rested {hs : List Hd} (h : HState W T X v l) (hh : Heads ek (RestAt ek ev X W.heap.size T) hs rem) (hk : Same T X Y) : Heads ek (RestAt ek ev Y W.heap.size T) hs rem :=
  hh.mono (fun y ys _ hR => hR.keep _ _ (fun _ h => h) (fun g cs hg _ => hk g hg (h.lo g hg).2))
end
end
end Go.Proofs.Ytojbfjfjhfnopaa.MergeS
end

section
/- The rounds of the two inner loops of the iterator: a head is passed; a head goes on. -/
namespace Go.Proofs.Ytojbfjfjhfnopaa.MergeS
open Go.RowKit Go.Shelf RangeD SeqS MergeL HeapL
set_option linter.unusedVariables false
theorem fits_l {lr pas : List Hd} {m n : Nat} (h : (lr ++ pas).length ≤ m) (hm : m = n) (hn : (n + 1) * 40 ≤ 140737488355328) : (lr.length + 1) * 40 ≤ 140737488355328 := by
  rw [List.length_append] at h
  omega
theorem fits_r {lr pas : List Hd} {m n : Nat} (h : (lr ++ pas).length ≤ m) (hm : m = n) (hn : (n + 1) * 40 ≤ 140737488355328) : (pas.length + 1) * 40 ≤ 140737488355328 := by
  rw [List.length_append] at h
  omega
theorem max40 {n : Nat} (h : (n + 1) * 40 ≤ 140737488355328) : n + 1 ≤ maxLen := by unfold maxLen; omega
theorem sep_types {w : World} {base hb gp np cp : Nat} {pas : List Hd} {v : Value} (h : HRow w base 91 (.slice (some ⟨gp, 0, none⟩) np cp) pas) (hb2 : w.heap[hb]? = some (.cells #[v] 88 (0, 0))) : gp ≠ hb := fun e => by
  obtain ⟨cur, hgt⟩ := h.typed gp (by simp [Value.ownBlock])
  rw [e, hb2] at hgt
  injection hgt with hgt
  injection hgt with _ hgt _
  cases hgt
theorem taken_key {lr l' : List Hd} {x : Hd} (h : Heap lr) (hl : 0 < lr.length) (hp : lr.Perm (x :: l')) (hm : ∀ z ∈ l', x.le z) : x.key = (at_ lr 0).key := by
  have h1 : at_ lr 0 ∈ lr := by rw [at_get lr 0 hl]; exact List.getElem_mem hl
  have h2 : x.le (at_ lr 0) := by
    rcases List.mem_cons.1 (hp.mem_iff.1 h1) with e | e
    · rw [e]; exact Hd.le_refl _
    · exact hm _ e
  obtain ⟨j, hj, e⟩ := List.getElem_of_mem (hp.mem_iff.2 (List.mem_cons_self (a := x)))
  have h3 := h.root j hj
  rw [at_get lr j hj, e] at h3
  unfold Hd.le Hd.Lt at h2 h3
  omega
theorem len_pass {lr l' pas : List Hd} {x : Hd} {n : Nat} (hp : lr.Perm (x :: l')) (h : (lr ++ pas).length ≤ n) : (l' ++ (pas ++ [x])).length ≤ n := by
  have h1 := hp.length_eq
  simp only [List.length_append, List.length_cons, List.length_nil] at h h1 ⊢
  omega
theorem len_less {lr l' : List Hd} {x : Hd} {n : Nat} (hp : lr.Perm (x :: l')) (h : lr.length ≤ n) : l'.length < n := by
  have h1 := hp.length_eq
  simp only [List.length_cons] at h1
  omega
theorem len_start {lr pas : List Hd} {n : Nat} (h : (lr ++ pas).length ≤ n) : lr.length + (pas.length - 0) ≤ n := by
  rw [List.length_append] at h
  omega
theorem drop_at {l : List Hd} {j : Nat} (h : j < l.length) : l.drop j = at_ l j :: l.drop (j + 1) := by rw [at_get l j h]; exact List.drop_eq_getElem_cons h
section
variable {W X Y Z : World} {T T' : Blocks} {v v' : Value} {l l' : List Hd}
theorem HState.pass (h : HState W T Y v l) {gp : Nat} (hs : Y.heap.size ≤ Z.heap.size) (hk : ∀ k, k < Y.heap.size → k ≠ gp → Z.heap[k]? = Y.heap[k]?) (hg : gp ≠ W.heap.size) (hv : v.ownBlock ≠ some gp) : HState W (withNew T Y Z) Z v l :=
  ⟨Nat.le_trans h.size hs, fun k hk2 => by
    have := h.size
    rcases hk2 with hk2 | hk2
    · have := h.lo k hk2; omega
    · omega, .inl h.th, (hk _ (h.lo _ h.th).2 (Ne.symm hg)).trans h.box, h.row.keep (fun k hk2 => hk k (h.row.blocks k hk2).2 (fun e => hv (e ▸ hk2))), fun k h2 => .inl (h.tv k h2), h.heap⟩
section
variable {α : Type} {ek : α → Int} {ev : α → ByteArray} {rem : List (List α)}
theorem pass_round {w1 w2 : World} {lr pas : List Hd} {gp np cp : Nat} {x : Hd} {o : Obj} {vp' : Value} (K2 : HState W T X v lr) (K4 : HRow X W.heap.size 91 (.slice (some ⟨gp, 0, none⟩) np cp) pas) (KT : T gp) (hne : v.ownBlock ≠ some gp)
    (K6 : Heads ek (RestAt ek ev X W.heap.size T) (lr ++ pas) rem)
    (p1 : w1.heap[W.heap.size]? = some (.cells #[v'] 88 (0, 0))) (p2 : HRow w1 W.heap.size 91 v' l') (p3 : Heap l') (p4 : lr.Perm (x :: l')) (p6 : v'.ownBlock = v.ownBlock) (p7 : Turns (fun k => k = W.heap.size ∨ v.ownBlock = some k) X w1)
    (q1 : w2.ownsRow W.heap.size 91 3 vp' (pas.length + 1) (rowCells pas ++ [.int .u64 x.key, .int .i64 x.frm, .slice x.ad x.len x.cap])) (q2 : (w1.alloc o).grownBy w2 (some gp)) (q3 : vp'.ownBlock = some gp ∨ vp'.ownBlock = some (w1.alloc o).heap.size) :
    ∃ T' gp' cp', vp' = .slice (some ⟨gp', 0, none⟩) (pas.length + 1) cp' ∧ HState W T' w2 v' l' ∧ HRow w2 W.heap.size 91 vp' (pas ++ [x]) ∧ T' gp' ∧ gp ≤ gp' ∧ Heads ek (RestAt ek ev w2 W.heap.size T') (l' ++ (pas ++ [x])) rem ∧ Turned T T' X w2 ∧ (∀ ds, Marks ds T X → Marks ds T' w2) ∧ (∀ D : Blocks, (∀ k, D k → k < W.heap.size) → Same D X w2) ∧
      (∀ k, k < X.heap.size → k ≠ W.heap.size → v.ownBlock ≠ some k → k ≠ gp → w2.heap[k]? = X.heap[k]?) := by
  obtain ⟨cur, hgt⟩ := K4.typed gp (by simp [Value.ownBlock])
  have hgX := (Array.getElem?_eq_some_iff.1 hgt).1
  have hgW : gp ≠ W.heap.size := fun e => by
    have hb := K2.box
    rw [← e, hgt] at hb
    injection hb with hb
    injection hb with _ hb _
    cases hb
  have hgb : W.heap.size ≤ gp := (K4.blocks gp (by simp [Value.ownBlock])).1
  obtain ⟨s1, s2⟩ := K2.turn p7 p1 p2 p3 (.inl p6)
  have hgt1 : w1.heap[gp]? = some (.cells cur 91 (0, 0)) := (p7.same gp hgX (fun e => e.elim hgW hne)).trans hgt
  have hs12 : w1.heap.size ≤ w2.heap.size := by
    have h1 := q2.size
    rw [World.size_alloc] at h1
    omega
  have hk12 : ∀ k, k < w1.heap.size → k ≠ gp → w2.heap[k]? = w1.heap[k]? := fun k hk hn =>
    (q2.block k (by rw [World.size_alloc]; omega) (fun e => by injection e with e; exact hn e)).trans (Below.heap_alloc w1 o k hk)
  have s3 := s1.pass hs12 hk12 hgW (by rw [p6]; exact hne)
  have s4 : Turned (withNew T X w1) (withNew (withNew T X w1) w1 w2) w1 w2 := Turned.grow q2.os q2.tape q2.output hs12 (fun k hk hn => hk12 k hk (fun e => hn (by subst e; exact .inl KT)))
  have hlen : pas.length + 1 = (pas ++ [x]).length := by simp
  obtain ⟨gp', cp', e1, e2⟩ : ∃ gp' cp', vp' = .slice (some ⟨gp', 0, none⟩) (pas.length + 1) cp' ∧ (gp' = gp ∨ gp' = (w1.alloc o).heap.size) := by
    obtain ⟨gg, cg, ev', _, _⟩ := q1.form (Nat.succ_pos _)
    refine ⟨gg, cg, ev', ?_⟩
    subst ev'
    simp only [Value.ownBlock, Option.some.injEq] at q3
    exact q3
  refine ⟨_, gp', cp', e1, s3, HRow.more rfl K4.2 q1, ?_, ?_, ?_, s2.trans s4, fun ds hm => ((K2.marks p7 hm).keep (fun _ h => .inl h) (fun k hk hd => hk12 k (s1.lo k hk).2 (fun e => by subst e; rw [hgt1] at hd; cases hd))), fun D hD k hk hl => (hk12 k (Nat.lt_of_lt_of_le hl p7.size) (fun e => by have := hD k hk; omega)).trans (K2.turn_low p7 hD k hk hl), fun k hk h1 h2 h3 => (hk12 k (Nat.lt_of_lt_of_le hk p7.size) h3).trans (p7.same k hk (fun e => e.elim h1 h2))⟩
  · rcases e2 with e2 | e2
    · subst e2; exact .inl (.inl KT)
    · have := q1.lt gp' (by rw [e1]; rfl)
      rw [World.size_alloc] at e2
      exact .inr ⟨by omega, this.2⟩
  · rcases e2 with e2 | e2
    · omega
    · rw [World.size_alloc] at e2
      have := p7.size
      omega
  · have hp : (l' ++ (pas ++ [x])).Perm (lr ++ pas) := by
      have a1 : (l' ++ (pas ++ [x])).Perm ((x :: l') ++ pas) := by
        rw [← List.append_assoc]
        exact List.perm_append_comm (l₁ := l' ++ pas) (l₂ := [x])
      exact a1.trans (List.Perm.append_right pas p4.symm)
    refine (K6.perm hp).mono (fun y ys _ hR => (K2.rests p7 hR).keep _ _ (fun _ h => .inl h) (fun g cs hg hc => hk12 g (s1.lo g hg).2 (fun e => by subst e; rw [hgt1] at hc; injection hc with hc; injection hc with _ hc _; cases hc)))
theorem pick_min {y : α} (h : pick ek rem = some y) : ∀ (i : Nat) (z : α) (zs : List α), rem[i]? = some (z :: zs) → ek y ≤ ek z := by
  induction rem generalizing y with
  | nil => simp [pick] at h
  | cons l r ih =>
    intro i z zs hi
    cases l with
    | nil =>
      cases i with
      | zero => simp at hi
      | succ i => exact ih (by simpa [pick] using h) i z zs (by simpa using hi)
    | cons a t =>
      simp only [pick] at h
      cases hp : pick ek r with
      | none =>
        rw [hp] at h
        simp only [Option.some.injEq] at h
        subst h
        cases i with
        | zero => simp at hi; rw [hi.1]; exact Int.le_refl _
        | succ i =>
          have := (pick_none ek).1 hp (z :: zs) (List.mem_of_getElem? (by simpa using hi))
          cases this
      | some b =>
        rw [hp] at h
        simp only at h
        cases i with
        | zero =>
          simp only [List.getElem?_cons_zero, Option.some.injEq, List.cons.injEq] at hi
          obtain ⟨rfl, _⟩ := hi
          split at h <;> (injection h with h; subst h; omega)
        | succ i =>
          have := ih hp i z zs (by simpa using hi)
          split at h <;> (injection h with h; subst h; omega)
theorem no_more {R : Hd → List α → Prop} {lr pas : List Hd} {f : Nat} {y : α} {q : List α} (hp : Heap lr) (hh : Heads ek R (lr ++ pas) rem) (hm : mergeF ek (f + 1) rem = y :: q) (h0 : 0 < lr.length → (at_ lr 0).key ≠ ek y) : ∀ x ∈ lr, x.key ≠ ek y := by
  have hpk : pick ek rem = some y := by
    unfold mergeF at hm
    cases h : pick ek rem with
    | none => rw [h] at hm; cases hm
    | some b => rw [h] at hm; simp only [List.cons.injEq] at hm; rw [hm.1]
  have hge : ∀ x ∈ lr, ek y ≤ x.key := fun x hx => by
    obtain ⟨i, z, zs, _, e2, e3, _⟩ := hh.each x (List.mem_append_left _ hx)
    rw [e3]
    exact pick_min hpk i z zs e2
  intro x hx e
  obtain ⟨j, hj, rfl⟩ := List.getElem_of_mem hx
  have hl : 0 < lr.length := by omega
  have h1 := hp.root j hj
  rw [at_get lr j hj] at h1
  have h2 := hge (at_ lr 0) (by rw [at_get lr 0 hl]; exact List.getElem_mem hl)
  have h3 := h0 hl
  unfold Hd.le Hd.Lt at h1
  omega
theorem Mid.mono {R R' : Hd → List α → Prop} {k : Int} {rem0 : List (List α)} {lr ps : List Hd} (h : Mid ek R k rem0 lr ps rem) (hR : ∀ x xs, x ∈ lr ++ ps → R x xs → R' x xs) : Mid ek R' k rem0 lr ps rem := ⟨h.heads.mono hR, h.keys, h.len, h.old, h.new⟩
theorem Mid.perm {R : Hd → List α → Prop} {k : Int} {rem0 : List (List α)} {lr lr' ps : List Hd} (h : Mid ek R k rem0 lr ps rem) (hp : lr'.Perm lr) : Mid ek R k rem0 lr' ps rem := ⟨h.heads.perm (List.Perm.append_right ps hp), h.keys, h.len, h.old, h.new⟩
theorem gone_round {gp np cp : Nat} {pas lr ps : List Hd} {k : Int} {rem0 : List (List α)} (L2 : HState W T X v l) (L3 : HRow X W.heap.size 91 (.slice (some ⟨gp, 0, none⟩) np cp) pas) (L5 : Mid ek (RestAt ek ev X W.heap.size T) k rem0 lr ps rem) (o : Obj) :
    ∃ T', HState W T' (X.alloc o) v l ∧ HRow (X.alloc o) W.heap.size 91 (.slice (some ⟨gp, 0, none⟩) np cp) pas ∧ (∀ k, T k → T' k) ∧ Mid ek (RestAt ek ev (X.alloc o) W.heap.size T') k rem0 lr ps rem ∧ Turned T T' X (X.alloc o) ∧ (∀ ds, Marks ds T X → Marks ds T' (X.alloc o)) ∧ (∀ D : Blocks, Same D X (X.alloc o)) := by
  have ho : ∀ k, k < X.heap.size → (X.alloc o).heap[k]? = X.heap[k]? := fun k hk => Below.heap_alloc X o k hk
  have hs : X.heap.size ≤ (X.alloc o).heap.size := by simp
  refine ⟨_, L2.old hs ho, L3.keep (fun k hk => ho k (L3.blocks k hk).2), fun _ h => .inl h, Mid.mono L5 (fun x xs _ hR => hR.keep _ _ (fun _ h => .inl h) (fun g cs hg _ => ho g (L2.lo g hg).2)), Turned.grow rfl rfl rfl hs (fun k hk _ => ho k hk), fun ds hm => hm.keep (fun _ h => .inl h) (fun k hk _ => ho k (L2.lo k hk).2), fun D k _ hl => ho k hl⟩
theorem more_round {w1 w2 : World} {gp np cp : Nat} {pas ps : List Hd} {k : Int} {rem0 : List (List α)} {x : Hd} (L2 : HState W T X v l) (L3 : HRow X W.heap.size 91 (.slice (some ⟨gp, 0, none⟩) np cp) pas) (hne : v.ownBlock ≠ some gp) (L5 : Mid ek (RestAt ek ev X W.heap.size T) k rem0 (x :: l) ps rem)
    (hbl : Below X.heap.size X w1) (p6 : Turns (fun k => k = W.heap.size ∨ v.ownBlock = some k) w1 w2) (p1 : w2.heap[W.heap.size]? = some (.cells #[v'] 88 (0, 0))) (p2 : HRow w2 W.heap.size 91 v' l') (p3 : Heap l') (p4 : l'.Perm (x :: l)) (p5 : v'.ownBlock = v.ownBlock ∨ ∃ b, v'.ownBlock = some b ∧ w1.heap.size ≤ b) :
    ∃ T', HState W T' w2 v' l' ∧ HRow w2 W.heap.size 91 (.slice (some ⟨gp, 0, none⟩) np cp) pas ∧ (∀ k, T k → T' k) ∧ v'.ownBlock ≠ some gp ∧ Mid ek (RestAt ek ev w2 W.heap.size T') k rem0 l' ps rem ∧ Turned T T' X w2 ∧ (∀ ds, Marks ds T X → Marks ds T' w2) ∧ (∀ D : Blocks, (∀ k, D k → k < W.heap.size) → Same D X w2) := by
  have hgX : gp < X.heap.size := (L3.blocks gp (by simp [Value.ownBlock])).2
  have hgW := sep_types L3 L2.box
  have s1 := L2.old hbl.size (fun k hk => hbl.block k hk)
  have s2 : Turned T (withNew T X w1) X w1 := Turned.grow hbl.os hbl.tape hbl.output hbl.size (fun k hk _ => hbl.block k hk)
  obtain ⟨q1, q2⟩ := s1.turn p6 p1 p2 p3 p5
  have r1 : HRow w1 W.heap.size 91 (.slice (some ⟨gp, 0, none⟩) np cp) pas := L3.keep (fun k hk => hbl.block k (L3.blocks k hk).2)
  refine ⟨_, q1, r1.turn p6 (fun k hk e => ?_), fun k hk => .inl (.inl hk), ?_, ?_, s2.trans q2, fun ds hm => s1.marks p6 (hm.keep (fun _ h => .inl h) (fun k hk _ => hbl.block k (L2.lo k hk).2)), fun D hD k hk hl => (s1.turn_low p6 hD k hk (Nat.lt_of_lt_of_le hl hbl.size)).trans (hbl.block k hl)⟩
  · simp only [Value.ownBlock, Option.some.injEq] at hk
    subst hk
    exact e.elim hgW hne
  · intro e
    rcases p5 with p5 | ⟨b, p5, p7⟩
    · rw [p5] at e; exact hne e
    · rw [p5] at e
      injection e with e
      have := hbl.size
      omega
  · exact Mid.mono (Mid.perm L5 p4) (fun y ys _ hR => s1.rests p6 (hR.keep _ _ (fun _ h => .inl h) (fun g cs hg _ => hbl.block g (L2.lo g hg).2)))
theorem rest_next {g5 o5 pc : Nat} {cs5 : Array Value} {base : Nat} {z a : α} {t : List α} {i5 : Nat} (h : t.length + 1 + 1 ≤ pc ∧ pc ≤ maxLen ∧ base ≤ g5 ∧ T g5 ∧ X.heap[g5]? = some (.cells cs5 9 (0, 0)) ∧ CellsAt ek ev X g5 o5 (z :: a :: t)) :
    RestAt ek ev X base T ⟨ek a, i5, some ⟨g5, o5 + 1, none⟩, (a :: t).length, pc - 1⟩ (a :: t) ∧ X.cell? ⟨g5, o5 + 1, none⟩ = some (.string (ev a)) := by
  obtain ⟨h1, h2, h3, h4, h5, h6⟩ := h
  have h7 : CellsAt ek ev X g5 (o5 + 1) (a :: t) := fun j x hj => by
    have := h6 (j + 1) x (by simpa using hj)
    rw [show o5 + 1 + j = o5 + (j + 1) from by omega]
    exact this
  refine ⟨⟨g5, o5 + 1, cs5, rfl, rfl, ?_, ?_, h3, h4, h5, h7⟩, ?_⟩
  · simp only [List.length_cons]; omega
  · show pc - 1 ≤ maxLen; omega
  · have := h7 0 a rfl
    simpa using this
theorem left_more {a b j j2 n : Nat} (h : a + (b - j) ≤ n) (hj : j + 1 = j2) (hl : j < b) : a + (b - j2) ≤ n ∧ a + 1 + (b - j2) ≤ n := by omega
theorem len_left {l l' : List Hd} {x : Hd} {b j n : Nat} (hp : l'.Perm (x :: l)) (h : l.length + 1 + (b - j) ≤ n) : l'.length + (b - j) ≤ n := by
  rw [hp.length_eq, List.length_cons]
  exact h
theorem fits_one {a b j n m : Nat} (h : a + 1 + (b - j) ≤ n) (hm : n = m) (hn : (m + 1) * 40 ≤ 140737488355328) : (a + 1) * 40 ≤ 140737488355328 := by omega
theorem full_done {R : Hd → List α → Prop} {k : Int} {rem0 : List (List α)} {pas : List Hd} {j : Nat} (hj : ¬ j < pas.length) (h : Mid ek R k rem0 l (pas.drop j) rem) (hl : l.length + (pas.length - j) ≤ rem0.length) : rem = MergeL.step ek k rem0 ∧ Heads ek R l rem ∧ l.length ≤ rem.length ∧ rem.length = rem0.length := by
  have e : pas.drop j = [] := List.drop_eq_nil_of_le (Nat.not_lt.1 hj)
  rw [e] at h
  refine ⟨h.done.1, h.done.2, ?_, h.len⟩
  rw [h.len]
  omega
end
end
end Go.Proofs.Ytojbfjfjhfnopaa.MergeS
end

section
/- merge.Merge's iterator at entries. -/
namespace Go.Proofs.Ytojbfjfjhfnopaa.MergeS
open Go.RowKit Go.Shelf RangeD SeqS MergeL HeapL HeapS
attribute [local go_sem] Oper.semAt_some
set_option linter.unusedVariables false
section
variable {α : Type} (ek : α → Int) (ev : α → ByteArray)
set_option maxRecDepth 1000000 in
set_option maxHeartbeats 4000000 in
theorem merge_in (l bL bK : Nat) (A : Option Addr) (gL cap kf : Nat) (its : List (It α)) (J Jx : List α → Blocks → World → Prop) (hJ : Abide J) (hJx : Abide Jx)
    (hkf : ∀ args w, (callFunc kf args).run Try.prog w = .ok (.enter kf args) w)
    (hkey : ∀ x w, Calls Try.prog kf #[agg ek ev x] w fun e w' => e = .returned (.int .u64 (ek x)) ∧ Below w.heap.size w w')
    (hY : ∀ pre x T W, J pre T W → (∃ more, pre ++ [x] ++ more = mergeL ek (its.map It.xs)) → YieldAt Fence.wide 0 Try.prog l #[agg ek ev x] W fun e W' =>
      (e = .returned (.bool true) ∧ J (pre ++ [x]) T W' ∧ W.heap.size ≤ W'.heap.size ∧ Same (fun k => MDeps bL bK gL its k ∨ T k) W W') ∨ (e = .returned (.bool false) ∧ Jx (pre ++ [x]) T W' ∧ W.heap.size ≤ W'.heap.size ∧ Same (fun k => MDeps bL bK gL its k ∨ T k) W W'))
    (W : World) (hst : MLaid ek ev W bL bK A gL cap kf its) (h0 : J [] (fun _ => False) W) :
    CallsIn Fence.wide 0 Try.prog 49 #[.func (.yield l) #[] #[], .pointer (some ⟨bL, 0, none⟩), .pointer (some ⟨bK, 0, none⟩)] W fun e W' => (∃ v, e = .returned v) ∧
      ((∃ T, J (mergeL ek (its.map It.xs)) T W') ∨ (∃ pre T, (∃ more, pre ++ more = mergeL ek (its.map It.xs)) ∧ Jx pre T W')) := by
  refine callsIn_of_wp_marks Try.func49 rfl trivial (wpIn_wide.2 ?_) rfl
  simp only [Try.ntmps49, List.size_toArray, List.length_cons, List.length_nil, Nat.reduceAdd, Nat.reduceSub, Array.replicate_succ, Array.replicate_zero, List.push_toArray, List.append_toArray, List.nil_append, List.cons_append]
  have hcl : W.cell? ⟨bL, 0, none⟩ = some (.slice A its.length cap) := by rw [cell_of_row W bL 0 _ _ _ hst.lists]; rfl
  have hblt : bL < W.heap.size := (Array.getElem?_eq_some_iff.1 hst.lists).1
  have hklt : bK < W.heap.size := (Array.getElem?_eq_some_iff.1 hst.key).1
  have hlen := hst.len
  go_wp2_with fail
  have hM0 : MState ek ev W (fun k => k = W.heap.size) (W.alloc (.cells #[.slice none 0 0] 88)) (.slice none 0 0) [] ([] : List (List α)) :=
    ⟨by simp, fun k hk => by (obtain rfl : k = W.heap.size := hk); simp, rfl, World.alloc_heap_new W _, HRow.nil _ _ _, fun k hk => (by simp [Value.ownBlock] at hk), fun j h0 hj => (by simp at hj), Heads.nil _, Nat.le_refl _⟩
  have hJ0 : J [] (fun k => k = W.heap.size) (W.alloc (.cells #[.slice none 0 0] 88)) := hJ _ _ _ _ _ h0 ⟨rfl, rfl, rfl, by simp, fun k hk => hk.elim, fun k hk => .inr (by (obtain rfl : k = W.heap.size := hk); simp), fun k hk _ => Below.heap_alloc _ _ _ hk⟩
  have hD0 : Same (MDeps bL bK gL its) W (W.alloc (.cells #[.slice none 0 0] 88)) := fun k _ hk => Below.heap_alloc _ _ _ hk
  refine wp_loop_ghost_k (fun kq a' w' => ∃ (ds : List Deferred) (i : Nat) (u5 u6 u7 u8 u16 u17 u18 u19 u20 u21 u22 u23 u24 u25 u26 u27 u28 u29 u30 u31 u32 u33 u34 u35 u36 u37 u38 : Value), (∃ T v lh, Hid (i ≤ its.length ∧ its.length ≤ kq + i) ∧ Hid (Marks ds T w') ∧ Hid (MState ek ev W T w' v lh ((its.take i).map It.xs)) ∧ Hid (J [] T w') ∧ Hid (Same (MDeps bL bK gL its) W w')) ∧ a' = { tmps := #[.func (.yield l) #[] #[], .pointer (some ⟨bL, 0, none⟩), .pointer (some ⟨bK, 0, none⟩), undef, .pointer (some ⟨W.heap.size, 0, none⟩), u5, u6, u7, u8, undef, undef, undef, undef, .slice A its.length cap, .int .i64 (its.length : Int), .int .i64 (i : Int), u16, u17, u18, u19, u20, u21, u22, u23, u24, u25, u26, u27, u28, u29, u30, u31, u32, u33, u34, u35, u36, u37, u38, undef, undef, undef, undef, undef, undef, undef, undef, undef, undef, undef, undef, undef, undef, undef, undef, undef, undef, undef, undef, undef, undef, undef, undef, undef, undef, undef, undef, undef, undef, undef, undef, undef, undef, undef, undef, undef, undef, undef, undef, undef, undef, undef, undef, undef, undef, undef, undef, undef, undef, undef, undef, undef, undef, undef, undef, undef, undef, undef], defers := ds }) its.length ?_ ?_
  · refine ⟨_, 0, _, _, _, _, _, _, _, _, _, _, _, _, _, _, _, _, _, _, _, _, _, _, _, _, _, _, _, ⟨_, _, _, Lib.hid ⟨Nat.zero_le _, Nat.le_refl _⟩, Lib.hid (Marks.nil _ _), Lib.hid hM0, Lib.hid hJ0, Lib.hid hD0⟩, rfl⟩
  · rintro gk _ wr ⟨ds, i, u5, u6, u7, u8, u16, u17, u18, u19, u20, u21, u22, u23, u24, u25, u26, u27, u28, u29, u30, u31, u32, u33, u34, u35, u36, u37, u38, ⟨T, v, lh, HI, HM, HS, HJ, HD⟩, rfl⟩ JJ KK hJJ hKK
    have HST := Lib.hid hst
    clear hM0 hJ0 hD0 hcl hst
    have hi1 := HI.out.1
    have hlaid := HST.out.keep _ _ HS.out.size HD.out
    by_cases hlt : i < its.length
    · have hd : decide ((i : Int) < (its.length : Int)) = true := decide_eq_true (by omega)
      obtain rfl := HST.out.at_ (by omega)
      have hfn := hlaid.fns i its[i] (List.getElem?_eq_getElem hlt)
      obtain ⟨it, hit⟩ : ∃ it, its[i] = it := ⟨_, rfl⟩
      rw [hit] at hfn
      have hb1 : (0 : Int) ≤ (i : Int) := by omega
      have hb2 : (i : Int) < (its.length : Int) := by omega
      have HL := Lib.hid hlaid
      clear hlaid
      go_wp2_with fail
      obtain ⟨i0, hi0, hz0, hz1, hz2⟩ := info_parts infoElem
      have hok := HL.out.oks it (by rw [← hit]; exact List.getElem_mem hlt)
      obtain ⟨X1, hX1⟩ : ∃ X1, wr.alloc (.cells #[.slice none 0 0] 48) = X1 := ⟨_, rfl⟩
      have hsz1 : X1.heap.size = wr.heap.size + 1 := by rw [← hX1]; simp
      have h71 : X1.heap[wr.heap.size]? = some (.cells #[.slice none 0 0] 48 (0, 0)) := by rw [← hX1]; exact World.alloc_heap_new wr _
      have hS1 : Same it.D wr X1 := by rw [← hX1]; exact fun k _ hk => Below.heap_alloc wr _ k hk
      have ha7 : wr.heap.size < X1.heap.size := by omega
      rw [hX1]
      refine (wpIn_wide (n := 0)).1 ?_
      refine wpIn_rangeFunc_D (ps := #[21]) (gf := it.gf) (lb := it.lb) rfl hok.goes (hok.seq.same (by omega) hS1) (fun k hk => by have := hok.lt k hk; omega) (fun _ => rfl)
        (GI ek ev X1 wr.heap.size) (fun _ _ _ _ => False)
        (fun pre x T' a' Y => a' = { tmps := #[.func (.yield l) #[] #[], .pointer (some ⟨bL, 0, none⟩), .pointer (some ⟨bK, 0, none⟩), undef, .pointer (some ⟨W.heap.size, 0, none⟩), .int .i64 (i : Int), .func (.func it.gf) #[] it.lb, .pointer (some ⟨wr.heap.size, 0, none⟩), .string (ev x), undef, undef, undef, undef, .slice (some ⟨gL, 0, none⟩) its.length cap, .int .i64 (its.length : Int), .int .i64 (i : Int), .bool true, .int .i64 (i : Int), .pointer (some ⟨gL, i, none⟩), .func (.func it.gf) #[] it.lb, .func (.func it.gf) #[] it.lb, agg ek ev x, u22, u23, u24, u25, u26, u27, u28, u29, u30, u31, u32, u33, u34, u35, u36, u37, u38, undef, undef, undef, undef, undef, undef, undef, undef, undef, undef, undef, undef, undef, undef, undef, undef, undef, undef, undef, undef, undef, undef, undef, undef, undef, undef, undef, undef, undef, undef, undef, undef, undef, undef, undef, undef, undef, undef, undef, undef, undef, undef, undef, undef, undef, undef, undef, undef, undef, undef, undef, undef, undef, undef, undef, undef, undef, undef, undef], defers := [] })
        (GI.abide ha7) (fun _ _ _ _ _ _ h _ => h) (GI.ownT ha7) (fun _ _ _ _ _ _ h _ _ => h) ?hAo (GI.start h71) ?assign ?body ?done ?stop
      case hAo => exact fun pre x T' a' _ Y Y' row h _ _ => h
      case stop => exact fun _ _ _ _ _ _ _ h => h.elim
      case assign =>
        intro lr pre x T' Y K hG hnx hK
        gi_wp2
        exact hK _ _ (KeepsFrom.refl _ Y) (fun k _ hk => rfl) hG rfl
      case body =>
        rintro lr pre x T' a' Y hB hrec hnT hG rfl ⟨more, hmore⟩
        obtain ⟨v7, g1, g2, g3⟩ := hG.row
        obtain ⟨A7, c7, rfl⟩ : ∃ A c, v7 = .slice A pre.length c := by
          rcases g2.2 with ⟨e, hn⟩ | ⟨g, cap2, cur, e, _⟩
          · exact ⟨none, 0, by rw [hn]; exact e⟩
          · exact ⟨_, _, e⟩
        have hpl := len_bound hmore hok.len
        have hg7 : ∀ k, (Value.slice A7 pre.length c7).ownBlock = some k → ¬ T' k ∧ X1.heap.size ≤ k := fun k hk => ⟨g3 k hk, (g2.lt k hk).1⟩
        have hx3 : ∀ u ∈ [(.string (ev x) : Value)], u.oneCell' = true := by
          intro u hu
          rw [List.mem_singleton] at hu
          subst hu
          rfl
        have hYl := hG.lt
        have hYs := hG.size
        have ca : Y.cell? ⟨wr.heap.size, 0, none⟩ = some (.slice A7 pre.length c7) := by rw [cell_of_row Y _ 0 _ _ _ g1]; rfl
        have HG := Lib.hid hG
        have HG1 := Lib.hid g1
        have HG2 := Lib.hid g2
        have HG7 := Lib.hid hg7
        have HX3 := Lib.hid hx3
        have HPL := Lib.hid hpl
        have ha7n : (Value.slice A7 pre.length c7).ownBlock ≠ some wr.heap.size := fun e => by have := (hg7 _ e).2; omega
        have HA7 := Lib.hid ha7n
        clear hG g1 g2 g3 hg7 hx3 hpl hmore hrec hB hnT ha7n
        gi_wp2_with (first | (gi_at_builtin; go_must (refine wpListIn_append_own_at _ rfl (.tmp 22) (.tmp 24) 48 rfl X1.heap.size 9 i0 _ 1 16 Try.underlying48 hi0 hz0 hz1 hz2 rfl (by decide) (.slice A7 pre.length c7) pre.length (erow ek ev pre) (by rfl) (HG2.out.alloc _) ⟨Y.heap.size, 0, none⟩ 1 1 [.string (ev x)] (by rfl) (by rfl) (World.news_of_block (cs := #[.string (ev x)]) (t := 9) (fr := (0, 0)) (World.alloc_heap_new Y _)) HX3.out (len_max HPL.out) (fits_by HPL.out) (by rw [World.size_alloc]; exact Nat.le_succ_of_le hYs) ?_; intro v' w1 hown1 hgrow hnil hat; obtain ⟨gg, cg, ev', _, _⟩ := hown1.form (Nat.succ_pos _); subst ev'; have hcz : w1.heap[wr.heap.size]? = some (.cells #[.slice A7 pre.length c7] 48 (0, 0)) := ((hgrow.block _ (by rw [World.size_alloc]; exact Nat.lt_succ_of_lt hYl) (fun e => HA7.out e.symm)).trans (Below.heap_alloc Y _ _ hYl)).trans HG1.out; have hcz1 : w1.cell? ⟨wr.heap.size, 0, none⟩ = some (.slice A7 pre.length c7) := (by rw [cell_of_row w1 _ 0 _ _ _ hcz]; rfl); have hcz2 : w1.frozen? ⟨wr.heap.size, 0, none⟩ = false := (by simp [World.frozen?, hcz]); have HOWN1 := Lib.hid hown1; have HGR := Lib.hid hgrow; have HAT := Lib.hid hat; clear hown1 hgrow hnil hat hcz)))
        obtain ⟨q1, q2, q3⟩ := GI.next ha7 HG.out HG1.out HG7.out HOWN1.out HGR.out HAT.out
        exact ⟨q2, q3 it.D (fun k hk => ⟨Nat.lt_trans (hok.lt k hk) ha7, Nat.ne_of_lt (hok.lt k hk)⟩), q1⟩
      case done =>
        intro C xs T' Y hC hxs hG hmark
        obtain rfl := hxs
        obtain ⟨hYs, hold, hTu⟩ := after_gather (ek := ek) (ev := ev) hX1 hG
        have hS2 := HS.out.old _ _ hYs hold
        have hJ2 := hJ _ _ _ _ _ HJ.out hTu
        have hD2 : Same (MDeps bL bK gL its) W Y := HD.out.trans HS.out.size (fun k _ hk => hold k hk)
        have hCl : C < Y.heap.size := (Array.getElem?_eq_some_iff.1 hmark).1
        have hCw : wr.heap.size ≤ C := Nat.le_trans (Nat.le_of_lt ha7) hC
        have hM2 := (HM.out.keep (T' := withNew T wr Y) (fun _ h => .inl h) (fun k hk _ => hold k (HS.out.lo k hk).2)).more C (.inr ⟨hCw, hCl⟩) hmark (fun k _ _ hm e => absurd (HS.out.lo k (HM.out.mem hm)).2 (by rw [e]; exact Nat.not_lt.2 hCw))
        obtain ⟨v7, g1, g2, g3⟩ := hG.row
        obtain ⟨A7, c7, rfl⟩ : ∃ A c, v7 = .slice A it.xs.length c := by
          rcases g2.2 with ⟨e, hn⟩ | ⟨g, cap2, cur, e, _⟩
          · exact ⟨none, 0, by rw [hn]; exact e⟩
          · exact ⟨_, _, e⟩
        have ca : Y.cell? ⟨wr.heap.size, 0, none⟩ = some (.slice A7 it.xs.length c7) := by rw [cell_of_row Y _ 0 _ _ _ g1]; rfl
        obtain ⟨i2, hi2⟩ : ∃ i2, i + 1 = i2 := ⟨_, rfl⟩
        have hi3 : (i : Int) + 1 = (i2 : Int) := by rw [← hi2]; rfl
        have htk : (its.take i2).map It.xs = (its.take i).map It.xs ++ [it.xs] := by rw [← hi2, List.take_succ_eq_append_getElem hlt, hit, List.map_append]; rfl
        have HI2 := Lib.hid (loop_nums hi2 hlt HI.out.2)
        have hw2 : IntKind.i64.wrap (i2 : Int) = (i2 : Int) := IntWalk.i64_in _ (loop_fits HST.out.len HI2.out.1)
        have HS2 := Lib.hid hS2
        have HJ2 := Lib.hid hJ2
        have HD2 := Lib.hid hD2
        have HM2 := Lib.hid hM2
        have HTK := Lib.hid htk
        have HG := Lib.hid hG
        have HG1 := Lib.hid g1
        clear hS2 hJ2 hD2 hM2 htk hG g1 g2 g3 hmark hC hCl hCw hTu hi2 h71 hS1
        dsimp only
        by_cases hx0 : it.xs.length = 0
        · have hd0 : decide ((it.xs.length : Int) > 0) = false := decide_eq_false (by rw [hx0]; decide)
          have hd1 : decide (0 < it.xs.length) = false := decide_eq_false (by rw [hx0]; exact Nat.lt_irrefl 0)
          have hx1 : it.xs = [] := List.eq_nil_of_length_eq_zero hx0
          have HX1 := Lib.hid hx1
          clear hx0 hx1
          go_wp2_with fail
          refine Handed.intro (its.length - i2) HI2.out.2.2 (hJJ _ _ _ ⟨_, i2, _, _, _, _, _, _, _, _, _, _, _, _, _, _, _, _, _, _, _, _, _, _, _, _, _, _, _, ⟨withNew T wr Y, v, lh, Lib.hid ⟨HI2.out.1, HI2.out.2.1⟩, HM2, ?_, HJ2, HD2⟩, rfl⟩)
          rw [HTK.out, HX1.out]
          exact Lib.hid ⟨HS2.out.size, HS2.out.lo, HS2.out.th, HS2.out.box, HS2.out.row, HS2.out.tv, HS2.out.heap, HS2.out.heads.empty, Nat.le_trans HS2.out.short (by rw [List.length_append]; exact Nat.le_add_right _ _)⟩
        · have hpos : 0 < it.xs.length := Nat.pos_of_ne_zero hx0
          have hd0 : decide ((it.xs.length : Int) > 0) = true := decide_eq_true (Int.ofNat_lt.2 hpos)
          have hd1 : decide (0 < it.xs.length) = true := decide_eq_true hpos
          have hb3 : (0 : Int) < (it.xs.length : Int) := Int.ofNat_lt.2 hpos
          obtain ⟨g, rfl, hRA⟩ := RestAt.fresh (ek := ek) (ev := ev) (T := T) HS.out.size hX1 HG.out HG1.out hpos (i : Int)
          obtain ⟨y, ys, hxy⟩ : ∃ y ys, it.xs = y :: ys := by
            cases h : it.xs with
            | nil => rw [h] at hpos; exact absurd hpos (Nat.lt_irrefl 0)
            | cons y ys => exact ⟨y, ys, rfl⟩
          have y0 : Y.cell? ⟨g, 0, none⟩ = some (.string (ev y)) := by
            obtain ⟨g', o, cs, e1, _, _, _, _, _, _, hc⟩ := hRA 0
            injection e1 with e1
            injection e1 with e1 e2
            subst e1 e2
            exact hc 0 y (by rw [hxy]; rfl)
          have hkc := (HST.out.keep _ _ HS2.out.size HD2.out).key
          have ck : Y.cell? ⟨bK, 0, none⟩ = some (.func (.func kf) #[] #[]) := by rw [cell_of_row Y _ 0 _ _ _ hkc]; rfl
          have HRA := Lib.hid hRA
          have HXY := Lib.hid hxy
          have HPOS := Lib.hid hpos
          clear hx0 hRA hxy hkc
          have hlen2 : ((its.take i).map It.xs).length = i := by rw [List.length_map, List.length_take, Nat.min_eq_left (Nat.le_of_lt hlt)]
          have HLF : Hid ((lh.length + 1) * 40 ≤ 140737488355328) := Lib.hid (heap_fits HST.out.len hlt (Nat.le_trans HS2.out.short (Nat.le_of_eq hlen2)))
          have HLEN := Lib.hid hlen2
          have nb7 : ¬ (wr.heap.size = W.heap.size ∨ v.ownBlock = some wr.heap.size) := HS2.out.apart _ _ HG1.out (fun _ e => (by cases e)) (fun _ e => (by cases e))
          have nbK : ¬ (bK = W.heap.size ∨ v.ownBlock = some bK) := HS2.out.apart _ _ (HST.out.keep _ _ HS2.out.size HD2.out).key (fun _ e => (by cases e)) (fun _ e => (by cases e))
          have nbg : ¬ (g = W.heap.size ∨ v.ownBlock = some g) := by
            obtain ⟨g', o, cs, e1, _, _, _, _, _, hc, _⟩ := HRA.out 0
            injection e1 with e1
            injection e1 with e1 e2
            subst e1 e2
            exact HS2.out.apart _ _ hc (fun _ e => (by cases e)) (fun _ e => (by cases e))
          clear hlen2
          go_upto_region 9 with (fail)
          go_region_held3 (fun w' => w'.cell? ⟨bK, 0, none⟩ = some (.func (.func kf) #[] #[]) ∧ w'.cell? ⟨wr.heap.size, 0, none⟩ = some (.slice (some ⟨g, 0, none⟩) it.xs.length c7) ∧ w'.cell? ⟨g, 0, none⟩ = some (.string (ev y)))
            (first
              | go_keep
              | (go_split_ands
                 refine ⟨?_, ?_, ?_⟩ <;> (refine (hbl.cell (World.block_lt_of_cell? _ _ (by assumption))).trans ?_; assumption))
              | (go_split_ands
                 refine ⟨?_, ?_, ?_⟩ <;> (refine (World.cell?_of_block (p6.same _ (World.block_lt_of_cell? _ _ (by assumption)) (by assumption))).trans ?_; assumption)))
            (first
              | (refine (hkey y _).mono ?_; rintro e w1 ⟨rfl, hbl⟩)
              | (go_at_call 50; refine (put_calls ⟨ek y, i, some ⟨g, 0, none⟩, it.xs.length, c7⟩ lh HS2.out.heap W.heap.size W.heap.size v _ ((hbl.block _ (HS2.out.lo _ HS2.out.th).2).trans HS2.out.box) (HRow.turn (w := Y.drew) HS2.out.row.drew (Turns.of_below (fun _ => False) hbl) (fun _ _ h => h)) (Nat.le_trans HS2.out.size hbl.size) HLF.out).mono ?_; rintro e w2 ⟨rfl, v', l', p1, p2, p3, p4, p5, p6⟩))
          go_wp2_with fail
          have hh := heads_more HS2.out.heads HXY.out ⟨ek y, i, some ⟨g, 0, none⟩, it.xs.length, c7⟩ (by rw [HLEN.out]) rfl (HRA.out (ek y))
          rw [← HTK.out] at hh
          obtain ⟨T3, m1, m2, m3, m4, m5⟩ := HS2.out.more _ _ ((Below.refl Y.heap.size Y).drew.trans hbl) p6 p1 p2 p3 p4 p5 hh (by rw [HTK.out, List.length_append]; exact Nat.succ_le_succ HS2.out.short)
          exact Handed.intro (its.length - i2) HI2.out.2.2 (hJJ _ _ _ ⟨_, i2, _, _, _, _, _, _, _, _, _, _, _, _, _, _, _, _, _, _, _, _, _, _, _, _, _, _, _, ⟨T3, v', l', Lib.hid ⟨HI2.out.1, HI2.out.2.1⟩, Lib.hid (m4 _ HM2.out), Lib.hid m1, Lib.hid (hJ _ _ _ _ _ HJ2.out m2), Lib.hid (HD2.out.trans HS2.out.size (m5 _ (fun k hk => HST.out.deps _ _ k hk)))⟩, rfl⟩)
    · have hd : decide ((i : Int) < (its.length : Int)) = false := decide_eq_false (fun h => hlt (Int.ofNat_lt.1 h))
      have hd2 : decide (i < its.length) = false := decide_eq_false hlt
      have hie : i = its.length := Nat.le_antisymm HI.out.1 (Nat.not_lt.1 hlt)
      have HS1 : Hid (MState ek ev W T wr v lh (its.map It.xs)) := Lib.hid (by have := HS.out; rwa [hie, List.take_length] at this)
      clear hie hlt hlaid HI HS
      go_wp2_with fail
      go_loopg [] (total (its.map It.xs)) (fun kq w' => ∃ (T : Blocks) (v : Value) (lh : List Hd) (pre : List α) (rem : List (List α)) (f : Nat), Hid (total rem ≤ f ∧ f ≤ kq) ∧ Hid (pre ++ mergeF ek f rem = mergeL ek (its.map It.xs)) ∧ Hid (rem.length = its.length) ∧ Hid (Marks ds T w') ∧ Hid (MState ek ev W T w' v lh rem) ∧ Hid (J pre T w') ∧ Hid (Same (MDeps bL bK gL its) W w'))
      case atStart => exact ⟨T, v, lh, [], its.map It.xs, _, Lib.hid ⟨Nat.le_refl _, Nat.le_refl _⟩, Lib.hid rfl, Lib.hid (List.length_map _), HM, HS1, HJ, HD⟩
      case round =>
        obtain ⟨T2, v2, l2, pre, rem, f, HF, HP, HRL, HM2, HS2, HJ2, HD2⟩ := hrel
        obtain ⟨A2, c2, hv2, hlc2⟩ := HS2.out.row.slice
        subst hv2
        have hbx := HS2.out.box
        have ch : wr.cell? ⟨W.heap.size, 0, none⟩ = some (.slice A2 l2.length c2) := by rw [cell_of_row wr _ 0 _ _ _ hbx]; rfl
        clear hbx hlc2
        by_cases hl0 : l2.length = 0
        · have hd3 : decide ((l2.length : Int) > 0) = false := decide_eq_false (by rw [hl0]; decide)
          have hd4 : decide (0 < l2.length) = false := decide_eq_false (by rw [hl0]; exact Nat.lt_irrefl 0)
          have hl1 : l2 = [] := List.eq_nil_of_length_eq_zero hl0
          have HL1 := Lib.hid hl1
          clear hl0 hl1
          go_wp2_with fail
          refine HM2.out.leave rfl (fun W' hW' => ⟨⟨_, rfl⟩, .inl ⟨T2, ?_⟩⟩)
          have h1 := HS2.out.heads
          rw [HL1.out] at h1
          have h2 := HP.out
          rw [h1.done, List.append_nil] at h2
          rw [← h2]
          exact hJ _ _ _ _ _ HJ2.out hW'
        · have hl1 : 0 < l2.length := Nat.pos_of_ne_zero hl0
          have hd3 : decide ((l2.length : Int) > 0) = true := decide_eq_true (Int.ofNat_lt.2 hl1)
          have hd4 : decide (0 < l2.length) = true := decide_eq_true hl1
          have HL1 := Lib.hid hl1
          have HLF : Hid ((l2.length + 1) * 40 ≤ 140737488355328) := Lib.hid (heap_fits2 hlen (Nat.le_trans HS2.out.short (Nat.le_of_eq HRL.out)))
          clear hl0 hl1
          go_upto_region 13 with (go_at_call 51; refine (take_calls l2 HS2.out.heap HL1.out W.heap.size W.heap.size _ wr HS2.out.box HS2.out.row HS2.out.size HLF.out).mono ?_; rintro e w1 ⟨x, rfl, v3, l3, p1, p2, p3, p4, p5, p6, p7⟩; have P1 := Lib.hid p1; have P2 := Lib.hid p2; have P3 := Lib.hid p3; have P4 := Lib.hid p4; have P5 := Lib.hid p5; have P6 := Lib.hid p6; have P7 := Lib.hid p7; clear p1 p2 p3 p4 p5 p6 p7)
          have hmem : x ∈ l2 := P4.out.mem_iff.2 List.mem_cons_self
          have hmin : ∀ z ∈ l2, x.le z := fun z hz => by
            rcases List.mem_cons.1 (P4.out.mem_iff.1 hz) with e | e
            · subst e; exact Hd.le_refl _
            · exact P5.out z e
          obtain ⟨i3, y, ys, f1, f2, f3, f4, f5⟩ := HS2.out.heads.told hmem hmin
          obtain ⟨g, o, cs, e1, e2, e3, e4, e5, e6, e7, e8⟩ := f4
          have hg1 : w1.heap[g]? = wr.heap[g]? := HS2.out.state.turn_same P7.out e7 (fun _ e => (by cases e)) (fun _ e => (by cases e))
          have y0 := (e8.keep (W' := w1) _ _ hg1) 0 y rfl
          simp only [Nat.add_zero] at y0
          obtain ⟨xk, xf, xa, xn, xc⟩ := x
          simp only [] at e1 e2 f1 f3
          subst e1 f3
          have hglt : g < w1.heap.size := (Array.getElem?_eq_some_iff.1 (hg1.trans e7)).1
          have hxn : (0 : Int) < (xn : Int) := by rw [e2, List.length_cons]; exact Int.ofNat_lt.2 (Nat.succ_pos _)
          have hxn2 : 0 < xn := Int.ofNat_lt.1 hxn
          obtain ⟨T3, t1, t2, t3, t4, t5, t6, t7⟩ := HS2.out.taken P7.out P1.out P2.out P3.out P6.out P4.out (.cells #[.int .u64 (ek y), .int .i64 xf, .slice (some ⟨g, o, none⟩) xn xc] 91)
          obtain ⟨f, rfl, hmf, htf⟩ := merge_round f HF.out.1 f2 f5
          obtain ⟨fn, tmps, assign, body, hy, hR⟩ := hY pre y T3 _ (hJ _ _ _ _ _ HJ2.out t3) ⟨mergeF ek f (MergeL.step ek (ek y) rem), by rw [← HP.out, hmf, List.append_assoc]; rfl⟩
          have HT1 := Lib.hid t1
          have HT2 := Lib.hid t2
          have HT4 := Lib.hid t4
          have HT5 := Lib.hid t5
          have HT7 := Lib.hid t7
          have HT6 := Lib.hid t6
          have HMF := Lib.hid hmf
          have HTF := Lib.hid htf
          have HE := Lib.hid (And.intro e2 (And.intro e3 (And.intro e4 e8)))
          have HF12 := Lib.hid (And.intro f1 f2)
          have HXX := Lib.hid hxn2
          clear t1 t2 t3 t4 t5 t6 t7 hmf htf hmem hmin hg1 e2 e3 e4 e5 e6 e7 e8 f1 f2 f5
          go_cut [50] from 39 to 97 (fun v50 wd => (v50 = .bool true ∧ Hid (Jx (pre ++ [y]) T3 wd ∧ Marks ds T3 wd)) ∨ (v50 = .bool false ∧ Hid (HState W T3 wd v3 l3 ∧ Heads ek (RestAt ek ev wd W.heap.size T3) (l3 ++ [⟨ek y, xf, some ⟨g, o, none⟩, xn, xc⟩]) rem ∧ Marks ds T3 wd ∧ J (pre ++ [y]) T3 wd ∧ Same (MDeps bL bK gL its) W wd ∧ wd.heap[w1.heap.size]? = some (.cells #[.int .u64 (ek y), .int .i64 xf, .slice (some ⟨g, o, none⟩) xn xc] 91 (0, 0)) ∧ w1.heap.size < wd.heap.size)))
          case first =>
            refine (wpIn_wide (n := 0)).1 ?_
            gi_wp2
            refine ⟨rfl, hR.mono ?_⟩
            rintro e W4 (⟨rfl, j1, j2, j3⟩ | ⟨rfl, j1, j2, j3⟩)
            · have hsame : Same T3 _ W4 := fun k hk hl => j3 k (.inr hk) hl
              have HR4 := Lib.hid (And.intro (HT1.out.same j2 hsame) (And.intro (HT1.out.rested HT2.out hsame) (And.intro ((HT4.out ds HM2.out).keep (fun _ h => h) (fun k hk _ => hsame k hk (HT1.out.lo k hk).2)) (And.intro j1 (And.intro ((HD2.out.trans HS2.out.size (HT5.out _ (fun k hk => HST.out.deps _ _ k hk))).trans HT1.out.size (fun k hk hl => j3 k (.inl hk) hl)) (And.intro ((hsame _ HT6.out (HT1.out.lo _ HT6.out).2).trans HT7.out) (Nat.lt_of_lt_of_le (HT1.out.lo _ HT6.out).2 j2)))))))
              clear j1 j2 j3 hsame hR hy
              gi_wp2
              go_meet
              case rel => exact .inr ⟨rfl, HR4⟩
            · have HR4 := Lib.hid (And.intro j1 ((HT4.out ds HM2.out).keep (T' := T3) (W' := W4) (fun _ h => h) (fun k hk _ => j3 k (.inr hk) (HT1.out.lo k hk).2)))
              clear j1 j2 j3 hR hy
              gi_wp2
              go_meet
              case rel => exact .inl ⟨rfl, HR4⟩
          case rest =>
            rcases hcut with ⟨rfl, HR4⟩ | ⟨rfl, HR4⟩
            · go_wp2_with fail
              refine HR4.out.2.leave rfl (fun W' hW' => ⟨⟨_, rfl⟩, .inr ⟨pre ++ [y], ⟨_, by rw [← HP.out, HMF.out, List.append_assoc]; rfl⟩, T3, hJx _ _ _ _ _ HR4.out.1 hW'⟩⟩)
            · obtain ⟨r1, r2, r3, r4, r5, r6, r7⟩ := HR4.out
              have cx0 : wc.cell? ⟨w1.heap.size, 0, none⟩ = some (.int .u64 (ek y)) := by rw [cell_of_row wc _ 0 _ _ _ r6]; rfl
              have cx1 : wc.cell? ⟨w1.heap.size, 1, none⟩ = some (.int .i64 xf) := by rw [cell_of_row wc _ 1 _ _ _ r6]; rfl
              have cx2 : wc.cell? ⟨w1.heap.size, 2, none⟩ = some (.slice (some ⟨g, o, none⟩) xn xc) := by rw [cell_of_row wc _ 2 _ _ _ r6]; rfl
              have H3 := Lib.hid (show v3.ownBlock ≠ some w1.heap.size from fun e => by
                rw [P6.out] at e
                exact absurd (HS2.out.row.blocks _ e).2 (Nat.not_lt.2 P7.out.size))
              clear r1 r2 r3 r4 r5 r6 r7
              go_wp2_with fail
              go_loopg [10] l3.length (fun kq v10 w' => ∃ (T : Blocks) (vv : Value) (lr pas : List Hd) (gp np cp : Nat), v10 = .slice (some ⟨gp, 0, none⟩) np cp ∧ Hid (lr.length ≤ kq) ∧ Hid (HState W T w' vv lr) ∧ Hid (vv.ownBlock = v3.ownBlock) ∧ Hid (HRow w' W.heap.size 91 (.slice (some ⟨gp, 0, none⟩) np cp) pas) ∧ Hid (T gp ∧ wc.heap.size ≤ gp ∧ 0 < pas.length ∧ (lr ++ pas).length ≤ rem.length) ∧ Hid (Heads ek (RestAt ek ev w' W.heap.size T) (lr ++ pas) rem) ∧ Hid (∀ z ∈ pas, z.key = ek y) ∧ Hid (Marks ds T w') ∧ Hid (J (pre ++ [y]) T w') ∧ Hid (Same (MDeps bL bK gL its) W w') ∧ Hid (w'.heap[w1.heap.size]? = some (.cells #[.int .u64 (ek y), .int .i64 xf, .slice (some ⟨g, o, none⟩) xn xc] 91 (0, 0))))
              case atStart =>
                obtain ⟨r1, r2, r3, r4, r5, r6, r7⟩ := HR4.out
                have ho : ∀ k, k < wc.heap.size → (wc.alloc (.cells #[.int .u64 (ek y), .int .i64 xf, .slice (some ⟨g, o, none⟩) xn xc] 91)).heap[k]? = wc.heap[k]? := fun k hk => Below.heap_alloc wc _ k hk
                have hs : wc.heap.size ≤ (wc.alloc (.cells #[.int .u64 (ek y), .int .i64 xf, .slice (some ⟨g, o, none⟩) xn xc] 91)).heap.size := by simp
                exact ⟨withNew T3 wc _, v3, l3, [⟨ek y, xf, some ⟨g, o, none⟩, xn, xc⟩], wc.heap.size, 1, 1, rfl, Lib.hid (Nat.le_refl _), Lib.hid (r1.old hs ho), Lib.hid rfl, Lib.hid (one_row wc W.heap.size r1.size ⟨ek y, xf, some ⟨g, o, none⟩, xn, xc⟩), Lib.hid ⟨.inr ⟨Nat.le_refl _, by simp⟩, Nat.le_refl _, Nat.succ_pos _, Nat.le_trans (Nat.le_of_eq (by rw [P4.out.length_eq]; simp)) HS2.out.short⟩,
                  Lib.hid (r2.mono (fun _ _ _ hR => hR.keep _ _ (fun _ h => .inl h) (fun g cs hg _ => ho g (r1.lo g hg).2))), Lib.hid (fun z hz => by rw [List.mem_singleton] at hz; subst hz; rfl), Lib.hid (r3.keep (fun _ h => .inl h) (fun k hk _ => ho k (r1.lo k hk).2)), Lib.hid (hJ _ _ _ _ _ r4 (Turned.grow rfl rfl rfl hs (fun k hk _ => ho k hk))), Lib.hid (r5.trans r1.size (fun k _ hl => ho k hl)), Lib.hid ((ho _ r7).trans r6)⟩
              case round =>
                obtain ⟨T4, vv, lr, pas, gp, np, cp, rfl, K1, K2, K3, K4, K5, K6, K7, K8, K9, K10, K11⟩ := hrel
                obtain ⟨Ah, ch2, hvv, hlch⟩ := K2.out.row.slice
                subst hvv
                have hbx2 := K2.out.box
                have ch3 : wr.cell? ⟨W.heap.size, 0, none⟩ = some (.slice Ah lr.length ch2) := by rw [cell_of_row wr _ 0 _ _ _ hbx2]; rfl
                have cx3 : wr.cell? ⟨w1.heap.size, 0, none⟩ = some (.int .u64 (ek y)) := by rw [cell_of_row wr _ 0 _ _ _ K11.out]; rfl
                clear hbx2 hlch cx0 cx1 cx2 ch
                go_upto_region 15 with (fail)
                go_cut [66] from 53 to 70 (fun v66 wd => ∃ b : Bool, v66 = .bool b ∧ Hid (b = true → 0 < lr.length ∧ (at_ lr 0).key = ek y) ∧ Hid (b = false → 0 < lr.length → (at_ lr 0).key ≠ ek y) ∧ Hid (∃ n, wd = wr.drewN n))
                case first =>
                  by_cases hl0 : lr.length = 0
                  · have hd3 : decide ((lr.length : Int) > 0) = false := decide_eq_false (by rw [hl0]; decide)
                    have hd4 : decide (0 < lr.length) = false := decide_eq_false (by rw [hl0]; exact Nat.lt_irrefl 0)
                    have HL0 := Lib.hid hl0
                    clear hl0
                    go_quiet (fail)
                    go_wp2_with (fail)
                    go_meet
                    case rel => exact ⟨false, rfl, Lib.hid (fun h => nomatch h), Lib.hid (fun _ h => absurd h (by rw [HL0.out]; exact Nat.lt_irrefl 0)), Lib.hid ⟨_, rfl⟩⟩
                  · have hl1 : 0 < lr.length := Nat.pos_of_ne_zero hl0
                    obtain ⟨g4, cap4, cur4, e4, _⟩ := K2.out.row.form hl1
                    injection e4 with e4 _ e5
                    subst e4 e5
                    obtain ⟨k0, _, _⟩ := K2.out.row.cell 0 hl1
                    rw [Nat.zero_mul] at k0
                    have hd3 : decide ((lr.length : Int) > 0) = true := decide_eq_true (Int.ofNat_lt.2 hl1)
                    have hd4 : decide (0 < lr.length) = true := decide_eq_true hl1
                    have hb5 : (0 : Int) < (lr.length : Int) := Int.ofNat_lt.2 hl1
                    have HB1 : Hid (((at_ lr 0).key == ek y) = true → (at_ lr 0).key = ek y) := Lib.hid (fun h => beq_iff_eq.1 h)
                    have HB2 : Hid (((at_ lr 0).key == ek y) = false → (at_ lr 0).key ≠ ek y) := Lib.hid (fun h => beq_eq_false_iff_ne.1 h)
                    generalize hbb : ((at_ lr 0).key == ek y) = bb at HB1 HB2
                    go_quiet (fail)
                    go_wp2_with (fail)
                    go_meet
                    case rel => exact ⟨bb, rfl, Lib.hid (fun h => ⟨hl1, HB1.out h⟩), Lib.hid (fun h _ => HB2.out h), Lib.hid ⟨_, rfl⟩⟩
                case rest =>
                  obtain ⟨b, rfl, G1, G2, G3⟩ := hcut
                  obtain ⟨n15, rfl⟩ := G3.out
                  obtain ⟨hnp, hpc, hpm⟩ := K4.out.cap
                  subst hnp
                  have KX2 : Hid (HState W T4 (wr.drewN n15) (.slice Ah lr.length ch2) lr) := Lib.hid (K2.out.same (Nat.le_refl _) (fun _ _ _ => rfl))
                  have KX4 : Hid (HRow (wr.drewN n15) W.heap.size 91 (.slice (some ⟨gp, 0, none⟩) pas.length cp) pas) := Lib.hid (K4.out.keep (fun _ _ => rfl))
                  have KX6 : Hid (Heads ek (RestAt ek ev (wr.drewN n15) W.heap.size T4) (lr ++ pas) rem) := Lib.hid (K6.out.mono (fun _ _ _ hR => hR.keep _ _ (fun _ h => h) (fun _ _ _ _ => rfl)))
                  have KX8 : Hid (Marks ds T4 (wr.drewN n15)) := Lib.hid (K8.out.keep (fun _ h => h) (fun _ _ _ => rfl))
                  have KX9 : Hid (J (pre ++ [y]) T4 (wr.drewN n15)) := Lib.hid (hJ _ _ _ _ _ K9.out (Turned.drewN _ _ _))
                  have KX10 : Hid (Same (MDeps bL bK gL its) W (wr.drewN n15)) := Lib.hid (K10.out.trans K2.out.size (fun _ _ _ => rfl))
                  have KX11 : Hid ((wr.drewN n15).heap[w1.heap.size]? = some (.cells #[.int .u64 (ek y), .int .i64 xf, .slice (some ⟨g, o, none⟩) xn xc] 91 (0, 0))) := Lib.hid K11.out
                  have HPM := Lib.hid hpm
                  have HPC := Lib.hid hpc
                  have HNE : Hid ((Value.slice Ah lr.length ch2).ownBlock ≠ some gp) := Lib.hid (fun e => by
                    rw [K3.out] at e
                    exact absurd (HR4.out.1.row.blocks _ e).2 (Nat.not_lt.2 K5.out.2.1))
                  clear hpm hpc ch3 cx3
                  cases b with
                  | true =>
                    obtain ⟨hl1, hk1⟩ := G1.out rfl
                    have HK1 := Lib.hid hk1
                    have HL9 := Lib.hid hl1
                    have HLF2 : Hid ((lr.length + 1) * 40 ≤ 140737488355328) := Lib.hid (fits_l K5.out.2.2.2 HRL.out hlen)
                    have HLP2 : Hid ((pas.length + 1) * 40 ≤ 140737488355328) := Lib.hid (fits_r K5.out.2.2.2 HRL.out hlen)
                    clear hl1 hk1
                    obtain ⟨i82, hi82, hz820, hz821, hz822⟩ := info_parts info91
                    have hx3 : ∀ x2 : Hd, ∀ u ∈ [Value.int .u64 x2.key, .int .i64 x2.frm, .slice x2.ad x2.len x2.cap], u.oneCell' = true := by
                      intro x2 u hu
                      simp only [List.mem_cons, List.not_mem_nil, or_false] at hu
                      rcases hu with hu | hu | hu <;> subst hu <;> rfl
                    have HX3 := Lib.hid hx3
                    clear hx3
                    go_wp2_with (first
                      | (go_at_call 51; go_must (refine (take_calls lr KX2.out.heap HL9.out W.heap.size W.heap.size _ (wr.drewN n15) KX2.out.box KX2.out.row KX2.out.size HLF2.out).mono ?_; rintro e w2 ⟨x2, rfl, v4, l4, p1, p2, p3, p4, p5, p6, p7⟩; have KQ : Hid (HRow w2 W.heap.size 91 (.slice (some ⟨gp, 0, none⟩) pas.length cp) pas) := Lib.hid (KX4.out.keep (fun k hk => p7.same k (KX4.out.blocks k hk).2 (fun e => by simp only [Value.ownBlock, Option.some.injEq] at hk; subst hk; exact e.elim (fun e => sep_types KX4.out KX2.out.box e) HNE.out))); have R1 := Lib.hid p1; have R2 := Lib.hid p2; have R3 := Lib.hid p3; have R4 := Lib.hid p4; have R5 := Lib.hid p5; have R6 := Lib.hid p6; have R7 := Lib.hid p7; clear p1 p2 p3 p4 p5 p6 p7))
                      | (at_builtin; go_must (refine wpList_append_own_at _ rfl (.tmp 67) (.tmp 69) 86 rfl W.heap.size 91 i82 _ 3 40 Try.underlying86 hi82 hz820 hz821 hz822 rfl (by decide) (.slice (some ⟨gp, 0, none⟩) pas.length cp) pas.length (rowCells pas) (by rfl) (KQ.out.1.alloc _) ⟨w2.heap.size, 0, none⟩ 1 1 [.int .u64 x2.key, .int .i64 x2.frm, .slice x2.ad x2.len x2.cap] (by rfl) (by rfl) (World.news_of_block (cs := #[.int .u64 x2.key, .int .i64 x2.frm, .slice x2.ad x2.len x2.cap]) (t := 91) (fr := (0, 0)) (World.alloc_heap_new w2 _)) (HX3.out x2) (max40 HLP2.out) HLP2.out (by rw [World.size_alloc]; exact Nat.le_succ_of_le (Nat.le_trans KX2.out.size R7.out.size)) ?_; intro v5 w3 hown1 hgrow hnil hat; have HOWN1 := Lib.hid hown1; have HGR := Lib.hid hgrow; have HAT := Lib.hid hat; clear hown1 hgrow hnil hat)))
                    obtain ⟨T5, gp5, cp5, e5, s1, s2, s3, s4, s5, s6, s7, s8, s9⟩ := pass_round KX2.out KX4.out K5.out.1 HNE.out KX6.out R1.out R2.out R3.out R4.out R6.out R7.out HOWN1.out HGR.out HAT.out
                    subst e5
                    have hkx := taken_key KX2.out.heap HL9.out R4.out R5.out
                    have M1 := len_less R4.out K1.out
                    have M2 := Lib.hid (R6.out.trans K3.out)
                    have M3 := Lib.hid (And.intro s3 (And.intro (Nat.le_trans K5.out.2.1 s4) (And.intro (show 0 < (pas ++ [x2]).length by simp) (len_pass R4.out K5.out.2.2.2))))
                    have M4 : Hid (∀ z ∈ pas ++ [x2], z.key = ek y) := Lib.hid (fun z hz => by
                      rcases List.mem_append.1 hz with hz | hz
                      · exact K7.out z hz
                      · rw [List.mem_singleton] at hz; rw [hz, hkx]; exact HK1.out)
                    have M5 := Lib.hid (s7 _ KX8.out)
                    have M6 := Lib.hid (hJ _ _ _ _ _ KX9.out s6)
                    have M7 := Lib.hid (KX10.out.trans KX2.out.size (s8 _ (fun k hk => HST.out.deps _ _ k hk)))
                    have M8 := Lib.hid ((s9 w1.heap.size (Array.getElem?_eq_some_iff.1 KX11.out).1 (fun e => absurd (Nat.lt_of_lt_of_le (HS2.out.lo _ HS2.out.th).2 P7.out.size) (by rw [e]; exact Nat.lt_irrefl _)) (fun e => H3.out (by rw [← K3.out]; exact e)) (fun e => absurd (Nat.lt_of_lt_of_le HR4.out.2.2.2.2.2.2 K5.out.2.1) (by rw [e]; exact Nat.lt_irrefl _))).trans KX11.out)
                    have S1 := Lib.hid s1
                    have S2 := Lib.hid s2
                    have S5 := Lib.hid s5
                    clear s1 s2 s3 s4 s5 s6 s7 s8 s9 hkx
                    go_roundg l4.length
                    case measure => exact M1
                    case rel => exact ⟨T5, v4, l4, pas ++ [x2], gp5, pas.length + 1, cp5, rfl, Lib.hid (Nat.le_refl _), S1, M2, S2, M3, S5, M4, M5, M6, M7, M8⟩
                  | false =>
                    have HNM := no_more KX2.out.heap KX6.out HMF.out (G2.out rfl)
                    have HMID := Lib.hid (Mid.start KX6.out K7.out HNM)
                    clear HNM
                    go_wp2_with (fail)
                    go_loopg [73] pas.length (fun kq v73 w' => ∃ (T : Blocks) (vv : Value) (lr' : List Hd) (j : Nat) (rem' : List (List α)), v73 = .int .i64 (j : Int) ∧ Hid (j ≤ pas.length ∧ pas.length ≤ kq + j) ∧ Hid (HState W T w' vv lr') ∧ Hid (HRow w' W.heap.size 91 (.slice (some ⟨gp, 0, none⟩) pas.length cp) pas) ∧ Hid (T gp ∧ vv.ownBlock ≠ some gp ∧ lr'.length + (pas.length - j) ≤ rem.length) ∧ Hid (Mid ek (RestAt ek ev w' W.heap.size T) (ek y) rem lr' (pas.drop j) rem') ∧ Hid (Marks ds T w') ∧ Hid (J (pre ++ [y]) T w') ∧ Hid (Same (MDeps bL bK gL its) W w'))
                    case atStart => exact ⟨T4, _, lr, 0, rem, rfl, Lib.hid ⟨Nat.zero_le _, Nat.le_refl _⟩, KX2, KX4, Lib.hid ⟨K5.out.1, HNE.out, len_start K5.out.2.2.2⟩, HMID, KX8, KX9, KX10⟩
                    case round =>
                      obtain ⟨T5, v5, l5, j, rem5, rfl, L1, L2, L3, L4, L5, L6, L7, L8⟩ := hrel
                      obtain ⟨Ah5, ch5, hvv5, hlc5⟩ := L2.out.row.slice
                      subst hvv5
                      clear hlc5
                      by_cases hjl : j < pas.length
                      · have hd5 : decide ((j : Int) < (pas.length : Int)) = true := decide_eq_true (Int.ofNat_lt.2 hjl)
                        have hd6 : decide (j < pas.length) = true := decide_eq_true hjl
                        have hb7 : (0 : Int) ≤ (j : Int) := Int.natCast_nonneg j
                        have hb8 : (j : Int) < (pas.length : Int) := Int.ofNat_lt.2 hjl
                        obtain ⟨c0, c1, c2⟩ := L3.out.cell j hjl
                        have hmd := L5.out
                        rw [drop_at hjl] at hmd
                        obtain ⟨pj, hpj⟩ : ∃ p, at_ pas j = p := ⟨_, rfl⟩
                        rw [hpj] at c0 c1 c2 hmd
                        obtain ⟨pk, pf, pa, pn, pc⟩ := pj
                        obtain ⟨i5, z, zs, m1, m2, ⟨g5, o5, cs5, r1, r2, r3, r4, r5, r6, r7, r8⟩, m4, m5⟩ := hmd.next
                        simp only [] at r1 r2 r3 r4 c0 c1 c2 m1
                        subst r1 m1
                        rw [List.length_cons] at r2
                        subst r2
                        have HMD := Lib.hid hmd
                        have HM4 := Lib.hid m4
                        have HM5 := Lib.hid m5
                        have HR8 := Lib.hid (And.intro r3 (And.intro r4 (And.intro r5 (And.intro r6 (And.intro r7 r8)))))
                        have HJL := Lib.hid hjl
                        have HM2 := Lib.hid m2
                        clear hmd m4 m5 r3 r4 r5 r6 r7 r8 hpj hjl m2
                        obtain ⟨j2, hj2⟩ : ∃ j2, j + 1 = j2 := ⟨_, rfl⟩
                        have hj3 : (j : Int) + 1 = (j2 : Int) := by rw [← hj2]; rfl
                        have HJ3 := Lib.hid (loop_nums hj2 HJL.out L1.out.2)
                        have HJ4 := Lib.hid (left_more L4.out.2.2 hj2 HJL.out)
                        have hw3 : IntKind.i64.wrap (j2 : Int) = (j2 : Int) := IntWalk.i64_in _ (loop_fits (fits_r K5.out.2.2.2 HRL.out hlen) HJ3.out.1)
                        rw [hj2] at HM4 HM5
                        clear hj2
                        cases zs with
                        | nil =>
                          have hz1 : ¬ 0 < ([] : List α).length := Nat.lt_irrefl 0
                          go_wp2_with (fail)
                          all_goals
                            obtain ⟨T6, q1, q2, q3, q4, q5, q6, q7⟩ := gone_round L2.out L3.out (HM4.out (by trivial)) _
                            have Q := Lib.hid (And.intro q1 (And.intro q2 (And.intro (q3 _ L4.out.1) (And.intro q4 (And.intro (q6 _ L6.out) (And.intro (hJ _ _ _ _ _ L7.out q5) (L8.out.trans L2.out.size (q7 _))))))))
                            clear q1 q2 q3 q4 q5 q6 q7
                            go_roundg (pas.length - j2)
                            case measure => exact HJ3.out.2.2
                            case rel => exact ⟨T6, _, l5, j2, _, rfl, Lib.hid ⟨HJ3.out.1, HJ3.out.2.1⟩, Lib.hid Q.out.1, Lib.hid Q.out.2.1, Lib.hid ⟨Q.out.2.2.1, L4.out.2.1, HJ4.out.1⟩, Lib.hid Q.out.2.2.2.1, Lib.hid Q.out.2.2.2.2.1, Lib.hid Q.out.2.2.2.2.2.1, Lib.hid Q.out.2.2.2.2.2.2⟩
                        | cons a tl =>
                          have hz1 : 0 < (a :: tl).length := Nat.succ_pos _
                          have hz2 : ¬ pc = 1 := fun e => by
                            have := HR8.out.1
                            rw [e, List.length_cons] at this
                            exact absurd (Nat.le_of_succ_le_succ this) (Nat.not_succ_le_zero _)
                          obtain ⟨n1, n2⟩ := rest_next (i5 := i5) HR8.out
                          have HN := Lib.hid (HM5.out a tl ⟨ek a, i5, some ⟨g5, o5 + 1, none⟩, (a :: tl).length, pc - 1⟩ rfl rfl rfl n1)
                          clear n1
                          go_upto_region 22 with (fail)
                          obtain ⟨q1, q2, q3, q4, q5, q6, q7⟩ := (gone_round L2.out L3.out HN.out (.cells #[.int .u64 pk, .int .i64 (i5 : Int), .slice (some ⟨g5, o5 + 1, none⟩) (tl.length + 1) (pc - 1)] 91)).choose_spec
                          obtain ⟨T6, hT6⟩ : ∃ T6, (gone_round L2.out L3.out HN.out (.cells #[.int .u64 pk, .int .i64 (i5 : Int), .slice (some ⟨g5, o5 + 1, none⟩) (tl.length + 1) (pc - 1)] 91)).choose = T6 := ⟨_, rfl⟩
                          rw [hT6] at q1 q3 q4 q5 q6
                          clear hT6
                          have b12 := World.alloc_heap_new wr (.cells #[.int .u64 pk, .int .i64 (i5 : Int), .slice (some ⟨g5, o5 + 1, none⟩) (tl.length + 1) (pc - 1)] 91)
                          have hg5 : (wr.alloc (.cells #[.int .u64 pk, .int .i64 (i5 : Int), .slice (some ⟨g5, o5 + 1, none⟩) (tl.length + 1) (pc - 1)] 91)).heap[g5]? = wr.heap[g5]? := Below.heap_alloc wr _ _ (Array.getElem?_eq_some_iff.1 HR8.out.2.2.2.2.1).1
                          have nb12 : ¬ (wr.heap.size = W.heap.size ∨ (Value.slice Ah5 l5.length ch5).ownBlock = some wr.heap.size) := fun e => e.elim (fun e => absurd (L2.out.lo _ L2.out.th).2 (by rw [e]; exact Nat.lt_irrefl _)) (fun e => absurd (L2.out.row.blocks _ e).2 (Nat.lt_irrefl _))
                          generalize hX1 : wr.alloc (.cells #[.int .u64 pk, .int .i64 (i5 : Int), .slice (some ⟨g5, o5 + 1, none⟩) (tl.length + 1) (pc - 1)] 91) = X1 at q1 q2 q4 q5 q6 q7 b12 hg5 ⊢
                          have d1 : X1.cell? ⟨wr.heap.size, 1, none⟩ = some (.int .i64 (i5 : Int)) := by rw [cell_of_row X1 _ 1 _ _ _ b12]; rfl
                          have d2 : X1.cell? ⟨wr.heap.size, 2, none⟩ = some (.slice (some ⟨g5, o5 + 1, none⟩) (tl.length + 1) (pc - 1)) := by rw [cell_of_row X1 _ 2 _ _ _ b12]; rfl
                          have y3 : X1.cell? ⟨g5, o5 + 1, none⟩ = some (.string (ev a)) := (World.cell?_of_block hg5).trans n2
                          have hkc := (HST.out.keep _ _ q1.size (L8.out.trans L2.out.size (q7 _))).key
                          have ck : X1.cell? ⟨bK, 0, none⟩ = some (.func (.func kf) #[] #[]) := by rw [cell_of_row X1 _ 0 _ _ _ hkc]; rfl
                          have nbK : ¬ (bK = W.heap.size ∨ (Value.slice Ah5 l5.length ch5).ownBlock = some bK) := q1.apart hkc (fun _ e => (by cases e)) (fun _ e => (by cases e))
                          have nbg : ¬ (g5 = W.heap.size ∨ (Value.slice Ah5 l5.length ch5).ownBlock = some g5) := L2.out.apart HR8.out.2.2.2.2.1 (fun _ e => (by cases e)) (fun _ e => (by cases e))
                          have Q1 := Lib.hid q1
                          have Q2 := Lib.hid q2
                          have Q3 := Lib.hid q3
                          have Q4 := Lib.hid q4
                          have Q6 := Lib.hid (q6 _ L6.out)
                          have Q5 := Lib.hid (hJ _ _ _ _ _ L7.out q5)
                          have Q7 := Lib.hid (L8.out.trans L2.out.size (q7 (MDeps bL bK gL its)))
                          have HLF5 : Hid ((l5.length + 1) * 40 ≤ 140737488355328) := Lib.hid (fits_one HJ4.out.2 HRL.out hlen)
                          have hb9 : (0 : Int) < ((tl.length + 1 : Nat) : Int) := Int.ofNat_lt.2 (Nat.succ_pos _)
                          clear q1 q2 q3 q4 q5 q6 q7 b12 hg5 hkc n2 hX1 c0 c1 c2
                          go_region_held3 (fun w' => w'.cell? ⟨bK, 0, none⟩ = some (.func (.func kf) #[] #[]) ∧ w'.cell? ⟨wr.heap.size, 1, none⟩ = some (.int .i64 (i5 : Int)) ∧ w'.cell? ⟨wr.heap.size, 2, none⟩ = some (.slice (some ⟨g5, o5 + 1, none⟩) (tl.length + 1) (pc - 1)) ∧ w'.cell? ⟨g5, o5 + 1, none⟩ = some (.string (ev a)))
                            (first
                              | go_keep
                              | (go_split_ands
                                 refine ⟨?_, ?_, ?_, ?_⟩ <;> (refine (hbl.cell (World.block_lt_of_cell? _ _ (by assumption))).trans ?_; assumption))
                              | (go_split_ands
                                 refine ⟨?_, ?_, ?_, ?_⟩ <;> (refine (World.cell?_of_block (p6.same _ (World.block_lt_of_cell? _ _ (by assumption)) (by assumption))).trans ?_; assumption)))
                            (first
                              | (refine (hkey a _).mono ?_; rintro e wk ⟨rfl, hbl⟩)
                              | (go_at_call 50; refine (put_calls ⟨ek a, i5, some ⟨g5, o5 + 1, none⟩, tl.length + 1, pc - 1⟩ l5 Q1.out.heap W.heap.size W.heap.size (.slice Ah5 l5.length ch5) _ ((hbl.block _ (Q1.out.lo _ Q1.out.th).2).trans Q1.out.box) (HRow.turn (w := X1.drew) Q1.out.row.drew (Turns.of_below (fun _ => False) hbl) (fun _ _ h => h)) (Nat.le_trans Q1.out.size hbl.size) HLF5.out).mono ?_; rintro e wp ⟨rfl, v', l', p1, p2, p3, p4, p5, p6⟩))
                          go_wp2_with (fail)
                          obtain ⟨T7, u1, u2, u3, u4, u5', u6', u7', u8'⟩ := more_round Q1.out Q2.out L4.out.2.1 Q4.out ((Below.refl X1.heap.size X1).drew.trans hbl) p6 p1 p2 p3 p4 p5
                          have U := Lib.hid (And.intro u1 (And.intro u2 (And.intro (And.intro (u3 _ (Q3.out _ L4.out.1)) (And.intro u4 (len_left p4 HJ4.out.2))) (And.intro u5' (And.intro (u7' _ Q6.out) (And.intro (hJ _ _ _ _ _ Q5.out u6') (Q7.out.trans Q1.out.size (u8' _ (fun k hk => HST.out.deps _ _ k hk)))))))))
                          clear u1 u2 u3 u4 u5' u6' u7' u8'
                          go_roundg (pas.length - j2)
                          case measure => exact HJ3.out.2.2
                          case rel => exact ⟨T7, _, l', j2, _, rfl, Lib.hid ⟨HJ3.out.1, HJ3.out.2.1⟩, Lib.hid U.out.1, Lib.hid U.out.2.1, Lib.hid U.out.2.2.1, Lib.hid U.out.2.2.2.1, Lib.hid U.out.2.2.2.2.1, Lib.hid U.out.2.2.2.2.2.1, Lib.hid U.out.2.2.2.2.2.2⟩
                      · have hd5 : decide ((j : Int) < (pas.length : Int)) = false := decide_eq_false (fun h => hjl (Int.ofNat_lt.1 h))
                        have hd6 : decide (j < pas.length) = false := decide_eq_false hjl
                        obtain ⟨e1, e2, e3, e4⟩ := full_done hjl L5.out L4.out.2.2
                        have E := Lib.hid (And.intro e1 (And.intro e2 (And.intro e3 e4)))
                        clear e1 e2 e3 e4 hjl
                        go_wp2_with (fail)
                        go_roundg f
                        case measure => exact HF.out.2
                        case rel => exact ⟨T5, _, l5, pre ++ [y], rem5, f, Lib.hid ⟨by rw [E.out.1]; exact HTF.out, Nat.le_refl _⟩, Lib.hid (by rw [E.out.1, ← HP.out, HMF.out, List.append_assoc]; rfl), Lib.hid (E.out.2.2.2.trans HRL.out), L6, Lib.hid (L2.out.full E.out.2.1 E.out.2.2.1), L7, L8⟩
end
end Go.Proofs.Ytojbfjfjhfnopaa.MergeS
end

section
/- listed, slices.Clone, merge.Merge at entries: what they make. -/
namespace Go.Proofs.Ytojbfjfjhfnopaa.MergeS
open Go.RowKit Go.Shelf RangeD SeqS MergeL HeapL HeapS
attribute [local go_sem] Oper.semAt_some
set_option linter.unusedVariables false
theorem Below.cell1 {w w1 : World} {g j : Nat} {u : Value} (hb : Below w.heap.size w w1) (h : w.cell? ⟨g, j, none⟩ = some u) : w1.cell? ⟨g, j, none⟩ = some u := (hb.cell (World.block_lt_of_cell? _ _ h)).trans h
theorem info46 : (Try.prog.info? 46).map (fun i => (i.zero, i.size, i.bytes)) = some (some .nilFunc, 1, 8) := by kernel_rfl
theorem goes44 : ∀ args w, (callFunc 49 args).run Try.prog w = .ok (.enter 49 args) w := by
  intro args w
  have hf := Try.func49
  simp [callFunc, go_sem, hf, Try.f49]
set_option maxRecDepth 100000 in
theorem listed_calls (A : Option Addr) (n c : Nat) (w : World) : Calls Try.prog 20 #[.slice A n c] w fun e w' => e = .returned (.func (.func 47) #[] #[.pointer (some ⟨w.heap.size, 0, none⟩)]) ∧ Below w.heap.size w w' ∧ w'.heap[w.heap.size]? = some (.cells #[.slice A n c] 48 (0, 0)) := by
  go_enter Try.func20, Try.ntmps20
  go_wp2
  refine bodyPost_ret (results_tmp rfl _ _ _) rfl ?_
  exact ⟨rfl, (Below.refl _ w).alloc (Nat.le_refl _) _, World.alloc_heap_new w _⟩
set_option maxRecDepth 100000 in
theorem clone_calls (g c : Nat) (vs : List Value) (w : World) (hc : ∀ j u, vs[j]? = some u → w.cell? ⟨g, j, none⟩ = some u) (hone : ∀ u ∈ vs, u.oneCell' = true) (hl : vs.length ≤ 3518437208882) :
    Calls Try.prog 48 #[.slice (some ⟨g, 0, none⟩) vs.length c] w fun e w' => ∃ A' c', e = .returned (.slice A' vs.length c') ∧ Below w.heap.size w w' ∧ ∃ g', w.heap.size ≤ g' ∧ g' < w'.heap.size ∧ (0 < vs.length → A' = some ⟨g', 0, none⟩) ∧ ∀ j u, vs[j]? = some u → w'.cell? ⟨g', j, none⟩ = some u := by
  obtain ⟨i0, hi0, hz0, hz1, hz2⟩ := info_parts info46
  have HC := Lib.hid hc
  have HO := Lib.hid hone
  have HL := Lib.hid hl
  clear hc hone hl
  have hnil : ∀ W, (binOp .eql 43 (.slice (some ⟨g, 0, none⟩) vs.length c) (.slice none 0 0)).run Try.prog W = .ok (.bool false) W := fun W => by kernel_rfl
  go_enter Try.func48, Try.ntmps48
  go_wp2_with (first | (at_builtin; go_must (refine wpList_append_own_at _ rfl (.tmp 5) (.tmp 6) 43 rfl w.heap.size 46 i0 _ 1 8 Try.underlying43 hi0 hz0 hz1 hz2 rfl (by decide) (.slice (some ⟨w.heap.size, 0, none⟩) 0 0) 0 [] (by rfl) (World.ownsRow_lit (base := w.heap.size) (e := 46) (size := 1) w #[] 0 (Nat.le_refl _) (by unfold maxLen; omega) rfl) ⟨g, 0, none⟩ vs.length c vs (by rfl) (by simp) (fun j u hj => by rw [show (⟨g, 0, none⟩ : Addr).add j = ⟨g, j, none⟩ from by unfold Addr.add; split <;> simp_all]; exact Below.cell1 ((Below.refl _ w).alloc (Nat.le_refl _) _) (HC.out j u hj)) HO.out (by have := HL.out; unfold maxLen; omega) (by have := HL.out; omega) (by simp) ?_; intro v5 w3 hown1 hgrow hnil hat; have HOWN1 := Lib.hid hown1; have HGR := Lib.hid hgrow; have HAT := Lib.hid hat; clear hown1 hgrow hnil hat)))
  refine bodyPost_ret (results_tmp rfl _ _ _) rfl ?_
  have hb : Below w.heap.size w w3 := by
    have h1 := (Below.refl w.heap.size w).alloc (Nat.le_refl _) (.cells #[] 46)
    refine h1.trans ⟨HGR.out.os, HGR.out.tape, HGR.out.output, HGR.out.size, fun k hk => HGR.out.block k (by rw [World.size_alloc]; omega) (fun e => ?_)⟩
    simp only [Value.ownBlock, Option.some.injEq] at e
    omega
  have ho := HOWN1.out
  rw [Nat.zero_add, List.nil_append] at ho
  rcases ho.2 with ⟨e, hn⟩ | ⟨g', cap, cur, e, h1, h2, h3, h4, h5, h6⟩
  · subst e
    refine ⟨none, 0, by rw [hn]; rfl, hb, w.heap.size, Nat.le_refl _, ?_, fun h => ?_, fun j u hj => ?_⟩
    · have := hb.size
      have h2 := HGR.out.size
      rw [World.size_alloc] at h2
      omega
    · rw [hn] at h; simp at h
    · rw [List.eq_nil_of_length_eq_zero hn] at hj; simp at hj
  · subst e
    refine ⟨_, cap, rfl, hb, g', h1, (Array.getElem?_eq_some_iff.1 h2).1, fun _ => rfl, fun j u hj => ?_⟩
    have hlt : j < vs.length := (List.getElem?_eq_some_iff.1 hj).1
    rw [World.ownsRow.cellAt ho j (by omega)]
    exact hj
section
variable {α : Type} {ek : α → Int} {ev : α → ByteArray}
theorem ItOk.below {it : It α} {w w1 : World} (h : ItOk ek ev it w) (hb : Below w.heap.size w w1) : ItOk ek ev it w1 :=
  ⟨h.seq.same hb.size (fun k _ hk => hb.block k hk), h.goes, fun k hk => Nat.lt_of_lt_of_le (h.lt k hk) hb.size, h.len⟩
set_option maxRecDepth 100000 in
theorem merge_calls (kf g c : Nat) (its : List (It α)) (w : World) (hc : ∀ (i : Nat) it, its[i]? = some it → w.cell? ⟨g, i, none⟩ = some (.func (.func it.gf) #[] it.lb)) (hok : ∀ it ∈ its, ItOk ek ev it w) (hl : (its.length + 1) * 40 ≤ 140737488355328) :
    Calls Try.prog 22 #[.func (.func kf) #[] #[], .slice (some ⟨g, 0, none⟩) its.length c] w fun e w' => ∃ bL bK A gL cap, e = .returned (.func (.func 49) #[] #[.pointer (some ⟨bL, 0, none⟩), .pointer (some ⟨bK, 0, none⟩)]) ∧ Below w.heap.size w w' ∧ MLaid ek ev w' bL bK A gL cap kf its ∧ w.heap.size ≤ bL ∧ w.heap.size ≤ bK ∧ w.heap.size ≤ gL := by
  obtain ⟨vs, hvs⟩ : ∃ vs, its.map (fun it => Value.func (.func it.gf) #[] it.lb) = vs := ⟨_, rfl⟩
  have hlen : vs.length = its.length := by rw [← hvs, List.length_map]
  have hv : ∀ j u, vs[j]? = some u → ∃ it : It α, its[j]? = some it ∧ u = Value.func (.func it.gf) #[] it.lb := fun j u hj => by
    rw [← hvs, List.getElem?_map] at hj
    cases h : its[j]? with
    | none => rw [h] at hj; cases hj
    | some it => rw [h] at hj; injection hj with hj; exact ⟨it, by first | rfl | exact h, hj.symm⟩
  have HV1 : Hid (∀ w1 : World, Below w.heap.size w w1 → ∀ j u, vs[j]? = some u → w1.cell? ⟨g, j, none⟩ = some u) := Lib.hid (fun w1 hb j u hj => by
    obtain ⟨it, h1, rfl⟩ := hv j u hj
    exact Below.cell1 hb (hc j it h1))
  have HV2 : Hid (∀ u ∈ vs, u.oneCell' = true) := Lib.hid (fun u hu => by
    obtain ⟨j, hj, rfl⟩ := List.getElem_of_mem hu
    obtain ⟨it, _, e⟩ := hv j _ (List.getElem?_eq_getElem hj)
    rw [e]
    rfl)
  have HV3 : Hid (vs.length ≤ 3518437208882) := Lib.hid (by omega)
  have HV4 : Hid (∀ (j : Nat) (it : It α), its[j]? = some it → vs[j]? = some (Value.func (.func it.gf) #[] it.lb)) := Lib.hid (fun j it h => by rw [← hvs, List.getElem?_map, h]; rfl)
  have HO := Lib.hid hok
  have HL := Lib.hid hl
  have HLEN := Lib.hid hlen
  rw [← hlen]
  clear hc hok hl hv hvs hlen
  go_enter Try.func22, Try.ntmps22
  go_wp2_with (first | (go_at_call 48; go_must (refine (clone_calls g c vs _ (HV1.out _ ((Below.refl _ w).alloc (Nat.le_refl _) _)) HV2.out HV3.out).mono ?_; rintro e w2 ⟨A', c', rfl, hb, g', q1, q2, q3, q4⟩; have HB := Lib.hid hb; have Q := Lib.hid (And.intro q1 (And.intro q2 (And.intro q3 q4))); clear hb q1 q2 q3 q4)))
  refine bodyPost_ret (results_tmp rfl _ _ _) rfl ?_
  obtain ⟨q1, q2, q3, q4⟩ := Q.out
  have b1 : Below w.heap.size w (w.alloc (.cells #[.func (.func kf) #[] #[]] 42)) := (Below.refl _ w).alloc (Nat.le_refl _) _
  have b2 := HB.out
  have b3 : Below w2.heap.size w2 (w2.alloc (.cells #[.slice A' vs.length c'] 43)) := (Below.refl _ w2).alloc (Nat.le_refl _) _
  have hs2 := b2.size
  rw [World.size_alloc] at hs2 q1
  have b12 : Below w.heap.size w w2 := b1.trans (b2.mono (by rw [World.size_alloc]; omega))
  have b123 : Below w.heap.size w (w2.alloc (.cells #[.slice A' vs.length c'] 43)) := b12.trans (b3.mono (by omega))
  have hk : (w2.alloc (.cells #[.slice A' vs.length c'] 43)).heap[w.heap.size]? = some (.cells #[.func (.func kf) #[] #[]] 42 (0, 0)) := (b3.block _ (by omega)).trans ((b2.block _ (by rw [World.size_alloc]; omega)).trans (World.alloc_heap_new w _))
  refine ⟨w2.heap.size, w.heap.size, A', g', c', rfl, b123, ⟨by rw [← HLEN.out]; exact World.alloc_heap_new w2 _, fun h => q3 (by rw [HLEN.out]; exact h), by rw [World.size_alloc]; omega, fun i it hi => Below.cell1 b3 (q4 i _ (HV4.out i it hi)), hk, fun it hi => (HO.out it hi).below b123, HL.out⟩, by omega, Nat.le_refl _, by omega⟩
/-- What Merge's iterator owes to whoever ranges over it. -/
theorem merge_seq (bL bK : Nat) (A : Option Addr) (gL cap kf : Nat) (its : List (It α))
    (hkf : ∀ args w, (callFunc kf args).run Try.prog w = .ok (.enter kf args) w)
    (hkey : ∀ x w, Calls Try.prog kf #[agg ek ev x] w fun e w' => e = .returned (.int .u64 (ek x)) ∧ Below w.heap.size w w')
    (W : World) (hst : MLaid ek ev W bL bK A gL cap kf its) :
    SeqD Try.prog 49 #[.pointer (some ⟨bL, 0, none⟩), .pointer (some ⟨bK, 0, none⟩)] (fun x : α => #[agg ek ev x]) (MDeps bL bK gL its) (fun ys => ys = mergeL ek (its.map It.xs)) (fun pre => ∃ more, pre ++ more = mergeL ek (its.map It.xs)) (fun pre x => ∃ more, pre ++ [x] ++ more = mergeL ek (its.map It.xs)) W := by
  intro l J Jx W0 hs0 hd0 hJ hJx hY h0
  refine (merge_in ek ev l bL bK A gL cap kf its J Jx hJ hJx hkf hkey hY W0 (hst.keep _ _ hs0 hd0) h0).mono ?_
  rintro e W' ⟨hv, (⟨T, hj⟩ | ⟨pre, T, hm, hj⟩)⟩
  · exact ⟨hv, .inl ⟨_, T, rfl, hj⟩⟩
  · exact ⟨hv, .inr ⟨pre, T, hm, hj⟩⟩
/-- Merge's iterator as one more that may be gone through. -/
def mergeIt (ek : α → Int) (bL bK gL : Nat) (its : List (It α)) : It α := ⟨49, #[.pointer (some ⟨bL, 0, none⟩), .pointer (some ⟨bK, 0, none⟩)], MDeps bL bK gL its, mergeL ek (its.map It.xs)⟩
theorem mergeIt_ok {bL bK : Nat} {A : Option Addr} {gL cap kf : Nat} {its : List (It α)}
    (hkf : ∀ args w, (callFunc kf args).run Try.prog w = .ok (.enter kf args) w)
    (hkey : ∀ x w, Calls Try.prog kf #[agg ek ev x] w fun e w' => e = .returned (.int .u64 (ek x)) ∧ Below w.heap.size w w')
    (W : World) (hst : MLaid ek ev W bL bK A gL cap kf its) (hlen : ((mergeL ek (its.map It.xs)).length + 1) * 24 ≤ 140737488355328) : ItOk ek ev (mergeIt ek bL bK gL its) W :=
  ⟨merge_seq bL bK A gL cap kf its hkf hkey W hst, goes44, fun k hk => hst.deps _ _ k hk, hlen⟩
end
end Go.Proofs.Ytojbfjfjhfnopaa.MergeS
end

section
/- MergeWords: the lists and the rows of keys that it builds. -/
namespace Go.Proofs.Ytojbfjfjhfnopaa.MergeS
open Go.RowKit Go.Shelf RangeD SeqS MergeL HeapL HeapS
attribute [local go_sem] Oper.semAt_some
set_option linter.unusedVariables false
/-- A text of no more than a bound. -/
abbrev Wd := { s : ByteArray // s.size ≤ 1048576 }
def wk (x : Wd) : Int := (x.val.size : Int)
def wv (x : Wd) : ByteArray := x.val
theorem words_of (l : List (List ByteArray)) (h : ∀ xs ∈ l, ∀ s ∈ xs, s.size ≤ 1048576) : ∃ ls : List (List Wd), ls.map (List.map wv) = l := by
  induction l with
  | nil => exact ⟨[], rfl⟩
  | cons xs r ih =>
    obtain ⟨ls, hl⟩ := ih (fun ys hy => h ys (List.mem_cons_of_mem _ hy))
    have hx : ∃ ws : List Wd, ws.map wv = xs := by
      have h1 := h xs List.mem_cons_self
      clear ih hl h
      induction xs with
      | nil => exact ⟨[], rfl⟩
      | cons s t ih =>
        obtain ⟨ws, hw⟩ := ih (fun s hs => h1 s (List.mem_cons_of_mem _ hs))
        exact ⟨⟨s, h1 s List.mem_cons_self⟩ :: ws, by rw [List.map_cons, hw]; rfl⟩
    obtain ⟨ws, hw⟩ := hx
    exact ⟨ws :: ls, by rw [List.map_cons, hw, hl]⟩
theorem goes19 : ∀ args w, (callFunc 19 args).run Try.prog w = .ok (.enter 19 args) w := by
  intro args w
  have hf := Try.func19
  simp [callFunc, go_sem, hf, Try.f19]
theorem goes47 : ∀ args w, (callFunc 47 args).run Try.prog w = .ok (.enter 47 args) w := by
  intro args w
  have hf := Try.func47
  simp [callFunc, go_sem, hf, Try.f47]
set_option maxRecDepth 100000 in
theorem key19_calls (x : Wd) (w : World) : Calls Try.prog 19 #[agg wk wv x] w fun e w' => e = .returned (.int .u64 (wk x)) ∧ Below w.heap.size w w' := by
  have hsz := x.property
  have h1 : IntKind.u64.wrap (x.val.size : Int) = (x.val.size : Int) := by
    have : (x.val.size : Int) ≤ 1048576 := by omega
    show (x.val.size : Int) % 2 ^ 64 = _
    omega
  simp only [agg, wv, wk]
  generalize x.val = s at *
  go_enter Try.func19, Try.ntmps19
  go_wp2
  refine bodyPost_ret (results_tmp rfl _ _ _) rfl ?_
  exact ⟨rfl, Below.refl _ w⟩
theorem ItOk.keep {it : It Wd} {w w1 : World} (h : ItOk wk wv it w) (hs : w.heap.size ≤ w1.heap.size) (hk : Same it.D w w1) : ItOk wk wv it w1 :=
  ⟨h.seq.same hs hk, h.goes, fun k hk => Nat.lt_of_lt_of_le (h.lt k hk) hs, h.len⟩
theorem row_typed {w : World} {base : Nat} {e : TypeId} {size n : Nat} {v : Value} {xs : List Value} (h : w.ownsRow base e size v n xs) (k : Nat) (hk : v.ownBlock = some k) : ∃ cur, w.heap[k]? = some (.cells cur e (0, 0)) := by
  rcases h.2 with ⟨rfl, _⟩ | ⟨g, cap, cur, rfl, hg, hh, r⟩
  · simp [Value.ownBlock] at hk
  · have : g = k := by simpa [Value.ownBlock] using hk
    subst this
    exact ⟨cur, hh⟩
theorem other_type {w : World} {k j : Nat} {cur cur2 : Array Value} {t t2 : TypeId} (h1 : w.heap[k]? = some (.cells cur t (0, 0))) (h2 : w.heap[j]? = some (.cells cur2 t2 (0, 0))) (ht : t ≠ t2) : k ≠ j := fun e => by
  subst e
  rw [h1] at h2
  injection h2 with h2
  injection h2 with _ h2 _
  exact ht h2
/-- A row of keys. -/
def KeyRow (X : World) (v : Value) (xs : List Wd) : Prop := ∃ b c cur, v = .slice (some ⟨b, 0, none⟩) xs.length c ∧ xs.length ≤ c ∧ (∀ (j : Nat) x, xs[j]? = some x → X.cell? ⟨b, j, none⟩ = some (.int .u64 (wk x))) ∧ X.heap[b]? = some (.cells cur 30 (0, 0))
theorem KeyRow.keep {X Y : World} {v : Value} {xs : List Wd} (h : KeyRow X v xs) (hk : ∀ (b : Nat) (cur : Array Value), X.heap[b]? = some (Obj.cells cur 30 (0, 0)) → Y.heap[b]? = X.heap[b]?) : KeyRow Y v xs := by
  obtain ⟨b, c, cur, h1, h2, h3, h4⟩ := h
  have := hk b cur h4
  exact ⟨b, c, cur, h1, h2, fun j x hj => (World.cell?_of_block this).trans (h3 j x hj), this.trans h4⟩
/-- What the first loop builds: B is the world ahead of it. -/
structure WL (B X : World) (v5 v6 : Value) (n5 n6 : Nat) (ls : List (List Wd)) (vs vs2 : List Value) : Prop where
  below : Below B.heap.size B X
  row5 : X.ownsRow B.heap.size 46 1 v5 n5 vs
  its : ∃ its : List (It Wd), its.map It.xs = ls.take n5 ∧ ∀ (k : Nat) (it : It Wd), its[k]? = some it → vs[k]? = some (Value.func (.func it.gf) #[] it.lb) ∧ ItOk wk wv it X ∧ ∀ j, it.D j → j < B.heap.size ∨ ∃ cs, X.heap[j]? = some (.cells cs 48 (0, 0))
  row6 : X.ownsRow B.heap.size 49 1 v6 n6 vs2
  keys : ∀ (k : Nat) (xs : List Wd), (ls.take n6)[k]? = some xs → ∃ v, vs2[k]? = some v ∧ KeyRow X v xs
section
variable {B X X1 X2 : World} {v5 v6 v5' v6' v : Value} {n5 n6 i : Nat} {ls : List (List Wd)} {vs vs2 : List Value} {xs : List Wd} {ob : Obj}
theorem WL.step (h : WL B X v5 v6 n5 n6 ls vs vs2) (hb : Below X.heap.size X X1) : WL B X1 v5 v6 n5 n6 ls vs vs2 := by
  refine ⟨h.below.trans (hb.mono h.below.size), ownsRow_keep h.row5 (fun k hk => hb.block k (h.row5.lt k hk).2), ?_, ownsRow_keep h.row6 (fun k hk => hb.block k (h.row6.lt k hk).2), fun k ys hk => ?_⟩
  · obtain ⟨its, q1, q2⟩ := h.its
    refine ⟨its, q1, fun k it hk => ?_⟩
    obtain ⟨r1, r2, r3⟩ := q2 k it hk
    exact ⟨r1, r2.keep hb.size (fun j _ hl => hb.block j hl), fun j hj => (r3 j hj).imp_right fun ⟨cs, hc⟩ => ⟨cs, (hb.block j (r2.lt j hj)).trans hc⟩⟩
  · obtain ⟨v, h1, h2⟩ := h.keys k ys hk
    exact ⟨v, h1, h2.keep (fun b cur hh => hb.block b (Array.getElem?_eq_some_iff.1 hh).1)⟩
theorem take_snoc {α : Type} {l : List α} {i : Nat} {x : α} (hi : l[i]? = some x) : l.take (i + 1) = l.take i ++ [x] := by rw [List.take_add_one, hi]; rfl
theorem WL.more5 (h0 : WL B X v5 v6 i i ls vs vs2) (hi : ls[i]? = some xs) {A : Option Addr} {cA g o : Nat} (hA : 0 < xs.length → A = some ⟨g, o, none⟩) (hc : CellsAt wk wv B g o xs) (hg0 : g < B.heap.size) (hx : xs.length ≤ 1048576)
    (hb : Below X.heap.size X X1) (hn : X1.heap[X.heap.size]? = some (.cells #[.slice A xs.length cA] 48 (0, 0))) (ho : X2.ownsRow B.heap.size 46 1 v5' (i + 1) (vs ++ [.func (.func 47) #[] #[.pointer (some ⟨X.heap.size, 0, none⟩)]])) (hg : (X1.alloc ob).grownBy X2 v5.ownBlock) :
    WL B X2 v5' v6 (i + 1) i ls (vs ++ [.func (.func 47) #[] #[.pointer (some ⟨X.heap.size, 0, none⟩)]]) vs2 := by
  have h := h0.step hb
  have hs := hg.size
  rw [World.size_alloc] at hs
  have far : ∀ k, k < X1.heap.size → v5.ownBlock ≠ some k → X2.heap[k]? = X1.heap[k]? := fun k hk hne => (hg.block k (by rw [World.size_alloc]; omega) (fun e => hne e.symm)).trans (Below.heap_alloc X1 ob k hk)
  have ht : ∀ k cur t, X1.heap[k]? = some (Obj.cells cur t (0, 0)) → t ≠ 46 → v5.ownBlock ≠ some k := fun k cur t hh hne e => by
    obtain ⟨cur2, h2⟩ := row_typed h.row5 k e
    exact other_type hh h2 hne rfl
  have hlow : ∀ k, k < B.heap.size → v5.ownBlock ≠ some k := fun k hk e => by have := (h.row5.lt k e).1; omega
  have hB1 := h.below.size
  refine ⟨h.below.trans ⟨hg.os, hg.tape, hg.output, by omega, fun k hk => far k (by omega) (hlow k hk)⟩, ho, ?_, ownsRow_keep h.row6 (fun k hk => ?_), fun k ys hk => ?_⟩
  · obtain ⟨its, q1, q2⟩ := h.its
    have hil : its.length = i := by
      have := congrArg List.length q1
      rw [List.length_map, List.length_take] at this
      have := (List.getElem?_eq_some_iff.1 hi).1
      omega
    have hvl : vs.length = i := by have := h.row5.1; omega
    refine ⟨its ++ [⟨47, #[.pointer (some ⟨X.heap.size, 0, none⟩)], fun k => k = X.heap.size ∨ k = g, xs⟩], ?_, fun k it hk => ?_⟩
    · rw [List.map_append, q1, take_snoc hi]; rfl
    · rcases Nat.lt_or_ge k its.length with hkl | hkl
      · rw [List.getElem?_append_left hkl] at hk
        obtain ⟨r1, r2, r3⟩ := q2 k it hk
        have hD : Same it.D X1 X2 := fun j hj hl => far j hl (by
          rcases r3 j hj with h1 | ⟨cs, h1⟩
          · exact hlow j h1
          · exact ht j cs 48 h1 (by decide))
        exact ⟨by rw [List.getElem?_append_left (by omega)]; exact r1, r2.keep (by omega) hD, fun j hj => (r3 j hj).imp_right fun ⟨cs, hcs⟩ => ⟨cs, (hD j hj (r2.lt j hj)).trans hcs⟩⟩
      · have hk2 : k = its.length := by
          have := (List.getElem?_eq_some_iff.1 hk).1
          simp at this
          omega
        subst hk2
        rw [List.getElem?_append_right (Nat.le_refl _), Nat.sub_self] at hk
        simp only [List.getElem?_cons_zero, Option.some.injEq] at hk
        subst hk
        have hbx : X2.heap[X.heap.size]? = some (.cells #[.slice A xs.length cA] 48 (0, 0)) := (far _ (Array.getElem?_eq_some_iff.1 hn).1 (ht _ _ 48 hn (by decide))).trans hn
        have hgg : X2.heap[g]? = B.heap[g]? := (far g (by omega) (hlow g hg0)).trans (h.below.block g hg0)
        refine ⟨by rw [hil, List.getElem?_append_right (by omega), hvl, Nat.sub_self]; rfl, ⟨listed_seq wk wv X.heap.size A g o cA xs X2 ⟨hbx, hA, hc.keep _ _ hgg, by omega, by omega⟩, goes47, fun k hk => ?_, by show (xs.length + 1) * 24 ≤ _; omega⟩, fun j hj => ?_⟩
        · have := (Array.getElem?_eq_some_iff.1 hbx).1
          rcases hk with e | e <;> omega
        · rcases hj with e | e
          · subst e; exact .inr ⟨_, hbx⟩
          · subst e; exact .inl hg0
  · obtain ⟨cur, hh⟩ := row_typed h.row6 k hk
    exact far k (h.row6.lt k hk).2 (ht k cur 49 hh (by decide))
  · obtain ⟨v, h1, h2⟩ := h.keys k ys hk
    exact ⟨v, h1, h2.keep (fun b cur hh => far b (Array.getElem?_eq_some_iff.1 hh).1 (ht b cur 30 hh (by decide)))⟩
theorem WL.more6 (h : WL B X v5 v6 (i + 1) i ls vs vs2) (hi : ls[i]? = some xs) (hkr : KeyRow X v xs) (ho : X2.ownsRow B.heap.size 49 1 v6' (i + 1) (vs2 ++ [v])) (hg : (X.alloc ob).grownBy X2 v6.ownBlock) :
    WL B X2 v5 v6' (i + 1) (i + 1) ls vs (vs2 ++ [v]) := by
  have hs := hg.size
  rw [World.size_alloc] at hs
  have far : ∀ k, k < X.heap.size → v6.ownBlock ≠ some k → X2.heap[k]? = X.heap[k]? := fun k hk hne => (hg.block k (by rw [World.size_alloc]; omega) (fun e => hne e.symm)).trans (Below.heap_alloc X ob k hk)
  have ht : ∀ k cur t, X.heap[k]? = some (Obj.cells cur t (0, 0)) → t ≠ 49 → v6.ownBlock ≠ some k := fun k cur t hh hne e => by
    obtain ⟨cur2, h2⟩ := row_typed h.row6 k e
    exact other_type hh h2 hne rfl
  have hlow : ∀ k, k < B.heap.size → v6.ownBlock ≠ some k := fun k hk e => by have := (h.row6.lt k e).1; omega
  have hB1 := h.below.size
  refine ⟨h.below.trans ⟨hg.os, hg.tape, hg.output, by omega, fun k hk => far k (by omega) (hlow k hk)⟩, ownsRow_keep h.row5 (fun k hk => ?_), ?_, ho, fun k ys hk => ?_⟩
  · obtain ⟨cur, hh⟩ := row_typed h.row5 k hk
    exact far k (h.row5.lt k hk).2 (ht k cur 46 hh (by decide))
  · obtain ⟨its, q1, q2⟩ := h.its
    refine ⟨its, q1, fun k it hk => ?_⟩
    obtain ⟨r1, r2, r3⟩ := q2 k it hk
    have hD : Same it.D X X2 := fun j hj hl => far j hl (by
      rcases r3 j hj with h1 | ⟨cs, h1⟩
      · exact hlow j h1
      · exact ht j cs 48 h1 (by decide))
    exact ⟨r1, r2.keep (by omega) hD, fun j hj => (r3 j hj).imp_right fun ⟨cs, hcs⟩ => ⟨cs, (hD j hj (r2.lt j hj)).trans hcs⟩⟩
  · have hvl : vs2.length = i := by have := h.row6.1; omega
    have hkp : ∀ (b : Nat) (cur : Array Value), X.heap[b]? = some (Obj.cells cur 30 (0, 0)) → X2.heap[b]? = X.heap[b]? := fun b cur hh => far b (Array.getElem?_eq_some_iff.1 hh).1 (ht b cur 30 hh (by decide))
    have hil := (List.getElem?_eq_some_iff.1 hi).1
    rw [take_snoc hi] at hk
    rcases Nat.lt_or_ge k i with hki | hki
    · rw [List.getElem?_append_left (by rw [List.length_take]; omega)] at hk
      obtain ⟨u, h1, h2⟩ := h.keys k ys hk
      exact ⟨u, by rw [List.getElem?_append_left (by omega)]; exact h1, h2.keep hkp⟩
    · have hk2 : k = i := by
        have := (List.getElem?_eq_some_iff.1 hk).1
        rw [List.length_append, List.length_take] at this
        simp at this
        omega
      subst hk2
      rw [List.getElem?_append_right (by rw [List.length_take]; omega), List.length_take, Nat.min_eq_left (by omega), Nat.sub_self] at hk
      simp only [List.getElem?_cons_zero, Option.some.injEq] at hk
      subst hk
      exact ⟨v, by rw [List.getElem?_append_right (by omega), hvl, Nat.sub_self]; rfl, hkr.keep hkp⟩
end
end Go.Proofs.Ytojbfjfjhfnopaa.MergeS
end

section
-- Written by a program of this session (wip/gprint.py: the kit's print, with contracts proved by hand)
namespace Go.Proofs.Ytojbfjfjhfnopaa.G
open Go.RowKit Go.Proofs.YtojbfjfjhfnopaaW.PrintWords Go.Proofs.YtojbfjfjhfnopaaW.PrintLast Go.Proofs.YtojbfjfjhfnopaaW.PrintMore
attribute [local go_sem] max2_int min2_int max_two min_two max_three min_three max_four min_four   -- for this text's walks alone
set_option linter.unusedVariables false
set_option linter.unusedSimpArgs false

/-! ### inclineref13_Merge: function 21 -/
mutual
def inclineref13_Merge.l0 : Nat → List (List Int) → List Int → List (S54) → Option ((List (S54)))
  | 0, _, _, _ => none
  | k + 1, x0, x3, x4 => inclineref13_Merge.l1 k x0 x3 x4 (-1) 0
def inclineref13_Merge.l1 : Nat → List (List Int) → List Int → List (S54) → Int → Int → Option ((List (S54)))
  | 0, _, _, _, _, _ => none
  | k + 1, x0, x3, x4, x5, x6 => if x6 < (x0.length : Int) then (if 0 ≤ x6 then (if x6 < (x3.length : Int) then (if (rd x3 x6) < ((rd_L4 x0 x6).length : Int) then (if x5 < 0 then (inclineref13_Merge.l1 k x0 x3 x4 x6 (wrap64 (x6 + 1))) else (if 0 ≤ (rd x3 x6) then (if 0 ≤ x5 then (if x5 < (x0.length : Int) then (if x5 < (x3.length : Int) then (if 0 ≤ (rd x3 x5) then (if (rd x3 x5) < ((rd_L4 x0 x5).length : Int) then (if (rd (rd_L4 x0 x6) (rd x3 x6)) < (rd (rd_L4 x0 x5) (rd x3 x5)) then (inclineref13_Merge.l1 k x0 x3 x4 x6 (wrap64 (x6 + 1))) else (inclineref13_Merge.l1 k x0 x3 x4 x5 (wrap64 (x6 + 1)))) else (none)) else (none)) else (none)) else (none)) else (none)) else (none))) else (inclineref13_Merge.l1 k x0 x3 x4 x5 (wrap64 (x6 + 1)))) else (none)) else (none)) else (if x5 < 0 then (some x4) else (if 0 ≤ x5 then (if x5 < (x3.length : Int) then (if x4.length < 8796093022208 then (if x5 < (x0.length : Int) then (if 0 ≤ (rd x3 x5) then (if (rd x3 x5) < ((rd_L4 x0 x5).length : Int) then (inclineref13_Merge.l2 k x0 x3 (x4 ++ [(⟨x5, rd x3 x5⟩ : S54)]) (rd (rd_L4 x0 x5) (rd x3 x5)) 0) else (none)) else (none)) else (none)) else (none)) else (none)) else (none)))
def inclineref13_Merge.l2 : Nat → List (List Int) → List Int → List (S54) → Int → Int → Option ((List (S54)))
  | 0, _, _, _, _, _ => none
  | k + 1, x0, x3, x4, x7, x8 => if x8 < (x0.length : Int) then (if 0 ≤ x8 then (if x8 < (x3.length : Int) then (if (rd x3 x8) < ((rd_L4 x0 x8).length : Int) then (if 0 ≤ (rd x3 x8) then (if (rd (rd_L4 x0 x8) (rd x3 x8)) = x7 then (inclineref13_Merge.l2 k x0 (x3.set (x8 : Int).toNat (wrap64 ((rd x3 x8) + 1))) x4 x7 (wrap64 (x8 + 1))) else (inclineref13_Merge.l2 k x0 x3 x4 x7 (wrap64 (x8 + 1)))) else (none)) else (inclineref13_Merge.l2 k x0 x3 x4 x7 (wrap64 (x8 + 1)))) else (none)) else (none)) else (inclineref13_Merge.l0 k x0 x3 x4)
end
def inclineref13_Merge.f (k : Nat) (l0 : List (List Int)) : Option ((List (S54))) := if 0 ≤ (l0.length : Int) then (if ((l0.length : Int) : Int).toNat ≤ 35184372088832 then (inclineref13_Merge.l0 k l0 (List.replicate ((l0.length : Int) : Int).toNat 0) (([] : List (S54)))) else (none)) else (none)
theorem inclineref13_Merge.mono_l : ∀ k, (∀ y0 y1 y2, LeO (inclineref13_Merge.l0 k y0 y1 y2) (inclineref13_Merge.l0 (k + 1) y0 y1 y2)) ∧ (∀ y0 y1 y2 y3 y4, LeO (inclineref13_Merge.l1 k y0 y1 y2 y3 y4) (inclineref13_Merge.l1 (k + 1) y0 y1 y2 y3 y4)) ∧ (∀ y0 y1 y2 y3 y4, LeO (inclineref13_Merge.l2 k y0 y1 y2 y3 y4) (inclineref13_Merge.l2 (k + 1) y0 y1 y2 y3 y4))
  | 0 => ⟨fun _ _ _ r h => by simp [inclineref13_Merge.l0] at h, fun _ _ _ _ _ r h => by simp [inclineref13_Merge.l1] at h, fun _ _ _ _ _ r h => by simp [inclineref13_Merge.l2] at h⟩
  | k + 1 => by
    obtain ⟨ih0, ih1, ih2⟩ := inclineref13_Merge.mono_l k
    refine ⟨?_, ?_, ?_⟩
    · intro y0 y1 y2
      unfold inclineref13_Merge.l0
      repeat' first
      | (with_reducible exact ih0 _ _ _)
      | (with_reducible exact ih1 _ _ _ _ _)
      | (with_reducible exact ih2 _ _ _ _ _)
      | (with_reducible exact LeO.refl _)
      | (with_reducible exact LeO.none _)
      | (with_reducible refine LeO.ite ?_ ?_)
      | (with_reducible refine LeO.bind ?_ (fun _ => ?_))
      | exact ih0 _ _ _
      | exact ih1 _ _ _ _ _
      | exact ih2 _ _ _ _ _
      | exact LeO.none _
      | refine LeO.ite ?_ ?_
      | refine LeO.bind ?_ (fun _ => ?_)
    · intro y0 y1 y2 y3 y4
      unfold inclineref13_Merge.l1
      repeat' first
      | (with_reducible exact ih0 _ _ _)
      | (with_reducible exact ih1 _ _ _ _ _)
      | (with_reducible exact ih2 _ _ _ _ _)
      | (with_reducible exact LeO.refl _)
      | (with_reducible exact LeO.none _)
      | (with_reducible refine LeO.ite ?_ ?_)
      | (with_reducible refine LeO.bind ?_ (fun _ => ?_))
      | exact ih0 _ _ _
      | exact ih1 _ _ _ _ _
      | exact ih2 _ _ _ _ _
      | exact LeO.none _
      | refine LeO.ite ?_ ?_
      | refine LeO.bind ?_ (fun _ => ?_)
    · intro y0 y1 y2 y3 y4
      unfold inclineref13_Merge.l2
      repeat' first
      | (with_reducible exact ih0 _ _ _)
      | (with_reducible exact ih1 _ _ _ _ _)
      | (with_reducible exact ih2 _ _ _ _ _)
      | (with_reducible exact LeO.refl _)
      | (with_reducible exact LeO.none _)
      | (with_reducible refine LeO.ite ?_ ?_)
      | (with_reducible refine LeO.bind ?_ (fun _ => ?_))
      | exact ih0 _ _ _
      | exact ih1 _ _ _ _ _
      | exact ih2 _ _ _ _ _
      | exact LeO.none _
      | refine LeO.ite ?_ ?_
      | refine LeO.bind ?_ (fun _ => ?_)
theorem inclineref13_Merge.mono : ∀ a0 k, LeO (inclineref13_Merge.f k a0) (inclineref13_Merge.f (k + 1) a0) := by
  intro a0 k
  obtain ⟨ih0, ih1, ih2⟩ := inclineref13_Merge.mono_l k
  unfold inclineref13_Merge.f
  repeat' first
      | (with_reducible exact ih0 _ _ _)
      | (with_reducible exact ih1 _ _ _ _ _)
      | (with_reducible exact ih2 _ _ _ _ _)
      | (with_reducible exact LeO.refl _)
      | (with_reducible exact LeO.none _)
      | (with_reducible refine LeO.ite ?_ ?_)
      | (with_reducible refine LeO.bind ?_ (fun _ => ?_))
      | exact ih0 _ _ _
      | exact ih1 _ _ _ _ _
      | exact ih2 _ _ _ _ _
      | exact LeO.none _
      | refine LeO.ite ?_ ?_
      | refine LeO.bind ?_ (fun _ => ?_)
set_option maxHeartbeats 8000000 in
set_option maxRecDepth 100000 in
theorem inclineref13_Merge.calls (k : Nat) (A0 : Option Addr) (c0 : Nat) (l0 : List (List Int)) (r : List (S54)) (w : World) (hr0 : Kd.C (Kd.slice 30 (Kd.int .u64)) w A0 l0.length l0) (hc0 : l0.length ≤ c0) (h : inclineref13_Merge.f k l0 = some r) :
    Calls Try.prog 21 #[.slice A0 l0.length c0] w fun e w' => ∃ v0_ : Value, e = .returned (v0_) ∧ Kd.R k54 54 w' w.heap.size (fun _ => True) v0_ r ∧ Below w.heap.size w w' := by
  have hu54 := Try.underlying54
  have HR0 := Aside0.mk hr0
  have HC0 := Aside0.mk hc0
  clear hr0 hc0
  have HB := Aside0.mk (Below.refl w.heap.size w)
  have H : (if 0 ≤ (l0.length : Int) then (if ((l0.length : Int) : Int).toNat ≤ 35184372088832 then (inclineref13_Merge.l0 k l0 (List.replicate ((l0.length : Int) : Int).toNat 0) (([] : List (S54)))) else (none)) else (none)) = some r := h
  clear h
  by_cases c2 : 0 ≤ (l0.length : Int)
  · rw [if_pos c2] at H
    have c2b0 := eq_true c2
    have c2b1 : decide (0 ≤ (l0.length : Int)) = true := decide_eq_true c2
    clear c2
    by_cases c3 : ((l0.length : Int) : Int).toNat ≤ 35184372088832
    · rw [if_pos c3] at H
      have c3b0 := eq_true c3
      have c3b1 : decide (((l0.length : Int) : Int).toNat ≤ 35184372088832) = true := decide_eq_true c3
      clear c3
      obtain ⟨y123, hy123⟩ : ∃ y_ : List Int, y_ = (List.replicate ((l0.length : Int) : Int).toNat 0) := ⟨_, rfl⟩
      replace H : (inclineref13_Merge.l0 k l0 y123 (([] : List (S54)))) = some r := by first | (rw [hy123]; with_reducible exact H) | (have H2_ := (Option.bind_some _ _).symm.trans H; rw [hy123]; with_reducible exact H2_) | (have H2_ := (Option.bind_some _ _).symm.trans H; with_reducible exact H2_) | with_reducible exact H | (rw [hy123]; exact H) | exact H
      have Ny123 := Aside0.mk hy123
      clear hy123
      obtain ⟨y126, hy126⟩ : ∃ y_ : List (S54), y_ = (([] : List (S54))) := ⟨_, rfl⟩
      replace H : (inclineref13_Merge.l0 k l0 y123 y126) = some r := by first | (rw [hy126]; with_reducible exact H) | (have H2_ := (Option.bind_some _ _).symm.trans H; rw [hy126]; with_reducible exact H2_) | (have H2_ := (Option.bind_some _ _).symm.trans H; with_reducible exact H2_) | with_reducible exact H | (rw [hy126]; exact H) | exact H
      have Ny126 := Aside0.mk hy126
      clear hy126
      have H' := Aside0.mk H
      clear H
      go_enter Try.func21, Try.ntmps21
      go_wp2_with (first | ((with_reducible refine gate_dst (N := 11) rfl ?_); refine Kd.R_make (Kd.int .i64) _ 3 rfl (N := 11) rfl 73 _ _ rfl (l0.length : Int) rfl rfl Try.underlying73 (.int .i64 0) 8 info3 rfl (by decide) (by omega) 0 (ok := fun _ => True) (okp := fun _ => True) rfl (fun _ hk => hk) trivial (of_decide_eq_true (by first | (with_reducible assumption) | assumption)) (Nat.le_trans (Nat.mul_le_mul_right _ (of_decide_eq_true (by first | (with_reducible assumption) | assumption) : (l0.length : Int).toNat ≤ 35184372088832)) (by omega)) (Below.refl _ _) (Nat.le_refl _) ?_; intro v124 w4 ho5 hb hg_ hnew_; clear hg_ hnew_; (first | rw [← Ny123.out] at ho5 | (simp only [Int.reduceToNat] at ho5; rw [← Ny123.out] at ho5)); have n0_ := Aside0.mk (Kd.R_lower ho5 (below_size (by repeat (first | (with_reducible first | exact HB.out | apply below_alloc | apply pw_below_drewN | apply below_drew1) | exact HB.out)))); have n1_ := Aside0.mk (below_step (by repeat (first | (with_reducible first | exact HB.out | apply below_alloc | apply pw_below_drewN | apply below_drew1) | exact HB.out)) hb); clear HB; have HO125 := n0_; have HB := n1_; clear n0_ n1_; clear hb ho5) | ((with_reducible refine gate_dst (N := 12) rfl ?_); refine Kd.R_lit k54 _ 54 ?hg (N := 12) ?hd (xs := ([] : List (S54))) (inner := []) (ok := fun _ => True) (okp := fun _ => True) ?hr ?hp (fun _ hk => hk) trivial (Below.refl _ _) (Nat.le_refl _) (by simp) ?_; (case hd => rfl); (case hg => rfl); (case hr => first | (go_simp; done) | (go_simp; rfl)); (case hp => exact (Reps.none _ _)); intro v127 w6 ho7 hb hg_ hnew_; clear hg_ hnew_; (first | rw [← Ny126.out] at ho7 | (simp only [Int.reduceToNat] at ho7; rw [← Ny126.out] at ho7)); have n0_ := Aside0.mk (Kd.R_below (by (with_reducible repeat (first | apply Kd.R_alloc | apply Kd.R_drewN | apply Kd.R_drew)); exact HO125.out) hb); have n1_ := Aside0.mk (Kd.R_lower ho7 (below_size (by repeat (first | (with_reducible first | exact HB.out | apply below_alloc | apply pw_below_drewN | apply below_drew1) | exact HB.out)))); have n2_ := Aside0.mk (below_step (by repeat (first | (with_reducible first | exact HB.out | apply below_alloc | apply pw_below_drewN | apply below_drew1) | exact HB.out)) hb); clear HO125; clear HB; have HO125 := n0_; have HO128 := n1_; have HB := n2_; clear n0_ n1_ n2_; clear hb ho7))
      repeat (go_quiet (first | ((with_reducible refine gate_dst (N := 11) rfl ?_); refine Kd.R_make (Kd.int .i64) _ 3 rfl (N := 11) rfl 73 _ _ rfl (l0.length : Int) rfl rfl Try.underlying73 (.int .i64 0) 8 info3 rfl (by decide) (by omega) 0 (ok := fun _ => True) (okp := fun _ => True) rfl (fun _ hk => hk) trivial (of_decide_eq_true (by first | (with_reducible assumption) | assumption)) (Nat.le_trans (Nat.mul_le_mul_right _ (of_decide_eq_true (by first | (with_reducible assumption) | assumption) : (l0.length : Int).toNat ≤ 35184372088832)) (by omega)) (Below.refl _ _) (Nat.le_refl _) ?_; intro v124 w4 ho5 hb hg_ hnew_; clear hg_ hnew_; (first | rw [← Ny123.out] at ho5 | (simp only [Int.reduceToNat] at ho5; rw [← Ny123.out] at ho5)); have n0_ := Aside0.mk (Kd.R_lower ho5 (below_size (by repeat (first | (with_reducible first | exact HB.out | apply below_alloc | apply pw_below_drewN | apply below_drew1) | exact HB.out)))); have n1_ := Aside0.mk (below_step (by repeat (first | (with_reducible first | exact HB.out | apply below_alloc | apply pw_below_drewN | apply below_drew1) | exact HB.out)) hb); clear HB; have HO125 := n0_; have HB := n1_; clear n0_ n1_; clear hb ho5) | ((with_reducible refine gate_dst (N := 12) rfl ?_); refine Kd.R_lit k54 _ 54 ?hg (N := 12) ?hd (xs := ([] : List (S54))) (inner := []) (ok := fun _ => True) (okp := fun _ => True) ?hr ?hp (fun _ hk => hk) trivial (Below.refl _ _) (Nat.le_refl _) (by simp) ?_; (case hd => rfl); (case hg => rfl); (case hr => first | (go_simp; done) | (go_simp; rfl)); (case hp => exact (Reps.none _ _)); intro v127 w6 ho7 hb hg_ hnew_; clear hg_ hnew_; (first | rw [← Ny126.out] at ho7 | (simp only [Int.reduceToNat] at ho7; rw [← Ny126.out] at ho7)); have n0_ := Aside0.mk (Kd.R_below (by (with_reducible repeat (first | apply Kd.R_alloc | apply Kd.R_drewN | apply Kd.R_drew)); exact HO125.out) hb); have n1_ := Aside0.mk (Kd.R_lower ho7 (below_size (by repeat (first | (with_reducible first | exact HB.out | apply below_alloc | apply pw_below_drewN | apply below_drew1) | exact HB.out)))); have n2_ := Aside0.mk (below_step (by repeat (first | (with_reducible first | exact HB.out | apply below_alloc | apply pw_below_drewN | apply below_drew1) | exact HB.out)) hb); clear HO125; clear HB; have HO125 := n0_; have HO128 := n1_; have HB := n2_; clear n0_ n1_ n2_; clear hb ho7)); try go_wp2_with (first | ((with_reducible refine gate_dst (N := 11) rfl ?_); refine Kd.R_make (Kd.int .i64) _ 3 rfl (N := 11) rfl 73 _ _ rfl (l0.length : Int) rfl rfl Try.underlying73 (.int .i64 0) 8 info3 rfl (by decide) (by omega) 0 (ok := fun _ => True) (okp := fun _ => True) rfl (fun _ hk => hk) trivial (of_decide_eq_true (by first | (with_reducible assumption) | assumption)) (Nat.le_trans (Nat.mul_le_mul_right _ (of_decide_eq_true (by first | (with_reducible assumption) | assumption) : (l0.length : Int).toNat ≤ 35184372088832)) (by omega)) (Below.refl _ _) (Nat.le_refl _) ?_; intro v124 w4 ho5 hb hg_ hnew_; clear hg_ hnew_; (first | rw [← Ny123.out] at ho5 | (simp only [Int.reduceToNat] at ho5; rw [← Ny123.out] at ho5)); have n0_ := Aside0.mk (Kd.R_lower ho5 (below_size (by repeat (first | (with_reducible first | exact HB.out | apply below_alloc | apply pw_below_drewN | apply below_drew1) | exact HB.out)))); have n1_ := Aside0.mk (below_step (by repeat (first | (with_reducible first | exact HB.out | apply below_alloc | apply pw_below_drewN | apply below_drew1) | exact HB.out)) hb); clear HB; have HO125 := n0_; have HB := n1_; clear n0_ n1_; clear hb ho5) | ((with_reducible refine gate_dst (N := 12) rfl ?_); refine Kd.R_lit k54 _ 54 ?hg (N := 12) ?hd (xs := ([] : List (S54))) (inner := []) (ok := fun _ => True) (okp := fun _ => True) ?hr ?hp (fun _ hk => hk) trivial (Below.refl _ _) (Nat.le_refl _) (by simp) ?_; (case hd => rfl); (case hg => rfl); (case hr => first | (go_simp; done) | (go_simp; rfl)); (case hp => exact (Reps.none _ _)); intro v127 w6 ho7 hb hg_ hnew_; clear hg_ hnew_; (first | rw [← Ny126.out] at ho7 | (simp only [Int.reduceToNat] at ho7; rw [← Ny126.out] at ho7)); have n0_ := Aside0.mk (Kd.R_below (by (with_reducible repeat (first | apply Kd.R_alloc | apply Kd.R_drewN | apply Kd.R_drew)); exact HO125.out) hb); have n1_ := Aside0.mk (Kd.R_lower ho7 (below_size (by repeat (first | (with_reducible first | exact HB.out | apply below_alloc | apply pw_below_drewN | apply below_drew1) | exact HB.out)))); have n2_ := Aside0.mk (below_step (by repeat (first | (with_reducible first | exact HB.out | apply below_alloc | apply pw_below_drewN | apply below_drew1) | exact HB.out)) hb); clear HO125; clear HB; have HO125 := n0_; have HO128 := n1_; have HB := n2_; clear n0_ n1_ n2_; clear hb ho7)))
      go_loopg [4] k (fun kq v4 w' => ∃ (x3_1 : List Int) (x4_1 : List (S54)), Aside0 (inclineref13_Merge.l0 kq l0 x3_1 x4_1 = some r) ∧ Aside0 (kq ≤ k) ∧ Aside0 (Kd.R (Kd.int .i64) 3 w' w.heap.size (fun _ => True) v124 x3_1) ∧ Aside0 (Kd.R k54 54 w' w.heap.size (fun _ => True) v4 x4_1) ∧ Aside0 (Below w.heap.size w w'))
      case atStart => exact ⟨(y123), (y126), H', ⟨Nat.le_refl _⟩, ⟨by (with_reducible repeat (first | apply Kd.R_alloc | apply Kd.R_drewN | apply Kd.R_drew)); exact HO125.out⟩, ⟨by (with_reducible repeat (first | apply Kd.R_alloc | apply Kd.R_drewN | apply Kd.R_drew)); exact HO128.out⟩, ⟨by repeat (first | (with_reducible first | exact HB.out | apply below_alloc | apply pw_below_drewN | apply below_drew1) | exact HB.out)⟩⟩
      case round =>
        clear H'
        try clear c2
        try clear c2b0
        try clear c2b1
        try clear p2
        try clear c3
        try clear c3b0
        try clear c3b1
        obtain ⟨x3_1, x4_1, HA, HK1, HO_3, HO_4, HB⟩ := hrel
        cases gk with
        | zero => exact absurd HA.out (by simp [inclineref13_Merge.l0])
        | succ k1 =>
          have H := HA.out
          clear HA
          simp only [inclineref13_Merge.l0] at H
          have H' := Aside0.mk H
          clear H
          go_wp2
          repeat (go_quiet (fail); try go_wp2)
          go_loopg [5, 6] k1 (fun kq v5 v6 w' => ∃ (x5_2 : Int) (x6_2 : Int), v5 = .int .i64 x5_2 ∧ v6 = .int .i64 x6_2 ∧ Aside0 (inclineref13_Merge.l1 kq l0 x3_1 x4_1 x5_2 x6_2 = some r) ∧ Aside0 (kq ≤ k1) ∧ Aside0 (Kd.R (Kd.int .i64) 3 w' w.heap.size (fun _ => True) v124 x3_1) ∧ Aside0 (Kd.R k54 54 w' w.heap.size (fun _ => True) u4 x4_1) ∧ Aside0 (Below w.heap.size w w'))
          case atStart => exact ⟨((-1)), (0), (by first | rfl | (simp; done) | (simp [*]; done)), (by first | rfl | (simp; done) | (simp [*]; done)), H', ⟨Nat.le_refl _⟩, ⟨by (with_reducible repeat (first | apply Kd.R_alloc | apply Kd.R_drewN | apply Kd.R_drew)); exact HO_3.out⟩, ⟨by (with_reducible repeat (first | apply Kd.R_alloc | apply Kd.R_drewN | apply Kd.R_drew)); exact HO_4.out⟩, ⟨by repeat (first | (with_reducible first | exact HB.out | apply below_alloc | apply pw_below_drewN | apply below_drew1) | exact HB.out)⟩⟩
          case round =>
            clear H'
            try clear c2
            try clear c2b0
            try clear c2b1
            try clear p2
            try clear c3
            try clear c3b0
            try clear c3b1
            try clear p2
            obtain ⟨x5_2, x6_2, rfl, rfl, HA, HK2, HO_3, HO_4, HB⟩ := hrel
            cases gk with
            | zero => exact absurd HA.out (by simp [inclineref13_Merge.l1])
            | succ k2 =>
              have H := HA.out
              clear HA
              simp only [inclineref13_Merge.l1] at H
              by_cases c8 : x6_2 < (l0.length : Int)
              · rw [if_pos c8] at H
                have c8b0 : decide (x6_2 < (l0.length : Int)) = true := decide_eq_true c8
                clear c8
                by_cases c9 : 0 ≤ x6_2
                · rw [if_pos c9] at H
                  have c9b0 : decide (0 ≤ x6_2) = true := decide_eq_true c9
                  clear c9
                  by_cases c10 : x6_2 < (x3_1.length : Int)
                  · rw [if_pos c10] at H
                    have c10b0 : decide (x6_2 < (x3_1.length : Int)) = true := decide_eq_true c10
                    clear c10
                    by_cases c11 : (rd x3_1 x6_2) < ((rd_L4 l0 x6_2).length : Int)
                    · rw [if_pos c11] at H
                      have c11b0 : decide ((rd x3_1 x6_2) < ((rd_L4 l0 x6_2).length : Int)) = true := decide_eq_true c11
                      clear c11
                      by_cases c12 : x5_2 < 0
                      · rw [if_pos c12] at H
                        have c12b0 : decide (x5_2 < 0) = true := decide_eq_true c12
                        clear c12
                        have H' := Aside0.mk H
                        clear H
                        obtain ⟨Ao13, co13, eo13⟩ := Kd.R_slice HO_3.out
                        subst eo13
                        have p129 : 0 ≤ (x6_2 : Int) := of_decide_eq_true (by first | (with_reducible assumption) | assumption)
                        have q129 : x6_2 < (x3_1.length : Int) := of_decide_eq_true (by first | (with_reducible assumption) | assumption)
                        obtain ⟨ad129, e129, hx129_0⟩ := Kd.at_int (Kd.R_reads' HO_3.out).2.2 x6_2 p129 q129
                        cases e129
                        replace p129 := eq_true p129
                        replace q129 := eq_true q129
                        have p130 : 0 ≤ (x6_2 : Int) := of_decide_eq_true (by first | (with_reducible assumption) | assumption)
                        have q130 : x6_2 < (l0.length : Int) := of_decide_eq_true (by first | (with_reducible assumption) | assumption)
                        obtain ⟨ad130, A130_0, c130_0, e130, hx130_0, hl130_0, hi130_0⟩ := at_L4 HR0.out x6_2 p130 q130
                        cases e130
                        replace hx130_0 := (HB.out.cell (World.block_lt_of_cell? w _ hx130_0)).trans hx130_0
                        have HR130_0 := Aside0.mk hi130_0
                        have HC130_0 := Aside0.mk hl130_0
                        clear hi130_0 hl130_0
                        replace p130 := eq_true p130
                        replace q130 := eq_true q130
                        go_wp2
                        repeat (go_quiet (fail); try go_wp2)
                        go_roundg k2
                        case measure => have := HK1.out; have := HK2.out; omega
                        case rel => exact ⟨(x6_2), (wrap64 (x6_2 + 1)), (by first | rfl | (simp; done) | (simp [*]; done)), (by first | rfl | (simp; done) | (simp [*]; done)), H', ⟨by have := HK1.out; have := HK2.out; omega⟩, ⟨by (with_reducible repeat (first | apply Kd.R_alloc | apply Kd.R_drewN | apply Kd.R_drew)); exact HO_3.out⟩, ⟨by (with_reducible repeat (first | apply Kd.R_alloc | apply Kd.R_drewN | apply Kd.R_drew)); exact HO_4.out⟩, ⟨by repeat (first | (with_reducible first | exact HB.out | apply below_alloc | apply pw_below_drewN | apply below_drew1) | exact HB.out)⟩⟩
                      · rw [if_neg c12] at H
                        have c12b0 : decide (x5_2 < 0) = false := decide_eq_false c12
                        clear c12
                        by_cases c14 : 0 ≤ (rd x3_1 x6_2)
                        · rw [if_pos c14] at H
                          have c14b0 : decide (0 ≤ (rd x3_1 x6_2)) = true := decide_eq_true c14
                          clear c14
                          by_cases c15 : 0 ≤ x5_2
                          · rw [if_pos c15] at H
                            have c15b0 : decide (0 ≤ x5_2) = true := decide_eq_true c15
                            clear c15
                            by_cases c16 : x5_2 < (l0.length : Int)
                            · rw [if_pos c16] at H
                              have c16b0 : decide (x5_2 < (l0.length : Int)) = true := decide_eq_true c16
                              clear c16
                              by_cases c17 : x5_2 < (x3_1.length : Int)
                              · rw [if_pos c17] at H
                                have c17b0 : decide (x5_2 < (x3_1.length : Int)) = true := decide_eq_true c17
                                clear c17
                                by_cases c18 : 0 ≤ (rd x3_1 x5_2)
                                · rw [if_pos c18] at H
                                  have c18b0 : decide (0 ≤ (rd x3_1 x5_2)) = true := decide_eq_true c18
                                  clear c18
                                  by_cases c19 : (rd x3_1 x5_2) < ((rd_L4 l0 x5_2).length : Int)
                                  · rw [if_pos c19] at H
                                    have c19b0 : decide ((rd x3_1 x5_2) < ((rd_L4 l0 x5_2).length : Int)) = true := decide_eq_true c19
                                    clear c19
                                    by_cases c20 : (rd (rd_L4 l0 x6_2) (rd x3_1 x6_2)) < (rd (rd_L4 l0 x5_2) (rd x3_1 x5_2))
                                    · rw [if_pos c20] at H
                                      have c20b0 : decide ((rd (rd_L4 l0 x6_2) (rd x3_1 x6_2)) < (rd (rd_L4 l0 x5_2) (rd x3_1 x5_2))) = true := decide_eq_true c20
                                      clear c20
                                      have H' := Aside0.mk H
                                      clear H
                                      obtain ⟨Ao21, co21, eo21⟩ := Kd.R_slice HO_3.out
                                      subst eo21
                                      have p129 : 0 ≤ (x6_2 : Int) := of_decide_eq_true (by first | (with_reducible assumption) | assumption)
                                      have q129 : x6_2 < (x3_1.length : Int) := of_decide_eq_true (by first | (with_reducible assumption) | assumption)
                                      obtain ⟨ad129, e129, hx129_0⟩ := Kd.at_int (Kd.R_reads' HO_3.out).2.2 x6_2 p129 q129
                                      cases e129
                                      replace p129 := eq_true p129
                                      replace q129 := eq_true q129
                                      have p130 : 0 ≤ (x6_2 : Int) := of_decide_eq_true (by first | (with_reducible assumption) | assumption)
                                      have q130 : x6_2 < (l0.length : Int) := of_decide_eq_true (by first | (with_reducible assumption) | assumption)
                                      obtain ⟨ad130, A130_0, c130_0, e130, hx130_0, hl130_0, hi130_0⟩ := at_L4 HR0.out x6_2 p130 q130
                                      cases e130
                                      replace hx130_0 := (HB.out.cell (World.block_lt_of_cell? w _ hx130_0)).trans hx130_0
                                      have HR130_0 := Aside0.mk hi130_0
                                      have HC130_0 := Aside0.mk hl130_0
                                      clear hi130_0 hl130_0
                                      replace p130 := eq_true p130
                                      replace q130 := eq_true q130
                                      have p131 : 0 ≤ (x6_2 : Int) := of_decide_eq_true (by first | (with_reducible assumption) | assumption)
                                      have q131 : x6_2 < (l0.length : Int) := of_decide_eq_true (by first | (with_reducible assumption) | assumption)
                                      obtain ⟨ad131, A131_0, c131_0, e131, hx131_0, hl131_0, hi131_0⟩ := at_L4 HR0.out x6_2 p131 q131
                                      obtain rfl : ad130 = ad131 := (by injection e131)
                                      replace hx131_0 := (HB.out.cell (World.block_lt_of_cell? w _ hx131_0)).trans hx131_0
                                      have HR131_0 := Aside0.mk hi131_0
                                      have HC131_0 := Aside0.mk hl131_0
                                      clear hi131_0 hl131_0
                                      replace p131 := eq_true p131
                                      replace q131 := eq_true q131
                                      have ea_ := Option.some.inj (hx130_0.symm.trans hx131_0)
                                      injection ea_ with ea_ en_ ec_
                                      subst ea_
                                      subst ec_
                                      clear en_
                                      have p132 : 0 ≤ (x6_2 : Int) := of_decide_eq_true (by first | (with_reducible assumption) | assumption)
                                      have q132 : x6_2 < (x3_1.length : Int) := of_decide_eq_true (by first | (with_reducible assumption) | assumption)
                                      obtain ⟨ad132, e132, hx132_0⟩ := Kd.at_int (Kd.R_reads' HO_3.out).2.2 x6_2 p132 q132
                                      obtain rfl : ad129 = ad132 := (by injection e132)
                                      replace p132 := eq_true p132
                                      replace q132 := eq_true q132
                                      have p133 : 0 ≤ ((rd x3_1 x6_2) : Int) := of_decide_eq_true (by first | (with_reducible assumption) | assumption)
                                      have q133 : (rd x3_1 x6_2) < ((rd_L4 l0 x6_2).length : Int) := of_decide_eq_true (by first | (with_reducible assumption) | assumption)
                                      obtain ⟨ad133, e133, hx133_0⟩ := Kd.at_int HR131_0.out (rd x3_1 x6_2) p133 q133
                                      cases e133
                                      replace hx133_0 := (HB.out.cell (World.block_lt_of_cell? w _ hx133_0)).trans hx133_0
                                      replace p133 := eq_true p133
                                      replace q133 := eq_true q133
                                      have p134 : 0 ≤ (x5_2 : Int) := of_decide_eq_true (by first | (with_reducible assumption) | assumption)
                                      have q134 : x5_2 < (l0.length : Int) := of_decide_eq_true (by first | (with_reducible assumption) | assumption)
                                      obtain ⟨ad134, A134_0, c134_0, e134, hx134_0, hl134_0, hi134_0⟩ := at_L4 HR0.out x5_2 p134 q134
                                      obtain rfl : ad130 = ad134 := (by injection e134)
                                      replace hx134_0 := (HB.out.cell (World.block_lt_of_cell? w _ hx134_0)).trans hx134_0
                                      have HR134_0 := Aside0.mk hi134_0
                                      have HC134_0 := Aside0.mk hl134_0
                                      clear hi134_0 hl134_0
                                      replace p134 := eq_true p134
                                      replace q134 := eq_true q134
                                      have p135 : 0 ≤ (x5_2 : Int) := of_decide_eq_true (by first | (with_reducible assumption) | assumption)
                                      have q135 : x5_2 < (x3_1.length : Int) := of_decide_eq_true (by first | (with_reducible assumption) | assumption)
                                      obtain ⟨ad135, e135, hx135_0⟩ := Kd.at_int (Kd.R_reads' HO_3.out).2.2 x5_2 p135 q135
                                      obtain rfl : ad129 = ad135 := (by injection e135)
                                      replace p135 := eq_true p135
                                      replace q135 := eq_true q135
                                      have p136 : 0 ≤ ((rd x3_1 x5_2) : Int) := of_decide_eq_true (by first | (with_reducible assumption) | assumption)
                                      have q136 : (rd x3_1 x5_2) < ((rd_L4 l0 x5_2).length : Int) := of_decide_eq_true (by first | (with_reducible assumption) | assumption)
                                      obtain ⟨ad136, e136, hx136_0⟩ := Kd.at_int HR134_0.out (rd x3_1 x5_2) p136 q136
                                      cases e136
                                      replace hx136_0 := (HB.out.cell (World.block_lt_of_cell? w _ hx136_0)).trans hx136_0
                                      replace p136 := eq_true p136
                                      replace q136 := eq_true q136
                                      go_wp2
                                      repeat (go_quiet (fail); try go_wp2)
                                      go_roundg k2
                                      case measure => have := HK1.out; have := HK2.out; omega
                                      case rel => exact ⟨(x6_2), (wrap64 (x6_2 + 1)), (by first | rfl | (simp; done) | (simp [*]; done)), (by first | rfl | (simp; done) | (simp [*]; done)), H', ⟨by have := HK1.out; have := HK2.out; omega⟩, ⟨by (with_reducible repeat (first | apply Kd.R_alloc | apply Kd.R_drewN | apply Kd.R_drew)); exact HO_3.out⟩, ⟨by (with_reducible repeat (first | apply Kd.R_alloc | apply Kd.R_drewN | apply Kd.R_drew)); exact HO_4.out⟩, ⟨by repeat (first | (with_reducible first | exact HB.out | apply below_alloc | apply pw_below_drewN | apply below_drew1) | exact HB.out)⟩⟩
                                    · rw [if_neg c20] at H
                                      have c20b0 : decide ((rd (rd_L4 l0 x6_2) (rd x3_1 x6_2)) < (rd (rd_L4 l0 x5_2) (rd x3_1 x5_2))) = false := decide_eq_false c20
                                      clear c20
                                      have H' := Aside0.mk H
                                      clear H
                                      obtain ⟨Ao22, co22, eo22⟩ := Kd.R_slice HO_3.out
                                      subst eo22
                                      have p129 : 0 ≤ (x6_2 : Int) := of_decide_eq_true (by first | (with_reducible assumption) | assumption)
                                      have q129 : x6_2 < (x3_1.length : Int) := of_decide_eq_true (by first | (with_reducible assumption) | assumption)
                                      obtain ⟨ad129, e129, hx129_0⟩ := Kd.at_int (Kd.R_reads' HO_3.out).2.2 x6_2 p129 q129
                                      cases e129
                                      replace p129 := eq_true p129
                                      replace q129 := eq_true q129
                                      have p130 : 0 ≤ (x6_2 : Int) := of_decide_eq_true (by first | (with_reducible assumption) | assumption)
                                      have q130 : x6_2 < (l0.length : Int) := of_decide_eq_true (by first | (with_reducible assumption) | assumption)
                                      obtain ⟨ad130, A130_0, c130_0, e130, hx130_0, hl130_0, hi130_0⟩ := at_L4 HR0.out x6_2 p130 q130
                                      cases e130
                                      replace hx130_0 := (HB.out.cell (World.block_lt_of_cell? w _ hx130_0)).trans hx130_0
                                      have HR130_0 := Aside0.mk hi130_0
                                      have HC130_0 := Aside0.mk hl130_0
                                      clear hi130_0 hl130_0
                                      replace p130 := eq_true p130
                                      replace q130 := eq_true q130
                                      have p131 : 0 ≤ (x6_2 : Int) := of_decide_eq_true (by first | (with_reducible assumption) | assumption)
                                      have q131 : x6_2 < (l0.length : Int) := of_decide_eq_true (by first | (with_reducible assumption) | assumption)
                                      obtain ⟨ad131, A131_0, c131_0, e131, hx131_0, hl131_0, hi131_0⟩ := at_L4 HR0.out x6_2 p131 q131
                                      obtain rfl : ad130 = ad131 := (by injection e131)
                                      replace hx131_0 := (HB.out.cell (World.block_lt_of_cell? w _ hx131_0)).trans hx131_0
                                      have HR131_0 := Aside0.mk hi131_0
                                      have HC131_0 := Aside0.mk hl131_0
                                      clear hi131_0 hl131_0
                                      replace p131 := eq_true p131
                                      replace q131 := eq_true q131
                                      have ea_ := Option.some.inj (hx130_0.symm.trans hx131_0)
                                      injection ea_ with ea_ en_ ec_
                                      subst ea_
                                      subst ec_
                                      clear en_
                                      have p132 : 0 ≤ (x6_2 : Int) := of_decide_eq_true (by first | (with_reducible assumption) | assumption)
                                      have q132 : x6_2 < (x3_1.length : Int) := of_decide_eq_true (by first | (with_reducible assumption) | assumption)
                                      obtain ⟨ad132, e132, hx132_0⟩ := Kd.at_int (Kd.R_reads' HO_3.out).2.2 x6_2 p132 q132
                                      obtain rfl : ad129 = ad132 := (by injection e132)
                                      replace p132 := eq_true p132
                                      replace q132 := eq_true q132
                                      have p133 : 0 ≤ ((rd x3_1 x6_2) : Int) := of_decide_eq_true (by first | (with_reducible assumption) | assumption)
                                      have q133 : (rd x3_1 x6_2) < ((rd_L4 l0 x6_2).length : Int) := of_decide_eq_true (by first | (with_reducible assumption) | assumption)
                                      obtain ⟨ad133, e133, hx133_0⟩ := Kd.at_int HR131_0.out (rd x3_1 x6_2) p133 q133
                                      cases e133
                                      replace hx133_0 := (HB.out.cell (World.block_lt_of_cell? w _ hx133_0)).trans hx133_0
                                      replace p133 := eq_true p133
                                      replace q133 := eq_true q133
                                      have p134 : 0 ≤ (x5_2 : Int) := of_decide_eq_true (by first | (with_reducible assumption) | assumption)
                                      have q134 : x5_2 < (l0.length : Int) := of_decide_eq_true (by first | (with_reducible assumption) | assumption)
                                      obtain ⟨ad134, A134_0, c134_0, e134, hx134_0, hl134_0, hi134_0⟩ := at_L4 HR0.out x5_2 p134 q134
                                      obtain rfl : ad130 = ad134 := (by injection e134)
                                      replace hx134_0 := (HB.out.cell (World.block_lt_of_cell? w _ hx134_0)).trans hx134_0
                                      have HR134_0 := Aside0.mk hi134_0
                                      have HC134_0 := Aside0.mk hl134_0
                                      clear hi134_0 hl134_0
                                      replace p134 := eq_true p134
                                      replace q134 := eq_true q134
                                      have p135 : 0 ≤ (x5_2 : Int) := of_decide_eq_true (by first | (with_reducible assumption) | assumption)
                                      have q135 : x5_2 < (x3_1.length : Int) := of_decide_eq_true (by first | (with_reducible assumption) | assumption)
                                      obtain ⟨ad135, e135, hx135_0⟩ := Kd.at_int (Kd.R_reads' HO_3.out).2.2 x5_2 p135 q135
                                      obtain rfl : ad129 = ad135 := (by injection e135)
                                      replace p135 := eq_true p135
                                      replace q135 := eq_true q135
                                      have p136 : 0 ≤ ((rd x3_1 x5_2) : Int) := of_decide_eq_true (by first | (with_reducible assumption) | assumption)
                                      have q136 : (rd x3_1 x5_2) < ((rd_L4 l0 x5_2).length : Int) := of_decide_eq_true (by first | (with_reducible assumption) | assumption)
                                      obtain ⟨ad136, e136, hx136_0⟩ := Kd.at_int HR134_0.out (rd x3_1 x5_2) p136 q136
                                      cases e136
                                      replace hx136_0 := (HB.out.cell (World.block_lt_of_cell? w _ hx136_0)).trans hx136_0
                                      replace p136 := eq_true p136
                                      replace q136 := eq_true q136
                                      go_wp2
                                      repeat (go_quiet (fail); try go_wp2)
                                      go_roundg k2
                                      case measure => have := HK1.out; have := HK2.out; omega
                                      case rel => exact ⟨(x5_2), (wrap64 (x6_2 + 1)), (by first | rfl | (simp; done) | (simp [*]; done)), (by first | rfl | (simp; done) | (simp [*]; done)), H', ⟨by have := HK1.out; have := HK2.out; omega⟩, ⟨by (with_reducible repeat (first | apply Kd.R_alloc | apply Kd.R_drewN | apply Kd.R_drew)); exact HO_3.out⟩, ⟨by (with_reducible repeat (first | apply Kd.R_alloc | apply Kd.R_drewN | apply Kd.R_drew)); exact HO_4.out⟩, ⟨by repeat (first | (with_reducible first | exact HB.out | apply below_alloc | apply pw_below_drewN | apply below_drew1) | exact HB.out)⟩⟩
                                  · rw [if_neg c19] at H
                                    exact absurd H (by simp)
                                · rw [if_neg c18] at H
                                  exact absurd H (by simp)
                              · rw [if_neg c17] at H
                                exact absurd H (by simp)
                            · rw [if_neg c16] at H
                              exact absurd H (by simp)
                          · rw [if_neg c15] at H
                            exact absurd H (by simp)
                        · rw [if_neg c14] at H
                          exact absurd H (by simp)
                    · rw [if_neg c11] at H
                      have c11b0 : decide ((rd x3_1 x6_2) < ((rd_L4 l0 x6_2).length : Int)) = false := decide_eq_false c11
                      clear c11
                      have H' := Aside0.mk H
                      clear H
                      obtain ⟨Ao23, co23, eo23⟩ := Kd.R_slice HO_3.out
                      subst eo23
                      have p129 : 0 ≤ (x6_2 : Int) := of_decide_eq_true (by first | (with_reducible assumption) | assumption)
                      have q129 : x6_2 < (x3_1.length : Int) := of_decide_eq_true (by first | (with_reducible assumption) | assumption)
                      obtain ⟨ad129, e129, hx129_0⟩ := Kd.at_int (Kd.R_reads' HO_3.out).2.2 x6_2 p129 q129
                      cases e129
                      replace p129 := eq_true p129
                      replace q129 := eq_true q129
                      have p130 : 0 ≤ (x6_2 : Int) := of_decide_eq_true (by first | (with_reducible assumption) | assumption)
                      have q130 : x6_2 < (l0.length : Int) := of_decide_eq_true (by first | (with_reducible assumption) | assumption)
                      obtain ⟨ad130, A130_0, c130_0, e130, hx130_0, hl130_0, hi130_0⟩ := at_L4 HR0.out x6_2 p130 q130
                      cases e130
                      replace hx130_0 := (HB.out.cell (World.block_lt_of_cell? w _ hx130_0)).trans hx130_0
                      have HR130_0 := Aside0.mk hi130_0
                      have HC130_0 := Aside0.mk hl130_0
                      clear hi130_0 hl130_0
                      replace p130 := eq_true p130
                      replace q130 := eq_true q130
                      go_wp2
                      repeat (go_quiet (fail); try go_wp2)
                      go_roundg k2
                      case measure => have := HK1.out; have := HK2.out; omega
                      case rel => exact ⟨(x5_2), (wrap64 (x6_2 + 1)), (by first | rfl | (simp; done) | (simp [*]; done)), (by first | rfl | (simp; done) | (simp [*]; done)), H', ⟨by have := HK1.out; have := HK2.out; omega⟩, ⟨by (with_reducible repeat (first | apply Kd.R_alloc | apply Kd.R_drewN | apply Kd.R_drew)); exact HO_3.out⟩, ⟨by (with_reducible repeat (first | apply Kd.R_alloc | apply Kd.R_drewN | apply Kd.R_drew)); exact HO_4.out⟩, ⟨by repeat (first | (with_reducible first | exact HB.out | apply below_alloc | apply pw_below_drewN | apply below_drew1) | exact HB.out)⟩⟩
                  · rw [if_neg c10] at H
                    exact absurd H (by simp)
                · rw [if_neg c9] at H
                  exact absurd H (by simp)
              · rw [if_neg c8] at H
                have c8b0 : decide (x6_2 < (l0.length : Int)) = false := decide_eq_false c8
                clear c8
                by_cases c24 : x5_2 < 0
                · rw [if_pos c24] at H
                  have c24b0 : decide (x5_2 < 0) = true := decide_eq_true c24
                  clear c24
                  obtain rfl := Option.some.inj H
                  go_wp2
                  repeat (go_quiet (fail); try go_wp2)
                  go_ret
                  exact ⟨_, by first | rfl | (simp [errW_none, errW_some] <;> rfl) | (simp [*, errW_none, errW_some] <;> rfl), by (with_reducible repeat (first | apply Kd.R_alloc | apply Kd.R_drewN | apply Kd.R_drew)); exact HO_4.out, by repeat (first | (with_reducible first | exact HB.out | apply below_alloc | apply pw_below_drewN | apply below_drew1) | exact HB.out)⟩
                · rw [if_neg c24] at H
                  have c24b0 : decide (x5_2 < 0) = false := decide_eq_false c24
                  clear c24
                  by_cases c25 : 0 ≤ x5_2
                  · rw [if_pos c25] at H
                    have c25b0 : decide (0 ≤ x5_2) = true := decide_eq_true c25
                    clear c25
                    by_cases c26 : x5_2 < (x3_1.length : Int)
                    · rw [if_pos c26] at H
                      have c26b0 : decide (x5_2 < (x3_1.length : Int)) = true := decide_eq_true c26
                      clear c26
                      by_cases c27 : x4_1.length < 8796093022208
                      · rw [if_pos c27] at H
                        have LMc27 := Aside0.mk c27
                        clear c27
                        obtain ⟨y138, hy138⟩ : ∃ y_ : List (S54), y_ = (x4_1 ++ [(⟨x5_2, rd x3_1 x5_2⟩ : S54)]) := ⟨_, rfl⟩
                        replace H : (if x5_2 < (l0.length : Int) then (if 0 ≤ (rd x3_1 x5_2) then (if (rd x3_1 x5_2) < ((rd_L4 l0 x5_2).length : Int) then (inclineref13_Merge.l2 k2 l0 x3_1 y138 (rd (rd_L4 l0 x5_2) (rd x3_1 x5_2)) 0) else (none)) else (none)) else (none)) = some r := by first | (rw [hy138]; with_reducible exact H) | (have H2_ := (Option.bind_some _ _).symm.trans H; rw [hy138]; with_reducible exact H2_) | (have H2_ := (Option.bind_some _ _).symm.trans H; with_reducible exact H2_) | with_reducible exact H | (rw [hy138]; exact H) | exact H
                        have Ny138 := Aside0.mk hy138
                        clear hy138
                        by_cases c28 : x5_2 < (l0.length : Int)
                        · rw [if_pos c28] at H
                          have c28b0 : decide (x5_2 < (l0.length : Int)) = true := decide_eq_true c28
                          clear c28
                          by_cases c29 : 0 ≤ (rd x3_1 x5_2)
                          · rw [if_pos c29] at H
                            have c29b0 : decide (0 ≤ (rd x3_1 x5_2)) = true := decide_eq_true c29
                            clear c29
                            by_cases c30 : (rd x3_1 x5_2) < ((rd_L4 l0 x5_2).length : Int)
                            · rw [if_pos c30] at H
                              have c30b0 : decide ((rd x3_1 x5_2) < ((rd_L4 l0 x5_2).length : Int)) = true := decide_eq_true c30
                              clear c30
                              have H' := Aside0.mk H
                              clear H
                              obtain ⟨Ao31, co31, eo31⟩ := Kd.R_slice HO_3.out
                              subst eo31
                              have p137 : 0 ≤ (x5_2 : Int) := of_decide_eq_true (by first | (with_reducible assumption) | assumption)
                              have q137 : x5_2 < (x3_1.length : Int) := of_decide_eq_true (by first | (with_reducible assumption) | assumption)
                              obtain ⟨ad137, e137, hx137_0⟩ := Kd.at_int (Kd.R_reads' HO_3.out).2.2 x5_2 p137 q137
                              cases e137
                              replace p137 := eq_true p137
                              replace q137 := eq_true q137
                              go_wp2_with (first | ((with_reducible refine gate_builtin (b := .append) (xs := #[.tmp 60, .tmp 67]) rfl ?_); at_builtin; refine Kd.R_append k54 (w0 := w) w.heap.size rfl (.tmp 60) (.tmp 67) 50 54 (.agg #[(.int .i64 0), (.int .i64 0)]) 16 rfl Try.underlying50 info54 rfl (by decide) (by omega) u4 x4_1 (⟨x5_2, rd x3_1 x5_2⟩ : S54) [.int .i64 x5_2, .int .i64 (rd x3_1 x5_2)] (fun _ => True) (fun _ => False) rfl rfl ?aP (fun _ hk => hk.elim) ?aF ?aO ?aB ?aS ?aL ?_; (case aP => exact k54_mkM _ _ _ (⟨x5_2, rd x3_1 x5_2⟩ : S54)); (case aB => exact (by repeat (first | (with_reducible first | exact HB.out | apply below_alloc | apply pw_below_drewN | apply below_drew1) | exact HB.out))); (case aF => exact (fun _ _ => trivial)); (case aO => exact (by (with_reducible repeat (first | apply Kd.R_alloc | apply Kd.R_drewN | apply Kd.R_drew)); exact HO_4.out)); (case aS => exact (below_size (by repeat (first | (with_reducible first | exact HB.out | apply below_alloc | apply pw_below_drewN | apply below_drew1) | exact HB.out)))); (case aL => have := LMc27.out; omega); intro v139 w32 ho hb hg hat; rw [← Ny138.out] at ho; have n0_ := Aside0.mk (Kd.R_over' (by (with_reducible repeat (first | apply Kd.R_alloc | apply Kd.R_drewN | apply Kd.R_drew)); exact HO_3.out) (Kd.R_typed (by (with_reducible repeat (first | apply Kd.R_alloc | apply Kd.R_drewN | apply Kd.R_drew)); exact HO_4.out)) (by decide) hg); have n1_ := Aside0.mk (hb); have n2_ := Aside0.mk (ho); clear HO_3; clear HB; clear HO_4; have HO_3 := n0_; have HB := n1_; have HO140 := n2_; clear n0_ n1_ n2_; clear ho hb hg hat; have p141 : 0 ≤ (x5_2 : Int) := of_decide_eq_true (by first | (with_reducible assumption) | assumption); have q141 : x5_2 < (l0.length : Int) := of_decide_eq_true (by first | (with_reducible assumption) | assumption); obtain ⟨ad141, A141_0, c141_0, e141, hx141_0, hl141_0, hi141_0⟩ := at_L4 HR0.out x5_2 p141 q141; cases e141; replace hx141_0 := (HB.out.cell (World.block_lt_of_cell? w _ hx141_0)).trans hx141_0; have HR141_0 := Aside0.mk hi141_0; have HC141_0 := Aside0.mk hl141_0; clear hi141_0 hl141_0; replace p141 := eq_true p141; replace q141 := eq_true q141; have p142 : 0 ≤ (x5_2 : Int) := of_decide_eq_true (by first | (with_reducible assumption) | assumption); have q142 : x5_2 < (x3_1.length : Int) := of_decide_eq_true (by first | (with_reducible assumption) | assumption); obtain ⟨ad142, e142, hx142_0⟩ := Kd.at_int (Kd.R_reads' HO_3.out).2.2 x5_2 p142 q142; obtain rfl : ad137 = ad142 := (by injection e142); replace p142 := eq_true p142; replace q142 := eq_true q142; have p143 : 0 ≤ ((rd x3_1 x5_2) : Int) := of_decide_eq_true (by first | (with_reducible assumption) | assumption); have q143 : (rd x3_1 x5_2) < ((rd_L4 l0 x5_2).length : Int) := of_decide_eq_true (by first | (with_reducible assumption) | assumption); obtain ⟨ad143, e143, hx143_0⟩ := Kd.at_int HR141_0.out (rd x3_1 x5_2) p143 q143; cases e143; replace hx143_0 := (HB.out.cell (World.block_lt_of_cell? w _ hx143_0)).trans hx143_0; replace p143 := eq_true p143; replace q143 := eq_true q143))
                              repeat (go_quiet (first | ((with_reducible refine gate_builtin (b := .append) (xs := #[.tmp 60, .tmp 67]) rfl ?_); at_builtin; refine Kd.R_append k54 (w0 := w) w.heap.size rfl (.tmp 60) (.tmp 67) 50 54 (.agg #[(.int .i64 0), (.int .i64 0)]) 16 rfl Try.underlying50 info54 rfl (by decide) (by omega) u4 x4_1 (⟨x5_2, rd x3_1 x5_2⟩ : S54) [.int .i64 x5_2, .int .i64 (rd x3_1 x5_2)] (fun _ => True) (fun _ => False) rfl rfl ?aP (fun _ hk => hk.elim) ?aF ?aO ?aB ?aS ?aL ?_; (case aP => exact k54_mkM _ _ _ (⟨x5_2, rd x3_1 x5_2⟩ : S54)); (case aB => exact (by repeat (first | (with_reducible first | exact HB.out | apply below_alloc | apply pw_below_drewN | apply below_drew1) | exact HB.out))); (case aF => exact (fun _ _ => trivial)); (case aO => exact (by (with_reducible repeat (first | apply Kd.R_alloc | apply Kd.R_drewN | apply Kd.R_drew)); exact HO_4.out)); (case aS => exact (below_size (by repeat (first | (with_reducible first | exact HB.out | apply below_alloc | apply pw_below_drewN | apply below_drew1) | exact HB.out)))); (case aL => have := LMc27.out; omega); intro v139 w32 ho hb hg hat; rw [← Ny138.out] at ho; have n0_ := Aside0.mk (Kd.R_over' (by (with_reducible repeat (first | apply Kd.R_alloc | apply Kd.R_drewN | apply Kd.R_drew)); exact HO_3.out) (Kd.R_typed (by (with_reducible repeat (first | apply Kd.R_alloc | apply Kd.R_drewN | apply Kd.R_drew)); exact HO_4.out)) (by decide) hg); have n1_ := Aside0.mk (hb); have n2_ := Aside0.mk (ho); clear HO_3; clear HB; clear HO_4; have HO_3 := n0_; have HB := n1_; have HO140 := n2_; clear n0_ n1_ n2_; clear ho hb hg hat; have p141 : 0 ≤ (x5_2 : Int) := of_decide_eq_true (by first | (with_reducible assumption) | assumption); have q141 : x5_2 < (l0.length : Int) := of_decide_eq_true (by first | (with_reducible assumption) | assumption); obtain ⟨ad141, A141_0, c141_0, e141, hx141_0, hl141_0, hi141_0⟩ := at_L4 HR0.out x5_2 p141 q141; cases e141; replace hx141_0 := (HB.out.cell (World.block_lt_of_cell? w _ hx141_0)).trans hx141_0; have HR141_0 := Aside0.mk hi141_0; have HC141_0 := Aside0.mk hl141_0; clear hi141_0 hl141_0; replace p141 := eq_true p141; replace q141 := eq_true q141; have p142 : 0 ≤ (x5_2 : Int) := of_decide_eq_true (by first | (with_reducible assumption) | assumption); have q142 : x5_2 < (x3_1.length : Int) := of_decide_eq_true (by first | (with_reducible assumption) | assumption); obtain ⟨ad142, e142, hx142_0⟩ := Kd.at_int (Kd.R_reads' HO_3.out).2.2 x5_2 p142 q142; obtain rfl : ad137 = ad142 := (by injection e142); replace p142 := eq_true p142; replace q142 := eq_true q142; have p143 : 0 ≤ ((rd x3_1 x5_2) : Int) := of_decide_eq_true (by first | (with_reducible assumption) | assumption); have q143 : (rd x3_1 x5_2) < ((rd_L4 l0 x5_2).length : Int) := of_decide_eq_true (by first | (with_reducible assumption) | assumption); obtain ⟨ad143, e143, hx143_0⟩ := Kd.at_int HR141_0.out (rd x3_1 x5_2) p143 q143; cases e143; replace hx143_0 := (HB.out.cell (World.block_lt_of_cell? w _ hx143_0)).trans hx143_0; replace p143 := eq_true p143; replace q143 := eq_true q143)); try go_wp2_with (first | ((with_reducible refine gate_builtin (b := .append) (xs := #[.tmp 60, .tmp 67]) rfl ?_); at_builtin; refine Kd.R_append k54 (w0 := w) w.heap.size rfl (.tmp 60) (.tmp 67) 50 54 (.agg #[(.int .i64 0), (.int .i64 0)]) 16 rfl Try.underlying50 info54 rfl (by decide) (by omega) u4 x4_1 (⟨x5_2, rd x3_1 x5_2⟩ : S54) [.int .i64 x5_2, .int .i64 (rd x3_1 x5_2)] (fun _ => True) (fun _ => False) rfl rfl ?aP (fun _ hk => hk.elim) ?aF ?aO ?aB ?aS ?aL ?_; (case aP => exact k54_mkM _ _ _ (⟨x5_2, rd x3_1 x5_2⟩ : S54)); (case aB => exact (by repeat (first | (with_reducible first | exact HB.out | apply below_alloc | apply pw_below_drewN | apply below_drew1) | exact HB.out))); (case aF => exact (fun _ _ => trivial)); (case aO => exact (by (with_reducible repeat (first | apply Kd.R_alloc | apply Kd.R_drewN | apply Kd.R_drew)); exact HO_4.out)); (case aS => exact (below_size (by repeat (first | (with_reducible first | exact HB.out | apply below_alloc | apply pw_below_drewN | apply below_drew1) | exact HB.out)))); (case aL => have := LMc27.out; omega); intro v139 w32 ho hb hg hat; rw [← Ny138.out] at ho; have n0_ := Aside0.mk (Kd.R_over' (by (with_reducible repeat (first | apply Kd.R_alloc | apply Kd.R_drewN | apply Kd.R_drew)); exact HO_3.out) (Kd.R_typed (by (with_reducible repeat (first | apply Kd.R_alloc | apply Kd.R_drewN | apply Kd.R_drew)); exact HO_4.out)) (by decide) hg); have n1_ := Aside0.mk (hb); have n2_ := Aside0.mk (ho); clear HO_3; clear HB; clear HO_4; have HO_3 := n0_; have HB := n1_; have HO140 := n2_; clear n0_ n1_ n2_; clear ho hb hg hat; have p141 : 0 ≤ (x5_2 : Int) := of_decide_eq_true (by first | (with_reducible assumption) | assumption); have q141 : x5_2 < (l0.length : Int) := of_decide_eq_true (by first | (with_reducible assumption) | assumption); obtain ⟨ad141, A141_0, c141_0, e141, hx141_0, hl141_0, hi141_0⟩ := at_L4 HR0.out x5_2 p141 q141; cases e141; replace hx141_0 := (HB.out.cell (World.block_lt_of_cell? w _ hx141_0)).trans hx141_0; have HR141_0 := Aside0.mk hi141_0; have HC141_0 := Aside0.mk hl141_0; clear hi141_0 hl141_0; replace p141 := eq_true p141; replace q141 := eq_true q141; have p142 : 0 ≤ (x5_2 : Int) := of_decide_eq_true (by first | (with_reducible assumption) | assumption); have q142 : x5_2 < (x3_1.length : Int) := of_decide_eq_true (by first | (with_reducible assumption) | assumption); obtain ⟨ad142, e142, hx142_0⟩ := Kd.at_int (Kd.R_reads' HO_3.out).2.2 x5_2 p142 q142; obtain rfl : ad137 = ad142 := (by injection e142); replace p142 := eq_true p142; replace q142 := eq_true q142; have p143 : 0 ≤ ((rd x3_1 x5_2) : Int) := of_decide_eq_true (by first | (with_reducible assumption) | assumption); have q143 : (rd x3_1 x5_2) < ((rd_L4 l0 x5_2).length : Int) := of_decide_eq_true (by first | (with_reducible assumption) | assumption); obtain ⟨ad143, e143, hx143_0⟩ := Kd.at_int HR141_0.out (rd x3_1 x5_2) p143 q143; cases e143; replace hx143_0 := (HB.out.cell (World.block_lt_of_cell? w _ hx143_0)).trans hx143_0; replace p143 := eq_true p143; replace q143 := eq_true q143)))
                              go_loopg [8] k2 (fun kq v8 w' => ∃ (x3_3 : List Int) (x8_3 : Int), v8 = .int .i64 x8_3 ∧ Aside0 (inclineref13_Merge.l2 kq l0 x3_3 y138 (rd (rd_L4 l0 x5_2) (rd x3_1 x5_2)) x8_3 = some r) ∧ Aside0 (kq ≤ k2) ∧ Aside0 (Kd.R (Kd.int .i64) 3 w' w.heap.size (fun _ => True) (.slice (some ad137) x3_1.length co31) x3_3) ∧ Aside0 (Kd.R k54 54 w' w.heap.size (fun _ => True) v139 y138) ∧ Aside0 (Below w.heap.size w w'))
                              case atStart => exact ⟨(x3_1), (0), (by first | rfl | (simp; done) | (simp [*]; done)), H', ⟨Nat.le_refl _⟩, ⟨by (with_reducible repeat (first | apply Kd.R_alloc | apply Kd.R_drewN | apply Kd.R_drew)); exact HO_3.out⟩, ⟨by (with_reducible repeat (first | apply Kd.R_alloc | apply Kd.R_drewN | apply Kd.R_drew)); exact HO140.out⟩, ⟨by repeat (first | (with_reducible first | exact HB.out | apply below_alloc | apply pw_below_drewN | apply below_drew1) | exact HB.out)⟩⟩
                              case round =>
                                clear H'
                                try clear c1
                                try clear p1
                                try clear q1
                                try clear hx1
                                try clear c2
                                try clear c2b0
                                try clear c2b1
                                try clear p2
                                try clear c3
                                try clear c3b0
                                try clear c3b1
                                try clear p6
                                try clear c8
                                try clear c8b0
                                try clear c9
                                try clear c9b0
                                try clear c10
                                try clear c10b0
                                try clear c11
                                try clear c11b0
                                try clear c12
                                try clear c12b0
                                try clear p12
                                try clear q12
                                try clear hx12
                                try clear c13
                                try clear p13
                                try clear q13
                                try clear hx13
                                try clear c14
                                try clear c14b0
                                try clear p14
                                try clear q14
                                try clear hx14
                                try clear c15
                                try clear c15b0
                                try clear c16
                                try clear c16b0
                                try clear c17
                                try clear c17b0
                                try clear c18
                                try clear c18b0
                                try clear c19
                                try clear c19b0
                                try clear c20
                                try clear c20b0
                                try clear c21
                                try clear c24
                                try clear c24b0
                                try clear c25
                                try clear c25b0
                                try clear c26
                                try clear c26b0
                                try clear c27
                                try clear c28
                                try clear c28b0
                                try clear c29
                                try clear c29b0
                                try clear c30
                                try clear c30b0
                                try clear hx129_0
                                try clear hx130_0
                                try clear hx131_0
                                try clear hx132_0
                                try clear hx133_0
                                try clear hx134_0
                                try clear hx135_0
                                try clear hx136_0
                                try clear hx137_0
                                try clear hx141_0
                                try clear hx142_0
                                try clear hx143_0
                                try clear p129
                                try clear p130
                                try clear p131
                                try clear p132
                                try clear p133
                                try clear p134
                                try clear p135
                                try clear p136
                                try clear p137
                                try clear p141
                                try clear p142
                                try clear p143
                                try clear p2
                                try clear q129
                                try clear q130
                                try clear q131
                                try clear q132
                                try clear q133
                                try clear q134
                                try clear q135
                                try clear q136
                                try clear q137
                                try clear q141
                                try clear q142
                                try clear q143
                                obtain ⟨x3_3, x8_3, rfl, HA, HK3, HO_3, HO_4, HB⟩ := hrel
                                have hl3_3 := (Kd.R_reads' HO_3.out).1
                                rw [hl3_3] at HO_3
                                (try simp only [hl3_3])
                                (try simp only [hl3_3] at HO_4)
                                cases gk with
                                | zero => exact absurd HA.out (by simp [inclineref13_Merge.l2])
                                | succ k3 =>
                                  have H := HA.out
                                  clear HA
                                  simp only [inclineref13_Merge.l2] at H
                                  by_cases c33 : x8_3 < (l0.length : Int)
                                  · rw [if_pos c33] at H
                                    have c33b0 : decide (x8_3 < (l0.length : Int)) = true := decide_eq_true c33
                                    clear c33
                                    by_cases c34 : 0 ≤ x8_3
                                    · rw [if_pos c34] at H
                                      have c34b0 : decide (0 ≤ x8_3) = true := decide_eq_true c34
                                      clear c34
                                      by_cases c35 : x8_3 < (x3_3.length : Int)
                                      · rw [if_pos c35] at H
                                        have c35b0 : decide (x8_3 < (x3_3.length : Int)) = true := decide_eq_true c35
                                        clear c35
                                        by_cases c36 : (rd x3_3 x8_3) < ((rd_L4 l0 x8_3).length : Int)
                                        · rw [if_pos c36] at H
                                          have c36b0 : decide ((rd x3_3 x8_3) < ((rd_L4 l0 x8_3).length : Int)) = true := decide_eq_true c36
                                          clear c36
                                          by_cases c37 : 0 ≤ (rd x3_3 x8_3)
                                          · rw [if_pos c37] at H
                                            have c37b0 : decide (0 ≤ (rd x3_3 x8_3)) = true := decide_eq_true c37
                                            clear c37
                                            by_cases c38 : (rd (rd_L4 l0 x8_3) (rd x3_3 x8_3)) = (rd (rd_L4 l0 x5_2) (rd x3_1 x5_2))
                                            · rw [if_pos c38] at H
                                              have c38b0 : ((rd (rd_L4 l0 x8_3) (rd x3_3 x8_3)) == (rd (rd_L4 l0 x5_2) (rd x3_1 x5_2))) = true := beq_iff_eq.mpr c38
                                              have c38b1 : ((rd (rd_L4 l0 x8_3) (rd x3_3 x8_3)) != (rd (rd_L4 l0 x5_2) (rd x3_1 x5_2))) = false := bne_eq_false_iff_eq.mpr c38
                                              clear c38
                                              obtain ⟨y150, hy150⟩ : ∃ y_ : List Int, y_ = (x3_3.set (x8_3 : Int).toNat (wrap64 ((rd x3_3 x8_3) + 1))) := ⟨_, rfl⟩
                                              replace H : (inclineref13_Merge.l2 k3 l0 y150 y138 (rd (rd_L4 l0 x5_2) (rd x3_1 x5_2)) (wrap64 (x8_3 + 1))) = some r := by first | (rw [hy150]; with_reducible exact H) | (have H2_ := (Option.bind_some _ _).symm.trans H; rw [hy150]; with_reducible exact H2_) | (have H2_ := (Option.bind_some _ _).symm.trans H; with_reducible exact H2_) | with_reducible exact H | (rw [hy150]; exact H) | exact H
                                              have Ny150 := Aside0.mk hy150
                                              clear hy150
                                              have H' := Aside0.mk H
                                              clear H
                                              have p144 : 0 ≤ (x8_3 : Int) := of_decide_eq_true (by first | (with_reducible assumption) | assumption)
                                              have q144 : x8_3 < (x3_3.length : Int) := of_decide_eq_true (by first | (with_reducible assumption) | assumption)
                                              obtain ⟨ad144, e144, hx144_0⟩ := Kd.at_int (Kd.R_reads' HO_3.out).2.2 x8_3 p144 q144
                                              obtain rfl : ad137 = ad144 := (by injection e144)
                                              replace p144 := eq_true p144
                                              replace q144 := eq_true q144
                                              have p145 : 0 ≤ (x8_3 : Int) := of_decide_eq_true (by first | (with_reducible assumption) | assumption)
                                              have q145 : x8_3 < (l0.length : Int) := of_decide_eq_true (by first | (with_reducible assumption) | assumption)
                                              obtain ⟨ad145, A145_0, c145_0, e145, hx145_0, hl145_0, hi145_0⟩ := at_L4 HR0.out x8_3 p145 q145
                                              obtain rfl : ad141 = ad145 := (by injection e145)
                                              replace hx145_0 := (HB.out.cell (World.block_lt_of_cell? w _ hx145_0)).trans hx145_0
                                              have HR145_0 := Aside0.mk hi145_0
                                              have HC145_0 := Aside0.mk hl145_0
                                              clear hi145_0 hl145_0
                                              replace p145 := eq_true p145
                                              replace q145 := eq_true q145
                                              have p146 : 0 ≤ (x8_3 : Int) := of_decide_eq_true (by first | (with_reducible assumption) | assumption)
                                              have q146 : x8_3 < (l0.length : Int) := of_decide_eq_true (by first | (with_reducible assumption) | assumption)
                                              obtain ⟨ad146, A146_0, c146_0, e146, hx146_0, hl146_0, hi146_0⟩ := at_L4 HR0.out x8_3 p146 q146
                                              obtain rfl : ad141 = ad146 := (by injection e146)
                                              replace hx146_0 := (HB.out.cell (World.block_lt_of_cell? w _ hx146_0)).trans hx146_0
                                              have HR146_0 := Aside0.mk hi146_0
                                              have HC146_0 := Aside0.mk hl146_0
                                              clear hi146_0 hl146_0
                                              replace p146 := eq_true p146
                                              replace q146 := eq_true q146
                                              have ea_ := Option.some.inj (hx145_0.symm.trans hx146_0)
                                              injection ea_ with ea_ en_ ec_
                                              subst ea_
                                              subst ec_
                                              clear en_
                                              have p147 : 0 ≤ (x8_3 : Int) := of_decide_eq_true (by first | (with_reducible assumption) | assumption)
                                              have q147 : x8_3 < (x3_3.length : Int) := of_decide_eq_true (by first | (with_reducible assumption) | assumption)
                                              obtain ⟨ad147, e147, hx147_0⟩ := Kd.at_int (Kd.R_reads' HO_3.out).2.2 x8_3 p147 q147
                                              obtain rfl : ad137 = ad147 := (by injection e147)
                                              replace p147 := eq_true p147
                                              replace q147 := eq_true q147
                                              have p148 : 0 ≤ ((rd x3_3 x8_3) : Int) := of_decide_eq_true (by first | (with_reducible assumption) | assumption)
                                              have q148 : (rd x3_3 x8_3) < ((rd_L4 l0 x8_3).length : Int) := of_decide_eq_true (by first | (with_reducible assumption) | assumption)
                                              obtain ⟨ad148, e148, hx148_0⟩ := Kd.at_int HR146_0.out (rd x3_3 x8_3) p148 q148
                                              cases e148
                                              replace hx148_0 := (HB.out.cell (World.block_lt_of_cell? w _ hx148_0)).trans hx148_0
                                              replace p148 := eq_true p148
                                              replace q148 := eq_true q148
                                              have p149 : 0 ≤ (x8_3 : Int) := of_decide_eq_true (by first | (with_reducible assumption) | assumption)
                                              have q149 : x8_3 < (x3_3.length : Int) := of_decide_eq_true (by first | (with_reducible assumption) | assumption)
                                              obtain ⟨ad149, e149, hx149_0⟩ := Kd.at_int (Kd.R_reads' HO_3.out).2.2 x8_3 p149 q149
                                              obtain rfl : ad137 = ad149 := (by injection e149)
                                              replace p149 := eq_true p149
                                              replace q149 := eq_true q149
                                              have p39 : 0 ≤ (x8_3 : Int) := of_decide_eq_true (by first | (with_reducible assumption) | assumption)
                                              have q39 : (x8_3 : Int) < ((x3_3.length : Int) : Int) := of_decide_eq_true (by first | (with_reducible assumption) | assumption)
                                              obtain ⟨go39, co39, eo39, gb39, gl39, cl39, HG39⟩ := Kd.R_form HO_3.out (by omega)
                                              (first | cases eo39 | (injection eo39 with ea_ en_ ec_; (first | subst ea_ | (injection ea_ with ea_; subst ea_)); subst ec_; clear en_))
                                              have GB39 := Aside0.mk gb39
                                              have GG39 := Aside0.mk HG39
                                              clear gb39 gl39 HG39
                                              (first | simp only [add_plain] at hx137_0 | skip)
                                              (first | simp only [add_plain] at hx142_0 | skip)
                                              (first | simp only [add_plain] at hx144_0 | skip)
                                              (first | simp only [add_plain] at hx147_0 | skip)
                                              (first | simp only [add_plain] at hx149_0 | skip)
                                              obtain ⟨hx39_0, hf39_0⟩ := Kd.R_celln 0 HO_3.out (x8_3 : Int) p39 q39
                                              replace p39 := eq_true p39
                                              replace q39 := eq_true q39
                                              have HP40 := Kd.R_putg HO_3.out (x8_3 : Int) (wrap64 ((rd x3_3 x8_3) + 1))
                                              go_wp2_with (first | ((with_reducible refine gate_store (t := 3) (p := 114) rfl ?_); (try (rw [drewN_self wr]; generalize hq_ : World.drewN wr _ = wr; have n0_ := Aside0.mk (Kd.R_at hq_ HO_3.out); have n1_ := Aside0.mk (Kd.R_at hq_ HO_4.out); have n2_ := Aside0.mk (below_at hq_ HB.out); clear hq_ HO_3 HO_4 HB; have HO_3 := n0_; have HO_4 := n1_; have HB := n2_; clear n0_ n1_ n2_; (try (have HP40 := Kd.R_putg HO_3.out (x8_3 : Int) (wrap64 ((rd x3_3 x8_3) + 1)))))); refine store_event (t := 3) (p := 114) (v := ?vo_w41) (w1 := (wr.setCell ⟨go39, (x8_3 : Int).toNat, none⟩ (.int .i64 (wrap64 ((rd x3_3 x8_3) + 1))))) ?hg ?ho ?hn ?hr ?_; (case ho => rfl); (case hg => rfl); (case hn => rfl); (case hr => first | (go_simp; done) | (go_simp; rfl)); intro w41 hw; have hg : wr.grownBy w41 (some go39) := (by rw [hw]; exact HP40.2); have hp_ : Kd.R (Kd.int .i64) 3 w41 w.heap.size (fun _ => True) (.slice (some ⟨go39, 0, none⟩) x3_3.length co31) y150 := (by rw [hw, Ny150.out]; exact HP40.1); clear HP40; have n0_ := Aside0.mk (hp_); have n1_ := Aside0.mk (Kd.R_over' (v := (.slice (some ⟨go39, 0, none⟩) x3_3.length co31)) (by (with_reducible repeat (first | apply Kd.R_alloc | apply Kd.R_drewN | apply Kd.R_drew)); exact HO_4.out) (Kd.R_typed HO_3.out) (by decide) hg); have n2_ := Aside0.mk ((by rw [hw]; exact below_set (HB.out) GB39.out : Below w.heap.size w w41)); clear HO_3; clear HO_4; clear HB; have HO_3 := n0_; have HO_4 := n1_; have HB := n2_; clear n0_ n1_ n2_; clear hg hw hp_))
                                              repeat (go_quiet (first | ((with_reducible refine gate_store (t := 3) (p := 114) rfl ?_); (try (rw [drewN_self wr]; generalize hq_ : World.drewN wr _ = wr; have n0_ := Aside0.mk (Kd.R_at hq_ HO_3.out); have n1_ := Aside0.mk (Kd.R_at hq_ HO_4.out); have n2_ := Aside0.mk (below_at hq_ HB.out); clear hq_ HO_3 HO_4 HB; have HO_3 := n0_; have HO_4 := n1_; have HB := n2_; clear n0_ n1_ n2_; (try (have HP40 := Kd.R_putg HO_3.out (x8_3 : Int) (wrap64 ((rd x3_3 x8_3) + 1)))))); refine store_event (t := 3) (p := 114) (v := ?vo_w41) (w1 := (wr.setCell ⟨go39, (x8_3 : Int).toNat, none⟩ (.int .i64 (wrap64 ((rd x3_3 x8_3) + 1))))) ?hg ?ho ?hn ?hr ?_; (case ho => rfl); (case hg => rfl); (case hn => rfl); (case hr => first | (go_simp; done) | (go_simp; rfl)); intro w41 hw; have hg : wr.grownBy w41 (some go39) := (by rw [hw]; exact HP40.2); have hp_ : Kd.R (Kd.int .i64) 3 w41 w.heap.size (fun _ => True) (.slice (some ⟨go39, 0, none⟩) x3_3.length co31) y150 := (by rw [hw, Ny150.out]; exact HP40.1); clear HP40; have n0_ := Aside0.mk (hp_); have n1_ := Aside0.mk (Kd.R_over' (v := (.slice (some ⟨go39, 0, none⟩) x3_3.length co31)) (by (with_reducible repeat (first | apply Kd.R_alloc | apply Kd.R_drewN | apply Kd.R_drew)); exact HO_4.out) (Kd.R_typed HO_3.out) (by decide) hg); have n2_ := Aside0.mk ((by rw [hw]; exact below_set (HB.out) GB39.out : Below w.heap.size w w41)); clear HO_3; clear HO_4; clear HB; have HO_3 := n0_; have HO_4 := n1_; have HB := n2_; clear n0_ n1_ n2_; clear hg hw hp_)); try go_wp2_with (first | ((with_reducible refine gate_store (t := 3) (p := 114) rfl ?_); (try (rw [drewN_self wr]; generalize hq_ : World.drewN wr _ = wr; have n0_ := Aside0.mk (Kd.R_at hq_ HO_3.out); have n1_ := Aside0.mk (Kd.R_at hq_ HO_4.out); have n2_ := Aside0.mk (below_at hq_ HB.out); clear hq_ HO_3 HO_4 HB; have HO_3 := n0_; have HO_4 := n1_; have HB := n2_; clear n0_ n1_ n2_; (try (have HP40 := Kd.R_putg HO_3.out (x8_3 : Int) (wrap64 ((rd x3_3 x8_3) + 1)))))); refine store_event (t := 3) (p := 114) (v := ?vo_w41) (w1 := (wr.setCell ⟨go39, (x8_3 : Int).toNat, none⟩ (.int .i64 (wrap64 ((rd x3_3 x8_3) + 1))))) ?hg ?ho ?hn ?hr ?_; (case ho => rfl); (case hg => rfl); (case hn => rfl); (case hr => first | (go_simp; done) | (go_simp; rfl)); intro w41 hw; have hg : wr.grownBy w41 (some go39) := (by rw [hw]; exact HP40.2); have hp_ : Kd.R (Kd.int .i64) 3 w41 w.heap.size (fun _ => True) (.slice (some ⟨go39, 0, none⟩) x3_3.length co31) y150 := (by rw [hw, Ny150.out]; exact HP40.1); clear HP40; have n0_ := Aside0.mk (hp_); have n1_ := Aside0.mk (Kd.R_over' (v := (.slice (some ⟨go39, 0, none⟩) x3_3.length co31)) (by (with_reducible repeat (first | apply Kd.R_alloc | apply Kd.R_drewN | apply Kd.R_drew)); exact HO_4.out) (Kd.R_typed HO_3.out) (by decide) hg); have n2_ := Aside0.mk ((by rw [hw]; exact below_set (HB.out) GB39.out : Below w.heap.size w w41)); clear HO_3; clear HO_4; clear HB; have HO_3 := n0_; have HO_4 := n1_; have HB := n2_; clear n0_ n1_ n2_; clear hg hw hp_)))
                                              (try simp only [← hl3_3])
                                              have h3x_ : Kd.R (Kd.int .i64) 3 (World.drewN wr nq) w.heap.size (fun _ => True) (.slice (some ⟨go39, 0, none⟩) x3_3.length co31) x3_3 := by with_reducible apply Kd.R_drewN; exact HO_3.out
                                              have h4x_ : Kd.R k54 54 (World.drewN wr nq) w.heap.size (fun _ => True) v139 y138 := by with_reducible apply Kd.R_drewN; exact HO_4.out
                                              have HP41 := Kd.R_putg h3x_ (x8_3 : Int) (wrap64 ((rd x3_3 x8_3) + 1))
                                              have n0_ := Aside0.mk (show Kd.R (Kd.int .i64) 3 ((World.drewN wr nq).setCell ⟨go39, (x8_3 : Int).toNat, none⟩ (.int .i64 (wrap64 ((rd x3_3 x8_3) + 1)))) w.heap.size (fun _ => True) (.slice (some ⟨go39, 0, none⟩) x3_3.length co31) y150 from by rw [Ny150.out]; exact HP41.1)
                                              have n1_ := Aside0.mk (Kd.R_over' (v := (.slice (some ⟨go39, 0, none⟩) x3_3.length co31)) h4x_ (Kd.R_typed h3x_) (by decide) HP41.2)
                                              have n2_ := Aside0.mk (show Below w.heap.size w ((World.drewN wr nq).setCell ⟨go39, (x8_3 : Int).toNat, none⟩ (.int .i64 (wrap64 ((rd x3_3 x8_3) + 1)))) from below_set (by with_reducible apply pw_below_drewN; exact HB.out) GB39.out)
                                              clear HO_3 HO_4 HB
                                              have HO_3 := n0_
                                              have HO_4 := n1_
                                              have HB := n2_
                                              (try rw [← add_plain go39 x5_2.toNat])
                                              go_roundg k3
                                              case measure => have := HK1.out; have := HK2.out; have := HK3.out; omega
                                              case rel => exact ⟨(y150), (wrap64 (x8_3 + 1)), (by first | rfl | (simp; done) | (simp [*]; done)), H', ⟨by have := HK1.out; have := HK2.out; have := HK3.out; omega⟩, ⟨by (try simp only [hl3_3]); (with_reducible repeat (first | apply Kd.R_alloc | apply Kd.R_drewN | apply Kd.R_drew)); exact HO_3.out⟩, ⟨by (try simp only [hl3_3]); (with_reducible repeat (first | apply Kd.R_alloc | apply Kd.R_drewN | apply Kd.R_drew)); exact HO_4.out⟩, ⟨by repeat (first | (with_reducible first | exact HB.out | apply below_alloc | apply pw_below_drewN | apply below_drew1) | exact HB.out)⟩⟩
                                            · rw [if_neg c38] at H
                                              have c38b0 : ((rd (rd_L4 l0 x8_3) (rd x3_3 x8_3)) == (rd (rd_L4 l0 x5_2) (rd x3_1 x5_2))) = false := beq_eq_false_iff_ne.mpr c38
                                              have c38b1 : ((rd (rd_L4 l0 x8_3) (rd x3_3 x8_3)) != (rd (rd_L4 l0 x5_2) (rd x3_1 x5_2))) = true := bne_iff_ne.mpr c38
                                              have H' := Aside0.mk H
                                              clear H
                                              have p144 : 0 ≤ (x8_3 : Int) := of_decide_eq_true (by first | (with_reducible assumption) | assumption)
                                              have q144 : x8_3 < (x3_3.length : Int) := of_decide_eq_true (by first | (with_reducible assumption) | assumption)
                                              obtain ⟨ad144, e144, hx144_0⟩ := Kd.at_int (Kd.R_reads' HO_3.out).2.2 x8_3 p144 q144
                                              obtain rfl : ad137 = ad144 := (by injection e144)
                                              replace p144 := eq_true p144
                                              replace q144 := eq_true q144
                                              have p145 : 0 ≤ (x8_3 : Int) := of_decide_eq_true (by first | (with_reducible assumption) | assumption)
                                              have q145 : x8_3 < (l0.length : Int) := of_decide_eq_true (by first | (with_reducible assumption) | assumption)
                                              obtain ⟨ad145, A145_0, c145_0, e145, hx145_0, hl145_0, hi145_0⟩ := at_L4 HR0.out x8_3 p145 q145
                                              obtain rfl : ad141 = ad145 := (by injection e145)
                                              replace hx145_0 := (HB.out.cell (World.block_lt_of_cell? w _ hx145_0)).trans hx145_0
                                              have HR145_0 := Aside0.mk hi145_0
                                              have HC145_0 := Aside0.mk hl145_0
                                              clear hi145_0 hl145_0
                                              replace p145 := eq_true p145
                                              replace q145 := eq_true q145
                                              have p146 : 0 ≤ (x8_3 : Int) := of_decide_eq_true (by first | (with_reducible assumption) | assumption)
                                              have q146 : x8_3 < (l0.length : Int) := of_decide_eq_true (by first | (with_reducible assumption) | assumption)
                                              obtain ⟨ad146, A146_0, c146_0, e146, hx146_0, hl146_0, hi146_0⟩ := at_L4 HR0.out x8_3 p146 q146
                                              obtain rfl : ad141 = ad146 := (by injection e146)
                                              replace hx146_0 := (HB.out.cell (World.block_lt_of_cell? w _ hx146_0)).trans hx146_0
                                              have HR146_0 := Aside0.mk hi146_0
                                              have HC146_0 := Aside0.mk hl146_0
                                              clear hi146_0 hl146_0
                                              replace p146 := eq_true p146
                                              replace q146 := eq_true q146
                                              have ea_ := Option.some.inj (hx145_0.symm.trans hx146_0)
                                              injection ea_ with ea_ en_ ec_
                                              subst ea_
                                              subst ec_
                                              clear en_
                                              have p147 : 0 ≤ (x8_3 : Int) := of_decide_eq_true (by first | (with_reducible assumption) | assumption)
                                              have q147 : x8_3 < (x3_3.length : Int) := of_decide_eq_true (by first | (with_reducible assumption) | assumption)
                                              obtain ⟨ad147, e147, hx147_0⟩ := Kd.at_int (Kd.R_reads' HO_3.out).2.2 x8_3 p147 q147
                                              obtain rfl : ad137 = ad147 := (by injection e147)
                                              replace p147 := eq_true p147
                                              replace q147 := eq_true q147
                                              have p148 : 0 ≤ ((rd x3_3 x8_3) : Int) := of_decide_eq_true (by first | (with_reducible assumption) | assumption)
                                              have q148 : (rd x3_3 x8_3) < ((rd_L4 l0 x8_3).length : Int) := of_decide_eq_true (by first | (with_reducible assumption) | assumption)
                                              obtain ⟨ad148, e148, hx148_0⟩ := Kd.at_int HR146_0.out (rd x3_3 x8_3) p148 q148
                                              cases e148
                                              replace hx148_0 := (HB.out.cell (World.block_lt_of_cell? w _ hx148_0)).trans hx148_0
                                              replace p148 := eq_true p148
                                              replace q148 := eq_true q148
                                              go_wp2
                                              repeat (go_quiet (fail); try go_wp2)
                                              (try simp only [← hl3_3])
                                              go_roundg k3
                                              case measure => have := HK1.out; have := HK2.out; have := HK3.out; omega
                                              case rel => exact ⟨(x3_3), (wrap64 (x8_3 + 1)), (by first | rfl | (simp; done) | (simp [*]; done)), H', ⟨by have := HK1.out; have := HK2.out; have := HK3.out; omega⟩, ⟨by (try simp only [hl3_3]); (with_reducible repeat (first | apply Kd.R_alloc | apply Kd.R_drewN | apply Kd.R_drew)); exact HO_3.out⟩, ⟨by (try simp only [hl3_3]); (with_reducible repeat (first | apply Kd.R_alloc | apply Kd.R_drewN | apply Kd.R_drew)); exact HO_4.out⟩, ⟨by repeat (first | (with_reducible first | exact HB.out | apply below_alloc | apply pw_below_drewN | apply below_drew1) | exact HB.out)⟩⟩
                                          · rw [if_neg c37] at H
                                            exact absurd H (by simp)
                                        · rw [if_neg c36] at H
                                          have c36b0 : decide ((rd x3_3 x8_3) < ((rd_L4 l0 x8_3).length : Int)) = false := decide_eq_false c36
                                          clear c36
                                          have H' := Aside0.mk H
                                          clear H
                                          have p144 : 0 ≤ (x8_3 : Int) := of_decide_eq_true (by first | (with_reducible assumption) | assumption)
                                          have q144 : x8_3 < (x3_3.length : Int) := of_decide_eq_true (by first | (with_reducible assumption) | assumption)
                                          obtain ⟨ad144, e144, hx144_0⟩ := Kd.at_int (Kd.R_reads' HO_3.out).2.2 x8_3 p144 q144
                                          obtain rfl : ad137 = ad144 := (by injection e144)
                                          replace p144 := eq_true p144
                                          replace q144 := eq_true q144
                                          have p145 : 0 ≤ (x8_3 : Int) := of_decide_eq_true (by first | (with_reducible assumption) | assumption)
                                          have q145 : x8_3 < (l0.length : Int) := of_decide_eq_true (by first | (with_reducible assumption) | assumption)
                                          obtain ⟨ad145, A145_0, c145_0, e145, hx145_0, hl145_0, hi145_0⟩ := at_L4 HR0.out x8_3 p145 q145
                                          obtain rfl : ad141 = ad145 := (by injection e145)
                                          replace hx145_0 := (HB.out.cell (World.block_lt_of_cell? w _ hx145_0)).trans hx145_0
                                          have HR145_0 := Aside0.mk hi145_0
                                          have HC145_0 := Aside0.mk hl145_0
                                          clear hi145_0 hl145_0
                                          replace p145 := eq_true p145
                                          replace q145 := eq_true q145
                                          go_wp2
                                          repeat (go_quiet (fail); try go_wp2)
                                          (try simp only [← hl3_3])
                                          go_roundg k3
                                          case measure => have := HK1.out; have := HK2.out; have := HK3.out; omega
                                          case rel => exact ⟨(x3_3), (wrap64 (x8_3 + 1)), (by first | rfl | (simp; done) | (simp [*]; done)), H', ⟨by have := HK1.out; have := HK2.out; have := HK3.out; omega⟩, ⟨by (try simp only [hl3_3]); (with_reducible repeat (first | apply Kd.R_alloc | apply Kd.R_drewN | apply Kd.R_drew)); exact HO_3.out⟩, ⟨by (try simp only [hl3_3]); (with_reducible repeat (first | apply Kd.R_alloc | apply Kd.R_drewN | apply Kd.R_drew)); exact HO_4.out⟩, ⟨by repeat (first | (with_reducible first | exact HB.out | apply below_alloc | apply pw_below_drewN | apply below_drew1) | exact HB.out)⟩⟩
                                      · rw [if_neg c35] at H
                                        exact absurd H (by simp)
                                    · rw [if_neg c34] at H
                                      exact absurd H (by simp)
                                  · rw [if_neg c33] at H
                                    have c33b0 : decide (x8_3 < (l0.length : Int)) = false := decide_eq_false c33
                                    clear c33
                                    have H' := Aside0.mk H
                                    clear H
                                    go_wp2
                                    repeat (go_quiet (fail); try go_wp2)
                                    (try simp only [← hl3_3])
                                    go_roundg k3
                                    case measure => have := HK1.out; have := HK2.out; have := HK3.out; omega
                                    case rel => exact ⟨(x3_3), (y138), H', ⟨by have := HK1.out; have := HK2.out; have := HK3.out; omega⟩, ⟨by (try simp only [hl3_3]); (with_reducible repeat (first | apply Kd.R_alloc | apply Kd.R_drewN | apply Kd.R_drew)); exact HO_3.out⟩, ⟨by (try simp only [hl3_3]); (with_reducible repeat (first | apply Kd.R_alloc | apply Kd.R_drewN | apply Kd.R_drew)); exact HO_4.out⟩, ⟨by repeat (first | (with_reducible first | exact HB.out | apply below_alloc | apply pw_below_drewN | apply below_drew1) | exact HB.out)⟩⟩
                            · rw [if_neg c30] at H
                              exact absurd H (by simp)
                          · rw [if_neg c29] at H
                            exact absurd H (by simp)
                        · rw [if_neg c28] at H
                          exact absurd H (by simp)
                      · rw [if_neg c27] at H
                        exact absurd H (by simp)
                    · rw [if_neg c26] at H
                      exact absurd H (by simp)
                  · rw [if_neg c25] at H
                    exact absurd H (by simp)
    · rw [if_neg c3] at H
      exact absurd H (by simp)
  · rw [if_neg c2] at H
    exact absurd H (by simp)

end Go.Proofs.Ytojbfjfjhfnopaa.G
end
