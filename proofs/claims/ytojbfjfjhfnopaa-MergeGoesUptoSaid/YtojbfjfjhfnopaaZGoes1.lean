/- Some of the claim's own texts, in one file: CountN, GoesW, GoesR, RoundQ, PureB, RowsLit, WalkGroups, LiveW, WalkSifted, CopyW, WereW, RefSift, WalkSifts, Gx7. Conditions: each theorem's own. -/
import Derived.Test.YtojbfjfjhfnopaaZBase2
import Derived.Test.YtojbfjfjhfnopaaZBase1
import Derived.Sort.BigQuietIn
import Derived.KernelRfl
import Derived.Test.YtojbfjfjhfnopaaZBase3
section
/- A counter in a cell while a range goes; a result in a cell, behind one mark. -/
namespace Go.Proofs.Ytojbfjfjhfnopaa.RangeD
open Go.RowKit Go.Shelf HeapL
attribute [local go_sem] Oper.semAt_some
set_option linter.unusedVariables false
/-- X is the world at the range's begin; bn is the counter's cell. -/
structure NC {α : Type} (X : World) (bn : Nat) (pre : List α) (T : Blocks) (Y : World) : Prop where
  os : Y.os = X.os
  tape : Y.tape = X.tape
  output : Y.output = X.output
  size : X.heap.size ≤ Y.heap.size
  same : ∀ k, k < X.heap.size → k ≠ bn → Y.heap[k]? = X.heap[k]?
  own : ∀ k, T k → X.heap.size ≤ k
  n : Y.heap[bn]? = some (.cells #[.int .i64 (pre.length : Int)] 3 (0, 0))
variable {α : Type} {X : World} {bn : Nat}
theorem NC.start (hn : X.heap[bn]? = some (.cells #[.int .i64 0] 3 (0, 0))) : NC (α := α) X bn [] (fun _ => False) X :=
  ⟨rfl, rfl, rfl, Nat.le_refl _, fun _ _ _ => rfl, fun _ h => h.elim, hn⟩
theorem NC.abide (hn : bn < X.heap.size) : Abide (NC (α := α) X bn) := by
  intro pre T T' A A' h ht
  have hs := h.size
  have far : ∀ k, k < X.heap.size → A'.heap[k]? = A.heap[k]? := fun k hk => ht.same k (by omega) (fun hT => by have := h.own k hT; omega)
  refine ⟨ht.os.trans h.os, ht.tape.trans h.tape, ht.output.trans h.output, Nat.le_trans hs ht.size, fun k hk h1 => (far k hk).trans (h.same k hk h1), fun k hk => ?_, (far _ hn).trans h.n⟩
  rcases ht.new k hk with hk | hk
  · exact h.own k hk
  · omega
theorem NC.ownT (hn : bn < X.heap.size) : OwnT X.heap.size (NC (α := α) X bn) := by
  intro T pre Y Y' row h hg hr
  have hs := h.size
  have far : ∀ k, k < X.heap.size → Y'.heap[k]? = Y.heap[k]? := fun k hk => hg.block k (by omega) (fun e => by have := (hr k e.symm).1; omega)
  exact ⟨hg.os.trans h.os, hg.tape.trans h.tape, hg.output.trans h.output, Nat.le_trans hs hg.size, fun k hk h1 => (far k hk).trans (h.same k hk h1), h.own, (far _ hn).trans h.n⟩
theorem NC.drew {pre : List α} {T : Blocks} {Y : World} (h : NC X bn pre T Y) (d : Nat) : NC X bn pre T (Y.drewN d) :=
  ⟨h.os, h.tape, h.output, h.size, h.same, h.own, h.n⟩
theorem NC.next {pre : List α} {x : α} {T : Blocks} {Y : World} {u : Value} (h : NC X bn pre T Y) (hn : bn < X.heap.size) (hu : u = .int .i64 ((pre ++ [x]).length : Int)) :
    NC X bn (pre ++ [x]) T (Y.setCell ⟨bn, 0, none⟩ u) ∧ KeepsFrom X.heap.size Y (Y.setCell ⟨bn, 0, none⟩ u) ∧ ∀ D : Blocks, (∀ k, D k → k < X.heap.size ∧ k ≠ bn) → Same (fun k => D k ∨ T k) Y (Y.setCell ⟨bn, 0, none⟩ u) := by
  subst hu
  have hs := h.size
  have far : ∀ k, k ≠ bn → (Y.setCell ⟨bn, 0, none⟩ (.int .i64 ((pre ++ [x]).length : Int))).heap[k]? = Y.heap[k]? := fun k h1 => Below.heap_setCell _ ⟨bn, 0, none⟩ _ k h1
  have hsz : (Y.setCell ⟨bn, 0, none⟩ (.int .i64 ((pre ++ [x]).length : Int))).heap.size = Y.heap.size := by simp [World.setCell]
  refine ⟨⟨h.os, h.tape, h.output, by rw [hsz]; exact hs, fun k hk h1 => (far k h1).trans (h.same k hk h1), h.own, ?_⟩, ⟨by rw [hsz]; exact Nat.le_refl _, fun k ob hk ho hc => (far k (by omega)).trans ho⟩, fun D hD k hk hl => ?_⟩
  · exact (setCell_blk h.n _).trans rfl
  · rcases hk with hk | hk
    · exact far k (hD k hk).2
    · have := h.own k hk
      exact far k (by omega)
/-- What lies ahead of the counter is as it was. -/
theorem NC.below {pre : List α} {T : Blocks} {Y W : World} {ob : Obj} (h : NC (W.alloc ob) W.heap.size pre T Y) : Below W.heap.size W Y :=
  ⟨h.os, h.tape, h.output, by have := h.size; rw [World.size_alloc] at this; omega, fun k hk => (h.same k (by rw [World.size_alloc]; omega) (by omega)).trans (Below.heap_alloc W ob k hk)⟩
theorem leave_cell {fn : Func} {p : Tmp} {ty : TypeId} (hfn : fn.results = #[.cell p ty]) {tmps : Array Value} {R : Ending → World → Prop} {C : Nat} {W : World} {g : Nat} {v : Value} {i : TypeDesc} (hp : tmps.getD p undef = .pointer (some ⟨g, 0, none⟩)) (hu : Try.prog.underlying ty = some i) (hd : (match i with | .struct _ | .array _ _ => true | _ => false) = false)
    (hC : W.heap[C]? = some (.deferred (some []))) (hv : (W.putObj C (.deferred none)).cell? ⟨g, 0, none⟩ = some v) (hR : R (.returned v) (W.putObj C (.deferred none))) :
    LeavesInM Fence.wide 0 Try.prog fn tmps R [{ target := .collected C, args := #[] }] .returning W := by
  refine ⟨by simp, .inl ⟨C, _, rfl, run_takeDeferred hC, ⟨v, ?_, hR⟩⟩⟩
  have hagg : (isAgg ty).run Try.prog (W.putObj C (.deferred none)) = .ok false (W.putObj C (.deferred none)) := by
    unfold isAgg
    rw [Sem.run_bind, run_underlying hu]
    cases i <;> simp_all
  have hp' : tmps[p]?.getD undef = .pointer (some ⟨g, 0, none⟩) := by simpa using hp
  simp [results, hfn, hp', asAddr, loadVar, Sem.run_bind, hagg, hv]
end Go.Proofs.Ytojbfjfjhfnopaa.RangeD
end

section
/- MergeGoes: the lists that it builds. -/
namespace Go.Proofs.Ytojbfjfjhfnopaa.MergeE
open Go.RowKit Go.Shelf RangeD SeqE MergeL HeapL HeapE
attribute [local go_sem] Oper.semAt_some
set_option linter.unusedVariables false
theorem goes42 : ∀ args w, (callFunc 42 args).run Try.prog w = .ok (.enter 42 args) w := by
  intro args w
  have hf := Try.func42
  simp [callFunc, go_sem, hf, Try.f42]
theorem goes18 : ∀ args w, (callFunc 18 args).run Try.prog w = .ok (.enter 18 args) w := by
  intro args w
  have hf := Try.func18
  simp [callFunc, go_sem, hf, Try.f18]
theorem row_typed {w : World} {base : Nat} {e : TypeId} {size n : Nat} {v : Value} {xs : List Value} (h : w.ownsRow base e size v n xs) (k : Nat) (hk : v.ownBlock = some k) : ∃ cur, w.heap[k]? = some (.cells cur e (0, 0)) := by
  rcases h.2 with ⟨rfl, _⟩ | ⟨g, cap, cur, rfl, hg, hh, r⟩
  · simp [Value.ownBlock] at hk
  · have : g = k := by simpa [Value.ownBlock] using hk
    subst this
    exact ⟨cur, hh⟩
theorem other_type {w : World} {k j : Nat} {cur cur2 : Array Value} {t t2 : TypeId} (h1 : w.heap[k]? = some (.cells cur t (0, 0))) (h2 : w.heap[j]? = some (.cells cur2 t2 (0, 0))) (ht : t ≠ t2) : k ≠ j := fun e => by
  subst e
  rw [h1] at h2
  injection h2 with h2
  injection h2 with _ h2 _
  exact ht h2
section
variable {α : Type} {ek ev : α → Int} {eb : α → Bool}
set_option maxRecDepth 100000 in
theorem key18_calls (x : α) (w : World) : Calls Try.prog 18 #[agg ek ev eb x] w fun e w' => e = .returned (.int .u64 (ek x)) ∧ Below w.heap.size w w' := by
  go_enter Try.func18, Try.ntmps18
  have c0 : (w.alloc (.cells #[.int .u64 (ek x), .int .u64 (ev x), .bool (eb x)] 32)).cell? ⟨w.heap.size, 0, none⟩ = some (.int .u64 (ek x)) := by rw [cell_of_row _ _ 0 _ _ _ (World.alloc_heap_new w _)]; rfl
  go_wp2
  refine bodyPost_ret (results_tmp rfl _ _ _) rfl ?_
  exact ⟨rfl, (Below.refl _ w).alloc (Nat.le_refl _) _⟩
/-- What the loop builds: B is the world ahead of it. -/
structure LE (ek ev : α → Int) (eb : α → Bool) (b : Nat) (B X : World) (v5 : Value) (n5 : Nat) (ls : List (List α)) (vs : List Value) : Prop where
  below : Below B.heap.size B X
  row5 : X.ownsRow B.heap.size 36 1 v5 n5 vs
  its : ∃ its : List (It α), its.map It.xs = ls.take n5 ∧ ∀ (k : Nat) (it : It α), its[k]? = some it → vs[k]? = some (Value.func (.func it.gf) #[] it.lb) ∧ ItOk ek ev eb it X ∧ ∀ j, it.D j → (j < B.heap.size ∧ j ≠ b) ∨ ∃ cs, X.heap[j]? = some (.cells cs 25 (0, 0))
variable {b : Nat} {B X X1 X2 : World} {v5 v5' : Value} {n5 i : Nat} {ls : List (List α)} {vs : List Value} {xs : List α} {ob : Obj}
theorem LE.step (h : LE ek ev eb b B X v5 n5 ls vs) (hb : Below X.heap.size X X1) : LE ek ev eb b B X1 v5 n5 ls vs := by
  refine ⟨h.below.trans (hb.mono h.below.size), ownsRow_keep h.row5 (fun k hk => hb.block k (h.row5.lt k hk).2), ?_⟩
  obtain ⟨its, q1, q2⟩ := h.its
  refine ⟨its, q1, fun k it hk => ?_⟩
  obtain ⟨r1, r2, r3⟩ := q2 k it hk
  exact ⟨r1, r2.keep hb.size (fun j _ hl => hb.block j hl), fun j hj => (r3 j hj).imp_right fun ⟨cs, hc⟩ => ⟨cs, (hb.block j (r2.lt j hj)).trans hc⟩⟩
theorem LE.more (h0 : LE ek ev eb b B X v5 i ls vs) (hi : ls[i]? = some xs) {A : Option Addr} {cA g o : Nat} (hA : 0 < xs.length → A = some ⟨g, o, none⟩) (hc : CellsAt ek ev eb B g o xs) (hg0 : g < B.heap.size) (hgb : g ≠ b) (hx : xs.length ≤ 1048576)
    (hb : Below X.heap.size X X1) (hn : X1.heap[X.heap.size]? = some (.cells #[.slice A xs.length cA] 25 (0, 0))) (ho : X2.ownsRow B.heap.size 36 1 v5' (i + 1) (vs ++ [.func (.func 42) #[] #[.pointer (some ⟨X.heap.size, 0, none⟩)]])) (hg : (X1.alloc ob).grownBy X2 v5.ownBlock) :
    LE ek ev eb b B X2 v5' (i + 1) ls (vs ++ [.func (.func 42) #[] #[.pointer (some ⟨X.heap.size, 0, none⟩)]]) := by
  have h := h0.step hb
  have hs := hg.size
  rw [World.size_alloc] at hs
  have far : ∀ k, k < X1.heap.size → v5.ownBlock ≠ some k → X2.heap[k]? = X1.heap[k]? := fun k hk hne => (hg.block k (by rw [World.size_alloc]; omega) (fun e => hne e.symm)).trans (Below.heap_alloc X1 ob k hk)
  have ht : ∀ k cur t, X1.heap[k]? = some (Obj.cells cur t (0, 0)) → t ≠ 36 → v5.ownBlock ≠ some k := fun k cur t hh hne e => by
    obtain ⟨cur2, h2⟩ := row_typed h.row5 k e
    exact other_type hh h2 hne rfl
  have hlow : ∀ k, k < B.heap.size → v5.ownBlock ≠ some k := fun k hk e => by have := (h.row5.lt k e).1; omega
  have hB1 := h.below.size
  refine ⟨h.below.trans ⟨hg.os, hg.tape, hg.output, by omega, fun k hk => far k (by omega) (hlow k hk)⟩, ho, ?_⟩
  obtain ⟨its, q1, q2⟩ := h.its
  have hil : its.length = i := by
    have := congrArg List.length q1
    rw [List.length_map, List.length_take] at this
    have := (List.getElem?_eq_some_iff.1 hi).1
    omega
  have hvl : vs.length = i := by have := h.row5.1; omega
  refine ⟨its ++ [⟨42, #[.pointer (some ⟨X.heap.size, 0, none⟩)], fun k => k = X.heap.size ∨ k = g, xs⟩], ?_, fun k it hk => ?_⟩
  · rw [List.map_append, q1, List.take_add_one, hi]; rfl
  · rcases Nat.lt_or_ge k its.length with hkl | hkl
    · rw [List.getElem?_append_left hkl] at hk
      obtain ⟨r1, r2, r3⟩ := q2 k it hk
      have hD : Same it.D X1 X2 := fun j hj hl => far j hl (by
        rcases r3 j hj with h1 | ⟨cs, h1⟩
        · exact hlow j h1.1
        · exact ht j cs 25 h1 (by decide))
      exact ⟨by rw [List.getElem?_append_left (by omega)]; exact r1, r2.keep (by omega) hD, fun j hj => (r3 j hj).imp_right fun ⟨cs, hcs⟩ => ⟨cs, (hD j hj (r2.lt j hj)).trans hcs⟩⟩
    · have hk2 : k = its.length := by
        have := (List.getElem?_eq_some_iff.1 hk).1
        simp at this
        omega
      subst hk2
      rw [List.getElem?_append_right (Nat.le_refl _), Nat.sub_self] at hk
      simp only [List.getElem?_cons_zero, Option.some.injEq] at hk
      subst hk
      have hbx : X2.heap[X.heap.size]? = some (.cells #[.slice A xs.length cA] 25 (0, 0)) := (far _ (Array.getElem?_eq_some_iff.1 hn).1 (ht _ _ 25 hn (by decide))).trans hn
      have hgg : X2.heap[g]? = B.heap[g]? := (far g (by omega) (hlow g hg0)).trans (h.below.block g hg0)
      refine ⟨by rw [hil, List.getElem?_append_right (by omega), hvl, Nat.sub_self]; rfl, ⟨listed_seq ek ev eb X.heap.size A g o cA xs X2 ⟨hbx, hA, hc.keep _ _ _ hgg, by omega, by omega⟩, goes42, fun k hk => ?_, by show (xs.length + 1) * 24 ≤ _; omega⟩, fun j hj => ?_⟩
      · have := (Array.getElem?_eq_some_iff.1 hbx).1
        rcases hk with e | e <;> omega
      · rcases hj with e | e
        · subst e; exact .inr ⟨_, hbx⟩
        · subst e; exact .inl ⟨hg0, hgb⟩
theorem LE.merged {g5 c5 : Nat} (h : LE ek ev eb b B X (.slice (some ⟨g5, 0, none⟩) ls.length c5) ls.length ls vs) (hl : ls.length ≤ 1048576) {csb : Array Value} (hbt : X.heap[b]? = some (.cells csb 3 (0, 0))) (hm : ((mergeL ek ls).length + 1) * 24 ≤ 140737488355328) :
    Calls Try.prog 17 #[.func (.func 18) #[] #[], .slice (some ⟨g5, 0, none⟩) ls.length c5] X fun e w' => ∃ lb D, e = .returned (.func (.func 44) #[] lb) ∧ Below X.heap.size X w' ∧ ItOk ek ev eb ⟨44, lb, D, mergeL ek ls⟩ w' ∧ ¬ D b := by
  obtain ⟨its, q1, q2⟩ := h.its
  rw [List.take_length] at q1
  have hln : its.length = ls.length := by rw [← q1, List.length_map]
  have hcl := merge_calls (ek := ek) (ev := ev) (eb := eb) 18 g5 c5 its X (fun k it hk => by
    have hkl := (List.getElem?_eq_some_iff.1 hk).1
    rw [World.ownsRow.cellAt h.row5 k (by omega)]
    exact (q2 k it hk).1) (fun it hit => by
    obtain ⟨k, hk, rfl⟩ := List.getElem_of_mem hit
    exact (q2 k _ (List.getElem?_eq_getElem hk)).2.1) (by omega)
  rw [hln] at hcl
  refine hcl.mono ?_
  rintro e w' ⟨bL, bK, A, gL, cap, rfl, hb, hml, hB1, hB2, hB3⟩
  have hit := mergeIt_ok goes18 key18_calls w' hml (by rw [q1]; exact hm)
  unfold mergeIt at hit
  rw [q1] at hit
  have hblt : b < X.heap.size := (Array.getElem?_eq_some_iff.1 hbt).1
  refine ⟨_, _, rfl, hb, hit, fun hD => ?_⟩
  rcases hD with e | e | e | ⟨it, hi, hk⟩
  · omega
  · omega
  · omega
  · obtain ⟨k, hkl, rfl⟩ := List.getElem_of_mem hi
    rcases (q2 k _ (List.getElem?_eq_getElem hkl)).2.2 b hk with ⟨_, h⟩ | ⟨cs, h⟩
    · exact h rfl
    · exact other_type h hbt (by decide) rfl
end
end Go.Proofs.Ytojbfjfjhfnopaa.MergeE
end

section
/- While a list is gathered in a row that lies there already, beside cells of one's own; a range that may be broken off. -/
namespace Go.Proofs.Ytojbfjfjhfnopaa.MergeE
open Go.RowKit Go.Shelf RangeD SeqE MergeL HeapL HeapE
set_option linter.unusedVariables false
/-- Cells beside the list's. -/
structure Beside (X : World) (base a7 : Nat) (E : List (Nat × Obj)) : Prop where
  of : ∀ p ∈ E, base ≤ p.1 ∧ p.1 < X.heap.size ∧ p.1 ≠ a7 ∧ ∃ cs t, p.2 = .cells cs t (0, 0) ∧ t ≠ 32
section
variable {α : Type}
/-- X is the world at the range's begin, a7 the cell of the list; what lies below base is as it was. -/
structure GJ (ek ev : α → Int) (eb : α → Bool) (X : World) (base a7 : Nat) (E : List (Nat × Obj)) (pre : List α) (T : Blocks) (Y : World) : Prop where
  os : Y.os = X.os
  tape : Y.tape = X.tape
  output : Y.output = X.output
  size : X.heap.size ≤ Y.heap.size
  same : ∀ k, k < base → Y.heap[k]? = X.heap[k]?
  own : ∀ k, T k → X.heap.size ≤ k ∧ k < Y.heap.size
  ex : ∀ p ∈ E, Y.heap[p.1]? = some p.2
  row : ∃ v, Y.heap[a7]? = some (.cells #[v] 25 (0, 0)) ∧ Y.ownsRow base 32 3 v pre.length (erow ek ev eb pre) ∧ ∀ k, v.ownBlock = some k → ¬ T k
variable {ek ev : α → Int} {eb : α → Bool} {X : World} {base a7 : Nat} {E E' : List (Nat × Obj)} {pre : List α} {T : Blocks} {Y : World}
theorem GJ.start (h : ∃ v, X.heap[a7]? = some (.cells #[v] 25 (0, 0)) ∧ X.ownsRow base 32 3 v 0 []) (hE : ∀ p ∈ E, X.heap[p.1]? = some p.2) : GJ ek ev eb X base a7 E [] (fun _ => False) X := by
  obtain ⟨v, h1, h2⟩ := h
  exact ⟨rfl, rfl, rfl, Nat.le_refl _, fun _ _ => rfl, fun _ h => h.elim, hE, v, h1, h2, fun _ _ h => h⟩
theorem GJ.lt (h : GJ ek ev eb X base a7 E pre T Y) : a7 < Y.heap.size := by
  obtain ⟨v, hb, _⟩ := h.row
  exact (Array.getElem?_eq_some_iff.1 hb).1
theorem GJ.turned (h : GJ ek ev eb X base a7 E pre T Y) (hB : base ≤ X.heap.size) (ha : a7 < X.heap.size) (hE : Beside X base a7 E) {T' : Blocks} {A' : World} (ht : Turned T T' Y A') : GJ ek ev eb X base a7 E pre T' A' := by
  have hsz := ht.size
  have hs := h.size
  obtain ⟨v, h1, h2, h3⟩ := h.row
  have far : ∀ k, k < X.heap.size → A'.heap[k]? = Y.heap[k]? := fun k hk => ht.same k (by omega) (fun hT => by have := (h.own k hT).1; omega)
  refine ⟨ht.os.trans h.os, ht.tape.trans h.tape, ht.output.trans h.output, Nat.le_trans hs hsz, fun k hk => (far k (by omega)).trans (h.same k hk), fun k hk => ?_, fun p hp => (far _ (hE.of p hp).2.1).trans (h.ex p hp), v, (far _ ha).trans h1, ?_, fun k hk hT => ?_⟩
  · rcases ht.new k hk with hk | hk
    · have := h.own k hk; omega
    · omega
  · exact ownsRow_keep h2 (fun k hk => ht.same k (h2.lt k hk).2 (h3 k hk))
  · rcases ht.new k hT with hT | hT
    · exact h3 k hk hT
    · have := (h2.lt k hk).2; omega
theorem GJ.grown (h : GJ ek ev eb X base a7 E pre T Y) (hB : base ≤ X.heap.size) (ha : a7 < X.heap.size) (hE : Beside X base a7 E) {Y' : World} {row : Option Nat} (hg : Y.grownBy Y' row) (hr : ∀ r, row = some r → X.heap.size ≤ r ∧ ∃ o : Obj, Y.heap[r]? = some o ∧ o.isCells = false) : GJ ek ev eb X base a7 E pre T Y' := by
  have hs := h.size
  obtain ⟨v, h1, h2, h3⟩ := h.row
  have far : ∀ k, k < X.heap.size → Y'.heap[k]? = Y.heap[k]? := fun k hk => hg.block k (by omega) (fun e => by have := (hr k e.symm).1; omega)
  refine ⟨hg.os.trans h.os, hg.tape.trans h.tape, hg.output.trans h.output, Nat.le_trans hs hg.size, fun k hk => (far k (by omega)).trans (h.same k hk), fun k hk => ⟨(h.own k hk).1, Nat.lt_of_lt_of_le (h.own k hk).2 hg.size⟩, fun p hp => (far _ (hE.of p hp).2.1).trans (h.ex p hp), v, (far _ ha).trans h1, ?_, h3⟩
  refine ownsRow_keep h2 (fun k hk => hg.block k (h2.lt k hk).2 (fun e => ?_))
  obtain ⟨_, o, ho, hc⟩ := hr k e.symm
  obtain ⟨cur, hh⟩ := row_typed h2 k hk
  rw [ho] at hh
  injection hh with hh
  subst hh
  cases hc
/-- The thing is appended: W1 is what append leaves, its new thing having lain in a block of its own. -/
theorem GJ.next (hB : base ≤ X.heap.size) (hb7 : base ≤ a7) (ha : a7 < X.heap.size) (hE : Beside X base a7 E) {W1 : World} {v v' : Value} {x : α} {o : Obj} (h : GJ ek ev eb X base a7 E pre T Y)
    (hv : Y.heap[a7]? = some (.cells #[v] 25 (0, 0))) (h1 : W1.ownsRow base 32 3 v' (pre.length + 1) (erow ek ev eb pre ++ [.int .u64 (ek x), .int .u64 (ev x), .bool (eb x)])) (h2 : (Y.alloc o).grownBy W1 v.ownBlock) (h3 : v'.ownBlock = v.ownBlock ∨ v'.ownBlock = some (Y.alloc o).heap.size) :
    GJ ek ev eb X base a7 E (pre ++ [x]) T (W1.setCell ⟨a7, 0, none⟩ v') ∧ KeepsFrom X.heap.size Y (W1.setCell ⟨a7, 0, none⟩ v') ∧ ∀ D : Blocks, (∀ k, D k → k < base) → Same (fun k => D k ∨ T k) Y (W1.setCell ⟨a7, 0, none⟩ v') := by
  have hs := h.size
  obtain ⟨v2, q1, q2, q3⟩ := h.row
  have e : v = v2 := by
    rw [hv] at q1
    injection q1 with q1
    injection q1 with q1
    simpa using q1
  subst e
  have ht : ∀ k, v.ownBlock = some k → ¬ T k ∧ base ≤ k := fun k hk => ⟨q3 k hk, (q2.lt k hk).1⟩
  have hty : ∀ k cur t, Y.heap[k]? = some (Obj.cells cur t (0, 0)) → t ≠ 32 → v.ownBlock ≠ some k := fun k cur t hh hne e => by
    obtain ⟨cur2, h2⟩ := row_typed q2 k e
    exact other_type hh h2 hne rfl
  have hs1 : Y.heap.size + 1 ≤ W1.heap.size := by have := h2.size; simpa using this
  have hb : ∀ k, k < Y.heap.size → v.ownBlock ≠ some k → k ≠ a7 → (W1.setCell ⟨a7, 0, none⟩ v').heap[k]? = Y.heap[k]? := fun k hk hn hn2 =>
    (Below.heap_setCell W1 ⟨a7, 0, none⟩ v' k hn2).trans ((h2.block k (by simp; omega) (fun e => hn e.symm)).trans (Below.heap_alloc Y o k hk))
  have hsz : (W1.setCell ⟨a7, 0, none⟩ v').heap.size = W1.heap.size := by simp [World.setCell]
  have ha7 : v.ownBlock ≠ some a7 := hty _ _ _ hv (by decide)
  have hlt7 := h.lt
  have hW7 : W1.heap[a7]? = some (.cells #[v] 25 (0, 0)) := ((h2.block a7 (by simp; omega) (fun e => ha7 e.symm)).trans (Below.heap_alloc Y o a7 hlt7)).trans hv
  have hv7 : v'.ownBlock ≠ some a7 := by
    rcases h3 with h3 | h3
    · rw [h3]; exact ha7
    · rw [h3, World.size_alloc]; intro e; injection e with e; omega
  refine ⟨⟨h2.os.trans h.os, h2.tape.trans h.tape, h2.output.trans h.output, by omega, fun k hk => ?_, fun k hk => ⟨(h.own k hk).1, by have := (h.own k hk).2; omega⟩, fun p hp => ?_, v', ?_, ?_, fun k hk => ?_⟩, ⟨by omega, fun k ob hk ho hc => ?_⟩, fun D hD k hk hl => ?_⟩
  · exact (hb k (by omega) (fun e => by have := (ht k e).2; omega) (by omega)).trans (h.same k hk)
  · obtain ⟨p1, p2, p3, cs, t, p4, p5⟩ := hE.of p hp
    have hx := h.ex p hp
    refine (hb p.1 (by omega) (fun e => ?_) p3).trans hx
    rw [p4] at hx
    exact hty _ _ _ hx p5 e
  · exact (setCell_blk hW7 v').trans rfl
  · rw [erow_snoc, List.length_append]
    refine ownsRow_keep h1 (fun k hk => Below.heap_setCell W1 ⟨a7, 0, none⟩ v' k (fun e => ?_))
    simp at e
    subst e
    exact hv7 hk
  · rcases h3 with h3 | h3
    · exact (ht k (by rw [← h3]; exact hk)).1
    · intro hT
      rw [h3] at hk
      injection hk with hk
      have := (h.own k hT).2
      rw [World.size_alloc] at hk
      omega
  · have hkl : k < Y.heap.size := (Array.getElem?_eq_some_iff.1 ho).1
    refine (hb k hkl (fun e => ?_) (by omega)).trans ho
    obtain ⟨cur, hh⟩ := row_typed q2 k e
    rw [ho] at hh
    injection hh with hh
    subst hh
    cases hc
  · rcases hk with hk | hk
    · have := hD k hk
      exact hb k hl (fun e => by have := (ht k e).2; omega) (by omega)
    · have := h.own k hk
      exact hb k hl (fun e => (ht k e).1 hk) (by omega)
/-- Cells beside the list's are written. -/
theorem GJ.recell (hB : base ≤ X.heap.size) (ha : a7 < X.heap.size) (hE : Beside X base a7 E) {W' : World} (h : GJ ek ev eb X base a7 E pre T Y)
    (h1 : W'.os = Y.os) (h2 : W'.tape = Y.tape) (h3 : W'.output = Y.output) (h4 : Y.heap.size ≤ W'.heap.size) (h5 : ∀ k, k < Y.heap.size → (∀ p ∈ E, k ≠ p.1) → W'.heap[k]? = Y.heap[k]?) (h6 : ∀ p ∈ E', W'.heap[p.1]? = some p.2) :
    GJ ek ev eb X base a7 E' pre T W' := by
  have hs := h.size
  obtain ⟨v, q1, q2, q3⟩ := h.row
  have hlt7 := h.lt
  refine ⟨h1.trans h.os, h2.trans h.tape, h3.trans h.output, by omega, fun k hk => (h5 k (by omega) (fun p hp e => by have := (hE.of p hp).1; omega)).trans (h.same k hk), fun k hk => ⟨(h.own k hk).1, by have := (h.own k hk).2; omega⟩, h6, v, (h5 a7 hlt7 (fun p hp e => (hE.of p hp).2.2.1 e.symm)).trans q1, ?_, q3⟩
  refine ownsRow_keep q2 (fun k hk => h5 k (q2.lt k hk).2 (fun p hp e => ?_))
  obtain ⟨p1, p2, p3, cs, t, p4, p5⟩ := hE.of p hp
  have hx := h.ex p hp
  rw [p4] at hx
  obtain ⟨cur2, hh⟩ := row_typed q2 k hk
  subst e
  exact other_type hx hh p5 rfl
theorem GJ.form (h : GJ ek ev eb X base a7 E pre T Y) : ∃ A c, Y.heap[a7]? = some (.cells #[.slice A pre.length c] 25 (0, 0)) ∧ Y.ownsRow base 32 3 (.slice A pre.length c) pre.length (erow ek ev eb pre) := by
  obtain ⟨v, q1, q2, q3⟩ := h.row
  rcases q2.2 with ⟨e, hn⟩ | ⟨g, cap2, cur, e, _⟩
  · subst e
    exact ⟨none, 0, by rw [hn]; exact q1, by rw [hn] at q2 ⊢; exact q2⟩
  · subst e
    exact ⟨_, _, q1, q2⟩
theorem GJ.below (hb : base ≤ X.heap.size) (h : GJ ek ev eb X base a7 E pre T Y) {w : World} (hX : Below base w X) : Below base w Y :=
  ⟨h.os.trans hX.os, h.tape.trans hX.tape, h.output.trans hX.output, Nat.le_trans hX.size h.size, fun k hk => (h.same k hk).trans (hX.block k hk)⟩
end
/-- A range whose body may break it off: either way it goes on behind the block. -/
theorem wpIn_range_break {α : Type} {P : Program} {g : Operand} {ps : Array Tmp} {assign body : Code} {id : Nat} {Q : Exit → Act → World → Prop} {a : Act} {w : World}
    {gf : Nat} {lb : Array Value} (hg : a.eval g = .func (.func gf) #[] lb) (eg : ∀ args w, (callFunc gf args).run P w = .ok (.enter gf args) w)
    {encs : α → Array Value} {D : Blocks} {S Sp : List α → Prop} {Nx : List α → α → Prop} (hseq : SeqD P gf lb encs D S Sp Nx w) (hD0 : ∀ k, D k → k < w.heap.size) (hps : ∀ x, (encs x).size = ps.size)
    (I Ie : List α → Blocks → World → Prop) (R : World → Prop) (Ax : List α → α → Blocks → Act → World → Prop) (hA : Abide I) (hAe : Abide Ie) (hI : OwnT w.heap.size I) (hIe : OwnT w.heap.size Ie) (hAo : ∀ pre x T a', OwnFrom w.heap.size (fun (_ : Unit) W => Ax pre x T a' W)) (h0 : I [] (fun _ => False) w)
    (hassign : ∀ (l : Nat) (pre : List α) (x : α) (T : Blocks) (W : World) (K : Act → World → Prop), I pre T W → Nx pre x → (∀ a' W', KeepsFrom w.heap.size W W' → Same (fun k => D k ∨ T k) W W' → I pre T W' → Ax pre x T a' W' → K a' W') →
      assign.wpIn (Fence.wide.inRound l) 0 P (Exit.then K (fun _ _ _ => False)) { tmps := (ps.zip (encs x)).foldl (fun t (p, v) => t.setIfInBounds p v) a.tmps, defers := [] } W)
    (hbody : ∀ (l : Nat) (pre : List α) (x : α) (T : Blocks) (a' : Act) (W : World), w.heap.size ≤ l → (∃ r, W.heap[l]? = some (.loop r)) → ¬ T l → I pre T W → Ax pre x T a' W → Nx pre x → body.wpIn (Fence.wide.inRound l) 0 P (postD w.heap.size D T I (fun c xs T W => c = .exit id ∧ Ie xs T W) (pre ++ [x]) W) a' W)
    (hdone : ∀ (xs : List α) (T : Blocks) (W : World), S xs → I xs T W → R W) (hstop : ∀ (pre : List α) (T : Blocks) (W : World), Sp pre → Ie pre T W → R W)
    (hrest : ∀ (C : Nat) (W : World), w.heap.size ≤ C → R W → W.heap[C]? = some (.deferred (some [])) → Q .normal { a with defers := { target := .collected C, args := #[] } :: a.defers } W) :
    (Code.rangeFunc g ps assign body).wpIn Fence.wide 0 P (Exit.inBlock id Q) a w := by
  refine wpIn_rangeFunc_D hg eg hseq hD0 hps I (fun c xs T W => c = .exit id ∧ Ie xs T W) Ax hA (fun c pre T T' A A' h ht => ⟨h.1, hAe _ _ _ _ _ h.2 ht⟩) hI (fun c T pre Y Y' row h hg hr => ⟨h.1, hIe T pre Y Y' row h.2 hg hr⟩) hAo h0 hassign hbody ?_ ?_
  · intro C xs T W hC hS hi hm
    exact hrest C W hC (hdone xs T W hS hi) hm
  · rintro C c pre T W hC hS ⟨rfl, hi⟩ hm
    refine wpIn_exit ?_
    have h := hrest C W hC (hstop pre T W hS hi) hm
    simpa [Exit.inBlock] using h
theorem leave_two {fn : Func} {t : Tmp} (hfn : fn.results = #[.tmp t]) {tmps : Array Value} {R : Ending → World → Prop} {C C2 : Nat} {W : World} (hC : W.heap[C]? = some (.deferred (some []))) (hC2 : W.heap[C2]? = some (.deferred (some []))) (hne : C2 ≠ C)
    (hR : R (.returned (tmps.getD t undef)) ((W.putObj C (.deferred none)).putObj C2 (.deferred none))) :
    LeavesInM Fence.wide 0 Try.prog fn tmps R [{ target := .collected C, args := #[] }, { target := .collected C2, args := #[] }] .returning W :=
  ⟨by simp, .inl ⟨C, _, rfl, run_takeDeferred hC, by simp, .inl ⟨C2, _, rfl, run_takeDeferred ((World.putObj_heap_other hne).trans hC2), ⟨_, results_tmp hfn _ _ _, hR⟩⟩⟩⟩
/-- A cell that is stored what it holds. -/
theorem setCell_same {W : World} {g : Nat} {u : Value} {t : TypeId} {fr : Nat × Nat} (h : W.heap[g]? = some (.cells #[u] t fr)) : W.setCell ⟨g, 0, none⟩ u = W := by
  have e : (W.setCell ⟨g, 0, none⟩ u).heap = W.heap := by
    apply Array.ext_getElem?
    intro k
    by_cases hk : k = g
    · subst hk
      rw [setCell_blk h u, h]
      rfl
    · exact Below.heap_setCell W ⟨g, 0, none⟩ u k hk
  cases W
  simp only [World.setCell] at e ⊢
  rw [e]
end Go.Proofs.Ytojbfjfjhfnopaa.MergeE
end

section
/- A region that draws its order, and only reads, within a round. -/
namespace Go.Proofs.Ytojbfjfjhfnopaa.RangeD
open Go
set_option linter.unusedVariables false
section
variable {F : Fence} {n : Nat} {P : Program} {ops : Array Oper} {Q : Exit → Act → World → Prop} {md : Region.Mode}
def noDefer (o : Oper) : Bool := match o.op with
  | .defer _ => false
  | _ => true
theorem noDefer_ne {o : Oper} (h : noDefer o = true) : ∀ c, o.op ≠ .defer c := fun c e => by
  unfold noDefer at h
  rw [e] at h
  cases h
theorem op_round {o : Oper} {a : Act} {w : World} {K : Act → World → Prop} (l : Nat) (hro : F.round = none) (hnd : ∀ c, o.op ≠ .defer c) (h : o.wpIn F n P a w K Q) : o.wpIn (F.inRound l) n P a w K Q := by
  refine ⟨h.1, ?_⟩
  have h2 := h.2
  rw [hro, Oper.semAt_none] at h2
  rw [Oper.semAt_eq _ _ _ hnd]
  exact h2
theorem any_round (l : Nat) (hro : F.round = none) (hnd : ∀ (i : Nat) o, ops[i]? = some o → noDefer o = true) : ∀ (fuel : Nat) (listed : Array Bool) (a : Act) (w : World), wpAnyIn F n P md ops Q fuel listed a w → wpAnyIn (F.inRound l) n P md ops Q fuel listed a w := by
  intro fuel
  induction fuel with
  | zero => exact fun listed a w h => h
  | succ fuel ih =>
    intro listed a w h
    refine ⟨h.1, fun i hi => ?_⟩
    have h2 := wpOpIn_mono (fun a w hh => ih _ a w hh) (h.2 i hi)
    unfold wpOpIn at h2 ⊢
    split
    · rename_i ho; simp only [ho] at h2; exact h2
    · rename_i o ho
      simp only [ho] at h2
      split
      · rename_i hw; simp only [hw, if_true] at h2; exact op_round l hro (noDefer_ne (hnd i o ho)) h2
      · rename_i hw; simp only [hw] at h2; exact h2
theorem region_round {id : Nat} {a : Act} {w : World} {ls : List Oper} (l : Nat) (hro : F.round = none) (hm : P.follows .mixedOrders = true) (hB : Region.lexB .any ls.toArray = true) (hnd : ls.all noDefer = true)
    (h : wpQuietIn F n P ls.toArray (fun w' => ∃ n, w' = w.drewN n) (fun a' => ∀ w', (∃ n, w' = w.drewN n) → Q .normal a' w') ls a) : (Code.region id ls.toArray true).wpIn (F.inRound l) n P Q a w := by
  simp only [Region.lexB, Bool.and_eq_true] at hB
  refine wpIn_region_any hm (any_round l hro (fun i o ho => ?_) _ _ _ _ (wpAnyIn_of_quiet (C := fun w' => ∃ n, w' = w.drewN n) (Q := fun a' => ∀ w', (∃ n, w' = w.drewN n) → Q .normal a' w') hro (fun _ w' hw' h => h w' hw') _ _ _ _ ⟨1, rfl⟩ ?_))
  · exact List.all_eq_true.1 hnd o (List.mem_of_getElem? (by simpa using ho))
  · have := wpAnyQIn_lex (F := F) (n := n) (C := fun w' => ∃ n, w' = w.drewN n) (md := .any) hB.1 ls 0 (Array.replicate ls.toArray.size false) a (by simp) (by simpa using hB.2) h
    simpa using this
end
end Go.Proofs.Ytojbfjfjhfnopaa.RangeD
end

section
/- Lists whose keys rise: what the reference and the walk of a law compute. -/
namespace Go.Proofs.Ytojbfjfjhfnopaa.Pure
open Go.RowKit Go.Proofs.Ytojbfjfjhfnopaa.G Go.Proofs.YtojbfjfjhfnopaaW.PrintWords Go.Proofs.YtojbfjfjhfnopaaW.PrintLast
open MergeL
set_option linter.unusedVariables false
theorem rise_iff (xs : List S32) : Rise S32.f0 xs ↔ Rises (keysOf xs) := by
  unfold Rise Rises keysOf
  rw [List.pairwise_iff_getElem]
  constructor
  · intro h i j hij hj
    have hj2 : j < xs.length := by simpa using hj
    have := h i j (by omega) hj2 hij
    simp only [List.getD_eq_getElem?_getD, List.getElem?_map, List.getElem?_eq_getElem hj2, List.getElem?_eq_getElem (show i < xs.length by omega)]
    exact this
  · intro h i j hi hj hij
    have := h i j hij (by simpa using hj)
    simp only [List.getD_eq_getElem?_getD, List.getElem?_map, List.getElem?_eq_getElem hj, List.getElem?_eq_getElem hi] at this
    exact this
theorem rise_length {α : Type} {key : α → Int} {xs ys : List α} (hx : Rise key xs) (hy : Rise key ys) (h : ∀ x ∈ xs, ∃ y ∈ ys, key y = key x) : xs.length ≤ ys.length := by
  induction ys generalizing xs with
  | nil =>
    cases xs with
    | nil => exact Nat.le_refl _
    | cons x s => obtain ⟨y, hy, _⟩ := h x List.mem_cons_self; cases hy
  | cons y t ih =>
    cases xs with
    | nil => exact Nat.zero_le _
    | cons x s =>
      have hx2 := List.pairwise_cons.1 hx
      have hy2 := List.pairwise_cons.1 hy
      refine Nat.succ_le_succ (ih hx2.2 hy2.2 fun z hz => ?_)
      obtain ⟨v, hv, e⟩ := h z (List.mem_cons_of_mem _ hz)
      obtain ⟨u, hu, e2⟩ := h x List.mem_cons_self
      have h1 := hx2.1 z hz
      rcases List.mem_cons.1 hv with rfl | hv
      · rcases List.mem_cons.1 hu with rfl | hu
        · omega
        · have := hy2.1 u hu; omega
      · exact ⟨v, hv, e⟩
theorem contains_iff (xs : List S32) (q : Int) : (keysOf xs).contains q = true ↔ find S32.f0 q xs ≠ none := by
  rw [List.contains_iff_mem, Ne, find_none]
  unfold keysOf
  rw [List.mem_map]
  constructor
  · rintro ⟨x, hx, e⟩ h; exact h x hx e
  · intro h
    apply Classical.byContradiction
    intro hn
    exact h fun x hx e => hn ⟨x, hx, e⟩
/-- Under a key's rank lies the thing that is found. -/
theorem rank_find {m : List S32} (hm : Rise S32.f0 m) {q : Int} {x : S32} (h : find S32.f0 q m = some x) : rankOf (keysOf m) q < m.length ∧ rd_T32 m (rankOf (keysOf m) q : Nat) = x := by
  have hr := (rise_iff m).1 hm
  have hc := (there_iff (keysOf m) q hr).1 ((contains_iff m q).2 (by rw [h]; simp))
  have hl : rankOf (keysOf m) q < m.length := by have := hc.1; simpa [keysOf] using this
  refine ⟨hl, ?_⟩
  rw [rd_get m _ hl]
  have hk : (m[rankOf (keysOf m) q]).f0 = q := by
    have := hc.2
    generalize rankOf (keysOf m) q = r at *
    simp only [keysOf, List.getD_eq_getElem?_getD, List.getElem?_map] at this
    rw [List.getElem?_eq_getElem hl] at this
    exact this
  have := find_mem hm (List.getElem_mem hl)
  rw [hk, h] at this
  exact (Option.some.inj this).symm
/-- For all fuel from some on. -/
def Ev (f : Nat → Option Bool) : Prop := ∃ K, ∀ k, K ≤ k → f k = some true
theorem Ev.succ {f g : Nat → Option Bool} (h : Ev g) (M : Nat) (hf : ∀ k, M ≤ k → g k = some true → f (k + 1) = some true) : Ev f := by
  obtain ⟨K, hK⟩ := h
  refine ⟨max K M + 1, fun k hk => ?_⟩
  obtain ⟨k, rfl⟩ : ∃ m, k = m + 1 := ⟨k - 1, by omega⟩
  exact hf k (by omega) (hK k (by omega))
theorem rd_L3_get (l : List (List S32)) (i : Nat) (h : i < l.length) : rd_L3 l (i : Int) = l[i] := by
  simp [rd_L3, List.getD_eq_getElem?_getD, List.getElem?_eq_getElem h]
section
variable (l : List (List S32)) (m : List S32)
/-- What is known of the lists and of their merge. -/
structure Known : Prop where
  small : l.length + (l.map List.length).sum ≤ 1048576
  rise : ∀ xs ∈ l, Rise S32.f0 xs
  eq : m = mergeL S32.f0 l
variable {l m}
theorem Known.each (h : Known l m) {i : Nat} (hi : i < l.length) : l[i].length ≤ 1048576 := by
  have h1 := len_le_total (List.getElem_mem hi)
  have := h.small
  unfold total at h1
  omega
theorem Known.mlen (h : Known l m) : m.length ≤ (l.map List.length).sum := by rw [h.eq]; exact mergeL_length l
theorem Known.mrise (h : Known l m) : Rise S32.f0 m := by rw [h.eq]; exact mergeL_rise h.rise
theorem Known.find_ (h : Known l m) (q : Int) : MergeL.find S32.f0 q m = MergeL.look S32.f0 q l := by rw [h.eq]; exact mergeL_find h.rise q
theorem look_at {q : Int} {x : S32} : ∀ (l : List (List S32)) (i : Nat) (hi : i < l.length), MergeL.find S32.f0 q l[i] = some x → (∀ j (hj : j < i), MergeL.find S32.f0 q (l[j]'(Nat.lt_trans hj hi)) = none) → MergeL.look S32.f0 q l = some x := by
  intro l
  induction l with
  | nil => intro i hi; simp at hi
  | cons a t ih =>
    intro i hi h1 h2
    cases i with
    | zero => simp only [MergeL.look]; rw [show MergeL.find S32.f0 q a = some x from h1]; rfl
    | succ i =>
      simp only [MergeL.look]
      rw [show MergeL.find S32.f0 q a = none from h2 0 (by omega), Option.none_or]
      exact ih i (by simpa using hi) h1 (fun j hj => h2 (j + 1) (by omega))
theorem look_mem {q : Int} {l : List (List S32)} {xs : List S32} {x : S32} (h1 : xs ∈ l) (h2 : x ∈ xs) (h3 : x.f0 = q) : MergeL.look S32.f0 q l ≠ none := by
  intro h
  exact look_none.1 h xs h1 x h2 h3
theorem of_is (xs : List S32) (h : xs.length ≤ 1048576) (k : Nat) (hk : 1048577 ≤ k) : inclineref03_Of.f k xs = some (keysOf xs) := refOf_f xs (by omega) k (by omega)
theorem rank_is (xs : List S32) (h : xs.length ≤ 1048576) (hr : Rise S32.f0 xs) (q : Int) (k : Nat) (hk : 1048577 ≤ k) : inclineref03_Rank.f k (keysOf xs) q = some ((rankOf (keysOf xs) q : Int), (keysOf xs).contains q) := by
  have hl : (keysOf xs).length = xs.length := by simp [keysOf]
  have := refRank_f (keysOf xs) q (by omega) k (by omega)
  rw [this, if_pos ((rises_iff _).2 ((rise_iff xs).1 hr))]
end
theorem rising_is (l : List (List S32)) (hs : l.length + (l.map List.length).sum ≤ 1048576) : ∀ (d i : Nat), i ≤ l.length → l.length ≤ i + d → ∀ k, 1048577 + d < k → inclinelaw13_rising.l0 k l i = some ((l.drop i).all fun xs => risesTo (keysOf xs) (keysOf xs).length) := by
  intro d
  induction d with
  | zero =>
    intro i hi hd k hk
    obtain ⟨k, rfl⟩ : ∃ m, k = m + 1 := ⟨k - 1, by omega⟩
    simp only [inclinelaw13_rising.l0]
    rw [if_neg (by omega), List.drop_eq_nil_of_le (by omega)]
    rfl
  | succ d ih =>
    intro i hi hd k hk
    by_cases hlt : i < l.length
    · obtain ⟨k, rfl⟩ : ∃ m, k = m + 1 := ⟨k - 1, by omega⟩
      have hsm : l[i].length ≤ 1048576 := by
        have h1 := len_le_total (List.getElem_mem hlt)
        unfold total at h1
        omega
      have hl : (keysOf l[i]).length = l[i].length := by simp [keysOf]
      simp only [inclinelaw13_rising.l0]
      rw [if_pos (by omega), if_pos (by omega), rd_L3_get l i hlt, of_is _ hsm k (by omega)]
      simp only [Option.bind_some]
      rw [refRising_f (keysOf l[i]) (by omega) k (by omega)]
      simp only [Option.bind_some]
      rw [List.drop_eq_getElem_cons hlt, List.all_cons]
      cases hr : risesTo (keysOf l[i]) (keysOf l[i]).length with
      | true =>
        rw [if_pos rfl, w64 (by omega) (by omega), Bool.true_and]
        exact ih (i + 1) (by omega) (by omega) k (by omega)
      | false => rw [if_neg (by simp), Bool.false_and]
    · exact ih i hi (by omega) k (by omega)
theorem rising_f (l : List (List S32)) (hs : l.length + (l.map List.length).sum ≤ 1048576) (k : Nat) (hk : 3145728 ≤ k) : inclinelaw13_rising.f k l = some (l.all fun xs => risesTo (keysOf xs) (keysOf xs).length) := by
  have := rising_is l hs l.length 0 (by omega) (by omega) k (by omega)
  simpa [inclinelaw13_rising.f] using this
theorem all_rise {l : List (List S32)} (h : (l.all fun xs => risesTo (keysOf xs) (keysOf xs).length) = true) : ∀ xs ∈ l, Rise S32.f0 xs := fun xs hx => by
  have := List.all_eq_true.1 h xs hx
  exact (rise_iff xs).2 ((rises_iff _).1 this)
theorem entries_small (l : List (List S32)) (hs : l.length + (l.map List.length).sum ≤ 10485760) : merge_Entries.f l = some (mergeL S32.f0 l) := by
  have h1 : ∀ xs ∈ l, xs.length ≤ (l.map List.length).sum := fun xs hx => len_le_total hx
  have h2 : (mergeL S32.f0 l).length ≤ (l.map List.length).sum := mergeL_length l
  unfold merge_Entries.f
  rw [if_pos]
  unfold merge_Entries.fits
  rw [Bool.and_eq_true, Bool.and_eq_true, decide_eq_true_eq, decide_eq_true_eq, List.all_eq_true]
  exact ⟨⟨by omega, fun xs hx => decide_eq_true (by have := h1 xs hx; omega)⟩, by omega⟩
end Go.Proofs.Ytojbfjfjhfnopaa.Pure
end

section
/- Entries of rows that stand in the text. -/
namespace Go.Proofs.Ytojbfjfjhfnopaa.G
open Go.RowKit Go.Shelf RangeD Go.Proofs.YtojbfjfjhfnopaaW.PrintWords Go.Proofs.YtojbfjfjhfnopaaW.PrintLast Go.Proofs.YtojbfjfjhfnopaaW.PrintMore
open SeqE MergeL MergeE
set_option linter.unusedVariables false
/-- A row as it stands in a text: where it lies, its room, its list. -/
abbrev RowLit := Option Addr × Nat × List S32
abbrev RowLit.v (r : RowLit) : Value := .slice r.1 r.2.2.length r.2.1
def RowLit.ok (W : World) (r : RowLit) : Prop := Kd.C k32 W r.1 r.2.2.length r.2.2 ∧ r.2.2.length ≤ r.2.1
theorem lit_rows (W : World) (rows : List RowLit) (cs : Array Value) (hcs : cs.toList = rows.map RowLit.v) (hr : ∀ r ∈ rows, RowLit.ok W r) (hm : rows.length ≤ 1000) : Kd.C (Kd.slice 32 k32) (W.alloc (.cells cs 25)) (some ⟨W.heap.size, 0, none⟩) (rows.map (·.2.2)).length (rows.map (·.2.2)) := by
  refine ⟨rfl, by rw [List.length_map]; omega, fun _ => ⟨⟨W.heap.size, 0, none⟩, rfl, fun j p hj => ?_⟩⟩
  rw [List.getElem?_map] at hj
  cases h : rows[j]? with
  | none => rw [h] at hj; cases hj
  | some r =>
    rw [h] at hj
    injection hj with hj
    subst hj
    obtain ⟨h1, h2⟩ := hr r (List.mem_of_getElem? h)
    refine ⟨[r.v], rfl, ⟨r.1, r.2.1, rfl, h2, Kd.C_alloc h1 _⟩, fun i u hu => ?_⟩
    have hc : cs[j]? = some r.v := by rw [← Array.getElem?_toList, hcs, List.getElem?_map, h]; rfl
    have hadd : (⟨W.heap.size, 0, none⟩ : Addr).add j = ⟨W.heap.size, j, none⟩ := by unfold Addr.add; split <;> simp_all
    match i, hu with
    | 0, hu =>
      simp only [List.getElem?_cons_zero, Option.some.injEq] at hu
      subst hu
      show (W.alloc (.cells cs 25)).cell? ((⟨W.heap.size, 0, none⟩ : Addr).add (j * 1 + 0)) = _
      rw [Nat.mul_one, Nat.add_zero, hadd, cell_of_row _ _ j _ _ _ (World.alloc_heap_new W _)]
      exact hc
    | i + 1, hu => simp at hu
theorem ent_rows (W : World) (rows : List RowLit) (cs : Array Value) (n : Nat) (hn : (rows.map (·.2.2)).length = n) (m : List S32) (hmm : mergeL S32.f0 (rows.map (·.2.2)) = m) (hcs : cs.toList = rows.map RowLit.v) (hr : ∀ r ∈ rows, RowLit.ok W r) (hm : rows.length ≤ 1000)
    (hs : (rows.map (·.2.2)).length + ((rows.map (·.2.2)).map List.length).sum ≤ 10485760) :
    Calls Try.prog 13 #[.slice (some ⟨W.heap.size, 0, none⟩) n n] (W.alloc (.cells cs 25)) fun e w' => ∃ A c, e = .returned (.slice A m.length c) ∧ RowLit.ok w' (A, c, m) ∧ Below W.heap.size W w' := by
  subst hn
  have he := Pure.entries_small _ hs
  rw [hmm] at he
  have hb : Below W.heap.size W (W.alloc (.cells cs 25)) := (Below.refl _ W).alloc (Nat.le_refl _) _
  refine (merge_Entries.calls _ _ _ m _ (lit_rows W rows cs hcs hr hm) (Nat.le_refl _) he).mono ?_
  rintro e w' ⟨v, rfl, h1, h2⟩
  obtain ⟨A, c, rfl, h3, h4⟩ := Kd.R_reads h1
  exact ⟨A, c, rfl, ⟨h4, h3⟩, hb.trans (h2.mono hb.size)⟩
theorem RowLit.ok.below {W W1 : World} {r : RowLit} (h : RowLit.ok W r) (hb : Below W.heap.size W W1) : RowLit.ok W1 r := ⟨Kd.C_below h.1 hb, h.2⟩
theorem RowLit.ok.alloc {W : World} {r : RowLit} (h : RowLit.ok W r) (o : Obj) : RowLit.ok (W.alloc o) r := ⟨Kd.C_alloc h.1 _, h.2⟩
theorem RowLit.empty (W : World) (A : Option Addr) (c : Nat) : RowLit.ok W (A, c, []) := ⟨⟨rfl, by simp, fun h => absurd h (by simp)⟩, Nat.zero_le _⟩
theorem same_self (l : List S32) (hl : l.length ≤ 17592186044416) : ∀ (d : Nat) (i : Nat) (k : Nat), l.length ≤ i + d → d < k → inclinelaw13_same.l0 k l l i = some true := by
  intro d
  induction d with
  | zero =>
    intro i k h1 hk
    obtain ⟨k, rfl⟩ : ∃ m, k = m + 1 := ⟨k - 1, by omega⟩
    simp only [inclinelaw13_same.l0]
    rw [if_neg (by omega)]
  | succ d ih =>
    intro i k h1 hk
    by_cases hlt : i < l.length
    · obtain ⟨k, rfl⟩ : ∃ m, k = m + 1 := ⟨k - 1, by omega⟩
      have := ih (i + 1) k (by omega) (by omega)
      simp only [inclinelaw13_same.l0]
      rw [if_pos (by omega), if_pos (by omega), if_pos (by omega), if_neg (by simp), Pure.w64 (by omega) (by omega)]
      exact this
    · exact ih i k (by omega) (by omega)
theorem same_f {l m : List S32} (e : l = m) (hl : l.length ≤ 17592186044416) (k : Nat) (hk : l.length < k) : inclinelaw13_same.f k l m = some true := by
  subst e
  unfold inclinelaw13_same.f
  rw [if_pos rfl]
  exact same_self l hl l.length 0 k (by omega) hk
theorem same_rows (W : World) (r s : RowLit) (hr : RowLit.ok W r) (hs : RowLit.ok W s) (e : r.2.2 = s.2.2) (hl : r.2.2.length ≤ 10485760) : Calls Try.prog 14 #[.slice r.1 r.2.2.length r.2.1, .slice s.1 s.2.2.length s.2.1] W fun e w' => e = .returned (.bool true) ∧ ∃ n, w' = W.drewN n := by
  refine (inclinelaw13_same.calls (r.2.2.length + 1) r.1 r.2.1 r.2.2 s.1 s.2.1 s.2.2 true W hr.1 hr.2 hs.1 hs.2 (same_f e (by omega) _ (by omega))).mono ?_
  rintro e w' ⟨rfl, ⟨nd, h⟩⟩
  exact ⟨rfl, nd, h⟩
end Go.Proofs.Ytojbfjfjhfnopaa.G
end

section
/- The walk of MergeGroups. -/
namespace Go.Proofs.Ytojbfjfjhfnopaa
open Go.RowKit Go.Proofs.YtojbfjfjhfnopaaW.PrintWords Go.Proofs.YtojbfjfjhfnopaaW.PrintLast Go.Proofs.Ytojbfjfjhfnopaa.Reading G MergeL
set_option linter.unusedVariables false
set_option linter.unusedSimpArgs false
namespace Groups
variable {a b c : List S32} (ha : Rise S32.f0 a) (hb : Rise S32.f0 b) (hc : Rise S32.f0 c)
theorem r1 {a : List S32} (ha : Rise S32.f0 a) : ∀ xs ∈ [a], Rise S32.f0 xs := fun xs h => by rw [List.mem_singleton] at h; subst h; exact ha
theorem r2 {a b : List S32} (ha : Rise S32.f0 a) (hb : Rise S32.f0 b) : ∀ xs ∈ [a, b], Rise S32.f0 xs := fun xs h => by
  rcases List.mem_cons.1 h with h | h
  · subst h; exact ha
  · exact r1 hb xs h
theorem r3 {a b c : List S32} (ha : Rise S32.f0 a) (hb : Rise S32.f0 b) (hc : Rise S32.f0 c) : ∀ xs ∈ [a, b, c], Rise S32.f0 xs := fun xs h => by
  rcases List.mem_cons.1 h with h | h
  · subst h; exact ha
  · exact r2 hb hc xs h
theorem r0 : Rise S32.f0 ([] : List S32) := List.Pairwise.nil
include ha hb hc in
theorem left : mergeL S32.f0 [a, b, c] = mergeL S32.f0 [mergeL S32.f0 [a, b], c] :=
  mergeL_ext (r3 ha hb hc) (mergeL_rise (r2 (mergeL_rise (r2 ha hb)) hc)) fun k => by
    rw [mergeL_find (r2 (mergeL_rise (r2 ha hb)) hc)]
    simp only [MergeL.look, mergeL_find (r2 ha hb), Option.or_none, Option.or_assoc]
include ha hb hc in
theorem right : mergeL S32.f0 [a, b, c] = mergeL S32.f0 [a, mergeL S32.f0 [b, c]] :=
  mergeL_ext (r3 ha hb hc) (mergeL_rise (r2 ha (mergeL_rise (r2 hb hc)))) fun k => by
    rw [mergeL_find (r2 ha (mergeL_rise (r2 hb hc)))]
    simp only [MergeL.look, mergeL_find (r2 hb hc), Option.or_none, Option.or_assoc]
include ha in
theorem one : mergeL S32.f0 [a] = a := mergeL_ext (r1 ha) ha fun k => by simp only [MergeL.look, Option.or_none]
include ha in
theorem twice : mergeL S32.f0 [a, a] = a := mergeL_ext (r2 ha ha) ha fun k => by simp only [MergeL.look, Option.or_none, Option.or_self]
include ha hb in
theorem mid : mergeL S32.f0 [a, [], b] = mergeL S32.f0 [[], a, b] :=
  mergeL_ext (r3 ha r0 hb) (mergeL_rise (r3 r0 ha hb)) fun k => by
    rw [mergeL_find (r3 r0 ha hb)]
    have e : MergeL.find S32.f0 k ([] : List S32) = none := rfl
    simp only [MergeL.look, e, Option.none_or, Option.or_none]
end Groups
namespace G
theorem ent_rows_at {W : World} (g : Nat) (hg : W.heap.size = g) (rows : List RowLit) (cs : Array Value) (n : Nat) (hn : (rows.map (·.2.2)).length = n) (m : List S32) (hmm : mergeL S32.f0 (rows.map (·.2.2)) = m) (hcs : cs.toList = rows.map RowLit.v) (hr : ∀ r ∈ rows, RowLit.ok W r) (hm : rows.length ≤ 1000)
    (hs : (rows.map (·.2.2)).length + ((rows.map (·.2.2)).map List.length).sum ≤ 10485760) :
    Calls Try.prog 13 #[.slice (some ⟨g, 0, none⟩) n n] (W.alloc (.cells cs 25)) fun e w' => ∃ A c, e = .returned (.slice A m.length c) ∧ RowLit.ok w' (A, c, m) ∧ Below W.heap.size W w' := by
  subst hg
  exact ent_rows W rows cs n hn m hmm hcs hr hm hs
def St (w W : World) (rs : List RowLit) : Prop := Below w.heap.size w W ∧ ∀ r ∈ rs, RowLit.ok W r
section
variable {w W W1 : World} {rs : List RowLit}
theorem St.step (h : St w W rs) (hb : Below W.heap.size W W1) : St w W1 rs := ⟨h.1.trans (hb.mono h.1.size), fun r hr => (h.2 r hr).below hb⟩
theorem St.alloc (h : St w W rs) (o : Obj) : St w (W.alloc o) rs := h.step ((Below.refl _ W).alloc (Nat.le_refl _) _)
theorem St.drawn {n : Nat} (h : St w W rs) (e : W1 = W.drewN n) : St w W1 rs := h.step (by rw [e]; exact ⟨rfl, rfl, rfl, Nat.le_refl _, fun _ _ => rfl⟩)
theorem St.add {r : RowLit} (h : St w W rs) (hr : RowLit.ok W r) : St w W (r :: rs) := ⟨h.1, fun x hx => (List.mem_cons.1 hx).elim (fun e => e ▸ hr) (h.2 x)⟩
theorem St.get {r : RowLit} (h : St w W rs) (i : Nat) (hi : rs[i]? = some r) : RowLit.ok W r := h.2 r (List.mem_of_getElem? hi)
theorem okl1 {W : World} {a : RowLit} (ha : RowLit.ok W a) : ∀ r ∈ [a], RowLit.ok W r := fun r h => by rw [List.mem_singleton] at h; subst h; exact ha
theorem okl2 {W : World} {a b : RowLit} (ha : RowLit.ok W a) (hb : RowLit.ok W b) : ∀ r ∈ [a, b], RowLit.ok W r := fun r h => (List.mem_cons.1 h).elim (fun e => e ▸ ha) (okl1 hb r)
theorem okl3 {W : World} {a b c : RowLit} (ha : RowLit.ok W a) (hb : RowLit.ok W b) (hc : RowLit.ok W c) : ∀ r ∈ [a, b, c], RowLit.ok W r := fun r h => (List.mem_cons.1 h).elim (fun e => e ▸ ha) (okl2 hb hc r)
end
end G
set_option maxHeartbeats 8000000 in
set_option maxRecDepth 1000000 in
theorem Walks.MergeGroups {w : World} (A0 : Option Addr) (c0 : Nat) (l0 : List S32) (hC0 : Kd.C k32 w A0 l0.length l0) (hl0 : l0.length ≤ c0) (hg0 : (l0.length * 24 ≤ reach ∧ l0.length ≤ maxLen) ∧ ∀ x ∈ l0, (Lit.int .u64 x.f0).wf = true ∧ (Lit.int .u64 x.f1).wf = true ∧ True) (A1 : Option Addr) (c1 : Nat) (l1 : List S32) (hC1 : Kd.C k32 w A1 l1.length l1) (hl1 : l1.length ≤ c1) (hg1 : (l1.length * 24 ≤ reach ∧ l1.length ≤ maxLen) ∧ ∀ x ∈ l1, (Lit.int .u64 x.f0).wf = true ∧ (Lit.int .u64 x.f1).wf = true ∧ True) (A2 : Option Addr) (c2 : Nat) (l2 : List S32) (hC2 : Kd.C k32 w A2 l2.length l2) (hl2 : l2.length ≤ c2) (hg2 : (l2.length * 24 ≤ reach ∧ l2.length ≤ maxLen) ∧ ∀ x ∈ l2, (Lit.int .u64 x.f0).wf = true ∧ (Lit.int .u64 x.f1).wf = true ∧ True)
    (hb : l0.length + 1 + (l1.length + 1) + (l2.length + 1) ≤ 1048576) :
    Calls Try.prog 8 #[.slice A0 l0.length c0, .slice A1 l1.length c1, .slice A2 l2.length c2] w fun e w' => e = .returned (.bool true) ∧ Below w.heap.size w w' := by
  have S0 : Hid (St w w [(A0, c0, l0), (A1, c1, l1), (A2, c2, l2)]) := Lib.hid ⟨Below.refl _ w, okl3 ⟨hC0, hl0⟩ ⟨hC1, hl1⟩ ⟨hC2, hl2⟩⟩
  have HS : Hid (l0.length + l1.length + l2.length ≤ 1048576) := Lib.hid (by omega)
  have hris := Pure.rising_f [l0, l1, l2] (by simp; omega) 3145728 (Nat.le_refl _)
  clear hC0 hl0 hg0 hC1 hl1 hg1 hC2 hl2 hg2 hb
  go_enter Try.func8, Try.ntmps8
  go_upto_region 4 with (go_at_call 10; go_must (refine (inclinelaw13_shown.calls true _ rfl).mono ?_; rintro e W1 ⟨rfl, hb⟩; have S1 := Lib.hid (S0.out.step hb); clear hb))
  obtain ⟨rr, hrr⟩ : ∃ rr, ([l0, l1, l2].all fun xs => Pure.risesTo (Pure.keysOf xs) (Pure.keysOf xs).length) = rr := ⟨_, rfl⟩
  rw [hrr] at hris
  have HR := Lib.hid hris
  clear hris
  cases rr with
  | false =>
    go_wp2_with (go_at_call 27; go_must (refine (inclinelaw13_rising.calls 3145728 _ 3 [l0, l1, l2] false _ (lit_rows W1 [(A0, c0, l0), (A1, c1, l1), (A2, c2, l2)] #[.slice A0 l0.length c0, .slice A1 l1.length c1, .slice A2 l2.length c2] rfl (okl3 (S1.out.get 0 rfl) (S1.out.get 1 rfl) (S1.out.get 2 rfl)) (by simp)) (Nat.le_refl _) HR.out).mono ?_; rintro e W2 ⟨rfl, hb⟩; have S2 := Lib.hid ((S1.out.alloc _).step hb); clear hb))
    refine bodyPost_ret (results_tmp rfl _ _ _) rfl ?_
    exact ⟨rfl, S2.out.1⟩
  | true =>
    have hall := Pure.all_rise hrr
    have ra := hall l0 (by simp)
    have rb := hall l1 (by simp)
    have rc := hall l2 (by simp)
    have EL := Lib.hid (Groups.left ra rb rc)
    have ER := Lib.hid (Groups.right ra rb rc)
    have EO := Lib.hid (Groups.one ra)
    have ET := Lib.hid (Groups.twice ra)
    have EX := Lib.hid (Groups.mid ra rb)
    clear hall hrr ra rb rc
    go_upto_region 6 with (go_at_call 27; go_must (refine (inclinelaw13_rising.calls 3145728 _ 3 [l0, l1, l2] true _ (lit_rows W1 [(A0, c0, l0), (A1, c1, l1), (A2, c2, l2)] #[.slice A0 l0.length c0, .slice A1 l1.length c1, .slice A2 l2.length c2] rfl (okl3 (S1.out.get 0 rfl) (S1.out.get 1 rfl) (S1.out.get 2 rfl)) (by simp)) (Nat.le_refl _) HR.out).mono ?_; rintro e W2 ⟨rfl, hb⟩; have S2 := Lib.hid ((S1.out.alloc _).step hb); clear hb))
    have Lmall := mergeL_length (key := S32.f0) [l0, l1, l2]
    obtain ⟨mall, hmall⟩ : ∃ m, mergeL S32.f0 [l0, l1, l2] = m := ⟨_, rfl⟩
    rw [hmall] at Lmall
    simp only [total, List.map_cons, List.map_nil, List.sum_cons, List.sum_nil, List.length_nil] at Lmall
    have Lmab := mergeL_length (key := S32.f0) [l0, l1]
    obtain ⟨mab, hmab⟩ : ∃ m, mergeL S32.f0 [l0, l1] = m := ⟨_, rfl⟩
    rw [hmab] at Lmab
    simp only [total, List.map_cons, List.map_nil, List.sum_cons, List.sum_nil, List.length_nil] at Lmab
    have Lmleft := mergeL_length (key := S32.f0) [mab, l2]
    obtain ⟨mleft, hmleft⟩ : ∃ m, mergeL S32.f0 [mab, l2] = m := ⟨_, rfl⟩
    rw [hmleft] at Lmleft
    simp only [total, List.map_cons, List.map_nil, List.sum_cons, List.sum_nil, List.length_nil] at Lmleft
    have Lmbc := mergeL_length (key := S32.f0) [l1, l2]
    obtain ⟨mbc, hmbc⟩ : ∃ m, mergeL S32.f0 [l1, l2] = m := ⟨_, rfl⟩
    rw [hmbc] at Lmbc
    simp only [total, List.map_cons, List.map_nil, List.sum_cons, List.sum_nil, List.length_nil] at Lmbc
    have Lmright := mergeL_length (key := S32.f0) [l0, mbc]
    obtain ⟨mright, hmright⟩ : ∃ m, mergeL S32.f0 [l0, mbc] = m := ⟨_, rfl⟩
    rw [hmright] at Lmright
    simp only [total, List.map_cons, List.map_nil, List.sum_cons, List.sum_nil, List.length_nil] at Lmright
    have Lmone := mergeL_length (key := S32.f0) [l0]
    obtain ⟨mone, hmone⟩ : ∃ m, mergeL S32.f0 [l0] = m := ⟨_, rfl⟩
    rw [hmone] at Lmone
    simp only [total, List.map_cons, List.map_nil, List.sum_cons, List.sum_nil, List.length_nil] at Lmone
    have Lmtwo := mergeL_length (key := S32.f0) [l0, l0]
    obtain ⟨mtwo, hmtwo⟩ : ∃ m, mergeL S32.f0 [l0, l0] = m := ⟨_, rfl⟩
    rw [hmtwo] at Lmtwo
    simp only [total, List.map_cons, List.map_nil, List.sum_cons, List.sum_nil, List.length_nil] at Lmtwo
    have Lmx := mergeL_length (key := S32.f0) [l0, [], l1]
    obtain ⟨mx, hmx⟩ : ∃ m, mergeL S32.f0 [l0, [], l1] = m := ⟨_, rfl⟩
    rw [hmx] at Lmx
    simp only [total, List.map_cons, List.map_nil, List.sum_cons, List.sum_nil, List.length_nil] at Lmx
    have Lmy := mergeL_length (key := S32.f0) [[], l0, l1]
    obtain ⟨my, hmy⟩ : ∃ m, mergeL S32.f0 [[], l0, l1] = m := ⟨_, rfl⟩
    rw [hmy] at Lmy
    simp only [total, List.map_cons, List.map_nil, List.sum_cons, List.sum_nil, List.length_nil] at Lmy
    have EL2 : Hid (mall = mleft) := Lib.hid (by rw [← hmleft, ← hmab, ← hmall]; exact EL.out)
    have ER2 : Hid (mall = mright) := Lib.hid (by rw [← hmright, ← hmbc, ← hmall]; exact ER.out)
    have EO2 : Hid (mone = l0) := Lib.hid (by rw [← hmone]; exact EO.out)
    have ET2 : Hid (mtwo = l0) := Lib.hid (by rw [← hmtwo]; exact ET.out)
    have EX2 : Hid (mx = my) := Lib.hid (by rw [← hmx, ← hmy]; exact EX.out)
    clear EL ER EO ET EX
    have HLall : Hid (mall.length ≤ 4194304) := Lib.hid (by have := HS.out; omega)
    have HLab : Hid (mab.length ≤ 4194304) := Lib.hid (by have := HS.out; omega)
    have HLleft : Hid (mleft.length ≤ 4194304) := Lib.hid (by have := HS.out; omega)
    have HLbc : Hid (mbc.length ≤ 4194304) := Lib.hid (by have := HS.out; omega)
    have HLright : Hid (mright.length ≤ 4194304) := Lib.hid (by have := HS.out; omega)
    have HLone : Hid (mone.length ≤ 4194304) := Lib.hid (by have := HS.out; omega)
    have HLtwo : Hid (mtwo.length ≤ 4194304) := Lib.hid (by have := HS.out; omega)
    have HLx : Hid (mx.length ≤ 4194304) := Lib.hid (by have := HS.out; omega)
    have HLy : Hid (my.length ≤ 4194304) := Lib.hid (by have := HS.out; omega)
    have HMmall := Lib.hid hmall
    have HMmab := Lib.hid hmab
    have HMmleft := Lib.hid hmleft
    have HMmbc := Lib.hid hmbc
    have HMmright := Lib.hid hmright
    have HMmone := Lib.hid hmone
    have HMmtwo := Lib.hid hmtwo
    have HMmx := Lib.hid hmx
    have HMmy := Lib.hid hmy
    clear Lmall hmall Lmab hmab Lmleft hmleft Lmbc hmbc Lmright hmright Lmone hmone Lmtwo hmtwo Lmx hmx Lmy hmy
    have tok1 : Hid True := Lib.hid trivial
    have tok2 : Hid True := Lib.hid trivial
    have tok3 : Hid True := Lib.hid trivial
    have tok4 : Hid True := Lib.hid trivial
    have tok5 : Hid True := Lib.hid trivial
    have tok6 : Hid True := Lib.hid trivial
    have tok7 : Hid True := Lib.hid trivial
    have tok8 : Hid True := Lib.hid trivial
    have tok9 : Hid True := Lib.hid trivial
    have tok10 : Hid True := Lib.hid trivial
    have tok11 : Hid True := Lib.hid trivial
    have tok12 : Hid True := Lib.hid trivial
    have tok13 : Hid True := Lib.hid trivial
    have tok14 : Hid True := Lib.hid trivial
    go_upto_region 7 with (first
        | (go_at_call 13; have _t := tok1; clear _t tok1; go_must (refine (ent_rows W2 [(A0, c0, l0), (A1, c1, l1), (A2, c2, l2)] #[.slice A0 l0.length c0, .slice A1 l1.length c1, .slice A2 l2.length c2] 3 rfl mall HMmall.out rfl (okl3 (S2.out.get 0 rfl) (S2.out.get 1 rfl) (S2.out.get 2 rfl)) (by simp) (by have := HS.out;  simp only [List.map_cons, List.map_nil, List.length_cons, List.length_nil, List.sum_cons, List.sum_nil]; omega)).mono ?_; rintro e W3 ⟨Aall, call, rfl, hok, hb⟩; have S3 := Lib.hid ((S2.out.step hb).add hok); clear hok hb)))
    go_upto_region 8 with (first
        | (go_at_call 13; have _t := tok2; clear _t tok2; go_must (refine (ent_rows W3 [(A0, c0, l0), (A1, c1, l1)] #[.slice A0 l0.length c0, .slice A1 l1.length c1] 2 rfl mab HMmab.out rfl (okl2 (S3.out.get 1 rfl) (S3.out.get 2 rfl)) (by simp) (by have := HS.out;  simp only [List.map_cons, List.map_nil, List.length_cons, List.length_nil, List.sum_cons, List.sum_nil]; omega)).mono ?_; rintro e W4 ⟨Aab, cab, rfl, hok, hb⟩; have S4 := Lib.hid ((S3.out.step hb).add hok); clear hok hb))
        | (go_at_call 13; have _t := tok3; clear _t tok3; go_must (refine (ent_rows W4 [(Aab, cab, mab), (A2, c2, l2)] #[.slice Aab (mab).length cab, .slice A2 l2.length c2] 2 rfl mleft HMmleft.out rfl (okl2 (S4.out.get 0 rfl) (S4.out.get 4 rfl)) (by simp) (by have := HS.out; have := HLab.out; simp only [List.map_cons, List.map_nil, List.length_cons, List.length_nil, List.sum_cons, List.sum_nil]; omega)).mono ?_; rintro e W5 ⟨Aleft, cleft, rfl, hok, hb⟩; have S5 := Lib.hid ((S4.out.step hb).add hok); clear hok hb)))
    go_upto_region 9 with (first
        | (go_at_call 13; have _t := tok4; clear _t tok4; go_must (refine (ent_rows W5 [(A1, c1, l1), (A2, c2, l2)] #[.slice A1 l1.length c1, .slice A2 l2.length c2] 2 rfl mbc HMmbc.out rfl (okl2 (S5.out.get 4 rfl) (S5.out.get 5 rfl)) (by simp) (by have := HS.out;  simp only [List.map_cons, List.map_nil, List.length_cons, List.length_nil, List.sum_cons, List.sum_nil]; omega)).mono ?_; rintro e W6 ⟨Abc, cbc, rfl, hok, hb⟩; have S6 := Lib.hid ((S5.out.step hb).add hok); clear hok hb))
        | (go_at_call 13; have _t := tok5; clear _t tok5; go_must (refine (ent_rows W6 [(A0, c0, l0), (Abc, cbc, mbc)] #[.slice A0 l0.length c0, .slice Abc (mbc).length cbc] 2 rfl mright HMmright.out rfl (okl2 (S6.out.get 4 rfl) (S6.out.get 0 rfl)) (by simp) (by have := HS.out; have := HLbc.out; simp only [List.map_cons, List.map_nil, List.length_cons, List.length_nil, List.sum_cons, List.sum_nil]; omega)).mono ?_; rintro e W7 ⟨Aright, cright, rfl, hok, hb⟩; have S7 := Lib.hid ((S6.out.step hb).add hok); clear hok hb)))
    go_wp2_with (first
        | (go_at_call 14; have _t := tok6; clear _t tok6; go_must (refine (same_rows _ (Aall, call, mall) (Aleft, cleft, mleft) (S7.out.get 4 rfl) (S7.out.get 2 rfl) (EL2.out) (by show (mall).length ≤ 10485760; have := HS.out; have := HLall.out; omega)).mono ?_; rintro e W8 ⟨rfl, ⟨nd, hz⟩⟩; have S8 := Lib.hid (S7.out.drawn hz); clear hz))
        | (go_at_call 14; have _t := tok7; clear _t tok7; go_must (refine (same_rows _ (Aall, call, mall) (Aright, cright, mright) (S8.out.get 4 rfl) (S8.out.get 0 rfl) (ER2.out) (by show (mall).length ≤ 10485760; have := HS.out; have := HLall.out; omega)).mono ?_; rintro e W9 ⟨rfl, ⟨nd, hz⟩⟩; have S9 := Lib.hid (S8.out.drawn hz); clear hz))
        | (go_at_call 13; have _t := tok8; clear _t tok8; go_must (refine (ent_rows W9 [(A0, c0, l0)] #[.slice A0 l0.length c0] 1 rfl mone HMmone.out rfl (okl1 (S9.out.get 5 rfl)) (by simp) (by have := HS.out;  simp only [List.map_cons, List.map_nil, List.length_cons, List.length_nil, List.sum_cons, List.sum_nil]; omega)).mono ?_; rintro e W10 ⟨Aone, cone, rfl, hok, hb⟩; have S10 := Lib.hid ((S9.out.step hb).add hok); clear hok hb))
        | (go_at_call 14; have _t := tok9; clear _t tok9; go_must (refine (same_rows _ (Aone, cone, mone) (A0, c0, l0) (S10.out.get 0 rfl) (S10.out.get 6 rfl) (EO2.out) (by show (mone).length ≤ 10485760; have := HS.out; have := HLone.out; omega)).mono ?_; rintro e W11 ⟨rfl, ⟨nd, hz⟩⟩; have S11 := Lib.hid (S10.out.drawn hz); clear hz))
        | (go_at_call 13; have _t := tok10; clear _t tok10; go_must (refine (ent_rows W11 [(A0, c0, l0), (A0, c0, l0)] #[.slice A0 l0.length c0, .slice A0 l0.length c0] 2 rfl mtwo HMmtwo.out rfl (okl2 (S11.out.get 6 rfl) (S11.out.get 6 rfl)) (by simp) (by have := HS.out;  simp only [List.map_cons, List.map_nil, List.length_cons, List.length_nil, List.sum_cons, List.sum_nil]; omega)).mono ?_; rintro e W12 ⟨Atwo, ctwo, rfl, hok, hb⟩; have S12 := Lib.hid ((S11.out.step hb).add hok); clear hok hb))
        | (go_at_call 14; have _t := tok11; clear _t tok11; go_must (refine (same_rows _ (Atwo, ctwo, mtwo) (A0, c0, l0) (S12.out.get 0 rfl) (S12.out.get 7 rfl) (ET2.out) (by show (mtwo).length ≤ 10485760; have := HS.out; have := HLtwo.out; omega)).mono ?_; rintro e W13 ⟨rfl, ⟨nd, hz⟩⟩; have S13 := Lib.hid (S12.out.drawn hz); clear hz))
        | (go_at_call 13; have _t := tok12; clear _t tok12; go_must (refine (ent_rows_at (W := (W13.alloc (.cells #[] 32))) (W13.heap.size + 1) (by rw [World.size_alloc])  [(A0, c0, l0), (some ⟨W13.heap.size, 0, none⟩, 0, []), (A1, c1, l1)] #[.slice A0 l0.length c0, .slice (some ⟨W13.heap.size, 0, none⟩) 0 0, .slice A1 l1.length c1] 3 rfl mx HMmx.out rfl (okl3 ((S13.out.alloc _).get 7 rfl) (RowLit.empty _ _ _) ((S13.out.alloc _).get 8 rfl)) (by simp) (by have := HS.out;  simp only [List.map_cons, List.map_nil, List.length_cons, List.length_nil, List.sum_cons, List.sum_nil]; omega)).mono ?_; rintro e W14 ⟨Ax, cx, rfl, hok, hb⟩; have S14 := Lib.hid (((S13.out.alloc _).step hb).add hok); clear hok hb))
        | (go_at_call 13; have _t := tok13; clear _t tok13; go_must (refine (ent_rows_at (W := (W14.alloc (.cells #[] 32))) (W14.heap.size + 1) (by rw [World.size_alloc])  [(some ⟨W14.heap.size, 0, none⟩, 0, []), (A0, c0, l0), (A1, c1, l1)] #[.slice (some ⟨W14.heap.size, 0, none⟩) 0 0, .slice A0 l0.length c0, .slice A1 l1.length c1] 3 rfl my HMmy.out rfl (okl3 (RowLit.empty _ _ _) ((S14.out.alloc _).get 8 rfl) ((S14.out.alloc _).get 9 rfl)) (by simp) (by have := HS.out;  simp only [List.map_cons, List.map_nil, List.length_cons, List.length_nil, List.sum_cons, List.sum_nil]; omega)).mono ?_; rintro e W15 ⟨Ay, cy, rfl, hok, hb⟩; have S15 := Lib.hid (((S14.out.alloc _).step hb).add hok); clear hok hb))
        | (go_at_call 14; have _t := tok14; clear _t tok14; go_must (refine (same_rows _ (Ax, cx, mx) (Ay, cy, my) (S15.out.get 1 rfl) (S15.out.get 0 rfl) (EX2.out) (by show (mx).length ≤ 10485760; have := HS.out; have := HLx.out; omega)).mono ?_; rintro e W16 ⟨rfl, ⟨nd, hz⟩⟩; have S16 := Lib.hid (S15.out.drawn hz); clear hz)))
    refine bodyPost_ret (results_tmp rfl _ _ _) rfl ?_
    exact ⟨rfl, S16.out.1⟩
end Go.Proofs.Ytojbfjfjhfnopaa
end

section
/- The reference's Live (of keys), Live (of entries); the closures of the laws. -/
namespace Go.Proofs.Ytojbfjfjhfnopaa.MergeE
open Go.RowKit Go.Shelf RangeD SeqE MergeL HeapL HeapE
attribute [local go_sem] Oper.semAt_some
set_option linter.unusedVariables false
theorem u64_cell {w : World} {n : Nat} {p : Addr} {v : Value} (h : w.cell? p = some v) : (w.drewN n).cell? p = some v := h
set_option maxRecDepth 100000 in
set_option maxHeartbeats 2000000 in
theorem live_calls (A : Option Addr) (g o c : Nat) (xs : List Int) (k : Int) (w : World) (hA : 0 < xs.length → A = some ⟨g, o, none⟩) (hc : ∀ (j : Nat) (x : Int), xs[j]? = some x → w.cell? ⟨g, o + j, none⟩ = some (.int .u64 x)) (hl : xs.length ≤ 140737488355328) (r : Bool) (hr : xs.contains k = r) :
    Calls Try.prog 24 #[.slice A xs.length c, .int .u64 k] w fun e w' => e = .returned (.bool r) ∧ ∃ n, w' = w.drewN n := by
  have HA := Lib.hid hA
  have HC := Lib.hid hc
  have HL := Lib.hid hl
  have HRR := Lib.hid hr
  clear hA hc hl hr
  go_enter Try.func24, Try.ntmps24
  go_wp2_with (fail)
  go_loopg [5] xs.length (fun kq v5 w' => ∃ i : Nat, v5 = .int .i64 (i : Int) ∧ Hid (i ≤ xs.length ∧ xs.length ≤ kq + i) ∧ Hid ((xs.take i).contains k = false) ∧ Hid (∃ n, w' = w.drewN n))
  case atStart => exact ⟨0, rfl, Lib.hid ⟨Nat.zero_le _, Nat.le_refl _⟩, Lib.hid rfl, Lib.hid ⟨0, rfl⟩⟩
  case round =>
    obtain ⟨i, rfl, HI, HN, HW⟩ := hrel
    obtain ⟨nd, rfl⟩ := HW.out
    by_cases hlt : i < xs.length
    · have hd : decide ((i : Int) < (xs.length : Int)) = true := decide_eq_true (Int.ofNat_lt.2 hlt)
      have hd2 : decide (i < xs.length) = true := decide_eq_true hlt
      have hb1 : (0 : Int) ≤ (i : Int) := Int.natCast_nonneg i
      have hb2 : (i : Int) < (xs.length : Int) := Int.ofNat_lt.2 hlt
      obtain rfl := HA.out (by omega)
      have c0 := u64_cell (n := nd) (HC.out i _ (List.getElem?_eq_getElem hlt))
      obtain ⟨i2, hi2⟩ : ∃ i2, i + 1 = i2 := ⟨_, rfl⟩
      have hi3 : (i : Int) + 1 = (i2 : Int) := by rw [← hi2]; rfl
      have HI2 := Lib.hid (loop_nums hi2 hlt HI.out.2)
      have hw2 : IntKind.i64.wrap (i2 : Int) = (i2 : Int) := IntWalk.i64_in _ (by have := HI2.out.1; have := HL.out; omega)
      have hnx : (xs.take i2).contains k = (xs[i] == k) := by
        rw [← hi2, List.take_succ_eq_append_getElem hlt]
        have h1 := HN.out
        rw [Bool.eq_iff_iff]
        rw [Bool.eq_false_iff, Ne, List.contains_iff_mem] at h1
        rw [List.contains_iff_mem, List.mem_append, List.mem_singleton, beq_iff_eq]
        constructor
        · rintro (h | h)
          · exact absurd h h1
          · exact h.symm
        · intro h; exact .inr h.symm
      have hmem : xs[i] ∈ xs := List.getElem_mem hlt
      obtain ⟨bb, hbb⟩ : ∃ bb, (xs[i] == k) = bb := ⟨_, rfl⟩
      generalize xs[i] = x at *
      have HNX := Lib.hid hnx
      have HMEM := Lib.hid hmem
      have HBB := Lib.hid hbb
      clear hnx hmem hlt
      cases bb with
      | true =>
        go_wp2_with (fail)
        refine bodyPost_ret (results_tmp rfl _ _ _) rfl ?_
        have : xs.contains k = true := by
          rw [List.contains_iff_mem]
          have := HBB.out
          rw [beq_iff_eq] at this
          subst this
          exact HMEM.out
        rw [HRR.out] at this
        subst this
        exact ⟨rfl, _, rfl⟩
      | false =>
        go_wp2_with (fail)
        go_roundg (xs.length - i2)
        case measure => exact HI2.out.2.2
        case rel => exact ⟨i2, rfl, Lib.hid ⟨HI2.out.1, HI2.out.2.1⟩, Lib.hid (HNX.out.trans HBB.out), Lib.hid ⟨_, rfl⟩⟩
    · have hd : decide ((i : Int) < (xs.length : Int)) = false := decide_eq_false (fun h => hlt (Int.ofNat_lt.1 h))
      have hd2 : decide (i < xs.length) = false := decide_eq_false hlt
      have htk : xs.take i = xs := List.take_of_length_le (Nat.not_lt.1 hlt)
      have HE := Lib.hid (htk ▸ HN.out)
      clear htk hlt
      go_wp2_with (fail)
      refine bodyPost_ret (results_tmp rfl _ _ _) rfl ?_
      have := HE.out
      rw [HRR.out] at this
      subst this
      exact ⟨rfl, _, rfl⟩
def liveN {α : Type} (eb : α → Bool) (xs : List α) : Nat := xs.countP (fun x => !eb x)
section
variable {α : Type} {ek ev : α → Int} {eb : α → Bool}
theorem liveN_next (xs : List α) (i : Nat) (h : i < xs.length) : liveN eb (xs.take (i + 1)) = liveN eb (xs.take i) + if eb xs[i] = true then 0 else 1 := by
  unfold liveN
  rw [List.take_succ_eq_append_getElem h, List.countP_append]
  cases h : eb xs[i] <;> simp [h]
theorem liveN_le (xs : List α) (i : Nat) : liveN eb (xs.take i) ≤ xs.length := Nat.le_trans List.countP_le_length (by rw [List.length_take]; omega)
set_option maxRecDepth 100000 in
set_option maxHeartbeats 2000000 in
theorem refLive_calls (A : Option Addr) (g o c : Nat) (xs : List α) (w : World) (hA : 0 < xs.length → A = some ⟨g, o, none⟩) (hcs : CellsAt ek ev eb w g o xs) (hl : xs.length ≤ 140737488355328) :
    Calls Try.prog 34 #[.slice A xs.length c] w fun e w' => e = .returned (.int .i64 (liveN eb xs : Int)) ∧ ∃ n, w' = w.drewN n := by
  have HA := Lib.hid hA
  have HC := Lib.hid hcs
  have HL := Lib.hid hl
  clear hA hcs hl
  go_enter Try.func34, Try.ntmps34
  go_wp2_with (fail)
  go_loopg [3, 4] xs.length (fun kq v3 v4 w' => ∃ i m : Nat, v4 = .int .i64 (i : Int) ∧ v3 = .int .i64 (m : Int) ∧ Hid (m = liveN eb (xs.take i)) ∧ Hid (i ≤ xs.length ∧ xs.length ≤ kq + i) ∧ Hid (∃ n, w' = w.drewN n))
  case atStart => exact ⟨0, 0, rfl, rfl, Lib.hid rfl, Lib.hid ⟨Nat.zero_le _, Nat.le_refl _⟩, Lib.hid ⟨0, rfl⟩⟩
  case round =>
    obtain ⟨i, m, rfl, rfl, HM, HI, HW⟩ := hrel
    obtain ⟨nd, rfl⟩ := HW.out
    by_cases hlt : i < xs.length
    · have hd : decide ((i : Int) < (xs.length : Int)) = true := decide_eq_true (Int.ofNat_lt.2 hlt)
      have hd2 : decide (i < xs.length) = true := decide_eq_true hlt
      have hb1 : (0 : Int) ≤ (i : Int) := Int.natCast_nonneg i
      have hb2 : (i : Int) < (xs.length : Int) := Int.ofNat_lt.2 hlt
      obtain rfl := HA.out (by omega)
      have c2 := u64_cell (n := nd) (HC.out i _ (List.getElem?_eq_getElem hlt)).2.2
      obtain ⟨i2, hi2⟩ : ∃ i2, i + 1 = i2 := ⟨_, rfl⟩
      have hi3 : (i : Int) + 1 = (i2 : Int) := by rw [← hi2]; rfl
      have HI2 := Lib.hid (loop_nums hi2 hlt HI.out.2)
      have hw2 : IntKind.i64.wrap (i2 : Int) = (i2 : Int) := IntWalk.i64_in _ (by have := HI2.out.1; have := HL.out; omega)
      obtain ⟨m2, hm2⟩ : ∃ m2, m + 1 = m2 := ⟨_, rfl⟩
      have hm3 : (m : Int) + 1 = (m2 : Int) := by rw [← hm2]; rfl
      have hw3 : IntKind.i64.wrap (m2 : Int) = (m2 : Int) := IntWalk.i64_in _ (by have h1 := HM.out; have := liveN_le (eb := eb) xs i; have := HL.out; omega)
      have hnx := liveN_next (eb := eb) xs i hlt
      rw [hi2, ← HM.out] at hnx
      obtain ⟨bb, hbb⟩ : ∃ bb, eb xs[i] = bb := ⟨_, rfl⟩
      rw [hbb] at hnx c2
      have HNX := Lib.hid hnx
      have HM2 := Lib.hid hm2
      clear hnx hm2 hbb
      cases bb with
      | true =>
        go_wp2_with (fail)
        go_roundg (xs.length - i2)
        case measure => exact HI2.out.2.2
        case rel => exact ⟨i2, m, rfl, rfl, Lib.hid (by have h := HNX.out; simp only [if_true, Nat.add_zero] at h; exact h.symm), Lib.hid ⟨HI2.out.1, HI2.out.2.1⟩, Lib.hid ⟨_, rfl⟩⟩
      | false =>
        go_wp2_with (fail)
        go_roundg (xs.length - i2)
        case measure => exact HI2.out.2.2
        case rel => exact ⟨i2, m2, rfl, rfl, Lib.hid (by have h := HNX.out; simp only [Bool.false_eq_true, if_false] at h; rw [h]; exact HM2.out.symm), Lib.hid ⟨HI2.out.1, HI2.out.2.1⟩, Lib.hid ⟨_, rfl⟩⟩
    · have hd : decide ((i : Int) < (xs.length : Int)) = false := decide_eq_false (fun h => hlt (Int.ofNat_lt.1 h))
      have hd2 : decide (i < xs.length) = false := decide_eq_false hlt
      have htk : xs.take i = xs := List.take_of_length_le (Nat.not_lt.1 hlt)
      have HE := Lib.hid (htk ▸ HM.out)
      clear htk hlt
      go_wp2_with (fail)
      refine bodyPost_ret (results_tmp rfl _ _ _) rfl ?_
      rw [HE.out]
      exact ⟨rfl, _, rfl⟩
end
theorem goes31 : ∀ args w, (callFunc 31 args).run Try.prog w = .ok (.enter 31 args) w := by
  intro args w
  have hf := Try.func31
  simp [callFunc, go_sem, hf, Try.f31]
theorem goes23 : ∀ args w, (callFunc 23 args).run Try.prog w = .ok (.enter 23 args) w := by
  intro args w
  have hf := Try.func23
  simp [callFunc, go_sem, hf, Try.f23]
theorem goes32 : ∀ args w, (callFunc 32 args).run Try.prog w = .ok (.enter 32 args) w := by
  intro args w
  have hf := Try.func32
  simp [callFunc, go_sem, hf, Try.f32]
theorem goes33 : ∀ args w, (callFunc 33 args).run Try.prog w = .ok (.enter 33 args) w := by
  intro args w
  have hf := Try.func33
  simp [callFunc, go_sem, hf, Try.f33]
set_option maxRecDepth 100000 in
theorem true_calls (k : Int) (w : World) : Calls Try.prog 32 (#[.int .u64 k] ++ #[]) w fun e w' => e = .returned (.bool true) ∧ ∃ n, w' = w.drewN n := by
  rw [Array.append_empty]
  go_enter Try.func32, Try.ntmps32
  go_wp2
  refine bodyPost_ret (results_tmp rfl _ _ _) rfl ?_
  exact ⟨rfl, 0, rfl⟩
set_option maxRecDepth 100000 in
theorem false_calls (k : Int) (w : World) : Calls Try.prog 33 (#[.int .u64 k] ++ #[]) w fun e w' => e = .returned (.bool false) ∧ ∃ n, w' = w.drewN n := by
  rw [Array.append_empty]
  go_enter Try.func33, Try.ntmps33
  go_wp2
  refine bodyPost_ret (results_tmp rfl _ _ _) rfl ?_
  exact ⟨rfl, 0, rfl⟩
/-- The keys that are live, boxed at b. -/
structure Box (w : World) (b : Nat) (A : Option Addr) (g o c : Nat) (xs : List Int) : Prop where
  box : w.heap[b]? = some (.cells #[.slice A xs.length c] 49 (0, 0))
  at_ : 0 < xs.length → A = some ⟨g, o, none⟩
  cells : ∀ (j : Nat) (x : Int), xs[j]? = some x → w.cell? ⟨g, o + j, none⟩ = some (.int .u64 x)
  len : xs.length ≤ 140737488355328
theorem Box.below {w w1 : World} {b : Nat} {A : Option Addr} {g o c : Nat} {xs : List Int} (h : Box w b A g o c xs) (hb : Below w.heap.size w w1) : Box w1 b A g o c xs :=
  ⟨(hb.block b (Array.getElem?_eq_some_iff.1 h.box).1).trans h.box, h.at_, fun j x hj => Below.cell1 hb (h.cells j x hj), h.len⟩
set_option maxRecDepth 100000 in
theorem is_calls (b : Nat) (A : Option Addr) (g o c : Nat) (xs : List Int) (k : Int) (w : World) (h : Box w b A g o c xs) (r : Bool) (hr : xs.contains k = r) : Calls Try.prog 31 (#[.int .u64 k] ++ #[.pointer (some ⟨b, 0, none⟩)]) w fun e w' => e = .returned (.bool r) ∧ ∃ n, w' = w.drewN n := by
  have hc : w.cell? ⟨b, 0, none⟩ = some (.slice A xs.length c) := by rw [cell_of_row w _ 0 _ _ _ h.box]; rfl
  have H := Lib.hid h
  have HRR := Lib.hid hr
  clear h hr
  show Calls Try.prog 31 #[.int .u64 k, .pointer (some ⟨b, 0, none⟩)] w _
  go_enter Try.func31, Try.ntmps31
  go_wp2_with (go_at_call 24; go_must (refine (live_calls A g o c xs k _ H.out.at_ H.out.cells H.out.len r HRR.out).mono ?_; rintro e w1 ⟨rfl, ⟨nd, rfl⟩⟩))
  refine bodyPost_ret (results_tmp rfl _ _ _) rfl ?_
  exact ⟨rfl, _, rfl⟩
set_option maxRecDepth 100000 in
theorem is2_calls (b : Nat) (A : Option Addr) (g o c : Nat) (xs : List Int) (k : Int) (w : World) (h : Box w b A g o c xs) (r : Bool) (hr : xs.contains k = r) : Calls Try.prog 23 (#[.int .u64 k] ++ #[.pointer (some ⟨b, 0, none⟩)]) w fun e w' => e = .returned (.bool r) ∧ ∃ n, w' = w.drewN n := by
  have hc : w.cell? ⟨b, 0, none⟩ = some (.slice A xs.length c) := by rw [cell_of_row w _ 0 _ _ _ h.box]; rfl
  have H := Lib.hid h
  have HRR := Lib.hid hr
  clear h hr
  show Calls Try.prog 23 #[.int .u64 k, .pointer (some ⟨b, 0, none⟩)] w _
  go_enter Try.func23, Try.ntmps23
  go_wp2_with (go_at_call 24; go_must (refine (live_calls A g o c xs k _ H.out.at_ H.out.cells H.out.len r HRR.out).mono ?_; rintro e w1 ⟨rfl, ⟨nd, rfl⟩⟩))
  refine bodyPost_ret (results_tmp rfl _ _ _) rfl ?_
  exact ⟨rfl, _, rfl⟩
end Go.Proofs.Ytojbfjfjhfnopaa.MergeE
end

section
/- The walk of MergeSifted. -/
namespace Go.Proofs.Ytojbfjfjhfnopaa
open Go.RowKit Go.Proofs.YtojbfjfjhfnopaaW.PrintWords Go.Proofs.YtojbfjfjhfnopaaW.PrintLast Go.Proofs.Ytojbfjfjhfnopaa.Reading G MergeL MergeE
set_option linter.unusedVariables false
set_option linter.unusedSimpArgs false
theorem open49 {H : Type} (enc : TypeId × Value → H) (w : World) (base : Nat) (spare : Nat → Bool) (held : Bool) :
    Opens enc Try.prog w base spare held 49 (Kd.slice 30 (Kd.int .u64)) (fun l => (l.length * 8 ≤ reach ∧ l.length ≤ maxLen) ∧ ∀ x ∈ l, (Lit.int .u64 x).wf = true) (fun l => l.length + 1) :=
  (of_slice Try.underlying49 (by kernel_rfl) (by kernel_rfl) (of_int Try.underlying30)).imp (fun _ h => h) (fun l => by
    have : ∀ l : List Int, l.length ≤ (l.map (fun _ => 1)).sum := fun l => by induction l with
      | nil => simp
      | cons x l ih => simp only [List.length_cons, List.map_cons, List.sum_cons]; omega
    have := this l
    omega)
namespace Sifted
abbrev sft (p : Int → Bool) (xs : List S32) : List S32 := sift S32.f0 S32.f2 p xs
theorem idem (p : Int → Bool) (xs : List S32) : sft p (sft p xs) = sft p xs := by simp [sft, sift, List.filter_filter]
theorem all (xs : List S32) : sft (fun _ => true) xs = xs := by simp [sft, sift]
theorem none_length (xs : List S32) : (sft (fun _ => false) xs).length = liveN S32.f2 xs := by simp [sft, sift, liveN, List.countP_eq_length_filter]
theorem none_gone (xs : List S32) : ∀ x ∈ sft (fun _ => false) xs, x.f2 = false := fun x hx => by
  have := (List.mem_filter.1 hx).2
  simpa using this
theorem rise (p : Int → Bool) {xs : List S32} (h : Rise S32.f0 xs) : Rise S32.f0 (sft p xs) := List.Pairwise.filter _ h
theorem find_sft (p : Int → Bool) {xs : List S32} (h : Rise S32.f0 xs) (k : Int) : MergeL.find S32.f0 k (sft p xs) = (MergeL.find S32.f0 k xs).filter (fun x => !x.f2 || p x.f0) := by
  cases hf : MergeL.find S32.f0 k xs with
  | none =>
    have := find_none.1 hf
    exact find_none.2 fun x hx => this x (List.mem_filter.1 hx).1
  | some x =>
    obtain ⟨h1, h2⟩ := find_some hf
    by_cases hp : (!x.f2 || p x.f0) = true
    · have hm : x ∈ sft p xs := List.mem_filter.2 ⟨h1, hp⟩
      have := find_mem (rise p h) hm
      rw [h2] at this
      rw [this, Option.filter_some, if_pos hp]
    · rw [Option.filter_some, if_neg hp]
      refine find_none.2 fun z hz e => ?_
      obtain ⟨z1, z2⟩ := List.mem_filter.1 hz
      have := find_mem h z1
      rw [e, hf] at this
      injection this with this
      subst this
      exact hp z2
theorem merged (p : Int → Bool) {a b : List S32} (ha : Rise S32.f0 a) (hb : Rise S32.f0 b) (hd : ∀ x ∈ b, (Pure.keysOf a).contains x.f0 = false) : sft p (mergeL S32.f0 [a, b]) = mergeL S32.f0 [sft p a, sft p b] := by
  have hm := mergeL_rise (Groups.r2 ha hb)
  refine rise_ext (rise p hm) (mergeL_rise (Groups.r2 (rise p ha) (rise p hb))) fun k => ?_
  rw [find_sft p hm, mergeL_find (Groups.r2 ha hb), mergeL_find (Groups.r2 (rise p ha) (rise p hb))]
  simp only [MergeL.look, Option.or_none, find_sft p ha, find_sft p hb]
  cases hf : MergeL.find S32.f0 k a with
  | none => simp
  | some x =>
    have hn : MergeL.find S32.f0 k b = none := by
      cases hg : MergeL.find S32.f0 k b with
      | none => rfl
      | some y =>
        obtain ⟨g1, g2⟩ := find_some hg
        have := hd y g1
        rw [Bool.eq_false_iff, Ne, Pure.contains_iff, g2, hf] at this
        exact absurd (by simp) this
    rw [hn]
    simp
end Sifted
namespace G
/-- Sift of a row, in the rows' form. -/
theorem sift_rows (W : World) (r : RowLit) (hr : RowLit.ok W r) (lf : Nat) (lb : Array Value) (p : Int → Bool) (m : List S32) (hm : Sifted.sft p r.2.2 = m) (hl : r.2.2.length ≤ 10485760) (hlf : ∀ args w, (callFunc lf args).run Try.prog w = .ok (.enter lf args) w)
    (hlive : ∀ x : S32, ∀ w1, Below W.heap.size W w1 → Calls Try.prog lf (#[.int .u64 x.f0] ++ lb) w1 fun e w2 => e = .returned (.bool (p x.f0)) ∧ ∃ n, w2 = w1.drewN n) :
    Calls Try.prog 25 #[.slice r.1 r.2.2.length r.2.1, .func (.func lf) #[] lb] W fun e w' => ∃ A c, e = .returned (.slice A m.length c) ∧ RowLit.ok w' (A, c, m) ∧ Below W.heap.size W w' := by
  subst hm
  obtain ⟨g, o, h1, h2⟩ := lies_of_C hr.1
  refine (sift_calls (ek := S32.f0) (ev := S32.f1) (eb := S32.f2) r.1 g o r.2.1 lf lb p r.2.2 W (fun h => (h1 h).1) h2 (fun h => (h1 h).2) (by omega) hlf (fun x _ w1 hb => hlive x w1 hb)).mono ?_
  rintro e w' ⟨v, rfl, h3, h4⟩
  obtain ⟨A, c, rfl⟩ := own_slice h3 rfl
  exact ⟨A, c, rfl, ⟨(own_C h3).1, (own_C h3).2.1⟩, h4⟩
/-- The rows and the box, at a world. -/
structure SB (w W : World) (rs : List RowLit) (bx : Nat) (A : Option Addr) (g o c : Nat) (lv : List Int) : Prop where
  st : St w W rs
  bx : Box W bx A g o c lv
section
variable {w W W1 : World} {rs : List RowLit} {bx : Nat} {A : Option Addr} {g o c : Nat} {lv : List Int}
theorem SB.step (h : SB w W rs bx A g o c lv) (hb : Below W.heap.size W W1) : SB w W1 rs bx A g o c lv := ⟨h.st.step hb, h.bx.below hb⟩
theorem SB.alloc (h : SB w W rs bx A g o c lv) (ob : Obj) : SB w (W.alloc ob) rs bx A g o c lv := h.step ((Below.refl _ W).alloc (Nat.le_refl _) _)
theorem SB.drawn {n : Nat} (h : SB w W rs bx A g o c lv) (e : W1 = W.drewN n) : SB w W1 rs bx A g o c lv := h.step (by rw [e]; exact ⟨rfl, rfl, rfl, Nat.le_refl _, fun _ _ => rfl⟩)
theorem SB.add {r : RowLit} (h : SB w W rs bx A g o c lv) (hr : RowLit.ok W r) : SB w W (r :: rs) bx A g o c lv := ⟨h.st.add hr, h.bx⟩
theorem SB.get {r : RowLit} (h : SB w W rs bx A g o c lv) (i : Nat) (hi : rs[i]? = some r) : RowLit.ok W r := h.st.get i hi
theorem SB.is (h : SB w W rs bx A g o c lv) : ∀ x : S32, ∀ w1, Below W.heap.size W w1 → Calls Try.prog 31 (#[.int .u64 x.f0] ++ #[.pointer (some ⟨bx, 0, none⟩)]) w1 fun e w2 => e = .returned (.bool (lv.contains x.f0)) ∧ ∃ n, w2 = w1.drewN n :=
  fun x w1 hb => is_calls bx A g o c lv x.f0 w1 (h.bx.below hb) _ rfl
theorem row_cells {W : World} {r : RowLit} (h : RowLit.ok W r) (i : Nat) (hi : i < r.2.2.length) : ∃ gg oo, r.1 = some ⟨gg, oo, none⟩ ∧ W.cell? ⟨gg, oo + i * 3, none⟩ = some (.int .u64 (r.2.2[i]).f0) ∧ W.cell? ⟨gg, oo + i * 3 + 2, none⟩ = some (.bool (r.2.2[i]).f2) := by
  obtain ⟨g, o, h1, h2⟩ := lies_of_C h.1
  have h3 := h2 i _ (List.getElem?_eq_getElem hi)
  exact ⟨g, o, (h1 (by omega)).1, h3.1, h3.2.2⟩
end
end G
set_option maxHeartbeats 8000000 in
set_option maxRecDepth 1000000 in
theorem Walks.MergeSifted {w : World} (A0 : Option Addr) (c0 : Nat) (l0 : List S32) (hC0 : Kd.C k32 w A0 l0.length l0) (hl0 : l0.length ≤ c0) (hg0 : (l0.length * 24 ≤ reach ∧ l0.length ≤ maxLen) ∧ ∀ x ∈ l0, (Lit.int .u64 x.f0).wf = true ∧ (Lit.int .u64 x.f1).wf = true ∧ True)
    (A1 : Option Addr) (c1 : Nat) (l1 : List S32) (hC1 : Kd.C k32 w A1 l1.length l1) (hl1 : l1.length ≤ c1) (hg1 : (l1.length * 24 ≤ reach ∧ l1.length ≤ maxLen) ∧ ∀ x ∈ l1, (Lit.int .u64 x.f0).wf = true ∧ (Lit.int .u64 x.f1).wf = true ∧ True)
    (A2 : Option Addr) (c2 : Nat) (l2 : List Int) (hC2 : Kd.C (Kd.int .u64) w A2 l2.length l2) (hl2 : l2.length ≤ c2) (hg2 : (l2.length * 8 ≤ reach ∧ l2.length ≤ maxLen) ∧ ∀ x ∈ l2, (Lit.int .u64 x).wf = true)
    (hb : l0.length + 1 + (l1.length + 1) + (l2.length + 1) ≤ 1048576) :
    Calls Try.prog 9 #[.slice A0 l0.length c0, .slice A1 l1.length c1, .slice A2 l2.length c2] w fun e w' => e = .returned (.bool true) ∧ Below w.heap.size w w' := by
  obtain ⟨g2, o2, hA2, hcc2⟩ : ∃ g o, (0 < l2.length → A2 = some ⟨g, o, none⟩) ∧ ∀ (j : Nat) (x : Int), l2[j]? = some x → w.cell? ⟨g, o + j, none⟩ = some (.int .u64 x) := by
    by_cases h0 : 0 < l2.length
    · obtain ⟨ad, e, hc⟩ := hC2.2.2 h0
      have cells : ∀ (j : Nat) (x : Int), l2[j]? = some x → w.cell? (ad.add j) = some (.int .u64 x) := fun j x hj => by
        obtain ⟨c, _, hK, hcc⟩ := hc j x hj
        have hK2 : c = [.int .u64 x] := hK
        subst hK2
        have this : w.cell? (ad.add (j * 1 + 0)) = some (.int .u64 x) := hcc 0 _ rfl
        rwa [Nat.mul_one, Nat.add_zero] at this
      refine ⟨ad.block, ad.off, fun _ => ?_, fun j x hj => ?_⟩
      · rw [e]
        have hp := addr_plain (cells 0 _ (List.getElem?_eq_getElem h0))
        have e2 : ad.add 0 = ad := by simp [Addr.add]
        rw [← e2, hp]
      · have := cells j x hj
        rw [addr_plain this] at this
        exact this
    · exact ⟨0, 0, fun h => absurd h h0, fun j x hj => absurd (List.getElem?_eq_some_iff.1 hj).1 (by omega)⟩
  have S0 : Hid (SB w (w.alloc (.cells #[.slice A2 l2.length c2] 49)) [(A0, c0, l0), (A1, c1, l1)] w.heap.size A2 g2 o2 c2 l2) := Lib.hid
    ⟨St.alloc ⟨Below.refl _ w, okl2 ⟨hC0, hl0⟩ ⟨hC1, hl1⟩⟩ _, ⟨World.alloc_heap_new w _, hA2, fun j x hj => Below.cell1 ((Below.refl _ w).alloc (Nat.le_refl _) _) (hcc2 j x hj), by omega⟩⟩
  have HS : Hid (l0.length + l1.length ≤ 1048576) := Lib.hid (by omega)
  have hris := Pure.rising_f [l0, l1] (by simp; omega) 3145728 (Nat.le_refl _)
  clear hC0 hl0 hg0 hC1 hl1 hg1 hC2 hl2 hg2 hb hA2 hcc2
  go_enter Try.func9, Try.ntmps9
  go_upto_region 5 with (go_at_call 10; go_must (refine (inclinelaw13_shown.calls true _ rfl).mono ?_; rintro e W1 ⟨rfl, hb⟩; have S1 := Lib.hid (S0.out.step hb); clear hb))
  obtain ⟨ms, hms⟩ : ∃ m, Sifted.sft (fun k => l2.contains k) l0 = m := ⟨_, rfl⟩
  have Lms : ms.length ≤ l0.length := by rw [← hms]; exact List.length_filter_le _ _
  have HMS := Lib.hid hms
  have HLms := Lib.hid Lms
  clear hms Lms
  go_upto_region 6 with (go_at_call 25; go_must (refine (sift_rows _ (A0, c0, l0) (S1.out.get 0 rfl) 31 #[.pointer (some ⟨w.heap.size, 0, none⟩)] (fun k => l2.contains k) ms HMS.out (by show l0.length ≤ _; have := HS.out; omega) goes31 S1.out.is).mono ?_; rintro e W2 ⟨As, cs, rfl, hok, hb⟩; have S2 := Lib.hid ((S1.out.step hb).add hok); clear hok hb))
  go_upto_region 7 with (go_at_call 25; go_must (refine (sift_rows _ (A0, c0, l0) (S2.out.get 1 rfl) 32 #[] (fun _ => true) l0 (Sifted.all l0) (by show l0.length ≤ _; have := HS.out; omega) goes32 (fun x w1 _ => true_calls _ w1)).mono ?_; rintro e W3 ⟨Aa, ca, rfl, hok, hb⟩; have S3 := Lib.hid ((S2.out.step hb).add hok); clear hok hb))
  obtain ⟨mn, hmn⟩ : ∃ m, Sifted.sft (fun _ => false) l0 = m := ⟨_, rfl⟩
  have hnl : mn.length = liveN S32.f2 l0 := by rw [← hmn]; exact Sifted.none_length l0
  have hng : ∀ x ∈ mn, x.f2 = false := by rw [← hmn]; exact Sifted.none_gone l0
  have HMN := Lib.hid hmn
  have HNL := Lib.hid hnl
  have HNG := Lib.hid hng
  have HLmn : Hid (mn.length ≤ l0.length) := Lib.hid (by rw [← hmn]; exact List.length_filter_le _ _)
  clear hmn hnl hng
  go_upto_region 8 with (go_at_call 25; go_must (refine (sift_rows _ (A0, c0, l0) (S3.out.get 2 rfl) 33 #[] (fun _ => false) mn HMN.out (by show l0.length ≤ _; have := HS.out; omega) goes33 (fun x w1 _ => false_calls _ w1)).mono ?_; rintro e W4 ⟨An, cn, rfl, hok, hb⟩; have S4 := Lib.hid ((S3.out.step hb).add hok); clear hok hb))
  have HID : Hid (Sifted.sft (fun k => l2.contains k) ms = ms) := Lib.hid (by rw [← HMS.out]; exact Sifted.idem _ l0)
  have tok1 : Hid True := Lib.hid trivial
  have tok2 : Hid True := Lib.hid trivial
  go_upto_region 10 with (first
    | (go_at_call 25; go_must (refine (sift_rows _ (As, cs, ms) (S4.out.get 2 rfl) 31 #[.pointer (some ⟨w.heap.size, 0, none⟩)] (fun k => l2.contains k) ms HID.out (by show ms.length ≤ _; have := HS.out; have := HLms.out; omega) goes31 S4.out.is).mono ?_; rintro e W5 ⟨Ax, cx, rfl, hok, hb⟩; have S5 := Lib.hid ((S4.out.step hb).add hok); clear hok hb))
    | (go_at_call 14; have _t := tok1; clear _t tok1; go_must (refine (same_rows _ (Ax, cx, ms) (As, cs, ms) (S5.out.get 0 rfl) (S5.out.get 3 rfl) rfl (by show ms.length ≤ _; have := HS.out; have := HLms.out; omega)).mono ?_; rintro e W6 ⟨rfl, ⟨nd, hz⟩⟩; have S6 := Lib.hid (S5.out.drawn hz); clear hz))
    | (go_at_call 14; have _t := tok2; clear _t tok2; go_must (refine (same_rows _ (Aa, ca, l0) (A0, c0, l0) (S6.out.get 2 rfl) (S6.out.get 4 rfl) rfl (by show l0.length ≤ _; have := HS.out; omega)).mono ?_; rintro e W7 ⟨rfl, ⟨nd, hz⟩⟩; have S7 := Lib.hid (S6.out.drawn hz); clear hz))
    | (go_at_call 34; go_must (obtain ⟨g9, o9, h91, h92⟩ := lies_of_C (S7.out.get 4 rfl : RowLit.ok _ (A0, c0, l0)).1; refine (refLive_calls (ek := S32.f0) (ev := S32.f1) (eb := S32.f2) A0 g9 o9 c0 l0 _ (fun h => (h91 h).1) h92 (by have := HS.out; omega)).mono ?_; rintro e W8 ⟨rfl, ⟨nd, hz⟩⟩; rw [← HNL.out]; have S8 := Lib.hid (S7.out.drawn hz); clear hz h91 h92)))
  go_wp2_with (fail)
  go_loopg [12] mn.length (fun kq v12 w' => ∃ i : Nat, v12 = .int .i64 (i : Int) ∧ Hid (i ≤ mn.length ∧ mn.length ≤ kq + i) ∧ Hid (SB w w' [(Ax, cx, ms), (An, cn, mn), (Aa, ca, l0), (As, cs, ms), (A0, c0, l0), (A1, c1, l1)] w.heap.size A2 g2 o2 c2 l2))
  case atStart => exact ⟨0, rfl, Lib.hid ⟨Nat.zero_le _, Nat.le_refl _⟩, S8⟩
  case round =>
    obtain ⟨i, rfl, HI, SL⟩ := hrel
    by_cases hlt : i < mn.length
    · have hd : decide ((i : Int) < (mn.length : Int)) = true := decide_eq_true (Int.ofNat_lt.2 hlt)
      have hd2 : decide (i < mn.length) = true := decide_eq_true hlt
      have hb1 : (0 : Int) ≤ (i : Int) := Int.natCast_nonneg i
      have hb2 : (i : Int) < (mn.length : Int) := Int.ofNat_lt.2 hlt
      obtain ⟨gg, oo, e, k0, k2⟩ := row_cells (SL.out.get 1 rfl : RowLit.ok wr (An, cn, mn)) i hlt
      have e2 : An = some ⟨gg, oo, none⟩ := e
      have k3 : wr.cell? ⟨gg, oo + i * 3 + 2, none⟩ = some (.bool false) := by rw [k2]; show some (Value.bool (mn[i]).f2) = _; rw [HNG.out _ (List.getElem_mem hlt)]
      clear e k0 k2
      obtain ⟨i2, hi2⟩ : ∃ i2, i + 1 = i2 := ⟨_, rfl⟩
      have hi3 : (i : Int) + 1 = (i2 : Int) := by rw [← hi2]; rfl
      have HI2 := Lib.hid (loop_nums hi2 hlt HI.out.2)
      have hw2 : IntKind.i64.wrap (i2 : Int) = (i2 : Int) := IntWalk.i64_in _ (by have := HI2.out.1; have := HLmn.out; have := HS.out; omega)
      clear hlt
      subst e2
      go_wp2_with (fail)
      go_roundg (mn.length - i2)
      case measure => exact HI2.out.2.2
      case rel => exact ⟨i2, rfl, Lib.hid ⟨HI2.out.1, HI2.out.2.1⟩, SL⟩
    · have hd : decide ((i : Int) < (mn.length : Int)) = false := decide_eq_false (fun h => hlt (Int.ofNat_lt.1 h))
      have hd2 : decide (i < mn.length) = false := decide_eq_false hlt
      clear hlt
      obtain ⟨rr, hrr⟩ : ∃ rr, ([l0, l1].all fun xs => Pure.risesTo (Pure.keysOf xs) (Pure.keysOf xs).length) = rr := ⟨_, rfl⟩
      rw [hrr] at hris
      have HR := Lib.hid hris
      clear hris
      cases rr with
      | false =>
        go_wp2_with (go_at_call 27; go_must (refine (inclinelaw13_rising.calls 3145728 _ 2 [l0, l1] false _ (lit_rows wr [(A0, c0, l0), (A1, c1, l1)] #[.slice A0 l0.length c0, .slice A1 l1.length c1] rfl (okl2 (SL.out.get 4 rfl) (SL.out.get 5 rfl)) (by simp)) (Nat.le_refl _) HR.out).mono ?_; rintro e W9 ⟨rfl, hb⟩; have S9 := Lib.hid ((SL.out.alloc _).step hb); clear hb))
        refine bodyPost_ret (results_tmp rfl _ _ _) rfl ?_
        exact ⟨rfl, S9.out.st.1⟩
      | true =>
        have hall := Pure.all_rise hrr
        have RA := Lib.hid (hall l0 (by simp))
        have RB := Lib.hid (hall l1 (by simp))
        clear hall hrr
        go_wp2_with (go_at_call 27; go_must (refine (inclinelaw13_rising.calls 3145728 _ 2 [l0, l1] true _ (lit_rows wr [(A0, c0, l0), (A1, c1, l1)] #[.slice A0 l0.length c0, .slice A1 l1.length c1] rfl (okl2 (SL.out.get 4 rfl) (SL.out.get 5 rfl)) (by simp)) (Nat.le_refl _) HR.out).mono ?_; rintro e W9 ⟨rfl, hb⟩; have S9 := Lib.hid ((SL.out.alloc _).step hb); clear hb))
        go_loopg [13] l1.length (fun kq v13 w' => ∃ i : Nat, v13 = .int .i64 (i : Int) ∧ Hid (i ≤ l1.length ∧ l1.length ≤ kq + i) ∧ Hid (∀ x ∈ l1.take i, (Pure.keysOf l0).contains x.f0 = false) ∧ Hid (SB w w' [(Ax, cx, ms), (An, cn, mn), (Aa, ca, l0), (As, cs, ms), (A0, c0, l0), (A1, c1, l1)] w.heap.size A2 g2 o2 c2 l2))
        case atStart => exact ⟨0, rfl, Lib.hid ⟨Nat.zero_le _, Nat.le_refl _⟩, Lib.hid (fun x h => by simp at h), S9⟩
        case round =>
          obtain ⟨j, rfl, HJ, HD, SM⟩ := hrel
          by_cases hjt : j < l1.length
          · have hd3 : decide ((j : Int) < (l1.length : Int)) = true := decide_eq_true (Int.ofNat_lt.2 hjt)
            have hd4 : decide (j < l1.length) = true := decide_eq_true hjt
            have hb3 : (0 : Int) ≤ (j : Int) := Int.natCast_nonneg j
            have hb4 : (j : Int) < (l1.length : Int) := Int.ofNat_lt.2 hjt
            obtain ⟨gg, oo, e, k0, k2⟩ := row_cells (SM.out.get 5 rfl : RowLit.ok wr (A1, c1, l1)) j hjt
            have e2 : A1 = some ⟨gg, oo, none⟩ := e
            have k3 : wr.cell? ⟨gg, oo + j * 3, none⟩ = some (.int .u64 (l1[j]).f0) := k0
            clear e k0 k2
            obtain ⟨i2, hi2⟩ : ∃ i2, j + 1 = i2 := ⟨_, rfl⟩
            have hi3 : (j : Int) + 1 = (i2 : Int) := by rw [← hi2]; rfl
            have HI2 := Lib.hid (loop_nums hi2 hjt HJ.out.2)
            have hw2 : IntKind.i64.wrap (i2 : Int) = (i2 : Int) := IntWalk.i64_in _ (by have := HI2.out.1; have := HS.out; omega)
            have HOF := Lib.hid (Pure.of_is l0 (by have := HS.out; omega) 1048577 (Nat.le_refl _))
            have hrank := Pure.rank_is l0 (by have := HS.out; omega) RA.out (l1[j]).f0 1048577 (Nat.le_refl _)
            have HTK : Hid (∀ x ∈ l1.take i2, x ∈ l1.take j ∨ x = l1[j]) := Lib.hid (fun x hx => by
              rw [← hi2, List.take_succ_eq_append_getElem hjt] at hx
              rcases List.mem_append.1 hx with h | h
              · exact .inl h
              · exact .inr (List.mem_singleton.1 h))
            obtain ⟨bb, hbb⟩ : ∃ bb, (Pure.keysOf l0).contains (l1[j]).f0 = bb := ⟨_, rfl⟩
            rw [hbb] at hrank
            obtain ⟨rk, hrk⟩ : ∃ rk : Int, (Pure.rankOf (Pure.keysOf l0) (l1[j]).f0 : Int) = rk := ⟨_, rfl⟩
            rw [hrk] at hrank
            have HBB := Lib.hid hbb
            have HRK := Lib.hid hrank
            generalize hq : l1[j] = q at *
            clear hq
            clear hjt hbb hrk hrank
            subst e2
            go_upto_region 20 with (fail)
            go_region_held3 (fun w' => w'.cell? ⟨gg, oo + j * 3, none⟩ = some (.int .u64 q.f0))
              (first
                | go_keep
                | (refine (hbl.cell (World.block_lt_of_cell? _ _ (by assumption))).trans ?_; assumption))
              (first
                | (go_at_call 29; go_must (refine (inclineref03_Of.calls 1048577 A0 c0 l0 (Pure.keysOf l0) _ (Kd.C_drew (SM.out.get 4 rfl : RowLit.ok wr (A0, c0, l0)).1) (SM.out.get 4 rfl : RowLit.ok wr (A0, c0, l0)).2 HOF.out).mono ?_; rintro e wk ⟨v, rfl, hR, hbl⟩; obtain ⟨Ak, ck, rfl, hle, hCk⟩ := Kd.R_reads hR; have HCK := Lib.hid (And.intro hCk hle)))
                | (go_at_call 28; go_must (refine (inclineref03_Rank.calls 1048577 Ak ck (Pure.keysOf l0) q.f0 rk bb _ HCK.out.1 HCK.out.2 HRK.out).mono ?_; rintro e wk2 ⟨rfl, ⟨nd, hz⟩⟩)))
            have S10 := Lib.hid ((SM.out.step ((Below.refl wr.heap.size wr).drew.trans hbl)).drawn (W1 := wk.drewN nd) (n := nd) rfl)
            clear hbl HCK hz k3
            cases bb with
            | true =>
              go_wp2_with (fail)
              refine bodyPost_ret (results_tmp rfl _ _ _) rfl ?_
              exact ⟨rfl, S10.out.st.1⟩
            | false =>
              go_wp2_with (fail)
              go_roundg (l1.length - i2)
              case measure => exact HI2.out.2.2
              case rel => exact ⟨i2, rfl, Lib.hid ⟨HI2.out.1, HI2.out.2.1⟩, Lib.hid (fun x hx => (HTK.out x hx).elim (HD.out x) (fun e => by rw [e]; exact HBB.out)), S10⟩
          · have hd3 : decide ((j : Int) < (l1.length : Int)) = false := decide_eq_false (fun h => hjt (Int.ofNat_lt.1 h))
            have hd4 : decide (j < l1.length) = false := decide_eq_false hjt
            have htk : l1.take j = l1 := List.take_of_length_le (Nat.not_lt.1 hjt)
            have hdd := HD.out
            rw [htk] at hdd
            have heq := Sifted.merged (fun k => l2.contains k) RA.out RB.out hdd
            rw [HMS.out] at heq
            have L1 := mergeL_length (key := S32.f0) [l0, l1]
            obtain ⟨m2, h2⟩ : ∃ m, mergeL S32.f0 [l0, l1] = m := ⟨_, rfl⟩
            rw [h2] at L1 heq
            obtain ⟨mx, hx⟩ : ∃ m, Sifted.sft (fun k => l2.contains k) m2 = m := ⟨_, rfl⟩
            obtain ⟨my, hy⟩ : ∃ m, Sifted.sft (fun k => l2.contains k) l1 = m := ⟨_, rfl⟩
            have Ly : my.length ≤ l1.length := by rw [← hy]; exact List.length_filter_le _ _
            have Lx : mx.length ≤ m2.length := by rw [← hx]; exact List.length_filter_le _ _
            rw [hx, hy] at heq
            simp only [total, List.map_cons, List.map_nil, List.sum_cons, List.sum_nil] at L1
            have HLm2 : Hid (m2.length ≤ 1048576) := Lib.hid (by have := HS.out; omega)
            have HLmx : Hid (mx.length ≤ 1048576) := Lib.hid (by have := HS.out; omega)
            have HLmy : Hid (my.length ≤ 1048576) := Lib.hid (by have := HS.out; omega)
            have HEQ := Lib.hid heq
            have HX := Lib.hid hx
            have HY := Lib.hid hy
            have H2 := Lib.hid h2
            have tok3 : Hid True := Lib.hid trivial
            have tok4 : Hid True := Lib.hid trivial
            have tok5 : Hid True := Lib.hid trivial
            have tok6 : Hid True := Lib.hid trivial
            clear hjt htk hdd heq L1 Ly Lx hx hy h2
            go_wp2_with (first
              | (go_at_call 13; have _t := tok3; clear _t tok3; go_must (refine (ent_rows wr [(A0, c0, l0), (A1, c1, l1)] #[.slice A0 l0.length c0, .slice A1 l1.length c1] 2 rfl m2 H2.out rfl (okl2 (SM.out.get 4 rfl) (SM.out.get 5 rfl)) (by simp) (by have := HS.out; simp only [List.map_cons, List.map_nil, List.length_cons, List.length_nil, List.sum_cons, List.sum_nil]; omega)).mono ?_; rintro e V1 ⟨B1, d1, rfl, hok, hb⟩; have R1 := Lib.hid ((SM.out.step hb).add hok); clear hok hb))
              | (go_at_call 25; have _t := tok4; clear _t tok4; go_must (refine (sift_rows _ (B1, d1, m2) (R1.out.get 0 rfl) 31 #[.pointer (some ⟨w.heap.size, 0, none⟩)] (fun k => l2.contains k) mx HX.out (by show m2.length ≤ _; have := HLm2.out; omega) goes31 R1.out.is).mono ?_; rintro e V2 ⟨B2, d2, rfl, hok, hb⟩; have R2 := Lib.hid ((R1.out.step hb).add hok); clear hok hb))
              | (go_at_call 25; have _t := tok5; clear _t tok5; go_must (refine (sift_rows _ (A1, c1, l1) (R2.out.get 7 rfl) 31 #[.pointer (some ⟨w.heap.size, 0, none⟩)] (fun k => l2.contains k) my HY.out (by show l1.length ≤ _; have := HS.out; omega) goes31 R2.out.is).mono ?_; rintro e V3 ⟨B3, d3, rfl, hok, hb⟩; have R3 := Lib.hid ((R2.out.step hb).add hok); clear hok hb))
              | (go_at_call 13; have _t := tok6; clear _t tok6; go_must (refine (ent_rows V3 [(As, cs, ms), (B3, d3, my)] #[.slice As ms.length cs, .slice B3 my.length d3] 2 rfl mx HEQ.out.symm rfl (okl2 (R3.out.get 6 rfl) (R3.out.get 0 rfl)) (by simp) (by have := HS.out; have := HLms.out; have := HLmy.out; simp only [List.map_cons, List.map_nil, List.length_cons, List.length_nil, List.sum_cons, List.sum_nil]; omega)).mono ?_; rintro e V4 ⟨B4, d4, rfl, hok, hb⟩; have R4 := Lib.hid ((R3.out.step hb).add hok); clear hok hb))
              | (go_at_call 14; go_must (refine (same_rows _ (B2, d2, mx) (B4, d4, mx) (R4.out.get 2 rfl) (R4.out.get 0 rfl) rfl (by show mx.length ≤ _; have := HLmx.out; omega)).mono ?_; rintro e V5 ⟨rfl, ⟨nd, hz⟩⟩; have R5 := Lib.hid (R4.out.drawn hz); clear hz)))
            refine bodyPost_ret (results_tmp rfl _ _ _) rfl ?_
            exact ⟨rfl, R5.out.st.1⟩
end Go.Proofs.Ytojbfjfjhfnopaa
end

section
/- copied, asWere: lists of one's own with a mark behind each. -/
namespace Go.Proofs.Ytojbfjfjhfnopaa.G
open Go.RowKit Go.Shelf RangeD Go.Proofs.YtojbfjfjhfnopaaW.PrintWords Go.Proofs.YtojbfjfjhfnopaaW.PrintLast Go.Proofs.YtojbfjfjhfnopaaW.PrintMore
open SeqE MergeL MergeE
attribute [local go_sem] Oper.semAt_some
set_option linter.unusedVariables false
set_option linter.unusedSimpArgs false
theorem rows_of_C {w : World} {A0 : Option Addr} {ls : List (List S32)} (hr : Kd.C (Kd.slice 32 k32) w A0 ls.length ls) : ∃ g0 o0, (0 < ls.length → A0 = some ⟨g0, o0, none⟩) ∧ ∀ (i : Nat) (xs : List S32), ls[i]? = some xs → ∃ A c, w.cell? ⟨g0, o0 + i, none⟩ = some (.slice A xs.length c) ∧ Kd.C k32 w A xs.length xs := by
  by_cases h0 : 0 < ls.length
  · obtain ⟨ad, e, hc⟩ := hr.2.2 h0
    have cells : ∀ (j : Nat) x, ls[j]? = some x → ∃ A c, w.cell? (ad.add j) = some (.slice A x.length c) ∧ Kd.C k32 w A x.length x := fun j x hj => by
      obtain ⟨c, _, ⟨A, c2, rfl, _, hK⟩, hcc⟩ := hc j x hj
      have := hcc 0 _ rfl
      refine ⟨A, c2, ?_, hK⟩
      simpa [Kd.slice] using this
    obtain ⟨A1, c1, h1, _⟩ := cells 0 _ (List.getElem?_eq_getElem h0)
    have hp := addr_plain h1
    refine ⟨ad.block, ad.off, fun _ => ?_, fun i xs hi => ?_⟩
    · rw [e]
      have e2 : ad.add 0 = ad := by simp [Addr.add]
      rw [← e2, hp]
    · obtain ⟨A, c, q1, q2⟩ := cells i xs hi
      rw [addr_plain q1] at q1
      exact ⟨A, c, q1, q2⟩
  · exact ⟨0, 0, fun h => absurd h h0, fun i xs hi => absurd (List.getElem?_eq_some_iff.1 hi).1 (by omega)⟩
theorem reps_eq {w : World} {base : Nat} {ok : Nat → Prop} {xs : List S32} {cs : List Value} (h : Reps (k32.M w base ok) 3 xs cs) : cs = erow S32.f0 S32.f1 S32.f2 xs := by
  apply List.ext_getElem?
  intro j
  by_cases hj : j < xs.length * 3
  · obtain ⟨k, r, hr, rfl⟩ : ∃ k r, r < 3 ∧ j = k * 3 + r := ⟨j / 3, j % 3, by omega, by omega⟩
    have hk : k < xs.length := by omega
    have h1 := k32_openM (h.2 k _ (List.getElem?_eq_getElem hk))
    have h2 : ((cs.drop (k * 3)).take 3)[r]? = cs[k * 3 + r]? := by rw [List.getElem?_take_of_lt hr, List.getElem?_drop]
    rw [← h2, h1, erow_get _ _ _ xs k r _ (List.getElem?_eq_getElem hk) hr]
    rfl
  · rw [List.getElem?_eq_none (by rw [h.1]; omega), List.getElem?_eq_none (by rw [erow_length]; omega)]
/-- Rows of one's own, a mark behind each. -/
def Lent1 (W : World) (v : Value) (xs : List S32) : Prop := ∃ b cc cur, v = .slice (some ⟨b, 0, none⟩) xs.length cc ∧ xs.length + 1 ≤ cc ∧ CellsAt S32.f0 S32.f1 S32.f2 W b 0 xs ∧ W.cell? ⟨b, xs.length * 3, none⟩ = some (.int .u64 77) ∧ W.heap[b]? = some (.cells cur 32 (0, 0))
theorem Lent1.keep {W W1 : World} {v : Value} {xs : List S32} (h : Lent1 W v xs) (hk : ∀ (b : Nat) (cur : Array Value), W.heap[b]? = some (Obj.cells cur 32 (0, 0)) → W1.heap[b]? = W.heap[b]?) : Lent1 W1 v xs := by
  obtain ⟨b, cc, cur, h1, h2, h3, h4, h5⟩ := h
  have := hk b cur h5
  exact ⟨b, cc, cur, h1, h2, h3.keep _ _ _ this, (World.cell?_of_block this).trans h4, this.trans h5⟩
def Lent (W : World) (g : Nat) (ls : List (List S32)) : Prop := ∀ (i : Nat) (xs : List S32), ls[i]? = some xs → ∃ v, W.cell? ⟨g, i, none⟩ = some v ∧ Lent1 W v xs
theorem Lent.below {W W1 : World} {g : Nat} {ls : List (List S32)} (h : Lent W g ls) (hb : Below W.heap.size W W1) : Lent W1 g ls := fun i xs hi => by
  obtain ⟨v, h1, h2⟩ := h i xs hi
  exact ⟨v, Below.cell1 hb h1, h2.keep (fun b cur hh => hb.block b (Array.getElem?_eq_some_iff.1 hh).1)⟩
theorem cut_cap {P : Program} (t e : TypeId) (kh : IntKind) {i : TypeInfo} (ht : P.underlying t = some (.slice e)) (hi : P.info? e = some i) (A : Option Addr) (n c : Nat) (j : Int) (h0 : 0 ≤ j) (hc : j ≤ c) :
    ∀ W : World, (Instr.slice t (.slice A n c) none (some (.int kh j)) none).run P W = .ok (.slice A j.toNat c) W := by
  intro W
  have hel : P.elem t = e := by simp [Program.elem, ht]
  have hu : P.underlying t = some (.slice (P.elem t)) := by rw [hel]; exact ht
  have ha : (A.map fun x => x.add 0) = A := by cases A <;> simp [Addr.add]
  rw [run_slice_h W t A n c hu kh j h0 (by omega), hel]
  simp [sizeOf, typeInfo, hi, sliced, Result.andThen, ha]
set_option maxRecDepth 100000 in
set_option maxHeartbeats 4000000 in
theorem copied_calls (A0 : Option Addr) (c0 : Nat) (ls : List (List S32)) (w : World) (hr : Kd.C (Kd.slice 32 k32) w A0 ls.length ls) (hs : ls.length ≤ 1048576 ∧ ∀ xs ∈ ls, xs.length ≤ 1048576) :
    Calls Try.prog 11 #[.slice A0 ls.length c0] w fun e w' => ∃ g c, e = .returned (.slice (some ⟨g, 0, none⟩) ls.length c) ∧ ls.length ≤ c ∧ Lent w' g ls ∧ Below w.heap.size w w' := by
  obtain ⟨g0, o0, hA, hrows⟩ := rows_of_C hr
  have HA := Lib.hid hA
  have HRW := Lib.hid hrows
  have HS := Lib.hid hs
  obtain ⟨i0, hi0, hz0, hz1, hz2⟩ := info_parts info32e
  obtain ⟨i5, hi5, hz50, hz51, hz52⟩ := info_parts info25
  clear hr hA hrows hs
  go_enter Try.func11, Try.ntmps11
  go_wp2_with (fail)
  go_loopg [3, 4] ls.length (fun kq v3 v4 w' => ∃ (i g c : Nat) (vs : List Value), v4 = .int .i64 (i : Int) ∧ v3 = .slice (some ⟨g, 0, none⟩) i c ∧ Hid (i ≤ ls.length ∧ ls.length ≤ kq + i) ∧ Hid (w'.ownsRow w.heap.size 25 1 (.slice (some ⟨g, 0, none⟩) i c) i vs) ∧ Hid (∀ (k : Nat) (xs : List S32), (ls.take i)[k]? = some xs → ∃ v, vs[k]? = some v ∧ Lent1 w' v xs) ∧ Hid (Below w.heap.size w w'))
  case atStart => exact ⟨0, w.heap.size, 0, [], rfl, rfl, Lib.hid ⟨Nat.zero_le _, Nat.le_refl _⟩, Lib.hid (World.ownsRow_lit (base := w.heap.size) (e := 25) (size := 1) w #[] 0 (Nat.le_refl _) (by unfold maxLen; omega) rfl), Lib.hid (fun k xs h => by simp at h), Lib.hid ((Below.refl _ w).alloc (Nat.le_refl _) _)⟩
  case round =>
    obtain ⟨i, g, c, vs, rfl, rfl, HI, HO, HV, HB⟩ := hrel
    by_cases hlt : i < ls.length
    · have hd : decide ((i : Int) < (ls.length : Int)) = true := decide_eq_true (Int.ofNat_lt.2 hlt)
      have hd2 : decide (i < ls.length) = true := decide_eq_true hlt
      have hb1 : (0 : Int) ≤ (i : Int) := Int.natCast_nonneg i
      have hb2 : (i : Int) < (ls.length : Int) := Int.ofNat_lt.2 hlt
      obtain rfl := HA.out (by omega)
      obtain ⟨A, cA, r1, r2⟩ := HRW.out i _ (List.getElem?_eq_getElem hlt)
      have rc : wr.cell? ⟨g0, o0 + i, none⟩ = some (.slice A (ls[i]).length cA) := Below.cell1 HB.out r1
      have rc2 : (wr.alloc (.cells #[] 32)).cell? ⟨g0, o0 + i, none⟩ = some (.slice A (ls[i]).length cA) := Below.cell1 ((Below.refl _ wr).alloc (Nat.le_refl _) _) rc
      have rC := Kd.C_below r2 HB.out
      have hxi := HS.out.2 _ (List.getElem_mem hlt)
      obtain ⟨i2, hi2⟩ : ∃ i2, i + 1 = i2 := ⟨_, rfl⟩
      have hi3 : (i : Int) + 1 = (i2 : Int) := by rw [← hi2]; rfl
      have HI2 := Lib.hid (loop_nums hi2 hlt HI.out.2)
      have hw2 : IntKind.i64.wrap (i2 : Int) = (i2 : Int) := IntWalk.i64_in _ (by have := HI2.out.1; have := HS.out.1; omega)
      have htk : ls.take i2 = ls.take i ++ [ls[i]] := by rw [← hi2, List.take_succ_eq_append_getElem hlt]
      generalize ls[i] = xs at *
      have HXI := Lib.hid hxi
      have RC := Lib.hid rC
      have HTK := Lib.hid htk
      have HIL : Hid (i + 1 ≤ 1048577) := Lib.hid (by have := HS.out.1; omega)
      have HTL : Hid ((ls.take i).length = i) := Lib.hid (by rw [List.length_take]; omega)
      have HI3 := Lib.hid hi2
      have RCELL := Lib.hid r1
      have tok1 : Hid True := Lib.hid trivial
      have tok2 : Hid True := Lib.hid trivial
      have tok3 : Hid True := Lib.hid trivial
      clear r1 r2 rC hxi htk hlt hi2
      go_upto_region 6 with (first
        | (at_builtin; have _t := tok1; clear _t tok1; go_must (refine Kd.R_append_rows k32 (w0 := w) w.heap.size rfl (.tmp 13) (.tmp 17) 25 32 (.agg #[(.int .u64 0), (.int .u64 0), (.bool false)]) 24 rfl Try.underlying25 info32 rfl (by decide) (by decide) (.slice (some ⟨wr.heap.size, 0, none⟩) 0 0) [] xs A xs.length cA (fun _ => True) (fun _ => False) rfl rfl (R_of_own (xs := []) (World.ownsRow_lit (base := w.heap.size) (e := 32) (size := 3) wr #[] 0 HB.out.size (by unfold maxLen; omega) rfl)) (Kd.C_alloc RC.out _) (fun _ _ h => h) (fun _ h => h.elim) (fun _ _ => trivial) (HB.out.alloc HB.out.size _) (Nat.le_trans HB.out.size (by simp)) (by have := HXI.out; simp only [List.length_nil, Nat.zero_add]; omega) ?_; intro v6 w6 ho6 hb6 hg6 hat6; obtain ⟨_, inner, ho6, hre6⟩ := ho6; have e6 := reps_eq hre6; subst e6; have O6 := Lib.hid ho6; have B6 := Lib.hid hb6; have G6 := Lib.hid hg6; have AT6 := Lib.hid hat6; clear ho6 hb6 hg6 hat6 hre6))
        | (at_builtin; have _t := tok2; clear _t tok2; go_must (refine wpList_append_own_at _ rfl (.tmp 18) (.tmp 20) 25 rfl w.heap.size 32 i0 _ 3 24 Try.underlying25 hi0 hz0 hz1 hz2 rfl (by decide) v6 xs.length (erow S32.f0 S32.f1 S32.f2 xs) (by rfl) (O6.out.alloc _) ⟨w6.heap.size, 0, none⟩ 1 1 [.int .u64 77, .int .u64 77, .bool false] (by rfl) (by rfl) (World.news_of_block (cs := #[.int .u64 77, .int .u64 77, .bool false]) (t := 32) (fr := (0, 0)) (World.alloc_heap_new w6 _)) (by intro u hu; simp only [List.mem_cons, List.not_mem_nil, or_false] at hu; rcases hu with hu | hu | hu <;> subst hu <;> rfl) (by have := HXI.out; unfold maxLen; omega) (by have := HXI.out; omega) (by rw [World.size_alloc]; exact Nat.le_succ_of_le B6.out.size) ?_; intro v7 w7 ho7 hg7 hn7 hat7; obtain ⟨b7, cc7, e7, _, _⟩ := ho7.form (Nat.succ_pos _); subst e7; have O7 := Lib.hid ho7; have G7 := Lib.hid hg7; have AT7 := Lib.hid hat7; clear ho7 hg7 hn7 hat7)))
      have b67 : Below wr.heap.size wr w7 := by
        have g6 := G6.out
        have g7 := G7.out
        have s6 := g6.size
        have s7 := g7.size
        rw [World.size_alloc] at s6 s7
        refine ⟨(g7.os.trans g6.os), (g7.tape.trans g6.tape), (g7.output.trans g6.output), by omega, fun k hk => ?_⟩
        refine (g7.block k (by rw [World.size_alloc]; omega) (fun e => ?_)).trans ((Below.heap_alloc w6 _ k (by omega)).trans ((g6.block k (by rw [World.size_alloc]; omega) (fun e => ?_)).trans (Below.heap_alloc wr _ k hk)))
        · rcases AT6.out with h | ⟨b, h, h2⟩
          · rw [h] at e; simp only [Value.ownBlock, Option.some.injEq] at e; omega
          · rw [h] at e; simp only [Option.some.injEq] at e; rw [World.size_alloc] at h2; omega
        · simp only [Value.ownBlock, Option.some.injEq] at e; omega
      have hbw : Below w.heap.size w w7 := HB.out.trans (b67.mono HB.out.size)
      have rc7 : w7.cell? ⟨g0, o0 + i, none⟩ = some (.slice A xs.length cA) := Below.cell1 b67 rc
      have ho7 : w7.ownsRow w.heap.size 32 3 (.slice (some ⟨b7, 0, none⟩) (xs.length + 1) cc7) (xs ++ [E 77 77 false]).length (erow S32.f0 S32.f1 S32.f2 (xs ++ [E 77 77 false])) := by rw [erow_snoc, List.length_append]; exact O7.out
      have hc7 := own_C ho7
      have hlen7 : (xs ++ [E 77 77 false]).length = xs.length + 1 := by simp
      have hcc : xs.length + 1 ≤ cc7 := by have := hc7.2.1; omega
      have hcells : CellsAt S32.f0 S32.f1 S32.f2 w7 b7 0 (xs ++ [E 77 77 false]) := cellsAt_of_own (n := xs.length + 1) S32.f0 S32.f1 S32.f2 (by rw [hlen7] at ho7; exact ho7)
      have hL : Lent1 w7 (.slice (some ⟨b7, 0, none⟩) xs.length cc7) xs := by
        obtain ⟨cur, hcur⟩ : ∃ cur, w7.heap[b7]? = some (.cells cur 32 (0, 0)) := by
          rcases ho7.2 with ⟨e, _⟩ | ⟨gg, cap, cur, e, _, h2, _⟩
          · cases e
          · injection e with e _ _
            injection e with e
            injection e with e
            subst e
            exact ⟨cur, h2⟩
        refine ⟨b7, cc7, cur, rfl, hcc, fun j x hj => hcells j x (by rw [List.getElem?_append_left (List.getElem?_eq_some_iff.1 hj).1]; exact hj), ?_, hcur⟩
        have := (hcells xs.length (E 77 77 false) (by simp)).1
        rwa [Nat.zero_add] at this
      have hcut := cut_cap (P := Try.prog) 25 32 .i64 Try.underlying25 hi0 (some ⟨b7, 0, none⟩) (xs.length + 1) cc7 (xs.length : Int) (by omega) (by omega)
      rw [Int.toNat_natCast] at hcut
      obtain ⟨curg, hcg⟩ : ∃ curg, wr.heap[g]? = some (.cells curg 25 (0, 0)) := by
        rcases HO.out.2 with ⟨e, _⟩ | ⟨gg, cap, cur, e, _, h2, _⟩
        · cases e
        · injection e with e _ _
          injection e with e
          injection e with e
          subst e
          exact ⟨cur, h2⟩
      have hcg7 : w7.heap[g]? = some (.cells curg 25 (0, 0)) := (b67.block g (Array.getElem?_eq_some_iff.1 hcg).1).trans hcg
      have HO7 := Lib.hid (ownsRow_keep HO.out (fun k hk => b67.block k (HO.out.lt k hk).2))
      have HV7 : Hid (∀ (k : Nat) (xs : List S32), (ls.take i)[k]? = some xs → ∃ v, vs[k]? = some v ∧ Lent1 w7 v xs) := Lib.hid (fun k ys hk => by
        obtain ⟨v, h1, h2⟩ := HV.out k ys hk
        exact ⟨v, h1, h2.keep (fun b cur hh => b67.block b (Array.getElem?_eq_some_iff.1 hh).1)⟩)
      have HBW := Lib.hid hbw
      have HLE := Lib.hid hL
      have HCG := Lib.hid hcg7
      clear b67 hbw ho7 hc7 hlen7 hcc hcells hL hcg hcg7 rc rc2
      go_wp2_with (at_builtin; have _t := tok3; clear _t tok3; go_must (refine wpList_append_own_at _ rfl (.tmp 22) (.tmp 30) 22 rfl w.heap.size 25 i5 _ 1 24 Try.underlying22 hi5 hz50 hz51 hz52 rfl (by decide) (.slice (some ⟨g, 0, none⟩) i c) i vs (by rfl) (HO7.out.alloc _) ⟨w7.heap.size, 0, none⟩ 1 1 [.slice (some ⟨b7, 0, none⟩) xs.length cc7] (by rfl) (by rfl) (World.news_of_block (cs := #[.slice (some ⟨b7, 0, none⟩) xs.length cc7]) (t := 25) (fr := (0, 0)) (World.alloc_heap_new w7 _)) (by intro u hu; rw [List.mem_singleton] at hu; subst hu; rfl) (by have := HIL.out; unfold maxLen; omega) (by have := HIL.out; omega) (by rw [World.size_alloc]; exact Nat.le_succ_of_le HBW.out.size) ?_; intro v8 w8 ho8 hg8 hn8 hat8; obtain ⟨g8, cg8, e8, _, _⟩ := ho8.form (Nat.succ_pos _); subst e8; have O8 := Lib.hid ho8; have G8 := Lib.hid hg8; clear ho8 hg8 hn8 hat8))
      have hk8 : ∀ k, k < w7.heap.size → k ≠ g → w8.heap[k]? = w7.heap[k]? := fun k hk hn => (G8.out.block k (by rw [World.size_alloc]; omega) (fun e => by simp only [Value.ownBlock, Option.some.injEq] at e; exact hn e)).trans (Below.heap_alloc w7 _ k hk)
      have hs8 := G8.out.size
      rw [World.size_alloc] at hs8
      have hgb : w.heap.size ≤ g := (HO7.out.lt g (by simp [Value.ownBlock])).1
      have hb8 : Below w.heap.size w w8 := HBW.out.trans ⟨G8.out.os, G8.out.tape, G8.out.output, by omega, fun k hk => hk8 k (Nat.lt_of_lt_of_le hk HBW.out.size) (by omega)⟩
      have hkp : ∀ (b : Nat) (cur : Array Value), w7.heap[b]? = some (Obj.cells cur 32 (0, 0)) → w8.heap[b]? = w7.heap[b]? := fun b cur hh => hk8 b (Array.getElem?_eq_some_iff.1 hh).1 (fun e => by
        subst e
        have := HCG.out
        rw [hh] at this
        injection this with this
        injection this with _ this _
        cases this)
      have hv8 : ∀ (k : Nat) (ys : List S32), (ls.take i2)[k]? = some ys → ∃ v, (vs ++ [Value.slice (some ⟨b7, 0, none⟩) xs.length cc7])[k]? = some v ∧ Lent1 w8 v ys := fun k ys hk => by
        have hvl : vs.length = i := by have := O8.out.1; simp at this; have := HO7.out.1; omega
        rw [HTK.out] at hk
        rcases Nat.lt_or_ge k i with hki | hki
        · rw [List.getElem?_append_left (by rw [HTL.out]; exact hki)] at hk
          obtain ⟨v, h1, h2⟩ := HV7.out k ys hk
          exact ⟨v, by rw [List.getElem?_append_left (by omega)]; exact h1, h2.keep hkp⟩
        · have hk2 : k = i := by
            have := (List.getElem?_eq_some_iff.1 hk).1
            rw [List.length_append, HTL.out] at this
            simp at this
            omega
          subst hk2
          rw [List.getElem?_append_right (by rw [HTL.out]; exact Nat.le_refl _), HTL.out, Nat.sub_self] at hk
          simp only [List.getElem?_cons_zero, Option.some.injEq] at hk
          subst hk
          exact ⟨_, by rw [List.getElem?_append_right (by omega), hvl, Nat.sub_self]; rfl, HLE.out.keep hkp⟩
      have HB8 := Lib.hid hb8
      have HV8 := Lib.hid hv8
      rw [HI3.out] at O8 ⊢
      clear hk8 hs8 hgb hb8 hkp hv8
      go_roundg (ls.length - i2)
      case measure => exact HI2.out.2.2
      case rel => exact ⟨i2, g8, cg8, _, rfl, rfl, Lib.hid ⟨HI2.out.1, HI2.out.2.1⟩, O8, HV8, HB8⟩
    · have hd : decide ((i : Int) < (ls.length : Int)) = false := decide_eq_false (fun h => hlt (Int.ofNat_lt.1 h))
      have hd2 : decide (i < ls.length) = false := decide_eq_false hlt
      have hie : i = ls.length := Nat.le_antisymm HI.out.1 (Nat.not_lt.1 hlt)
      subst hie
      clear hlt
      go_wp2_with (fail)
      refine bodyPost_ret (results_tmp rfl _ _ _) rfl ?_
      have hvl : vs.length = ls.length := by have := HO.out.1; omega
      obtain ⟨hcap⟩ : Nonempty (ls.length ≤ c) := by
        rcases HO.out.2 with ⟨e, _⟩ | ⟨gg, cap, cur, e, _, _, h3, _⟩
        · cases e
        · injection e with _ _ e; subst e; exact ⟨h3⟩
      refine ⟨g, c, rfl, hcap, fun k ys hk => ?_, HB.out⟩
      obtain ⟨v, h1, h2⟩ := HV.out k ys (by rw [List.take_length]; exact hk)
      have hkl := (List.getElem?_eq_some_iff.1 hk).1
      exact ⟨v, by rw [World.ownsRow.cellAt HO.out k (by omega)]; exact h1, h2⟩
end Go.Proofs.Ytojbfjfjhfnopaa.G
end

section
/- asWere: what was lent is as it was. -/
namespace Go.Proofs.Ytojbfjfjhfnopaa.G
open Go.RowKit Go.Shelf RangeD Go.Proofs.YtojbfjfjhfnopaaW.PrintWords Go.Proofs.YtojbfjfjhfnopaaW.PrintLast Go.Proofs.YtojbfjfjhfnopaaW.PrintMore
open SeqE MergeL MergeE
attribute [local go_sem] Oper.semAt_some
set_option linter.unusedVariables false
set_option linter.unusedSimpArgs false
theorem rows_of_Cc {w : World} {A0 : Option Addr} {ls : List (List S32)} (hr : Kd.C (Kd.slice 32 k32) w A0 ls.length ls) : ∃ g0 o0, (0 < ls.length → A0 = some ⟨g0, o0, none⟩) ∧ ∀ (i : Nat) (xs : List S32), ls[i]? = some xs → ∃ A c, w.cell? ⟨g0, o0 + i, none⟩ = some (.slice A xs.length c) ∧ Kd.C k32 w A xs.length xs ∧ xs.length ≤ c := by
  by_cases h0 : 0 < ls.length
  · obtain ⟨ad, e, hc⟩ := hr.2.2 h0
    have cells : ∀ (j : Nat) x, ls[j]? = some x → ∃ A c, w.cell? (ad.add j) = some (.slice A x.length c) ∧ Kd.C k32 w A x.length x ∧ x.length ≤ c := fun j x hj => by
      obtain ⟨c, _, ⟨A, c2, rfl, hle, hK⟩, hcc⟩ := hc j x hj
      have := hcc 0 _ rfl
      refine ⟨A, c2, ?_, hK, hle⟩
      simpa [Kd.slice] using this
    obtain ⟨A1, c1, h1, _⟩ := cells 0 _ (List.getElem?_eq_getElem h0)
    have hp := addr_plain h1
    refine ⟨ad.block, ad.off, fun _ => ?_, fun i xs hi => ?_⟩
    · rw [e]
      have e2 : ad.add 0 = ad := by simp [Addr.add]
      rw [← e2, hp]
    · obtain ⟨A, c, q1, q2, q3⟩ := cells i xs hi
      rw [addr_plain q1] at q1
      exact ⟨A, c, q1, q2, q3⟩
  · exact ⟨0, 0, fun h => absurd h h0, fun i xs hi => absurd (List.getElem?_eq_some_iff.1 hi).1 (by omega)⟩
theorem C_of_cells {W : World} {b : Nat} {xs : List S32} (h : CellsAt S32.f0 S32.f1 S32.f2 W b 0 xs) (hm : xs.length ≤ 9223372036854775807) : Kd.C k32 W (some ⟨b, 0, none⟩) xs.length xs := by
  refine ⟨rfl, hm, fun _ => ⟨⟨b, 0, none⟩, rfl, fun j x hj => ⟨_, rfl, k32_mk W x, fun i u hu => ?_⟩⟩⟩
  obtain ⟨q0, q1, q2⟩ := h j x hj
  rw [Nat.zero_add] at q0 q1 q2
  show W.cell? ((⟨b, 0, none⟩ : Addr).add (j * 3 + i)) = some u
  rw [add_plain]
  match i, hu with
  | 0, hu => simp only [List.getElem?_cons_zero, Option.some.injEq] at hu; subst hu; exact q0
  | 1, hu => simp only [List.getElem?_cons_succ, List.getElem?_cons_zero, Option.some.injEq] at hu; subst hu; exact q1
  | 2, hu => simp only [List.getElem?_cons_succ, List.getElem?_cons_zero, Option.some.injEq] at hu; subst hu; exact q2
  | i + 3, hu => simp at hu
set_option maxRecDepth 100000 in
set_option maxHeartbeats 4000000 in
theorem asWere_calls (g c : Nat) (A0 : Option Addr) (c0 : Nat) (ls : List (List S32)) (w : World) (hl : Lent w g ls) (hr : Kd.C (Kd.slice 32 k32) w A0 ls.length ls) (hs : ls.length ≤ 1048576 ∧ ∀ xs ∈ ls, xs.length ≤ 1048576) :
    Calls Try.prog 15 #[.slice (some ⟨g, 0, none⟩) ls.length c, .slice A0 ls.length c0] w fun e w' => e = .returned (.bool true) ∧ ∃ n, w' = w.drewN n := by
  obtain ⟨g0, o0, hA, hrows⟩ := rows_of_Cc hr
  have HA := Lib.hid hA
  have HRW := Lib.hid hrows
  have HS := Lib.hid hs
  have HLN := Lib.hid hl
  obtain ⟨i0, hi0, hz0, hz1, hz2⟩ := info_parts info32e
  clear hr hA hrows hs hl
  go_enter Try.func15, Try.ntmps15
  go_wp2_with (fail)
  go_loopg [5] ls.length (fun kq v5 w' => ∃ i : Nat, v5 = .int .i64 (i : Int) ∧ Hid (i ≤ ls.length ∧ ls.length ≤ kq + i) ∧ Hid (∃ n, w' = w.drewN n))
  case atStart => exact ⟨0, rfl, Lib.hid ⟨Nat.zero_le _, Nat.le_refl _⟩, Lib.hid ⟨0, rfl⟩⟩
  case round =>
    obtain ⟨i, rfl, HI, HW⟩ := hrel
    obtain ⟨nd, rfl⟩ := HW.out
    by_cases hlt : i < ls.length
    · have hd : decide ((i : Int) < (ls.length : Int)) = true := decide_eq_true (Int.ofNat_lt.2 hlt)
      have hd2 : decide (i < ls.length) = true := decide_eq_true hlt
      have hb1 : (0 : Int) ≤ (i : Int) := Int.natCast_nonneg i
      have hb2 : (i : Int) < (ls.length : Int) := Int.ofNat_lt.2 hlt
      obtain rfl := HA.out (by omega)
      obtain ⟨A, cA, r1, r2, r3⟩ := HRW.out i _ (List.getElem?_eq_getElem hlt)
      obtain ⟨v, q1, q2⟩ := HLN.out i _ (List.getElem?_eq_getElem hlt)
      have hxi := HS.out.2 _ (List.getElem_mem hlt)
      obtain ⟨i2, hi2⟩ : ∃ i2, i + 1 = i2 := ⟨_, rfl⟩
      have hi3 : (i : Int) + 1 = (i2 : Int) := by rw [← hi2]; rfl
      have HI2 := Lib.hid (loop_nums hi2 hlt HI.out.2)
      have hw2 : IntKind.i64.wrap (i2 : Int) = (i2 : Int) := IntWalk.i64_in _ (by have := HI2.out.1; have := HS.out.1; omega)
      generalize ls[i] = xs at *
      obtain ⟨b, cc, cur, rfl, hcc, hcells, hmark, hcur⟩ := q2
      obtain ⟨m, hm⟩ : ∃ m, xs.length + 1 = m := ⟨_, rfl⟩
      have hm3 : (xs.length : Int) + 1 = (m : Int) := by rw [← hm]; rfl
      have hwm : IntKind.i64.wrap (m : Int) = (m : Int) := IntWalk.i64_in _ (by omega)
      have hcut := cut_cap (P := Try.prog) 25 32 .i64 Try.underlying25 hi0 (some ⟨b, 0, none⟩) xs.length cc (m : Int) (by omega) (by omega)
      rw [Int.toNat_natCast] at hcut
      have hb3 : (0 : Int) ≤ (xs.length : Int) := Int.natCast_nonneg _
      have hb4 : (xs.length : Int) < (m : Int) := by omega
      have e1 : (w.drewN nd).cell? ⟨g0, o0 + i, none⟩ = some (.slice A xs.length cA) := r1
      have e2 : (w.drewN nd).cell? ⟨g, i, none⟩ = some (.slice (some ⟨b, 0, none⟩) xs.length cc) := q1
      have e3 : (w.drewN nd).cell? ⟨b, xs.length * 3, none⟩ = some (.int .u64 77) := hmark
      have HC1 : Hid (Kd.C k32 w (some ⟨b, 0, none⟩) xs.length xs) := Lib.hid (C_of_cells hcells (by omega))
      have HC2 := Lib.hid (And.intro r2 r3)
      have HXI := Lib.hid hxi
      have HCC : Hid (xs.length ≤ cc) := Lib.hid (by omega)
      clear r2 r3 hxi hlt hi2 hcells hcur hcc hm
      go_upto_region 4 with (fail)
      go_cut [43] (fun v43 wd => v43 = .bool false ∧ Hid (∃ n, wd = w.drewN n))
      case first =>
        go_quiet (first | (go_at_call 14; refine (inclinelaw13_same.calls (xs.length + 1) (some ⟨b, 0, none⟩) cc xs A cA xs true _ ?s1 HCC.out ?s2 HC2.out.2 (same_f rfl (by have := HXI.out; omega) _ (Nat.lt_succ_self _))).mono ?_; (case s1 => repeat (first | exact HC1.out | (with_reducible refine Kd.C_drewN ?_ _) | (with_reducible refine Kd.C_drew ?_))); (case s2 => repeat (first | exact HC2.out.1 | (with_reducible refine Kd.C_drewN ?_ _) | (with_reducible refine Kd.C_drew ?_))); rintro e w2 ⟨rfl, ⟨nd2, rfl⟩⟩; exact ⟨rfl, _, (World.drewN_drewN ..).trans (congrArg w.drewN (Nat.add_assoc _ _ _))⟩))
        go_wp2_with (fail)
        go_meet
        case rel => exact ⟨rfl, Lib.hid ⟨_, rfl⟩⟩
      case rest =>
        obtain ⟨rfl, HND⟩ := hcut
        obtain ⟨nd2, rfl⟩ := HND.out
        go_wp2_with (fail)
        go_roundg (ls.length - i2)
        case measure => exact HI2.out.2.2
        case rel => exact ⟨i2, rfl, Lib.hid ⟨HI2.out.1, HI2.out.2.1⟩, Lib.hid ⟨_, rfl⟩⟩
    · have hd : decide ((i : Int) < (ls.length : Int)) = false := decide_eq_false (fun h => hlt (Int.ofNat_lt.1 h))
      have hd2 : decide (i < ls.length) = false := decide_eq_false hlt
      clear hlt
      go_wp2_with (fail)
      refine bodyPost_ret (results_tmp rfl _ _ _) rfl ?_
      exact ⟨rfl, _, rfl⟩
end Go.Proofs.Ytojbfjfjhfnopaa.G
end

section
/- The reference's Sift. -/
namespace Go.Proofs.Ytojbfjfjhfnopaa.MergeE
open Go.RowKit Go.Shelf RangeD SeqE MergeL HeapL HeapE
attribute [local go_sem] Oper.semAt_some
set_option linter.unusedVariables false
section
variable {α : Type} {ek ev : α → Int} {eb : α → Bool}
set_option maxRecDepth 100000 in
set_option maxHeartbeats 2000000 in
theorem refSift_calls (A : Option Addr) (g o c : Nat) (xs : List α) (A2 : Option Addr) (g2 o2 c2 : Nat) (lv : List Int) (w : World) (hA : 0 < xs.length → A = some ⟨g, o, none⟩) (hcs : CellsAt ek ev eb w g o xs) (hx : (xs.length + 1) * 24 ≤ 140737488355328)
    (hA2 : 0 < lv.length → A2 = some ⟨g2, o2, none⟩) (hc2 : ∀ (j : Nat) (x : Int), lv[j]? = some x → w.cell? ⟨g2, o2 + j, none⟩ = some (.int .u64 x)) (hl2 : lv.length ≤ 140737488355328) :
    Calls Try.prog 26 #[.slice A xs.length c, .slice A2 lv.length c2] w fun e w' => ∃ v, e = .returned v ∧ w'.ownsRow w.heap.size 32 3 v (sift ek eb (fun k => lv.contains k) xs).length (erow ek ev eb (sift ek eb (fun k => lv.contains k) xs)) ∧ Below w.heap.size w w' := by
  have HA := Lib.hid hA
  have HC := Lib.hid hcs
  have HX := Lib.hid hx
  have HA2 := Lib.hid hA2
  have HC2 := Lib.hid hc2
  have HL2 := Lib.hid hl2
  obtain ⟨p, hp⟩ : ∃ p : Int → Bool, (fun k => lv.contains k) = p := ⟨_, rfl⟩
  have HP : Hid (∀ k, lv.contains k = p k) := Lib.hid (fun k => by rw [← hp])
  rw [hp]
  obtain ⟨i0, hi0, hz0, hz1, hz2⟩ := info_parts info32e
  clear hA hcs hx hA2 hc2 hl2 hp
  go_enter Try.func26, Try.ntmps26
  go_wp2_with (fail)
  go_loopg [5, 6] xs.length (fun kq v5 v6 w' => ∃ (i : Nat) (A5 : Option Addr) (c5 m5 : Nat), v6 = .int .i64 (i : Int) ∧ v5 = .slice A5 m5 c5 ∧ Hid (m5 = (sift ek eb p (xs.take i)).length) ∧ Hid (i ≤ xs.length ∧ xs.length ≤ kq + i) ∧ Hid (w'.ownsRow w.heap.size 32 3 (.slice A5 m5 c5) m5 (erow ek ev eb (sift ek eb p (xs.take i)))) ∧ Hid (Below w.heap.size w w'))
  case atStart => exact ⟨0, some ⟨w.heap.size, 0, none⟩, 0, 0, rfl, rfl, Lib.hid rfl, Lib.hid ⟨Nat.zero_le _, Nat.le_refl _⟩, Lib.hid (World.ownsRow_lit (base := w.heap.size) (e := 32) (size := 3) w #[] 0 (Nat.le_refl _) (by unfold maxLen; omega) rfl), Lib.hid ((Below.refl _ _).alloc (Nat.le_refl _) _)⟩
  case round =>
    obtain ⟨i, A5, c5, m5, rfl, rfl, HM5, HI, HO5, HB⟩ := hrel
    by_cases hlt : i < xs.length
    · have hd : decide ((i : Int) < (xs.length : Int)) = true := decide_eq_true (Int.ofNat_lt.2 hlt)
      have hd2 : decide (i < xs.length) = true := decide_eq_true hlt
      have hb1 : (0 : Int) ≤ (i : Int) := Int.natCast_nonneg i
      have hb2 : (i : Int) < (xs.length : Int) := Int.ofNat_lt.2 hlt
      obtain rfl := HA.out (by omega)
      have c0 := Below.cell1 HB.out (HC.out i _ (List.getElem?_eq_getElem hlt)).1
      have c1 := Below.cell1 HB.out (HC.out i _ (List.getElem?_eq_getElem hlt)).2.1
      have c2 := Below.cell1 HB.out (HC.out i _ (List.getElem?_eq_getElem hlt)).2.2
      have hnx := sift_next (ek := ek) (eb := eb) p xs i hlt
      obtain ⟨i2, hi2⟩ : ∃ i2, i + 1 = i2 := ⟨_, rfl⟩
      have hi3 : (i : Int) + 1 = (i2 : Int) := by rw [← hi2]; rfl
      have HI2 := Lib.hid (loop_nums hi2 hlt HI.out.2)
      have hw2 : IntKind.i64.wrap (i2 : Int) = (i2 : Int) := IntWalk.i64_in _ (fits_int HX.out HI2.out.1)
      rw [hi2] at hnx
      generalize xs[i] = x at *
      have HNX := Lib.hid hnx
      have HL5 : Hid ((m5 + 1) * 24 ≤ 140737488355328) := Lib.hid (fits24 (by rw [HM5.out]; exact sift_le p xs i) HX.out)
      have HC2' : Hid (∀ (j : Nat) (x : Int), lv[j]? = some x → wr.cell? ⟨g2, o2 + j, none⟩ = some (.int .u64 x)) := Lib.hid (fun j x hj => Below.cell1 HB.out (HC2.out j x hj))
      clear hnx hlt
      go_upto_region 5 with (fail)
      go_cut [28] (fun v28 wd => v28 = .bool (!eb x || p (ek x)) ∧ Hid (∃ n, wd = wr.drewN n))
      case first =>
        cases hbx : eb x with
        | false =>
          rw [hbx] at c2
          go_wp2_with (fail)
          go_meet
          case rel => exact ⟨by rw [hbx]; rfl, Lib.hid ⟨0, rfl⟩⟩
        | true =>
          rw [hbx] at c2
          go_wp2_with (go_at_call 24; go_must (refine (live_calls A2 g2 o2 _ lv (ek x) wr HA2.out HC2'.out HL2.out (p (ek x)) (HP.out _)).mono ?_; rintro e w2 ⟨rfl, ⟨nd, rfl⟩⟩))
          go_meet
          case rel => exact ⟨by rw [hbx]; rfl, Lib.hid ⟨_, rfl⟩⟩
      case rest =>
        obtain ⟨rfl, HND⟩ := hcut
        obtain ⟨nd, rfl⟩ := HND.out
        have HO7 : Hid ((wr.drewN nd).ownsRow w.heap.size 32 3 (.slice A5 m5 c5) m5 (erow ek ev eb (sift ek eb p (xs.take i)))) := Lib.hid (ownsRow_keep HO5.out (fun _ _ => rfl))
        have d0 : (wr.drewN nd).cell? ⟨g, o + i * 3, none⟩ = some (.int .u64 (ek x)) := c0
        have d1 : (wr.drewN nd).cell? ⟨g, o + i * 3 + 1, none⟩ = some (.int .u64 (ev x)) := c1
        have d2 : (wr.drewN nd).cell? ⟨g, o + i * 3 + 2, none⟩ = some (.bool (eb x)) := c2
        have HB2 : Hid (Below w.heap.size w (wr.drewN nd)) := Lib.hid (HB.out.trans ⟨rfl, rfl, rfl, Nat.le_refl _, fun _ _ => rfl⟩)
        clear HO5 HB HC2' c0 c1 c2
        generalize wr.drewN nd = X2 at *
        obtain ⟨bb, hbb⟩ : ∃ bb, (!eb x || p (ek x)) = bb := ⟨_, rfl⟩
        rw [hbb]
        have HBB := Lib.hid hbb
        clear hbb
        cases bb with
        | false =>
          go_wp2_with (fail)
          go_roundg (xs.length - i2)
          case measure => exact HI2.out.2.2
          case rel => exact ⟨i2, A5, c5, m5, rfl, rfl, Lib.hid (by rw [HM5.out, HNX.out, HBB.out]; simp), Lib.hid ⟨HI2.out.1, HI2.out.2.1⟩, Lib.hid (by rw [HNX.out, HBB.out]; simpa using HO7.out), HB2⟩
        | true =>
          have hx3 : ∀ u ∈ [Value.int .u64 (ek x), .int .u64 (ev x), .bool (eb x)], u.oneCell' = true := by
            intro u hu
            simp only [List.mem_cons, List.not_mem_nil, or_false] at hu
            rcases hu with hu | hu | hu <;> subst hu <;> rfl
          have HX3 := Lib.hid hx3
          clear hx3
          go_wp2_with (first | (at_builtin; go_must (refine wpList_append_own_at _ rfl (.tmp 29) (.tmp 34) 25 rfl w.heap.size 32 i0 _ 3 24 Try.underlying25 hi0 hz0 hz1 hz2 rfl (by decide) (.slice A5 m5 c5) m5 (erow ek ev eb (sift ek eb p (xs.take i))) (by rfl) (HO7.out.alloc _) ⟨X2.heap.size, 0, none⟩ 1 1 [.int .u64 (ek x), .int .u64 (ev x), .bool (eb x)] (by rfl) (by rfl) (World.news_of_block (cs := #[.int .u64 (ek x), .int .u64 (ev x), .bool (eb x)]) (t := 32) (fr := (0, 0)) (World.alloc_heap_new X2 _)) HX3.out (len_max HL5.out) HL5.out (by rw [World.size_alloc]; exact Nat.le_succ_of_le HB2.out.size) ?_; intro v5 w3 hown1 hgrow hnil hat; have HOWN1 := Lib.hid hown1; have HGR := Lib.hid hgrow; clear hown1 hgrow hnil hat)))
          have hys : sift ek eb p (xs.take i2) = sift ek eb p (xs.take i) ++ [x] := by rw [HNX.out, HBB.out]; simp
          have hlen : (sift ek eb p (xs.take i2)).length = m5 + 1 := by rw [hys, List.length_append, ← HM5.out]; rfl
          have ho : w3.ownsRow w.heap.size 32 3 v5 (m5 + 1) (erow ek ev eb (sift ek eb p (xs.take i2))) := by rw [hys, erow_snoc]; exact HOWN1.out
          obtain ⟨A6, c6, rfl⟩ := own_slice ho hlen.symm
          rw [hlen] at ho ⊢
          have hb3 : Below w.heap.size w w3 := HB2.out.trans ⟨HGR.out.os, HGR.out.tape, HGR.out.output, by have := HGR.out.size; rw [World.size_alloc] at this; omega, fun k hk => by
            have hs2 := HB2.out.size
            exact (HGR.out.block k (by rw [World.size_alloc]; omega) (fun e => by have := (HO7.out.lt k e.symm).1; omega)).trans (Below.heap_alloc X2 _ k (by omega))⟩
          have HH := Lib.hid (And.intro ho hb3)
          clear ho hb3
          go_roundg (xs.length - i2)
          case measure => exact HI2.out.2.2
          case rel => exact ⟨i2, A6, c6, m5 + 1, rfl, rfl, Lib.hid hlen.symm, Lib.hid ⟨HI2.out.1, HI2.out.2.1⟩, Lib.hid HH.out.1, Lib.hid HH.out.2⟩
    · have hd : decide ((i : Int) < (xs.length : Int)) = false := decide_eq_false (fun h => hlt (Int.ofNat_lt.1 h))
      have hd2 : decide (i < xs.length) = false := decide_eq_false hlt
      have htk : xs.take i = xs := List.take_of_length_le (Nat.not_lt.1 hlt)
      have HTK := Lib.hid htk
      clear htk hlt
      go_wp2_with (fail)
      refine bodyPost_ret (results_tmp rfl _ _ _) rfl ?_
      have h1 := HO5.out
      rw [HTK.out] at h1
      have h2 := HM5.out
      rw [HTK.out] at h2
      exact ⟨_, rfl, by rw [← h2]; exact h1, HB.out⟩
end
end Go.Proofs.Ytojbfjfjhfnopaa.MergeE
end

section
/- The walk of MergeSifts. -/
namespace Go.Proofs.Ytojbfjfjhfnopaa.G
open Go.RowKit Go.Shelf RangeD Go.Proofs.YtojbfjfjhfnopaaW.PrintWords Go.Proofs.YtojbfjfjhfnopaaW.PrintLast Go.Proofs.YtojbfjfjhfnopaaW.PrintMore
open SeqE MergeL MergeE
set_option linter.unusedVariables false
theorem ownsRow_set {w : World} {base : Nat} {e : TypeId} {size g n cap : Nat} {inner : List Value} (h : w.ownsRow base e size (.slice (some ⟨g, 0, none⟩) n cap) n inner) (j : Nat) (u : Value) : (w.setCell ⟨g, j, none⟩ u).ownsRow base e size (.slice (some ⟨g, 0, none⟩) n cap) n (inner.set j u) := by
  refine ⟨by rw [List.length_set]; exact h.1, ?_⟩
  rcases h.2 with ⟨e, _⟩ | ⟨gg, cap2, cur, e, h1, h2, h3, h4, h5, h6⟩
  · cases e
  · injection e with e _ ec
    injection e with e
    injection e with e
    subst e ec
    refine .inr ⟨g, cap, cur.setIfInBounds j u, rfl, h1, HeapL.setCell_blk h2 u, h3, h4, by simp [h5], ?_⟩
    rw [Array.toList_setIfInBounds, List.take_set, h6]
/-- While what was answered is overwritten, and appended to: W3 is the world behind the copy, W4 behind the answer. -/
structure SI (W3 W4 X : World) (va vw : Value) (n : Nat) (m : List S32) : Prop where
  below : Below W3.heap.size W3 X
  le : W4.heap.size ≤ X.heap.size
  want : X.ownsRow W4.heap.size 32 3 vw m.length (erow S32.f0 S32.f1 S32.f2 m)
  own : ∃ inner, X.ownsRow W3.heap.size 32 3 va n inner
  blk : ∀ k, va.ownBlock = some k → W3.heap.size ≤ k ∧ k < W4.heap.size
theorem SI.drawn {W3 W4 X : World} {va vw : Value} {n : Nat} {m : List S32} (h : SI W3 W4 X va vw n m) (d : Nat) : SI W3 W4 (X.drewN d) va vw n m :=
  ⟨h.below.trans ⟨rfl, rfl, rfl, Nat.le_refl _, fun _ _ => rfl⟩, h.le, ownsRow_keep h.want (fun _ _ => rfl), h.own.imp fun _ h => ownsRow_keep h (fun _ _ => rfl), h.blk⟩
theorem SI.step {W3 W4 X X1 : World} {va vw : Value} {n : Nat} {m : List S32} (h : SI W3 W4 X va vw n m) (hb : Below X.heap.size X X1) : SI W3 W4 X1 va vw n m :=
  ⟨h.below.trans (hb.mono h.below.size), Nat.le_trans h.le hb.size, ownsRow_keep h.want (fun k hk => hb.block k (h.want.lt k hk).2), h.own.imp fun _ hh => ownsRow_keep hh (fun k hk => hb.block k (hh.lt k hk).2), h.blk⟩
theorem SI.set {W3 W4 X : World} {g c n : Nat} {vw : Value} {m : List S32} (h : SI W3 W4 X (.slice (some ⟨g, 0, none⟩) n c) vw n m) (j : Nat) (u : Value) : SI W3 W4 (X.setCell ⟨g, j, none⟩ u) (.slice (some ⟨g, 0, none⟩) n c) vw n m := by
  have hb := h.blk g (by simp [Value.ownBlock])
  have hsz : (X.setCell ⟨g, j, none⟩ u).heap.size = X.heap.size := by simp [World.setCell]
  refine ⟨⟨h.below.os, h.below.tape, h.below.output, by rw [hsz]; exact h.below.size, fun k hk => (Below.heap_setCell X ⟨g, j, none⟩ u k (by show k ≠ g; omega)).trans (h.below.block k hk)⟩, by rw [hsz]; exact h.le, ownsRow_keep h.want (fun k hk => Below.heap_setCell X ⟨g, j, none⟩ u k (by have := (h.want.lt k hk).1; show k ≠ g; omega)), ?_, h.blk⟩
  obtain ⟨inner, hi⟩ := h.own
  exact ⟨_, ownsRow_set hi j u⟩
theorem SI.form {W3 W4 X : World} {va vw : Value} {n : Nat} {m : List S32} (h : SI W3 W4 X va vw n m) (hn : 0 < n) : ∃ g c, va = .slice (some ⟨g, 0, none⟩) n c := by
  obtain ⟨inner, hi⟩ := h.own
  obtain ⟨g, c, e, _⟩ := hi.form hn
  exact ⟨g, c, e⟩
theorem SI.cells {W3 W4 X : World} {g c n : Nat} {vw : Value} {m : List S32} (h : SI W3 W4 X (.slice (some ⟨g, 0, none⟩) n c) vw n m) (j : Nat) (hj : j < n * 3) : (∃ u, X.cell? ⟨g, j, none⟩ = some u) ∧ X.frozen? ⟨g, j, none⟩ = false := by
  obtain ⟨inner, hi⟩ := h.own
  refine ⟨⟨inner[j]'(by rw [hi.1]; exact hj), ?_⟩, ?_⟩
  · rw [World.ownsRow.cellAt hi j hj, List.getElem?_eq_getElem]
  · rcases hi.2 with ⟨e, _⟩ | ⟨gg, cap2, cur, e, _, h2, _⟩
    · cases e
    · injection e with e _ _
      injection e with e
      injection e with e
      subst e
      simp [World.frozen?, h2]
/-- One more is appended. -/
theorem SI.more {W3 W4 X X1 : World} {va vw v8 : Value} {n : Nat} {m : List S32} {o : Obj} {inner news : List Value} (h : SI W3 W4 X va vw n m) (h1 : X1.ownsRow W3.heap.size 32 3 v8 (n + 1) (inner ++ news)) (hg : (X.alloc o).grownBy X1 va.ownBlock) : Below W3.heap.size W3 X1 ∧ W4.heap.size ≤ X1.heap.size ∧ X1.ownsRow W4.heap.size 32 3 vw m.length (erow S32.f0 S32.f1 S32.f2 m) := by
  have hs := hg.size
  rw [World.size_alloc] at hs
  have hk : ∀ k, k < X.heap.size → (∀ j, va.ownBlock = some j → k ≠ j) → X1.heap[k]? = X.heap[k]? := fun k hk hn => (hg.block k (by rw [World.size_alloc]; omega) (fun e => hn k e.symm rfl)).trans (Below.heap_alloc X o k hk)
  refine ⟨h.below.trans ⟨hg.os, hg.tape, hg.output, by omega, fun k hk2 => hk k (Nat.lt_of_lt_of_le hk2 h.below.size) (fun j hj e => by have := h.blk j hj; omega)⟩, by have := h.le; omega, ownsRow_keep h.want (fun k hk2 => hk k (h.want.lt k hk2).2 (fun j hj e => by have := h.blk j hj; have := (h.want.lt k hk2).1; omega))⟩
end Go.Proofs.Ytojbfjfjhfnopaa.G
namespace Go.Proofs.Ytojbfjfjhfnopaa
open Go.RowKit Go.Proofs.YtojbfjfjhfnopaaW.PrintWords Go.Proofs.YtojbfjfjhfnopaaW.PrintLast Go.Proofs.Ytojbfjfjhfnopaa.Reading G MergeL MergeE SeqE
set_option linter.unusedVariables false
set_option linter.unusedSimpArgs false
set_option maxHeartbeats 8000000 in
set_option maxRecDepth 1000000 in
theorem Walks.MergeSifts {w : World} (A0 : Option Addr) (c0 : Nat) (l0 : List S32) (hC0 : Kd.C k32 w A0 l0.length l0) (hl0 : l0.length ≤ c0) (hg0 : (l0.length * 24 ≤ reach ∧ l0.length ≤ maxLen) ∧ ∀ x ∈ l0, (Lit.int .u64 x.f0).wf = true ∧ (Lit.int .u64 x.f1).wf = true ∧ True)
    (A2 : Option Addr) (c2 : Nat) (l2 : List Int) (hC2 : Kd.C (Kd.int .u64) w A2 l2.length l2) (hl2 : l2.length ≤ c2) (hg2 : (l2.length * 8 ≤ reach ∧ l2.length ≤ maxLen) ∧ ∀ x ∈ l2, (Lit.int .u64 x).wf = true)
    (hb : l0.length + 1 + (l2.length + 1) ≤ 1048576) :
    Calls Try.prog 6 #[.slice A0 l0.length c0, .slice A2 l2.length c2] w fun e w' => e = .returned (.bool true) ∧ Below w.heap.size w w' := by
  obtain ⟨g2, o2, hA2, hcc2⟩ : ∃ g o, (0 < l2.length → A2 = some ⟨g, o, none⟩) ∧ ∀ (j : Nat) (x : Int), l2[j]? = some x → w.cell? ⟨g, o + j, none⟩ = some (.int .u64 x) := by
    by_cases h0 : 0 < l2.length
    · obtain ⟨ad, e, hc⟩ := hC2.2.2 h0
      have cells : ∀ (j : Nat) (x : Int), l2[j]? = some x → w.cell? (ad.add j) = some (.int .u64 x) := fun j x hj => by
        obtain ⟨c, _, hK, hcc⟩ := hc j x hj
        have hK2 : c = [.int .u64 x] := hK
        subst hK2
        have this : w.cell? (ad.add (j * 1 + 0)) = some (.int .u64 x) := hcc 0 _ rfl
        rwa [Nat.mul_one, Nat.add_zero] at this
      refine ⟨ad.block, ad.off, fun _ => ?_, fun j x hj => ?_⟩
      · rw [e]
        have hp := addr_plain (cells 0 _ (List.getElem?_eq_getElem h0))
        have e2 : ad.add 0 = ad := by simp [Addr.add]
        rw [← e2, hp]
      · have := cells j x hj
        rw [addr_plain this] at this
        exact this
    · exact ⟨0, 0, fun h => absurd h h0, fun j x hj => absurd (List.getElem?_eq_some_iff.1 hj).1 (by omega)⟩
  have S0 : Hid (SB w (w.alloc (.cells #[.slice A2 l2.length c2] 49)) [(A0, c0, l0)] w.heap.size A2 g2 o2 c2 l2) := Lib.hid
    ⟨St.alloc ⟨Below.refl _ w, okl1 ⟨hC0, hl0⟩⟩ _, ⟨World.alloc_heap_new w _, hA2, fun j x hj => Below.cell1 ((Below.refl _ w).alloc (Nat.le_refl _) _) (hcc2 j x hj), by omega⟩⟩
  have HS : Hid (l0.length ≤ 1048576) := Lib.hid (by omega)
  have HA2 := Lib.hid hA2
  have HL2 : Hid (l2.length ≤ 140737488355328) := Lib.hid (by omega)
  obtain ⟨m, hm⟩ : ∃ m, Sifted.sft (fun k => l2.contains k) l0 = m := ⟨_, rfl⟩
  have HLM : Hid (m.length ≤ 1048576) := Lib.hid (by have : m.length ≤ l0.length := (by rw [← hm]; exact List.length_filter_le _ _); omega)
  have HM : Hid (sift S32.f0 S32.f2 (fun k => l2.contains k) l0 = m) := Lib.hid hm
  obtain ⟨i0, hi0, hz0, hz1, hz2⟩ := info_parts info32e
  clear hC0 hl0 hg0 hC2 hl2 hg2 hb hA2 hcc2 hm
  go_enter Try.func6, Try.ntmps6
  go_upto_region 4 with (go_at_call 10; go_must (refine (inclinelaw13_shown.calls true _ rfl).mono ?_; rintro e W2 ⟨rfl, hb⟩; have S2 := Lib.hid (S0.out.step hb); clear hb))
  go_upto_region 6 with (go_at_call 11; go_must (refine (copied_calls (some ⟨W2.heap.size, 0, none⟩) 1 [l0] _ (lit_rows W2 [(A0, c0, l0)] #[.slice A0 l0.length c0] rfl (okl1 (S2.out.get 0 rfl)) (by simp)) ⟨by simp, fun xs hx => by rw [List.mem_singleton] at hx; subst hx; exact HS.out⟩).mono ?_; rintro e W3 ⟨g, c, rfl, hcap, hlent, hb⟩; have S3 := Lib.hid ((S2.out.alloc _).step hb); have LN := Lib.hid hlent; clear hcap hlent hb))
  obtain ⟨v0, q1, ⟨b, cc, cur, rfl, hcc, hcells, hmark, hcur⟩⟩ := LN.out 0 l0 rfl
  have HOK : Hid (RowLit.ok W3 (some ⟨b, 0, none⟩, cc, l0)) := Lib.hid ⟨C_of_cells hcells (by have := HS.out; show l0.length ≤ _; omega), by show l0.length ≤ cc; omega⟩
  have HCB := Lib.hid (And.intro hcells hcur)
  have HQ1 := Lib.hid q1
  clear hcc hcells hmark hcur
  go_upto_region 7 with (go_at_call 25; go_must (refine (sift_calls (ek := S32.f0) (ev := S32.f1) (eb := S32.f2) (some ⟨b, 0, none⟩) b 0 cc 23 #[.pointer (some ⟨w.heap.size, 0, none⟩)] (fun k => l2.contains k) l0 W3 (fun _ => rfl) HCB.out.1 (fun _ => (Array.getElem?_eq_some_iff.1 HCB.out.2).1) (by have := HS.out; omega) goes23 (fun x _ w1 hb => is2_calls w.heap.size A2 g2 o2 c2 l2 x.f0 w1 (S3.out.bx.below hb) _ rfl)).mono ?_; rw [HM.out]; rintro e W4 ⟨va, rfl, h1, h2⟩; obtain ⟨Aa, ca, rfl⟩ := own_slice h1 rfl; have O4 := Lib.hid h1; have B4 := Lib.hid h2; clear h1 h2))
  have hbx4 : W4.cell? ⟨w.heap.size, 0, none⟩ = some (.slice A2 l2.length c2) := by rw [cell_of_row W4 _ 0 _ _ _ (S3.out.step B4.out).bx.box]; rfl
  go_upto_region 8 with (go_at_call 26; go_must (obtain ⟨g9, o9, h91, h92⟩ := lies_of_C ((S3.out.step B4.out).get 0 rfl : RowLit.ok _ (A0, c0, l0)).1; refine (refSift_calls (ek := S32.f0) (ev := S32.f1) (eb := S32.f2) A0 g9 o9 c0 l0 A2 g2 o2 c2 l2 W4 (fun h => (h91 h).1) h92 (by have := HS.out; omega) HA2.out (S3.out.step B4.out).bx.cells HL2.out).mono ?_; rw [HM.out]; rintro e W5 ⟨vw, rfl, h1, h2⟩; obtain ⟨Aw, cw, rfl⟩ := own_slice h1 rfl; have O5 := Lib.hid h1; have B5 := Lib.hid h2; clear h1 h2 h91 h92))
  have SI5 : Hid (SI W3 W4 W5 (.slice Aa m.length ca) (.slice Aw m.length cw) m.length m) := Lib.hid ⟨B4.out.trans (B5.out.mono B4.out.size), B5.out.size, O5.out, ⟨_, ownsRow_keep O4.out (fun k hk => B5.out.block k (O4.out.lt k hk).2)⟩, fun k hk => O4.out.lt k hk⟩
  have HA5 : Hid (RowLit.ok W5 (Aa, ca, m)) := Lib.hid (by
    have h := own_C (ownsRow_keep O4.out (fun k hk => B5.out.block k (O4.out.lt k hk).2))
    exact ⟨h.1, h.2.1⟩)
  have HW5 : Hid (∀ X, SI W3 W4 X (.slice Aa m.length ca) (.slice Aw m.length cw) m.length m → RowLit.ok X (Aw, cw, m)) := Lib.hid (fun X h => by
    have h := own_C h.want
    exact ⟨h.1, h.2.1⟩)
  clear hbx4 O4 O5 B5
  have tok1 : Hid True := Lib.hid trivial
  go_upto_region 10 with (first
    | (go_at_call 14; have _t := tok1; clear _t tok1; go_must (refine (same_rows _ (Aa, ca, m) (Aw, cw, m) HA5.out (HW5.out _ SI5.out) rfl (by show m.length ≤ _; have := HLM.out; omega)).mono ?_; rintro e W6 ⟨rfl, ⟨nd, hz⟩⟩; have SI6 : Hid (SI W3 W4 W6 (.slice Aa m.length ca) (.slice Aw m.length cw) m.length m) := Lib.hid (by rw [hz]; exact SI5.out.drawn _); clear hz))
    | (go_at_call 15; go_must (refine (asWere_calls g c (some ⟨W6.heap.size, 0, none⟩) 1 [l0] _ (LN.out.below (SI6.out.step ((Below.refl _ W6).alloc (Nat.le_refl _) _)).below) (lit_rows W6 [(A0, c0, l0)] #[.slice A0 l0.length c0] rfl (okl1 ((S3.out.step SI6.out.below).get 0 rfl)) (by simp)) ⟨by simp, fun xs hx => by rw [List.mem_singleton] at hx; subst hx; exact HS.out⟩).mono ?_; rintro e W7 ⟨rfl, ⟨nd, hz⟩⟩; have SI7 : Hid (SI W3 W4 W7 (.slice Aa m.length ca) (.slice Aw m.length cw) m.length m) := Lib.hid (by rw [hz]; exact (SI6.out.step ((Below.refl _ W6).alloc (Nat.le_refl _) _)).drawn _); clear hz)))
  go_wp2_with (fail)
  go_loopg [10] m.length (fun kq v10 w' => ∃ i : Nat, v10 = .int .i64 (i : Int) ∧ Hid (i ≤ m.length ∧ m.length ≤ kq + i) ∧ Hid (SI W3 W4 w' (.slice Aa m.length ca) (.slice Aw m.length cw) m.length m))
  case atStart => exact ⟨0, rfl, Lib.hid ⟨Nat.zero_le _, Nat.le_refl _⟩, SI7⟩
  case round =>
    obtain ⟨i, rfl, HI, SL⟩ := hrel
    by_cases hlt : i < m.length
    · have hd : decide ((i : Int) < (m.length : Int)) = true := decide_eq_true (Int.ofNat_lt.2 hlt)
      have hd2 : decide (i < m.length) = true := decide_eq_true hlt
      have hb1 : (0 : Int) ≤ (i : Int) := Int.natCast_nonneg i
      have hb2 : (i : Int) < (m.length : Int) := Int.ofNat_lt.2 hlt
      obtain ⟨ga, ca2, e⟩ := SL.out.form (by omega)
      injection e with e _ ec
      subst e ec
      obtain ⟨⟨u0, k0⟩, f0⟩ := SL.out.cells (i * 3) (by omega)
      obtain ⟨⟨u1, k1⟩, f1⟩ := SL.out.cells (i * 3 + 1) (by omega)
      obtain ⟨⟨u2, k2⟩, f2⟩ := SL.out.cells (i * 3 + 2) (by omega)
      obtain ⟨i2, hi2⟩ : ∃ i2, i + 1 = i2 := ⟨_, rfl⟩
      have hi3 : (i : Int) + 1 = (i2 : Int) := by rw [← hi2]; rfl
      have HI2 := Lib.hid (loop_nums hi2 hlt HI.out.2)
      have hw2 : IntKind.i64.wrap (i2 : Int) = (i2 : Int) := IntWalk.i64_in _ (by have := HI2.out.1; have := HLM.out; omega)
      clear hlt hi2
      go_wp2_with (fail)
      go_roundg (m.length - i2)
      case measure => exact HI2.out.2.2
      case rel => exact ⟨i2, rfl, Lib.hid ⟨HI2.out.1, HI2.out.2.1⟩, Lib.hid (((SL.out.set (i * 3) (.int .u64 9)).set (i * 3 + 1) (.int .u64 0)).set (i * 3 + 2) (.bool false))⟩
    · have hd : decide ((i : Int) < (m.length : Int)) = false := decide_eq_false (fun h => hlt (Int.ofNat_lt.1 h))
      have hd2 : decide (i < m.length) = false := decide_eq_false hlt
      obtain ⟨inner, hin⟩ := SL.out.own
      have HIN := Lib.hid hin
      obtain ⟨m1, hm1⟩ : ∃ m1, m.length + 1 = m1 := ⟨_, rfl⟩
      have HM1 := Lib.hid hm1
      have hb3 : (0 : Int) ≤ (m.length : Int) := Int.natCast_nonneg _
      have hb4 : (m.length : Int) < (m1 : Int) := by omega
      clear hlt hin hm1
      go_upto_region 15 with (at_builtin; go_must (refine wpList_append_own_at _ rfl (.tmp 49) (.tmp 51) 25 rfl W3.heap.size 32 i0 _ 3 24 Try.underlying25 hi0 hz0 hz1 hz2 rfl (by decide) (.slice Aa m.length ca) m.length inner (by rfl) (HIN.out.alloc _) ⟨wr.heap.size, 0, none⟩ 1 1 [.int .u64 8, .int .u64 0, .bool false] (by rfl) (by rfl) (World.news_of_block (cs := #[.int .u64 8, .int .u64 0, .bool false]) (t := 32) (fr := (0, 0)) (World.alloc_heap_new wr _)) (by intro u hu; simp only [List.mem_cons, List.not_mem_nil, or_false] at hu; rcases hu with hu | hu | hu <;> subst hu <;> rfl) (by have := HLM.out; unfold maxLen; omega) (by have := HLM.out; omega) (by rw [World.size_alloc]; exact Nat.le_succ_of_le SL.out.below.size) ?_; intro v8 w8 ho8 hg8 hn8 hat8; obtain ⟨g8, cg8, e8, _, _⟩ := ho8.form (Nat.succ_pos _); subst e8; have O8 := Lib.hid ho8; have G8 := Lib.hid hg8; rw [HM1.out] at O8 ⊢; clear ho8 hg8 hn8 hat8))
      have SM := Lib.hid (SL.out.more (n := m.length) (by have := O8.out; rw [← HM1.out] at this; exact this) G8.out)
      have h88 : w8.cell? ⟨g8, m.length * 3, none⟩ = some (.int .u64 8) := by
        have hi := HIN.out.1
        have h1 := HM1.out
        rw [World.ownsRow.cellAt O8.out _ (by omega), List.getElem?_append_right (by omega), hi, Nat.sub_self]
        rfl
      have hq8 : w8.cell? ⟨g, 0, none⟩ = some (.slice (some ⟨b, 0, none⟩) l0.length cc) := Below.cell1 SM.out.1 HQ1.out
      have H88 := Lib.hid h88
      have HCB8 : Hid (CellsAt S32.f0 S32.f1 S32.f2 w8 b 0 l0 ∧ b < w8.heap.size) := Lib.hid (by
        have hbb := (Array.getElem?_eq_some_iff.1 HCB.out.2).1
        exact ⟨HCB.out.1.keep _ _ _ (SM.out.1.block b hbb), Nat.lt_of_lt_of_le hbb SM.out.1.size⟩)
      clear h88
      go_upto_region 16 with (go_at_call 25; go_must (refine (sift_calls (ek := S32.f0) (ev := S32.f1) (eb := S32.f2) (some ⟨b, 0, none⟩) b 0 cc 23 #[.pointer (some ⟨w.heap.size, 0, none⟩)] (fun k => l2.contains k) l0 w8 (fun _ => rfl) HCB8.out.1 (fun _ => HCB8.out.2) (by have := HS.out; omega) goes23 (fun x _ w1 hb => is2_calls w.heap.size A2 g2 o2 c2 l2 x.f0 w1 ((S3.out.step SM.out.1).bx.below hb) _ rfl)).mono ?_; rw [HM.out]; rintro e W9 ⟨vb, rfl, h1, h2⟩; obtain ⟨Ab, cb, rfl⟩ := own_slice h1 rfl; have O9 := Lib.hid h1; have B9 := Lib.hid h2; clear h1 h2))
      have R9 : Hid (RowLit.ok W9 (Ab, cb, m) ∧ RowLit.ok W9 (Aw, cw, m)) := Lib.hid (by
        have h := own_C O9.out
        have h2 := own_C (ownsRow_keep SM.out.2.2 (fun k hk => B9.out.block k (SM.out.2.2.lt k hk).2))
        exact ⟨⟨h.1, h.2.1⟩, ⟨h2.1, h2.2.1⟩⟩)
      have tok2 : Hid True := Lib.hid trivial
      go_wp2_with (first
        | (go_at_call 14; have _t := tok2; clear _t tok2; go_must (refine (same_rows _ (Ab, cb, m) (Aw, cw, m) R9.out.1 R9.out.2 rfl (by show m.length ≤ _; have := HLM.out; omega)).mono ?_; rintro e V6 ⟨rfl, ⟨nd, hz⟩⟩; have BV : Hid (Below w8.heap.size w8 V6) := Lib.hid (by rw [hz]; exact B9.out.trans ⟨rfl, rfl, rfl, Nat.le_refl _, fun _ _ => rfl⟩); clear hz))
        | (go_at_call 15; go_must (have b36 : Below W3.heap.size W3 V6 := SM.out.1.trans (BV.out.mono SM.out.1.size); refine (asWere_calls g c (some ⟨V6.heap.size, 0, none⟩) 1 [l0] _ (LN.out.below (b36.trans ((Below.refl _ V6).alloc b36.size _))) (lit_rows V6 [(A0, c0, l0)] #[.slice A0 l0.length c0] rfl (okl1 ((S3.out.step b36).get 0 rfl)) (by simp)) ⟨by simp, fun xs hx => by rw [List.mem_singleton] at hx; subst hx; exact HS.out⟩).mono ?_; rintro e V7 ⟨rfl, ⟨nd, hz⟩⟩; have BV7 : Hid (Below w8.heap.size w8 V7) := Lib.hid (by rw [hz]; exact (BV.out.alloc BV.out.size _).trans ⟨rfl, rfl, rfl, Nat.le_refl _, fun _ _ => rfl⟩); have k8 : V7.cell? ⟨g8, m.length * 3, none⟩ = some (.int .u64 8) := Below.cell1 BV7.out H88.out; clear hz b36)))
      refine bodyPost_ret (results_tmp rfl _ _ _) rfl ?_
      exact ⟨rfl, (S3.out.step (SM.out.1.trans (BV7.out.mono SM.out.1.size))).st.1⟩
end Go.Proofs.Ytojbfjfjhfnopaa
end

section
-- Written by a program of this session (wip/gprint.py: the kit's print, with contracts proved by hand)
namespace Go.Proofs.Ytojbfjfjhfnopaa.G
open Go.RowKit Go.Proofs.YtojbfjfjhfnopaaW.PrintWords Go.Proofs.YtojbfjfjhfnopaaW.PrintLast Go.Proofs.YtojbfjfjhfnopaaW.PrintMore
attribute [local go_sem] max2_int min2_int max_two min_two max_three min_three max_four min_four   -- for this text's walks alone
set_option linter.unusedVariables false
set_option linter.unusedSimpArgs false

/-! ### inclineref13_Merge: function 21 -/
mutual
def inclineref13_Merge.l0 : Nat → List (List Int) → List Int → List (S54) → Option ((List (S54)))
  | 0, _, _, _ => none
  | k + 1, x0, x3, x4 => inclineref13_Merge.l1 k x0 x3 x4 (-1) 0
def inclineref13_Merge.l1 : Nat → List (List Int) → List Int → List (S54) → Int → Int → Option ((List (S54)))
  | 0, _, _, _, _, _ => none
  | k + 1, x0, x3, x4, x5, x6 => if x6 < (x0.length : Int) then (if 0 ≤ x6 then (if x6 < (x3.length : Int) then (if (rd x3 x6) < ((rd_L4 x0 x6).length : Int) then (if x5 < 0 then (inclineref13_Merge.l1 k x0 x3 x4 x6 (wrap64 (x6 + 1))) else (if 0 ≤ (rd x3 x6) then (if 0 ≤ x5 then (if x5 < (x0.length : Int) then (if x5 < (x3.length : Int) then (if 0 ≤ (rd x3 x5) then (if (rd x3 x5) < ((rd_L4 x0 x5).length : Int) then (if (rd (rd_L4 x0 x6) (rd x3 x6)) < (rd (rd_L4 x0 x5) (rd x3 x5)) then (inclineref13_Merge.l1 k x0 x3 x4 x6 (wrap64 (x6 + 1))) else (inclineref13_Merge.l1 k x0 x3 x4 x5 (wrap64 (x6 + 1)))) else (none)) else (none)) else (none)) else (none)) else (none)) else (none))) else (inclineref13_Merge.l1 k x0 x3 x4 x5 (wrap64 (x6 + 1)))) else (none)) else (none)) else (if x5 < 0 then (some x4) else (if 0 ≤ x5 then (if x5 < (x3.length : Int) then (if x4.length < 8796093022208 then (if x5 < (x0.length : Int) then (if 0 ≤ (rd x3 x5) then (if (rd x3 x5) < ((rd_L4 x0 x5).length : Int) then (inclineref13_Merge.l2 k x0 x3 (x4 ++ [(⟨x5, rd x3 x5⟩ : S54)]) (rd (rd_L4 x0 x5) (rd x3 x5)) 0) else (none)) else (none)) else (none)) else (none)) else (none)) else (none)))
def inclineref13_Merge.l2 : Nat → List (List Int) → List Int → List (S54) → Int → Int → Option ((List (S54)))
  | 0, _, _, _, _, _ => none
  | k + 1, x0, x3, x4, x7, x8 => if x8 < (x0.length : Int) then (if 0 ≤ x8 then (if x8 < (x3.length : Int) then (if (rd x3 x8) < ((rd_L4 x0 x8).length : Int) then (if 0 ≤ (rd x3 x8) then (if (rd (rd_L4 x0 x8) (rd x3 x8)) = x7 then (inclineref13_Merge.l2 k x0 (x3.set (x8 : Int).toNat (wrap64 ((rd x3 x8) + 1))) x4 x7 (wrap64 (x8 + 1))) else (inclineref13_Merge.l2 k x0 x3 x4 x7 (wrap64 (x8 + 1)))) else (none)) else (inclineref13_Merge.l2 k x0 x3 x4 x7 (wrap64 (x8 + 1)))) else (none)) else (none)) else (inclineref13_Merge.l0 k x0 x3 x4)
end
def inclineref13_Merge.f (k : Nat) (l0 : List (List Int)) : Option ((List (S54))) := if 0 ≤ (l0.length : Int) then (if ((l0.length : Int) : Int).toNat ≤ 35184372088832 then (inclineref13_Merge.l0 k l0 (List.replicate ((l0.length : Int) : Int).toNat 0) (([] : List (S54)))) else (none)) else (none)
theorem inclineref13_Merge.mono_l : ∀ k, (∀ y0 y1 y2, LeO (inclineref13_Merge.l0 k y0 y1 y2) (inclineref13_Merge.l0 (k + 1) y0 y1 y2)) ∧ (∀ y0 y1 y2 y3 y4, LeO (inclineref13_Merge.l1 k y0 y1 y2 y3 y4) (inclineref13_Merge.l1 (k + 1) y0 y1 y2 y3 y4)) ∧ (∀ y0 y1 y2 y3 y4, LeO (inclineref13_Merge.l2 k y0 y1 y2 y3 y4) (inclineref13_Merge.l2 (k + 1) y0 y1 y2 y3 y4))
  | 0 => ⟨fun _ _ _ r h => by simp [inclineref13_Merge.l0] at h, fun _ _ _ _ _ r h => by simp [inclineref13_Merge.l1] at h, fun _ _ _ _ _ r h => by simp [inclineref13_Merge.l2] at h⟩
  | k + 1 => by
    obtain ⟨ih0, ih1, ih2⟩ := inclineref13_Merge.mono_l k
    refine ⟨?_, ?_, ?_⟩
    · intro y0 y1 y2
      unfold inclineref13_Merge.l0
      repeat' first
      | (with_reducible exact ih0 _ _ _)
      | (with_reducible exact ih1 _ _ _ _ _)
      | (with_reducible exact ih2 _ _ _ _ _)
      | (with_reducible exact LeO.refl _)
      | (with_reducible exact LeO.none _)
      | (with_reducible refine LeO.ite ?_ ?_)
      | (with_reducible refine LeO.bind ?_ (fun _ => ?_))
      | exact ih0 _ _ _
      | exact ih1 _ _ _ _ _
      | exact ih2 _ _ _ _ _
      | exact LeO.none _
      | refine LeO.ite ?_ ?_
      | refine LeO.bind ?_ (fun _ => ?_)
    · intro y0 y1 y2 y3 y4
      unfold inclineref13_Merge.l1
      repeat' first
      | (with_reducible exact ih0 _ _ _)
      | (with_reducible exact ih1 _ _ _ _ _)
      | (with_reducible exact ih2 _ _ _ _ _)
      | (with_reducible exact LeO.refl _)
      | (with_reducible exact LeO.none _)
      | (with_reducible refine LeO.ite ?_ ?_)
      | (with_reducible refine LeO.bind ?_ (fun _ => ?_))
      | exact ih0 _ _ _
      | exact ih1 _ _ _ _ _
      | exact ih2 _ _ _ _ _
      | exact LeO.none _
      | refine LeO.ite ?_ ?_
      | refine LeO.bind ?_ (fun _ => ?_)
    · intro y0 y1 y2 y3 y4
      unfold inclineref13_Merge.l2
      repeat' first
      | (with_reducible exact ih0 _ _ _)
      | (with_reducible exact ih1 _ _ _ _ _)
      | (with_reducible exact ih2 _ _ _ _ _)
      | (with_reducible exact LeO.refl _)
      | (with_reducible exact LeO.none _)
      | (with_reducible refine LeO.ite ?_ ?_)
      | (with_reducible refine LeO.bind ?_ (fun _ => ?_))
      | exact ih0 _ _ _
      | exact ih1 _ _ _ _ _
      | exact ih2 _ _ _ _ _
      | exact LeO.none _
      | refine LeO.ite ?_ ?_
      | refine LeO.bind ?_ (fun _ => ?_)
theorem inclineref13_Merge.mono : ∀ a0 k, LeO (inclineref13_Merge.f k a0) (inclineref13_Merge.f (k + 1) a0) := by
  intro a0 k
  obtain ⟨ih0, ih1, ih2⟩ := inclineref13_Merge.mono_l k
  unfold inclineref13_Merge.f
  repeat' first
      | (with_reducible exact ih0 _ _ _)
      | (with_reducible exact ih1 _ _ _ _ _)
      | (with_reducible exact ih2 _ _ _ _ _)
      | (with_reducible exact LeO.refl _)
      | (with_reducible exact LeO.none _)
      | (with_reducible refine LeO.ite ?_ ?_)
      | (with_reducible refine LeO.bind ?_ (fun _ => ?_))
      | exact ih0 _ _ _
      | exact ih1 _ _ _ _ _
      | exact ih2 _ _ _ _ _
      | exact LeO.none _
      | refine LeO.ite ?_ ?_
      | refine LeO.bind ?_ (fun _ => ?_)
set_option maxHeartbeats 8000000 in
set_option maxRecDepth 100000 in
theorem inclineref13_Merge.calls (k : Nat) (A0 : Option Addr) (c0 : Nat) (l0 : List (List Int)) (r : List (S54)) (w : World) (hr0 : Kd.C (Kd.slice 30 (Kd.int .u64)) w A0 l0.length l0) (hc0 : l0.length ≤ c0) (h : inclineref13_Merge.f k l0 = some r) :
    Calls Try.prog 21 #[.slice A0 l0.length c0] w fun e w' => ∃ v0_ : Value, e = .returned (v0_) ∧ Kd.R k54 54 w' w.heap.size (fun _ => True) v0_ r ∧ Below w.heap.size w w' := by
  have hu54 := Try.underlying54
  have HR0 := Aside0.mk hr0
  have HC0 := Aside0.mk hc0
  clear hr0 hc0
  have HB := Aside0.mk (Below.refl w.heap.size w)
  have H : (if 0 ≤ (l0.length : Int) then (if ((l0.length : Int) : Int).toNat ≤ 35184372088832 then (inclineref13_Merge.l0 k l0 (List.replicate ((l0.length : Int) : Int).toNat 0) (([] : List (S54)))) else (none)) else (none)) = some r := h
  clear h
  by_cases c2 : 0 ≤ (l0.length : Int)
  · rw [if_pos c2] at H
    have c2b0 := eq_true c2
    have c2b1 : decide (0 ≤ (l0.length : Int)) = true := decide_eq_true c2
    clear c2
    by_cases c3 : ((l0.length : Int) : Int).toNat ≤ 35184372088832
    · rw [if_pos c3] at H
      have c3b0 := eq_true c3
      have c3b1 : decide (((l0.length : Int) : Int).toNat ≤ 35184372088832) = true := decide_eq_true c3
      clear c3
      obtain ⟨y123, hy123⟩ : ∃ y_ : List Int, y_ = (List.replicate ((l0.length : Int) : Int).toNat 0) := ⟨_, rfl⟩
      replace H : (inclineref13_Merge.l0 k l0 y123 (([] : List (S54)))) = some r := by first | (rw [hy123]; with_reducible exact H) | (have H2_ := (Option.bind_some _ _).symm.trans H; rw [hy123]; with_reducible exact H2_) | (have H2_ := (Option.bind_some _ _).symm.trans H; with_reducible exact H2_) | with_reducible exact H | (rw [hy123]; exact H) | exact H
      have Ny123 := Aside0.mk hy123
      clear hy123
      obtain ⟨y126, hy126⟩ : ∃ y_ : List (S54), y_ = (([] : List (S54))) := ⟨_, rfl⟩
      replace H : (inclineref13_Merge.l0 k l0 y123 y126) = some r := by first | (rw [hy126]; with_reducible exact H) | (have H2_ := (Option.bind_some _ _).symm.trans H; rw [hy126]; with_reducible exact H2_) | (have H2_ := (Option.bind_some _ _).symm.trans H; with_reducible exact H2_) | with_reducible exact H | (rw [hy126]; exact H) | exact H
      have Ny126 := Aside0.mk hy126
      clear hy126
      have H' := Aside0.mk H
      clear H
      go_enter Try.func21, Try.ntmps21
      go_wp2_with (first | ((with_reducible refine gate_dst (N := 11) rfl ?_); refine Kd.R_make (Kd.int .i64) _ 3 rfl (N := 11) rfl 73 _ _ rfl (l0.length : Int) rfl rfl Try.underlying73 (.int .i64 0) 8 info3 rfl (by decide) (by omega) 0 (ok := fun _ => True) (okp := fun _ => True) rfl (fun _ hk => hk) trivial (of_decide_eq_true (by first | (with_reducible assumption) | assumption)) (Nat.le_trans (Nat.mul_le_mul_right _ (of_decide_eq_true (by first | (with_reducible assumption) | assumption) : (l0.length : Int).toNat ≤ 35184372088832)) (by omega)) (Below.refl _ _) (Nat.le_refl _) ?_; intro v124 w4 ho5 hb hg_ hnew_; clear hg_ hnew_; (first | rw [← Ny123.out] at ho5 | (simp only [Int.reduceToNat] at ho5; rw [← Ny123.out] at ho5)); have n0_ := Aside0.mk (Kd.R_lower ho5 (below_size (by repeat (first | (with_reducible first | exact HB.out | apply below_alloc | apply pw_below_drewN | apply below_drew1) | exact HB.out)))); have n1_ := Aside0.mk (below_step (by repeat (first | (with_reducible first | exact HB.out | apply below_alloc | apply pw_below_drewN | apply below_drew1) | exact HB.out)) hb); clear HB; have HO125 := n0_; have HB := n1_; clear n0_ n1_; clear hb ho5) | ((with_reducible refine gate_dst (N := 12) rfl ?_); refine Kd.R_lit k54 _ 54 ?hg (N := 12) ?hd (xs := ([] : List (S54))) (inner := []) (ok := fun _ => True) (okp := fun _ => True) ?hr ?hp (fun _ hk => hk) trivial (Below.refl _ _) (Nat.le_refl _) (by simp) ?_; (case hd => rfl); (case hg => rfl); (case hr => first | (go_simp; done) | (go_simp; rfl)); (case hp => exact (Reps.none _ _)); intro v127 w6 ho7 hb hg_ hnew_; clear hg_ hnew_; (first | rw [← Ny126.out] at ho7 | (simp only [Int.reduceToNat] at ho7; rw [← Ny126.out] at ho7)); have n0_ := Aside0.mk (Kd.R_below (by (with_reducible repeat (first | apply Kd.R_alloc | apply Kd.R_drewN | apply Kd.R_drew)); exact HO125.out) hb); have n1_ := Aside0.mk (Kd.R_lower ho7 (below_size (by repeat (first | (with_reducible first | exact HB.out | apply below_alloc | apply pw_below_drewN | apply below_drew1) | exact HB.out)))); have n2_ := Aside0.mk (below_step (by repeat (first | (with_reducible first | exact HB.out | apply below_alloc | apply pw_below_drewN | apply below_drew1) | exact HB.out)) hb); clear HO125; clear HB; have HO125 := n0_; have HO128 := n1_; have HB := n2_; clear n0_ n1_ n2_; clear hb ho7))
      repeat (go_quiet (first | ((with_reducible refine gate_dst (N := 11) rfl ?_); refine Kd.R_make (Kd.int .i64) _ 3 rfl (N := 11) rfl 73 _ _ rfl (l0.length : Int) rfl rfl Try.underlying73 (.int .i64 0) 8 info3 rfl (by decide) (by omega) 0 (ok := fun _ => True) (okp := fun _ => True) rfl (fun _ hk => hk) trivial (of_decide_eq_true (by first | (with_reducible assumption) | assumption)) (Nat.le_trans (Nat.mul_le_mul_right _ (of_decide_eq_true (by first | (with_reducible assumption) | assumption) : (l0.length : Int).toNat ≤ 35184372088832)) (by omega)) (Below.refl _ _) (Nat.le_refl _) ?_; intro v124 w4 ho5 hb hg_ hnew_; clear hg_ hnew_; (first | rw [← Ny123.out] at ho5 | (simp only [Int.reduceToNat] at ho5; rw [← Ny123.out] at ho5)); have n0_ := Aside0.mk (Kd.R_lower ho5 (below_size (by repeat (first | (with_reducible first | exact HB.out | apply below_alloc | apply pw_below_drewN | apply below_drew1) | exact HB.out)))); have n1_ := Aside0.mk (below_step (by repeat (first | (with_reducible first | exact HB.out | apply below_alloc | apply pw_below_drewN | apply below_drew1) | exact HB.out)) hb); clear HB; have HO125 := n0_; have HB := n1_; clear n0_ n1_; clear hb ho5) | ((with_reducible refine gate_dst (N := 12) rfl ?_); refine Kd.R_lit k54 _ 54 ?hg (N := 12) ?hd (xs := ([] : List (S54))) (inner := []) (ok := fun _ => True) (okp := fun _ => True) ?hr ?hp (fun _ hk => hk) trivial (Below.refl _ _) (Nat.le_refl _) (by simp) ?_; (case hd => rfl); (case hg => rfl); (case hr => first | (go_simp; done) | (go_simp; rfl)); (case hp => exact (Reps.none _ _)); intro v127 w6 ho7 hb hg_ hnew_; clear hg_ hnew_; (first | rw [← Ny126.out] at ho7 | (simp only [Int.reduceToNat] at ho7; rw [← Ny126.out] at ho7)); have n0_ := Aside0.mk (Kd.R_below (by (with_reducible repeat (first | apply Kd.R_alloc | apply Kd.R_drewN | apply Kd.R_drew)); exact HO125.out) hb); have n1_ := Aside0.mk (Kd.R_lower ho7 (below_size (by repeat (first | (with_reducible first | exact HB.out | apply below_alloc | apply pw_below_drewN | apply below_drew1) | exact HB.out)))); have n2_ := Aside0.mk (below_step (by repeat (first | (with_reducible first | exact HB.out | apply below_alloc | apply pw_below_drewN | apply below_drew1) | exact HB.out)) hb); clear HO125; clear HB; have HO125 := n0_; have HO128 := n1_; have HB := n2_; clear n0_ n1_ n2_; clear hb ho7)); try go_wp2_with (first | ((with_reducible refine gate_dst (N := 11) rfl ?_); refine Kd.R_make (Kd.int .i64) _ 3 rfl (N := 11) rfl 73 _ _ rfl (l0.length : Int) rfl rfl Try.underlying73 (.int .i64 0) 8 info3 rfl (by decide) (by omega) 0 (ok := fun _ => True) (okp := fun _ => True) rfl (fun _ hk => hk) trivial (of_decide_eq_true (by first | (with_reducible assumption) | assumption)) (Nat.le_trans (Nat.mul_le_mul_right _ (of_decide_eq_true (by first | (with_reducible assumption) | assumption) : (l0.length : Int).toNat ≤ 35184372088832)) (by omega)) (Below.refl _ _) (Nat.le_refl _) ?_; intro v124 w4 ho5 hb hg_ hnew_; clear hg_ hnew_; (first | rw [← Ny123.out] at ho5 | (simp only [Int.reduceToNat] at ho5; rw [← Ny123.out] at ho5)); have n0_ := Aside0.mk (Kd.R_lower ho5 (below_size (by repeat (first | (with_reducible first | exact HB.out | apply below_alloc | apply pw_below_drewN | apply below_drew1) | exact HB.out)))); have n1_ := Aside0.mk (below_step (by repeat (first | (with_reducible first | exact HB.out | apply below_alloc | apply pw_below_drewN | apply below_drew1) | exact HB.out)) hb); clear HB; have HO125 := n0_; have HB := n1_; clear n0_ n1_; clear hb ho5) | ((with_reducible refine gate_dst (N := 12) rfl ?_); refine Kd.R_lit k54 _ 54 ?hg (N := 12) ?hd (xs := ([] : List (S54))) (inner := []) (ok := fun _ => True) (okp := fun _ => True) ?hr ?hp (fun _ hk => hk) trivial (Below.refl _ _) (Nat.le_refl _) (by simp) ?_; (case hd => rfl); (case hg => rfl); (case hr => first | (go_simp; done) | (go_simp; rfl)); (case hp => exact (Reps.none _ _)); intro v127 w6 ho7 hb hg_ hnew_; clear hg_ hnew_; (first | rw [← Ny126.out] at ho7 | (simp only [Int.reduceToNat] at ho7; rw [← Ny126.out] at ho7)); have n0_ := Aside0.mk (Kd.R_below (by (with_reducible repeat (first | apply Kd.R_alloc | apply Kd.R_drewN | apply Kd.R_drew)); exact HO125.out) hb); have n1_ := Aside0.mk (Kd.R_lower ho7 (below_size (by repeat (first | (with_reducible first | exact HB.out | apply below_alloc | apply pw_below_drewN | apply below_drew1) | exact HB.out)))); have n2_ := Aside0.mk (below_step (by repeat (first | (with_reducible first | exact HB.out | apply below_alloc | apply pw_below_drewN | apply below_drew1) | exact HB.out)) hb); clear HO125; clear HB; have HO125 := n0_; have HO128 := n1_; have HB := n2_; clear n0_ n1_ n2_; clear hb ho7)))
      go_loopg [4] k (fun kq v4 w' => ∃ (x3_1 : List Int) (x4_1 : List (S54)), Aside0 (inclineref13_Merge.l0 kq l0 x3_1 x4_1 = some r) ∧ Aside0 (kq ≤ k) ∧ Aside0 (Kd.R (Kd.int .i64) 3 w' w.heap.size (fun _ => True) v124 x3_1) ∧ Aside0 (Kd.R k54 54 w' w.heap.size (fun _ => True) v4 x4_1) ∧ Aside0 (Below w.heap.size w w'))
      case atStart => exact ⟨(y123), (y126), H', ⟨Nat.le_refl _⟩, ⟨by (with_reducible repeat (first | apply Kd.R_alloc | apply Kd.R_drewN | apply Kd.R_drew)); exact HO125.out⟩, ⟨by (with_reducible repeat (first | apply Kd.R_alloc | apply Kd.R_drewN | apply Kd.R_drew)); exact HO128.out⟩, ⟨by repeat (first | (with_reducible first | exact HB.out | apply below_alloc | apply pw_below_drewN | apply below_drew1) | exact HB.out)⟩⟩
      case round =>
        clear H'
        try clear c2
        try clear c2b0
        try clear c2b1
        try clear p2
        try clear c3
        try clear c3b0
        try clear c3b1
        obtain ⟨x3_1, x4_1, HA, HK1, HO_3, HO_4, HB⟩ := hrel
        cases gk with
        | zero => exact absurd HA.out (by simp [inclineref13_Merge.l0])
        | succ k1 =>
          have H := HA.out
          clear HA
          simp only [inclineref13_Merge.l0] at H
          have H' := Aside0.mk H
          clear H
          go_wp2
          repeat (go_quiet (fail); try go_wp2)
          go_loopg [5, 6] k1 (fun kq v5 v6 w' => ∃ (x5_2 : Int) (x6_2 : Int), v5 = .int .i64 x5_2 ∧ v6 = .int .i64 x6_2 ∧ Aside0 (inclineref13_Merge.l1 kq l0 x3_1 x4_1 x5_2 x6_2 = some r) ∧ Aside0 (kq ≤ k1) ∧ Aside0 (Kd.R (Kd.int .i64) 3 w' w.heap.size (fun _ => True) v124 x3_1) ∧ Aside0 (Kd.R k54 54 w' w.heap.size (fun _ => True) u4 x4_1) ∧ Aside0 (Below w.heap.size w w'))
          case atStart => exact ⟨((-1)), (0), (by first | rfl | (simp; done) | (simp [*]; done)), (by first | rfl | (simp; done) | (simp [*]; done)), H', ⟨Nat.le_refl _⟩, ⟨by (with_reducible repeat (first | apply Kd.R_alloc | apply Kd.R_drewN | apply Kd.R_drew)); exact HO_3.out⟩, ⟨by (with_reducible repeat (first | apply Kd.R_alloc | apply Kd.R_drewN | apply Kd.R_drew)); exact HO_4.out⟩, ⟨by repeat (first | (with_reducible first | exact HB.out | apply below_alloc | apply pw_below_drewN | apply below_drew1) | exact HB.out)⟩⟩
          case round =>
            clear H'
            try clear c2
            try clear c2b0
            try clear c2b1
            try clear p2
            try clear c3
            try clear c3b0
            try clear c3b1
            try clear p2
            obtain ⟨x5_2, x6_2, rfl, rfl, HA, HK2, HO_3, HO_4, HB⟩ := hrel
            cases gk with
            | zero => exact absurd HA.out (by simp [inclineref13_Merge.l1])
            | succ k2 =>
              have H := HA.out
              clear HA
              simp only [inclineref13_Merge.l1] at H
              by_cases c8 : x6_2 < (l0.length : Int)
              · rw [if_pos c8] at H
                have c8b0 : decide (x6_2 < (l0.length : Int)) = true := decide_eq_true c8
                clear c8
                by_cases c9 : 0 ≤ x6_2
                · rw [if_pos c9] at H
                  have c9b0 : decide (0 ≤ x6_2) = true := decide_eq_true c9
                  clear c9
                  by_cases c10 : x6_2 < (x3_1.length : Int)
                  · rw [if_pos c10] at H
                    have c10b0 : decide (x6_2 < (x3_1.length : Int)) = true := decide_eq_true c10
                    clear c10
                    by_cases c11 : (rd x3_1 x6_2) < ((rd_L4 l0 x6_2).length : Int)
                    · rw [if_pos c11] at H
                      have c11b0 : decide ((rd x3_1 x6_2) < ((rd_L4 l0 x6_2).length : Int)) = true := decide_eq_true c11
                      clear c11
                      by_cases c12 : x5_2 < 0
                      · rw [if_pos c12] at H
                        have c12b0 : decide (x5_2 < 0) = true := decide_eq_true c12
                        clear c12
                        have H' := Aside0.mk H
                        clear H
                        obtain ⟨Ao13, co13, eo13⟩ := Kd.R_slice HO_3.out
                        subst eo13
                        have p129 : 0 ≤ (x6_2 : Int) := of_decide_eq_true (by first | (with_reducible assumption) | assumption)
                        have q129 : x6_2 < (x3_1.length : Int) := of_decide_eq_true (by first | (with_reducible assumption) | assumption)
                        obtain ⟨ad129, e129, hx129_0⟩ := Kd.at_int (Kd.R_reads' HO_3.out).2.2 x6_2 p129 q129
                        cases e129
                        replace p129 := eq_true p129
                        replace q129 := eq_true q129
                        have p130 : 0 ≤ (x6_2 : Int) := of_decide_eq_true (by first | (with_reducible assumption) | assumption)
                        have q130 : x6_2 < (l0.length : Int) := of_decide_eq_true (by first | (with_reducible assumption) | assumption)
                        obtain ⟨ad130, A130_0, c130_0, e130, hx130_0, hl130_0, hi130_0⟩ := at_L4 HR0.out x6_2 p130 q130
                        cases e130
                        replace hx130_0 := (HB.out.cell (World.block_lt_of_cell? w _ hx130_0)).trans hx130_0
                        have HR130_0 := Aside0.mk hi130_0
                        have HC130_0 := Aside0.mk hl130_0
                        clear hi130_0 hl130_0
                        replace p130 := eq_true p130
                        replace q130 := eq_true q130
                        go_wp2
                        repeat (go_quiet (fail); try go_wp2)
                        go_roundg k2
                        case measure => have := HK1.out; have := HK2.out; omega
                        case rel => exact ⟨(x6_2), (wrap64 (x6_2 + 1)), (by first | rfl | (simp; done) | (simp [*]; done)), (by first | rfl | (simp; done) | (simp [*]; done)), H', ⟨by have := HK1.out; have := HK2.out; omega⟩, ⟨by (with_reducible repeat (first | apply Kd.R_alloc | apply Kd.R_drewN | apply Kd.R_drew)); exact HO_3.out⟩, ⟨by (with_reducible repeat (first | apply Kd.R_alloc | apply Kd.R_drewN | apply Kd.R_drew)); exact HO_4.out⟩, ⟨by repeat (first | (with_reducible first | exact HB.out | apply below_alloc | apply pw_below_drewN | apply below_drew1) | exact HB.out)⟩⟩
                      · rw [if_neg c12] at H
                        have c12b0 : decide (x5_2 < 0) = false := decide_eq_false c12
                        clear c12
                        by_cases c14 : 0 ≤ (rd x3_1 x6_2)
                        · rw [if_pos c14] at H
                          have c14b0 : decide (0 ≤ (rd x3_1 x6_2)) = true := decide_eq_true c14
                          clear c14
                          by_cases c15 : 0 ≤ x5_2
                          · rw [if_pos c15] at H
                            have c15b0 : decide (0 ≤ x5_2) = true := decide_eq_true c15
                            clear c15
                            by_cases c16 : x5_2 < (l0.length : Int)
                            · rw [if_pos c16] at H
                              have c16b0 : decide (x5_2 < (l0.length : Int)) = true := decide_eq_true c16
                              clear c16
                              by_cases c17 : x5_2 < (x3_1.length : Int)
                              · rw [if_pos c17] at H
                                have c17b0 : decide (x5_2 < (x3_1.length : Int)) = true := decide_eq_true c17
                                clear c17
                                by_cases c18 : 0 ≤ (rd x3_1 x5_2)
                                · rw [if_pos c18] at H
                                  have c18b0 : decide (0 ≤ (rd x3_1 x5_2)) = true := decide_eq_true c18
                                  clear c18
                                  by_cases c19 : (rd x3_1 x5_2) < ((rd_L4 l0 x5_2).length : Int)
                                  · rw [if_pos c19] at H
                                    have c19b0 : decide ((rd x3_1 x5_2) < ((rd_L4 l0 x5_2).length : Int)) = true := decide_eq_true c19
                                    clear c19
                                    by_cases c20 : (rd (rd_L4 l0 x6_2) (rd x3_1 x6_2)) < (rd (rd_L4 l0 x5_2) (rd x3_1 x5_2))
                                    · rw [if_pos c20] at H
                                      have c20b0 : decide ((rd (rd_L4 l0 x6_2) (rd x3_1 x6_2)) < (rd (rd_L4 l0 x5_2) (rd x3_1 x5_2))) = true := decide_eq_true c20
                                      clear c20
                                      have H' := Aside0.mk H
                                      clear H
                                      obtain ⟨Ao21, co21, eo21⟩ := Kd.R_slice HO_3.out
                                      subst eo21
                                      have p129 : 0 ≤ (x6_2 : Int) := of_decide_eq_true (by first | (with_reducible assumption) | assumption)
                                      have q129 : x6_2 < (x3_1.length : Int) := of_decide_eq_true (by first | (with_reducible assumption) | assumption)
                                      obtain ⟨ad129, e129, hx129_0⟩ := Kd.at_int (Kd.R_reads' HO_3.out).2.2 x6_2 p129 q129
                                      cases e129
                                      replace p129 := eq_true p129
                                      replace q129 := eq_true q129
                                      have p130 : 0 ≤ (x6_2 : Int) := of_decide_eq_true (by first | (with_reducible assumption) | assumption)
                                      have q130 : x6_2 < (l0.length : Int) := of_decide_eq_true (by first | (with_reducible assumption) | assumption)
                                      obtain ⟨ad130, A130_0, c130_0, e130, hx130_0, hl130_0, hi130_0⟩ := at_L4 HR0.out x6_2 p130 q130
                                      cases e130
                                      replace hx130_0 := (HB.out.cell (World.block_lt_of_cell? w _ hx130_0)).trans hx130_0
                                      have HR130_0 := Aside0.mk hi130_0
                                      have HC130_0 := Aside0.mk hl130_0
                                      clear hi130_0 hl130_0
                                      replace p130 := eq_true p130
                                      replace q130 := eq_true q130
                                      have p131 : 0 ≤ (x6_2 : Int) := of_decide_eq_true (by first | (with_reducible assumption) | assumption)
                                      have q131 : x6_2 < (l0.length : Int) := of_decide_eq_true (by first | (with_reducible assumption) | assumption)
                                      obtain ⟨ad131, A131_0, c131_0, e131, hx131_0, hl131_0, hi131_0⟩ := at_L4 HR0.out x6_2 p131 q131
                                      obtain rfl : ad130 = ad131 := (by injection e131)
                                      replace hx131_0 := (HB.out.cell (World.block_lt_of_cell? w _ hx131_0)).trans hx131_0
                                      have HR131_0 := Aside0.mk hi131_0
                                      have HC131_0 := Aside0.mk hl131_0
                                      clear hi131_0 hl131_0
                                      replace p131 := eq_true p131
                                      replace q131 := eq_true q131
                                      have ea_ := Option.some.inj (hx130_0.symm.trans hx131_0)
                                      injection ea_ with ea_ en_ ec_
                                      subst ea_
                                      subst ec_
                                      clear en_
                                      have p132 : 0 ≤ (x6_2 : Int) := of_decide_eq_true (by first | (with_reducible assumption) | assumption)
                                      have q132 : x6_2 < (x3_1.length : Int) := of_decide_eq_true (by first | (with_reducible assumption) | assumption)
                                      obtain ⟨ad132, e132, hx132_0⟩ := Kd.at_int (Kd.R_reads' HO_3.out).2.2 x6_2 p132 q132
                                      obtain rfl : ad129 = ad132 := (by injection e132)
                                      replace p132 := eq_true p132
                                      replace q132 := eq_true q132
                                      have p133 : 0 ≤ ((rd x3_1 x6_2) : Int) := of_decide_eq_true (by first | (with_reducible assumption) | assumption)
                                      have q133 : (rd x3_1 x6_2) < ((rd_L4 l0 x6_2).length : Int) := of_decide_eq_true (by first | (with_reducible assumption) | assumption)
                                      obtain ⟨ad133, e133, hx133_0⟩ := Kd.at_int HR131_0.out (rd x3_1 x6_2) p133 q133
                                      cases e133
                                      replace hx133_0 := (HB.out.cell (World.block_lt_of_cell? w _ hx133_0)).trans hx133_0
                                      replace p133 := eq_true p133
                                      replace q133 := eq_true q133
                                      have p134 : 0 ≤ (x5_2 : Int) := of_decide_eq_true (by first | (with_reducible assumption) | assumption)
                                      have q134 : x5_2 < (l0.length : Int) := of_decide_eq_true (by first | (with_reducible assumption) | assumption)
                                      obtain ⟨ad134, A134_0, c134_0, e134, hx134_0, hl134_0, hi134_0⟩ := at_L4 HR0.out x5_2 p134 q134
                                      obtain rfl : ad130 = ad134 := (by injection e134)
                                      replace hx134_0 := (HB.out.cell (World.block_lt_of_cell? w _ hx134_0)).trans hx134_0
                                      have HR134_0 := Aside0.mk hi134_0
                                      have HC134_0 := Aside0.mk hl134_0
                                      clear hi134_0 hl134_0
                                      replace p134 := eq_true p134
                                      replace q134 := eq_true q134
                                      have p135 : 0 ≤ (x5_2 : Int) := of_decide_eq_true (by first | (with_reducible assumption) | assumption)
                                      have q135 : x5_2 < (x3_1.length : Int) := of_decide_eq_true (by first | (with_reducible assumption) | assumption)
                                      obtain ⟨ad135, e135, hx135_0⟩ := Kd.at_int (Kd.R_reads' HO_3.out).2.2 x5_2 p135 q135
                                      obtain rfl : ad129 = ad135 := (by injection e135)
                                      replace p135 := eq_true p135
                                      replace q135 := eq_true q135
                                      have p136 : 0 ≤ ((rd x3_1 x5_2) : Int) := of_decide_eq_true (by first | (with_reducible assumption) | assumption)
                                      have q136 : (rd x3_1 x5_2) < ((rd_L4 l0 x5_2).length : Int) := of_decide_eq_true (by first | (with_reducible assumption) | assumption)
                                      obtain ⟨ad136, e136, hx136_0⟩ := Kd.at_int HR134_0.out (rd x3_1 x5_2) p136 q136
                                      cases e136
                                      replace hx136_0 := (HB.out.cell (World.block_lt_of_cell? w _ hx136_0)).trans hx136_0
                                      replace p136 := eq_true p136
                                      replace q136 := eq_true q136
                                      go_wp2
                                      repeat (go_quiet (fail); try go_wp2)
                                      go_roundg k2
                                      case measure => have := HK1.out; have := HK2.out; omega
                                      case rel => exact ⟨(x6_2), (wrap64 (x6_2 + 1)), (by first | rfl | (simp; done) | (simp [*]; done)), (by first | rfl | (simp; done) | (simp [*]; done)), H', ⟨by have := HK1.out; have := HK2.out; omega⟩, ⟨by (with_reducible repeat (first | apply Kd.R_alloc | apply Kd.R_drewN | apply Kd.R_drew)); exact HO_3.out⟩, ⟨by (with_reducible repeat (first | apply Kd.R_alloc | apply Kd.R_drewN | apply Kd.R_drew)); exact HO_4.out⟩, ⟨by repeat (first | (with_reducible first | exact HB.out | apply below_alloc | apply pw_below_drewN | apply below_drew1) | exact HB.out)⟩⟩
                                    · rw [if_neg c20] at H
                                      have c20b0 : decide ((rd (rd_L4 l0 x6_2) (rd x3_1 x6_2)) < (rd (rd_L4 l0 x5_2) (rd x3_1 x5_2))) = false := decide_eq_false c20
                                      clear c20
                                      have H' := Aside0.mk H
                                      clear H
                                      obtain ⟨Ao22, co22, eo22⟩ := Kd.R_slice HO_3.out
                                      subst eo22
                                      have p129 : 0 ≤ (x6_2 : Int) := of_decide_eq_true (by first | (with_reducible assumption) | assumption)
                                      have q129 : x6_2 < (x3_1.length : Int) := of_decide_eq_true (by first | (with_reducible assumption) | assumption)
                                      obtain ⟨ad129, e129, hx129_0⟩ := Kd.at_int (Kd.R_reads' HO_3.out).2.2 x6_2 p129 q129
                                      cases e129
                                      replace p129 := eq_true p129
                                      replace q129 := eq_true q129
                                      have p130 : 0 ≤ (x6_2 : Int) := of_decide_eq_true (by first | (with_reducible assumption) | assumption)
                                      have q130 : x6_2 < (l0.length : Int) := of_decide_eq_true (by first | (with_reducible assumption) | assumption)
                                      obtain ⟨ad130, A130_0, c130_0, e130, hx130_0, hl130_0, hi130_0⟩ := at_L4 HR0.out x6_2 p130 q130
                                      cases e130
                                      replace hx130_0 := (HB.out.cell (World.block_lt_of_cell? w _ hx130_0)).trans hx130_0
                                      have HR130_0 := Aside0.mk hi130_0
                                      have HC130_0 := Aside0.mk hl130_0
                                      clear hi130_0 hl130_0
                                      replace p130 := eq_true p130
                                      replace q130 := eq_true q130
                                      have p131 : 0 ≤ (x6_2 : Int) := of_decide_eq_true (by first | (with_reducible assumption) | assumption)
                                      have q131 : x6_2 < (l0.length : Int) := of_decide_eq_true (by first | (with_reducible assumption) | assumption)
                                      obtain ⟨ad131, A131_0, c131_0, e131, hx131_0, hl131_0, hi131_0⟩ := at_L4 HR0.out x6_2 p131 q131
                                      obtain rfl : ad130 = ad131 := (by injection e131)
                                      replace hx131_0 := (HB.out.cell (World.block_lt_of_cell? w _ hx131_0)).trans hx131_0
                                      have HR131_0 := Aside0.mk hi131_0
                                      have HC131_0 := Aside0.mk hl131_0
                                      clear hi131_0 hl131_0
                                      replace p131 := eq_true p131
                                      replace q131 := eq_true q131
                                      have ea_ := Option.some.inj (hx130_0.symm.trans hx131_0)
                                      injection ea_ with ea_ en_ ec_
                                      subst ea_
                                      subst ec_
                                      clear en_
                                      have p132 : 0 ≤ (x6_2 : Int) := of_decide_eq_true (by first | (with_reducible assumption) | assumption)
                                      have q132 : x6_2 < (x3_1.length : Int) := of_decide_eq_true (by first | (with_reducible assumption) | assumption)
                                      obtain ⟨ad132, e132, hx132_0⟩ := Kd.at_int (Kd.R_reads' HO_3.out).2.2 x6_2 p132 q132
                                      obtain rfl : ad129 = ad132 := (by injection e132)
                                      replace p132 := eq_true p132
                                      replace q132 := eq_true q132
                                      have p133 : 0 ≤ ((rd x3_1 x6_2) : Int) := of_decide_eq_true (by first | (with_reducible assumption) | assumption)
                                      have q133 : (rd x3_1 x6_2) < ((rd_L4 l0 x6_2).length : Int) := of_decide_eq_true (by first | (with_reducible assumption) | assumption)
                                      obtain ⟨ad133, e133, hx133_0⟩ := Kd.at_int HR131_0.out (rd x3_1 x6_2) p133 q133
                                      cases e133
                                      replace hx133_0 := (HB.out.cell (World.block_lt_of_cell? w _ hx133_0)).trans hx133_0
                                      replace p133 := eq_true p133
                                      replace q133 := eq_true q133
                                      have p134 : 0 ≤ (x5_2 : Int) := of_decide_eq_true (by first | (with_reducible assumption) | assumption)
                                      have q134 : x5_2 < (l0.length : Int) := of_decide_eq_true (by first | (with_reducible assumption) | assumption)
                                      obtain ⟨ad134, A134_0, c134_0, e134, hx134_0, hl134_0, hi134_0⟩ := at_L4 HR0.out x5_2 p134 q134
                                      obtain rfl : ad130 = ad134 := (by injection e134)
                                      replace hx134_0 := (HB.out.cell (World.block_lt_of_cell? w _ hx134_0)).trans hx134_0
                                      have HR134_0 := Aside0.mk hi134_0
                                      have HC134_0 := Aside0.mk hl134_0
                                      clear hi134_0 hl134_0
                                      replace p134 := eq_true p134
                                      replace q134 := eq_true q134
                                      have p135 : 0 ≤ (x5_2 : Int) := of_decide_eq_true (by first | (with_reducible assumption) | assumption)
                                      have q135 : x5_2 < (x3_1.length : Int) := of_decide_eq_true (by first | (with_reducible assumption) | assumption)
                                      obtain ⟨ad135, e135, hx135_0⟩ := Kd.at_int (Kd.R_reads' HO_3.out).2.2 x5_2 p135 q135
                                      obtain rfl : ad129 = ad135 := (by injection e135)
                                      replace p135 := eq_true p135
                                      replace q135 := eq_true q135
                                      have p136 : 0 ≤ ((rd x3_1 x5_2) : Int) := of_decide_eq_true (by first | (with_reducible assumption) | assumption)
                                      have q136 : (rd x3_1 x5_2) < ((rd_L4 l0 x5_2).length : Int) := of_decide_eq_true (by first | (with_reducible assumption) | assumption)
                                      obtain ⟨ad136, e136, hx136_0⟩ := Kd.at_int HR134_0.out (rd x3_1 x5_2) p136 q136
                                      cases e136
                                      replace hx136_0 := (HB.out.cell (World.block_lt_of_cell? w _ hx136_0)).trans hx136_0
                                      replace p136 := eq_true p136
                                      replace q136 := eq_true q136
                                      go_wp2
                                      repeat (go_quiet (fail); try go_wp2)
                                      go_roundg k2
                                      case measure => have := HK1.out; have := HK2.out; omega
                                      case rel => exact ⟨(x5_2), (wrap64 (x6_2 + 1)), (by first | rfl | (simp; done) | (simp [*]; done)), (by first | rfl | (simp; done) | (simp [*]; done)), H', ⟨by have := HK1.out; have := HK2.out; omega⟩, ⟨by (with_reducible repeat (first | apply Kd.R_alloc | apply Kd.R_drewN | apply Kd.R_drew)); exact HO_3.out⟩, ⟨by (with_reducible repeat (first | apply Kd.R_alloc | apply Kd.R_drewN | apply Kd.R_drew)); exact HO_4.out⟩, ⟨by repeat (first | (with_reducible first | exact HB.out | apply below_alloc | apply pw_below_drewN | apply below_drew1) | exact HB.out)⟩⟩
                                  · rw [if_neg c19] at H
                                    exact absurd H (by simp)
                                · rw [if_neg c18] at H
                                  exact absurd H (by simp)
                              · rw [if_neg c17] at H
                                exact absurd H (by simp)
                            · rw [if_neg c16] at H
                              exact absurd H (by simp)
                          · rw [if_neg c15] at H
                            exact absurd H (by simp)
                        · rw [if_neg c14] at H
                          exact absurd H (by simp)
                    · rw [if_neg c11] at H
                      have c11b0 : decide ((rd x3_1 x6_2) < ((rd_L4 l0 x6_2).length : Int)) = false := decide_eq_false c11
                      clear c11
                      have H' := Aside0.mk H
                      clear H
                      obtain ⟨Ao23, co23, eo23⟩ := Kd.R_slice HO_3.out
                      subst eo23
                      have p129 : 0 ≤ (x6_2 : Int) := of_decide_eq_true (by first | (with_reducible assumption) | assumption)
                      have q129 : x6_2 < (x3_1.length : Int) := of_decide_eq_true (by first | (with_reducible assumption) | assumption)
                      obtain ⟨ad129, e129, hx129_0⟩ := Kd.at_int (Kd.R_reads' HO_3.out).2.2 x6_2 p129 q129
                      cases e129
                      replace p129 := eq_true p129
                      replace q129 := eq_true q129
                      have p130 : 0 ≤ (x6_2 : Int) := of_decide_eq_true (by first | (with_reducible assumption) | assumption)
                      have q130 : x6_2 < (l0.length : Int) := of_decide_eq_true (by first | (with_reducible assumption) | assumption)
                      obtain ⟨ad130, A130_0, c130_0, e130, hx130_0, hl130_0, hi130_0⟩ := at_L4 HR0.out x6_2 p130 q130
                      cases e130
                      replace hx130_0 := (HB.out.cell (World.block_lt_of_cell? w _ hx130_0)).trans hx130_0
                      have HR130_0 := Aside0.mk hi130_0
                      have HC130_0 := Aside0.mk hl130_0
                      clear hi130_0 hl130_0
                      replace p130 := eq_true p130
                      replace q130 := eq_true q130
                      go_wp2
                      repeat (go_quiet (fail); try go_wp2)
                      go_roundg k2
                      case measure => have := HK1.out; have := HK2.out; omega
                      case rel => exact ⟨(x5_2), (wrap64 (x6_2 + 1)), (by first | rfl | (simp; done) | (simp [*]; done)), (by first | rfl | (simp; done) | (simp [*]; done)), H', ⟨by have := HK1.out; have := HK2.out; omega⟩, ⟨by (with_reducible repeat (first | apply Kd.R_alloc | apply Kd.R_drewN | apply Kd.R_drew)); exact HO_3.out⟩, ⟨by (with_reducible repeat (first | apply Kd.R_alloc | apply Kd.R_drewN | apply Kd.R_drew)); exact HO_4.out⟩, ⟨by repeat (first | (with_reducible first | exact HB.out | apply below_alloc | apply pw_below_drewN | apply below_drew1) | exact HB.out)⟩⟩
                  · rw [if_neg c10] at H
                    exact absurd H (by simp)
                · rw [if_neg c9] at H
                  exact absurd H (by simp)
              · rw [if_neg c8] at H
                have c8b0 : decide (x6_2 < (l0.length : Int)) = false := decide_eq_false c8
                clear c8
                by_cases c24 : x5_2 < 0
                · rw [if_pos c24] at H
                  have c24b0 : decide (x5_2 < 0) = true := decide_eq_true c24
                  clear c24
                  obtain rfl := Option.some.inj H
                  go_wp2
                  repeat (go_quiet (fail); try go_wp2)
                  go_ret
                  exact ⟨_, by first | rfl | (simp [errW_none, errW_some] <;> rfl) | (simp [*, errW_none, errW_some] <;> rfl), by (with_reducible repeat (first | apply Kd.R_alloc | apply Kd.R_drewN | apply Kd.R_drew)); exact HO_4.out, by repeat (first | (with_reducible first | exact HB.out | apply below_alloc | apply pw_below_drewN | apply below_drew1) | exact HB.out)⟩
                · rw [if_neg c24] at H
                  have c24b0 : decide (x5_2 < 0) = false := decide_eq_false c24
                  clear c24
                  by_cases c25 : 0 ≤ x5_2
                  · rw [if_pos c25] at H
                    have c25b0 : decide (0 ≤ x5_2) = true := decide_eq_true c25
                    clear c25
                    by_cases c26 : x5_2 < (x3_1.length : Int)
                    · rw [if_pos c26] at H
                      have c26b0 : decide (x5_2 < (x3_1.length : Int)) = true := decide_eq_true c26
                      clear c26
                      by_cases c27 : x4_1.length < 8796093022208
                      · rw [if_pos c27] at H
                        have LMc27 := Aside0.mk c27
                        clear c27
                        obtain ⟨y138, hy138⟩ : ∃ y_ : List (S54), y_ = (x4_1 ++ [(⟨x5_2, rd x3_1 x5_2⟩ : S54)]) := ⟨_, rfl⟩
                        replace H : (if x5_2 < (l0.length : Int) then (if 0 ≤ (rd x3_1 x5_2) then (if (rd x3_1 x5_2) < ((rd_L4 l0 x5_2).length : Int) then (inclineref13_Merge.l2 k2 l0 x3_1 y138 (rd (rd_L4 l0 x5_2) (rd x3_1 x5_2)) 0) else (none)) else (none)) else (none)) = some r := by first | (rw [hy138]; with_reducible exact H) | (have H2_ := (Option.bind_some _ _).symm.trans H; rw [hy138]; with_reducible exact H2_) | (have H2_ := (Option.bind_some _ _).symm.trans H; with_reducible exact H2_) | with_reducible exact H | (rw [hy138]; exact H) | exact H
                        have Ny138 := Aside0.mk hy138
                        clear hy138
                        by_cases c28 : x5_2 < (l0.length : Int)
                        · rw [if_pos c28] at H
                          have c28b0 : decide (x5_2 < (l0.length : Int)) = true := decide_eq_true c28
                          clear c28
                          by_cases c29 : 0 ≤ (rd x3_1 x5_2)
                          · rw [if_pos c29] at H
                            have c29b0 : decide (0 ≤ (rd x3_1 x5_2)) = true := decide_eq_true c29
                            clear c29
                            by_cases c30 : (rd x3_1 x5_2) < ((rd_L4 l0 x5_2).length : Int)
                            · rw [if_pos c30] at H
                              have c30b0 : decide ((rd x3_1 x5_2) < ((rd_L4 l0 x5_2).length : Int)) = true := decide_eq_true c30
                              clear c30
                              have H' := Aside0.mk H
                              clear H
                              obtain ⟨Ao31, co31, eo31⟩ := Kd.R_slice HO_3.out
                              subst eo31
                              have p137 : 0 ≤ (x5_2 : Int) := of_decide_eq_true (by first | (with_reducible assumption) | assumption)
                              have q137 : x5_2 < (x3_1.length : Int) := of_decide_eq_true (by first | (with_reducible assumption) | assumption)
                              obtain ⟨ad137, e137, hx137_0⟩ := Kd.at_int (Kd.R_reads' HO_3.out).2.2 x5_2 p137 q137
                              cases e137
                              replace p137 := eq_true p137
                              replace q137 := eq_true q137
                              go_wp2_with (first | ((with_reducible refine gate_builtin (b := .append) (xs := #[.tmp 60, .tmp 67]) rfl ?_); at_builtin; refine Kd.R_append k54 (w0 := w) w.heap.size rfl (.tmp 60) (.tmp 67) 50 54 (.agg #[(.int .i64 0), (.int .i64 0)]) 16 rfl Try.underlying50 info54 rfl (by decide) (by omega) u4 x4_1 (⟨x5_2, rd x3_1 x5_2⟩ : S54) [.int .i64 x5_2, .int .i64 (rd x3_1 x5_2)] (fun _ => True) (fun _ => False) rfl rfl ?aP (fun _ hk => hk.elim) ?aF ?aO ?aB ?aS ?aL ?_; (case aP => exact k54_mkM _ _ _ (⟨x5_2, rd x3_1 x5_2⟩ : S54)); (case aB => exact (by repeat (first | (with_reducible first | exact HB.out | apply below_alloc | apply pw_below_drewN | apply below_drew1) | exact HB.out))); (case aF => exact (fun _ _ => trivial)); (case aO => exact (by (with_reducible repeat (first | apply Kd.R_alloc | apply Kd.R_drewN | apply Kd.R_drew)); exact HO_4.out)); (case aS => exact (below_size (by repeat (first | (with_reducible first | exact HB.out | apply below_alloc | apply pw_below_drewN | apply below_drew1) | exact HB.out)))); (case aL => have := LMc27.out; omega); intro v139 w32 ho hb hg hat; rw [← Ny138.out] at ho; have n0_ := Aside0.mk (Kd.R_over' (by (with_reducible repeat (first | apply Kd.R_alloc | apply Kd.R_drewN | apply Kd.R_drew)); exact HO_3.out) (Kd.R_typed (by (with_reducible repeat (first | apply Kd.R_alloc | apply Kd.R_drewN | apply Kd.R_drew)); exact HO_4.out)) (by decide) hg); have n1_ := Aside0.mk (hb); have n2_ := Aside0.mk (ho); clear HO_3; clear HB; clear HO_4; have HO_3 := n0_; have HB := n1_; have HO140 := n2_; clear n0_ n1_ n2_; clear ho hb hg hat; have p141 : 0 ≤ (x5_2 : Int) := of_decide_eq_true (by first | (with_reducible assumption) | assumption); have q141 : x5_2 < (l0.length : Int) := of_decide_eq_true (by first | (with_reducible assumption) | assumption); obtain ⟨ad141, A141_0, c141_0, e141, hx141_0, hl141_0, hi141_0⟩ := at_L4 HR0.out x5_2 p141 q141; cases e141; replace hx141_0 := (HB.out.cell (World.block_lt_of_cell? w _ hx141_0)).trans hx141_0; have HR141_0 := Aside0.mk hi141_0; have HC141_0 := Aside0.mk hl141_0; clear hi141_0 hl141_0; replace p141 := eq_true p141; replace q141 := eq_true q141; have p142 : 0 ≤ (x5_2 : Int) := of_decide_eq_true (by first | (with_reducible assumption) | assumption); have q142 : x5_2 < (x3_1.length : Int) := of_decide_eq_true (by first | (with_reducible assumption) | assumption); obtain ⟨ad142, e142, hx142_0⟩ := Kd.at_int (Kd.R_reads' HO_3.out).2.2 x5_2 p142 q142; obtain rfl : ad137 = ad142 := (by injection e142); replace p142 := eq_true p142; replace q142 := eq_true q142; have p143 : 0 ≤ ((rd x3_1 x5_2) : Int) := of_decide_eq_true (by first | (with_reducible assumption) | assumption); have q143 : (rd x3_1 x5_2) < ((rd_L4 l0 x5_2).length : Int) := of_decide_eq_true (by first | (with_reducible assumption) | assumption); obtain ⟨ad143, e143, hx143_0⟩ := Kd.at_int HR141_0.out (rd x3_1 x5_2) p143 q143; cases e143; replace hx143_0 := (HB.out.cell (World.block_lt_of_cell? w _ hx143_0)).trans hx143_0; replace p143 := eq_true p143; replace q143 := eq_true q143))
                              repeat (go_quiet (first | ((with_reducible refine gate_builtin (b := .append) (xs := #[.tmp 60, .tmp 67]) rfl ?_); at_builtin; refine Kd.R_append k54 (w0 := w) w.heap.size rfl (.tmp 60) (.tmp 67) 50 54 (.agg #[(.int .i64 0), (.int .i64 0)]) 16 rfl Try.underlying50 info54 rfl (by decide) (by omega) u4 x4_1 (⟨x5_2, rd x3_1 x5_2⟩ : S54) [.int .i64 x5_2, .int .i64 (rd x3_1 x5_2)] (fun _ => True) (fun _ => False) rfl rfl ?aP (fun _ hk => hk.elim) ?aF ?aO ?aB ?aS ?aL ?_; (case aP => exact k54_mkM _ _ _ (⟨x5_2, rd x3_1 x5_2⟩ : S54)); (case aB => exact (by repeat (first | (with_reducible first | exact HB.out | apply below_alloc | apply pw_below_drewN | apply below_drew1) | exact HB.out))); (case aF => exact (fun _ _ => trivial)); (case aO => exact (by (with_reducible repeat (first | apply Kd.R_alloc | apply Kd.R_drewN | apply Kd.R_drew)); exact HO_4.out)); (case aS => exact (below_size (by repeat (first | (with_reducible first | exact HB.out | apply below_alloc | apply pw_below_drewN | apply below_drew1) | exact HB.out)))); (case aL => have := LMc27.out; omega); intro v139 w32 ho hb hg hat; rw [← Ny138.out] at ho; have n0_ := Aside0.mk (Kd.R_over' (by (with_reducible repeat (first | apply Kd.R_alloc | apply Kd.R_drewN | apply Kd.R_drew)); exact HO_3.out) (Kd.R_typed (by (with_reducible repeat (first | apply Kd.R_alloc | apply Kd.R_drewN | apply Kd.R_drew)); exact HO_4.out)) (by decide) hg); have n1_ := Aside0.mk (hb); have n2_ := Aside0.mk (ho); clear HO_3; clear HB; clear HO_4; have HO_3 := n0_; have HB := n1_; have HO140 := n2_; clear n0_ n1_ n2_; clear ho hb hg hat; have p141 : 0 ≤ (x5_2 : Int) := of_decide_eq_true (by first | (with_reducible assumption) | assumption); have q141 : x5_2 < (l0.length : Int) := of_decide_eq_true (by first | (with_reducible assumption) | assumption); obtain ⟨ad141, A141_0, c141_0, e141, hx141_0, hl141_0, hi141_0⟩ := at_L4 HR0.out x5_2 p141 q141; cases e141; replace hx141_0 := (HB.out.cell (World.block_lt_of_cell? w _ hx141_0)).trans hx141_0; have HR141_0 := Aside0.mk hi141_0; have HC141_0 := Aside0.mk hl141_0; clear hi141_0 hl141_0; replace p141 := eq_true p141; replace q141 := eq_true q141; have p142 : 0 ≤ (x5_2 : Int) := of_decide_eq_true (by first | (with_reducible assumption) | assumption); have q142 : x5_2 < (x3_1.length : Int) := of_decide_eq_true (by first | (with_reducible assumption) | assumption); obtain ⟨ad142, e142, hx142_0⟩ := Kd.at_int (Kd.R_reads' HO_3.out).2.2 x5_2 p142 q142; obtain rfl : ad137 = ad142 := (by injection e142); replace p142 := eq_true p142; replace q142 := eq_true q142; have p143 : 0 ≤ ((rd x3_1 x5_2) : Int) := of_decide_eq_true (by first | (with_reducible assumption) | assumption); have q143 : (rd x3_1 x5_2) < ((rd_L4 l0 x5_2).length : Int) := of_decide_eq_true (by first | (with_reducible assumption) | assumption); obtain ⟨ad143, e143, hx143_0⟩ := Kd.at_int HR141_0.out (rd x3_1 x5_2) p143 q143; cases e143; replace hx143_0 := (HB.out.cell (World.block_lt_of_cell? w _ hx143_0)).trans hx143_0; replace p143 := eq_true p143; replace q143 := eq_true q143)); try go_wp2_with (first | ((with_reducible refine gate_builtin (b := .append) (xs := #[.tmp 60, .tmp 67]) rfl ?_); at_builtin; refine Kd.R_append k54 (w0 := w) w.heap.size rfl (.tmp 60) (.tmp 67) 50 54 (.agg #[(.int .i64 0), (.int .i64 0)]) 16 rfl Try.underlying50 info54 rfl (by decide) (by omega) u4 x4_1 (⟨x5_2, rd x3_1 x5_2⟩ : S54) [.int .i64 x5_2, .int .i64 (rd x3_1 x5_2)] (fun _ => True) (fun _ => False) rfl rfl ?aP (fun _ hk => hk.elim) ?aF ?aO ?aB ?aS ?aL ?_; (case aP => exact k54_mkM _ _ _ (⟨x5_2, rd x3_1 x5_2⟩ : S54)); (case aB => exact (by repeat (first | (with_reducible first | exact HB.out | apply below_alloc | apply pw_below_drewN | apply below_drew1) | exact HB.out))); (case aF => exact (fun _ _ => trivial)); (case aO => exact (by (with_reducible repeat (first | apply Kd.R_alloc | apply Kd.R_drewN | apply Kd.R_drew)); exact HO_4.out)); (case aS => exact (below_size (by repeat (first | (with_reducible first | exact HB.out | apply below_alloc | apply pw_below_drewN | apply below_drew1) | exact HB.out)))); (case aL => have := LMc27.out; omega); intro v139 w32 ho hb hg hat; rw [← Ny138.out] at ho; have n0_ := Aside0.mk (Kd.R_over' (by (with_reducible repeat (first | apply Kd.R_alloc | apply Kd.R_drewN | apply Kd.R_drew)); exact HO_3.out) (Kd.R_typed (by (with_reducible repeat (first | apply Kd.R_alloc | apply Kd.R_drewN | apply Kd.R_drew)); exact HO_4.out)) (by decide) hg); have n1_ := Aside0.mk (hb); have n2_ := Aside0.mk (ho); clear HO_3; clear HB; clear HO_4; have HO_3 := n0_; have HB := n1_; have HO140 := n2_; clear n0_ n1_ n2_; clear ho hb hg hat; have p141 : 0 ≤ (x5_2 : Int) := of_decide_eq_true (by first | (with_reducible assumption) | assumption); have q141 : x5_2 < (l0.length : Int) := of_decide_eq_true (by first | (with_reducible assumption) | assumption); obtain ⟨ad141, A141_0, c141_0, e141, hx141_0, hl141_0, hi141_0⟩ := at_L4 HR0.out x5_2 p141 q141; cases e141; replace hx141_0 := (HB.out.cell (World.block_lt_of_cell? w _ hx141_0)).trans hx141_0; have HR141_0 := Aside0.mk hi141_0; have HC141_0 := Aside0.mk hl141_0; clear hi141_0 hl141_0; replace p141 := eq_true p141; replace q141 := eq_true q141; have p142 : 0 ≤ (x5_2 : Int) := of_decide_eq_true (by first | (with_reducible assumption) | assumption); have q142 : x5_2 < (x3_1.length : Int) := of_decide_eq_true (by first | (with_reducible assumption) | assumption); obtain ⟨ad142, e142, hx142_0⟩ := Kd.at_int (Kd.R_reads' HO_3.out).2.2 x5_2 p142 q142; obtain rfl : ad137 = ad142 := (by injection e142); replace p142 := eq_true p142; replace q142 := eq_true q142; have p143 : 0 ≤ ((rd x3_1 x5_2) : Int) := of_decide_eq_true (by first | (with_reducible assumption) | assumption); have q143 : (rd x3_1 x5_2) < ((rd_L4 l0 x5_2).length : Int) := of_decide_eq_true (by first | (with_reducible assumption) | assumption); obtain ⟨ad143, e143, hx143_0⟩ := Kd.at_int HR141_0.out (rd x3_1 x5_2) p143 q143; cases e143; replace hx143_0 := (HB.out.cell (World.block_lt_of_cell? w _ hx143_0)).trans hx143_0; replace p143 := eq_true p143; replace q143 := eq_true q143)))
                              go_loopg [8] k2 (fun kq v8 w' => ∃ (x3_3 : List Int) (x8_3 : Int), v8 = .int .i64 x8_3 ∧ Aside0 (inclineref13_Merge.l2 kq l0 x3_3 y138 (rd (rd_L4 l0 x5_2) (rd x3_1 x5_2)) x8_3 = some r) ∧ Aside0 (kq ≤ k2) ∧ Aside0 (Kd.R (Kd.int .i64) 3 w' w.heap.size (fun _ => True) (.slice (some ad137) x3_1.length co31) x3_3) ∧ Aside0 (Kd.R k54 54 w' w.heap.size (fun _ => True) v139 y138) ∧ Aside0 (Below w.heap.size w w'))
                              case atStart => exact ⟨(x3_1), (0), (by first | rfl | (simp; done) | (simp [*]; done)), H', ⟨Nat.le_refl _⟩, ⟨by (with_reducible repeat (first | apply Kd.R_alloc | apply Kd.R_drewN | apply Kd.R_drew)); exact HO_3.out⟩, ⟨by (with_reducible repeat (first | apply Kd.R_alloc | apply Kd.R_drewN | apply Kd.R_drew)); exact HO140.out⟩, ⟨by repeat (first | (with_reducible first | exact HB.out | apply below_alloc | apply pw_below_drewN | apply below_drew1) | exact HB.out)⟩⟩
                              case round =>
                                clear H'
                                try clear c1
                                try clear p1
                                try clear q1
                                try clear hx1
                                try clear c2
                                try clear c2b0
                                try clear c2b1
                                try clear p2
                                try clear c3
                                try clear c3b0
                                try clear c3b1
                                try clear p6
                                try clear c8
                                try clear c8b0
                                try clear c9
                                try clear c9b0
                                try clear c10
                                try clear c10b0
                                try clear c11
                                try clear c11b0
                                try clear c12
                                try clear c12b0
                                try clear p12
                                try clear q12
                                try clear hx12
                                try clear c13
                                try clear p13
                                try clear q13
                                try clear hx13
                                try clear c14
                                try clear c14b0
                                try clear p14
                                try clear q14
                                try clear hx14
                                try clear c15
                                try clear c15b0
                                try clear c16
                                try clear c16b0
                                try clear c17
                                try clear c17b0
                                try clear c18
                                try clear c18b0
                                try clear c19
                                try clear c19b0
                                try clear c20
                                try clear c20b0
                                try clear c21
                                try clear c24
                                try clear c24b0
                                try clear c25
                                try clear c25b0
                                try clear c26
                                try clear c26b0
                                try clear c27
                                try clear c28
                                try clear c28b0
                                try clear c29
                                try clear c29b0
                                try clear c30
                                try clear c30b0
                                try clear hx129_0
                                try clear hx130_0
                                try clear hx131_0
                                try clear hx132_0
                                try clear hx133_0
                                try clear hx134_0
                                try clear hx135_0
                                try clear hx136_0
                                try clear hx137_0
                                try clear hx141_0
                                try clear hx142_0
                                try clear hx143_0
                                try clear p129
                                try clear p130
                                try clear p131
                                try clear p132
                                try clear p133
                                try clear p134
                                try clear p135
                                try clear p136
                                try clear p137
                                try clear p141
                                try clear p142
                                try clear p143
                                try clear p2
                                try clear q129
                                try clear q130
                                try clear q131
                                try clear q132
                                try clear q133
                                try clear q134
                                try clear q135
                                try clear q136
                                try clear q137
                                try clear q141
                                try clear q142
                                try clear q143
                                obtain ⟨x3_3, x8_3, rfl, HA, HK3, HO_3, HO_4, HB⟩ := hrel
                                have hl3_3 := (Kd.R_reads' HO_3.out).1
                                rw [hl3_3] at HO_3
                                (try simp only [hl3_3])
                                (try simp only [hl3_3] at HO_4)
                                cases gk with
                                | zero => exact absurd HA.out (by simp [inclineref13_Merge.l2])
                                | succ k3 =>
                                  have H := HA.out
                                  clear HA
                                  simp only [inclineref13_Merge.l2] at H
                                  by_cases c33 : x8_3 < (l0.length : Int)
                                  · rw [if_pos c33] at H
                                    have c33b0 : decide (x8_3 < (l0.length : Int)) = true := decide_eq_true c33
                                    clear c33
                                    by_cases c34 : 0 ≤ x8_3
                                    · rw [if_pos c34] at H
                                      have c34b0 : decide (0 ≤ x8_3) = true := decide_eq_true c34
                                      clear c34
                                      by_cases c35 : x8_3 < (x3_3.length : Int)
                                      · rw [if_pos c35] at H
                                        have c35b0 : decide (x8_3 < (x3_3.length : Int)) = true := decide_eq_true c35
                                        clear c35
                                        by_cases c36 : (rd x3_3 x8_3) < ((rd_L4 l0 x8_3).length : Int)
                                        · rw [if_pos c36] at H
                                          have c36b0 : decide ((rd x3_3 x8_3) < ((rd_L4 l0 x8_3).length : Int)) = true := decide_eq_true c36
                                          clear c36
                                          by_cases c37 : 0 ≤ (rd x3_3 x8_3)
                                          · rw [if_pos c37] at H
                                            have c37b0 : decide (0 ≤ (rd x3_3 x8_3)) = true := decide_eq_true c37
                                            clear c37
                                            by_cases c38 : (rd (rd_L4 l0 x8_3) (rd x3_3 x8_3)) = (rd (rd_L4 l0 x5_2) (rd x3_1 x5_2))
                                            · rw [if_pos c38] at H
                                              have c38b0 : ((rd (rd_L4 l0 x8_3) (rd x3_3 x8_3)) == (rd (rd_L4 l0 x5_2) (rd x3_1 x5_2))) = true := beq_iff_eq.mpr c38
                                              have c38b1 : ((rd (rd_L4 l0 x8_3) (rd x3_3 x8_3)) != (rd (rd_L4 l0 x5_2) (rd x3_1 x5_2))) = false := bne_eq_false_iff_eq.mpr c38
                                              clear c38
                                              obtain ⟨y150, hy150⟩ : ∃ y_ : List Int, y_ = (x3_3.set (x8_3 : Int).toNat (wrap64 ((rd x3_3 x8_3) + 1))) := ⟨_, rfl⟩
                                              replace H : (inclineref13_Merge.l2 k3 l0 y150 y138 (rd (rd_L4 l0 x5_2) (rd x3_1 x5_2)) (wrap64 (x8_3 + 1))) = some r := by first | (rw [hy150]; with_reducible exact H) | (have H2_ := (Option.bind_some _ _).symm.trans H; rw [hy150]; with_reducible exact H2_) | (have H2_ := (Option.bind_some _ _).symm.trans H; with_reducible exact H2_) | with_reducible exact H | (rw [hy150]; exact H) | exact H
                                              have Ny150 := Aside0.mk hy150
                                              clear hy150
                                              have H' := Aside0.mk H
                                              clear H
                                              have p144 : 0 ≤ (x8_3 : Int) := of_decide_eq_true (by first | (with_reducible assumption) | assumption)
                                              have q144 : x8_3 < (x3_3.length : Int) := of_decide_eq_true (by first | (with_reducible assumption) | assumption)
                                              obtain ⟨ad144, e144, hx144_0⟩ := Kd.at_int (Kd.R_reads' HO_3.out).2.2 x8_3 p144 q144
                                              obtain rfl : ad137 = ad144 := (by injection e144)
                                              replace p144 := eq_true p144
                                              replace q144 := eq_true q144
                                              have p145 : 0 ≤ (x8_3 : Int) := of_decide_eq_true (by first | (with_reducible assumption) | assumption)
                                              have q145 : x8_3 < (l0.length : Int) := of_decide_eq_true (by first | (with_reducible assumption) | assumption)
                                              obtain ⟨ad145, A145_0, c145_0, e145, hx145_0, hl145_0, hi145_0⟩ := at_L4 HR0.out x8_3 p145 q145
                                              obtain rfl : ad141 = ad145 := (by injection e145)
                                              replace hx145_0 := (HB.out.cell (World.block_lt_of_cell? w _ hx145_0)).trans hx145_0
                                              have HR145_0 := Aside0.mk hi145_0
                                              have HC145_0 := Aside0.mk hl145_0
                                              clear hi145_0 hl145_0
                                              replace p145 := eq_true p145
                                              replace q145 := eq_true q145
                                              have p146 : 0 ≤ (x8_3 : Int) := of_decide_eq_true (by first | (with_reducible assumption) | assumption)
                                              have q146 : x8_3 < (l0.length : Int) := of_decide_eq_true (by first | (with_reducible assumption) | assumption)
                                              obtain ⟨ad146, A146_0, c146_0, e146, hx146_0, hl146_0, hi146_0⟩ := at_L4 HR0.out x8_3 p146 q146
                                              obtain rfl : ad141 = ad146 := (by injection e146)
                                              replace hx146_0 := (HB.out.cell (World.block_lt_of_cell? w _ hx146_0)).trans hx146_0
                                              have HR146_0 := Aside0.mk hi146_0
                                              have HC146_0 := Aside0.mk hl146_0
                                              clear hi146_0 hl146_0
                                              replace p146 := eq_true p146
                                              replace q146 := eq_true q146
                                              have ea_ := Option.some.inj (hx145_0.symm.trans hx146_0)
                                              injection ea_ with ea_ en_ ec_
                                              subst ea_
                                              subst ec_
                                              clear en_
                                              have p147 : 0 ≤ (x8_3 : Int) := of_decide_eq_true (by first | (with_reducible assumption) | assumption)
                                              have q147 : x8_3 < (x3_3.length : Int) := of_decide_eq_true (by first | (with_reducible assumption) | assumption)
                                              obtain ⟨ad147, e147, hx147_0⟩ := Kd.at_int (Kd.R_reads' HO_3.out).2.2 x8_3 p147 q147
                                              obtain rfl : ad137 = ad147 := (by injection e147)
                                              replace p147 := eq_true p147
                                              replace q147 := eq_true q147
                                              have p148 : 0 ≤ ((rd x3_3 x8_3) : Int) := of_decide_eq_true (by first | (with_reducible assumption) | assumption)
                                              have q148 : (rd x3_3 x8_3) < ((rd_L4 l0 x8_3).length : Int) := of_decide_eq_true (by first | (with_reducible assumption) | assumption)
                                              obtain ⟨ad148, e148, hx148_0⟩ := Kd.at_int HR146_0.out (rd x3_3 x8_3) p148 q148
                                              cases e148
                                              replace hx148_0 := (HB.out.cell (World.block_lt_of_cell? w _ hx148_0)).trans hx148_0
                                              replace p148 := eq_true p148
                                              replace q148 := eq_true q148
                                              have p149 : 0 ≤ (x8_3 : Int) := of_decide_eq_true (by first | (with_reducible assumption) | assumption)
                                              have q149 : x8_3 < (x3_3.length : Int) := of_decide_eq_true (by first | (with_reducible assumption) | assumption)
                                              obtain ⟨ad149, e149, hx149_0⟩ := Kd.at_int (Kd.R_reads' HO_3.out).2.2 x8_3 p149 q149
                                              obtain rfl : ad137 = ad149 := (by injection e149)
                                              replace p149 := eq_true p149
                                              replace q149 := eq_true q149
                                              have p39 : 0 ≤ (x8_3 : Int) := of_decide_eq_true (by first | (with_reducible assumption) | assumption)
                                              have q39 : (x8_3 : Int) < ((x3_3.length : Int) : Int) := of_decide_eq_true (by first | (with_reducible assumption) | assumption)
                                              obtain ⟨go39, co39, eo39, gb39, gl39, cl39, HG39⟩ := Kd.R_form HO_3.out (by omega)
                                              (first | cases eo39 | (injection eo39 with ea_ en_ ec_; (first | subst ea_ | (injection ea_ with ea_; subst ea_)); subst ec_; clear en_))
                                              have GB39 := Aside0.mk gb39
                                              have GG39 := Aside0.mk HG39
                                              clear gb39 gl39 HG39
                                              (first | simp only [add_plain] at hx137_0 | skip)
                                              (first | simp only [add_plain] at hx142_0 | skip)
                                              (first | simp only [add_plain] at hx144_0 | skip)
                                              (first | simp only [add_plain] at hx147_0 | skip)
                                              (first | simp only [add_plain] at hx149_0 | skip)
                                              obtain ⟨hx39_0, hf39_0⟩ := Kd.R_celln 0 HO_3.out (x8_3 : Int) p39 q39
                                              replace p39 := eq_true p39
                                              replace q39 := eq_true q39
                                              have HP40 := Kd.R_putg HO_3.out (x8_3 : Int) (wrap64 ((rd x3_3 x8_3) + 1))
                                              go_wp2_with (first | ((with_reducible refine gate_store (t := 3) (p := 114) rfl ?_); (try (rw [drewN_self wr]; generalize hq_ : World.drewN wr _ = wr; have n0_ := Aside0.mk (Kd.R_at hq_ HO_3.out); have n1_ := Aside0.mk (Kd.R_at hq_ HO_4.out); have n2_ := Aside0.mk (below_at hq_ HB.out); clear hq_ HO_3 HO_4 HB; have HO_3 := n0_; have HO_4 := n1_; have HB := n2_; clear n0_ n1_ n2_; (try (have HP40 := Kd.R_putg HO_3.out (x8_3 : Int) (wrap64 ((rd x3_3 x8_3) + 1)))))); refine store_event (t := 3) (p := 114) (v := ?vo_w41) (w1 := (wr.setCell ⟨go39, (x8_3 : Int).toNat, none⟩ (.int .i64 (wrap64 ((rd x3_3 x8_3) + 1))))) ?hg ?ho ?hn ?hr ?_; (case ho => rfl); (case hg => rfl); (case hn => rfl); (case hr => first | (go_simp; done) | (go_simp; rfl)); intro w41 hw; have hg : wr.grownBy w41 (some go39) := (by rw [hw]; exact HP40.2); have hp_ : Kd.R (Kd.int .i64) 3 w41 w.heap.size (fun _ => True) (.slice (some ⟨go39, 0, none⟩) x3_3.length co31) y150 := (by rw [hw, Ny150.out]; exact HP40.1); clear HP40; have n0_ := Aside0.mk (hp_); have n1_ := Aside0.mk (Kd.R_over' (v := (.slice (some ⟨go39, 0, none⟩) x3_3.length co31)) (by (with_reducible repeat (first | apply Kd.R_alloc | apply Kd.R_drewN | apply Kd.R_drew)); exact HO_4.out) (Kd.R_typed HO_3.out) (by decide) hg); have n2_ := Aside0.mk ((by rw [hw]; exact below_set (HB.out) GB39.out : Below w.heap.size w w41)); clear HO_3; clear HO_4; clear HB; have HO_3 := n0_; have HO_4 := n1_; have HB := n2_; clear n0_ n1_ n2_; clear hg hw hp_))
                                              repeat (go_quiet (first | ((with_reducible refine gate_store (t := 3) (p := 114) rfl ?_); (try (rw [drewN_self wr]; generalize hq_ : World.drewN wr _ = wr; have n0_ := Aside0.mk (Kd.R_at hq_ HO_3.out); have n1_ := Aside0.mk (Kd.R_at hq_ HO_4.out); have n2_ := Aside0.mk (below_at hq_ HB.out); clear hq_ HO_3 HO_4 HB; have HO_3 := n0_; have HO_4 := n1_; have HB := n2_; clear n0_ n1_ n2_; (try (have HP40 := Kd.R_putg HO_3.out (x8_3 : Int) (wrap64 ((rd x3_3 x8_3) + 1)))))); refine store_event (t := 3) (p := 114) (v := ?vo_w41) (w1 := (wr.setCell ⟨go39, (x8_3 : Int).toNat, none⟩ (.int .i64 (wrap64 ((rd x3_3 x8_3) + 1))))) ?hg ?ho ?hn ?hr ?_; (case ho => rfl); (case hg => rfl); (case hn => rfl); (case hr => first | (go_simp; done) | (go_simp; rfl)); intro w41 hw; have hg : wr.grownBy w41 (some go39) := (by rw [hw]; exact HP40.2); have hp_ : Kd.R (Kd.int .i64) 3 w41 w.heap.size (fun _ => True) (.slice (some ⟨go39, 0, none⟩) x3_3.length co31) y150 := (by rw [hw, Ny150.out]; exact HP40.1); clear HP40; have n0_ := Aside0.mk (hp_); have n1_ := Aside0.mk (Kd.R_over' (v := (.slice (some ⟨go39, 0, none⟩) x3_3.length co31)) (by (with_reducible repeat (first | apply Kd.R_alloc | apply Kd.R_drewN | apply Kd.R_drew)); exact HO_4.out) (Kd.R_typed HO_3.out) (by decide) hg); have n2_ := Aside0.mk ((by rw [hw]; exact below_set (HB.out) GB39.out : Below w.heap.size w w41)); clear HO_3; clear HO_4; clear HB; have HO_3 := n0_; have HO_4 := n1_; have HB := n2_; clear n0_ n1_ n2_; clear hg hw hp_)); try go_wp2_with (first | ((with_reducible refine gate_store (t := 3) (p := 114) rfl ?_); (try (rw [drewN_self wr]; generalize hq_ : World.drewN wr _ = wr; have n0_ := Aside0.mk (Kd.R_at hq_ HO_3.out); have n1_ := Aside0.mk (Kd.R_at hq_ HO_4.out); have n2_ := Aside0.mk (below_at hq_ HB.out); clear hq_ HO_3 HO_4 HB; have HO_3 := n0_; have HO_4 := n1_; have HB := n2_; clear n0_ n1_ n2_; (try (have HP40 := Kd.R_putg HO_3.out (x8_3 : Int) (wrap64 ((rd x3_3 x8_3) + 1)))))); refine store_event (t := 3) (p := 114) (v := ?vo_w41) (w1 := (wr.setCell ⟨go39, (x8_3 : Int).toNat, none⟩ (.int .i64 (wrap64 ((rd x3_3 x8_3) + 1))))) ?hg ?ho ?hn ?hr ?_; (case ho => rfl); (case hg => rfl); (case hn => rfl); (case hr => first | (go_simp; done) | (go_simp; rfl)); intro w41 hw; have hg : wr.grownBy w41 (some go39) := (by rw [hw]; exact HP40.2); have hp_ : Kd.R (Kd.int .i64) 3 w41 w.heap.size (fun _ => True) (.slice (some ⟨go39, 0, none⟩) x3_3.length co31) y150 := (by rw [hw, Ny150.out]; exact HP40.1); clear HP40; have n0_ := Aside0.mk (hp_); have n1_ := Aside0.mk (Kd.R_over' (v := (.slice (some ⟨go39, 0, none⟩) x3_3.length co31)) (by (with_reducible repeat (first | apply Kd.R_alloc | apply Kd.R_drewN | apply Kd.R_drew)); exact HO_4.out) (Kd.R_typed HO_3.out) (by decide) hg); have n2_ := Aside0.mk ((by rw [hw]; exact below_set (HB.out) GB39.out : Below w.heap.size w w41)); clear HO_3; clear HO_4; clear HB; have HO_3 := n0_; have HO_4 := n1_; have HB := n2_; clear n0_ n1_ n2_; clear hg hw hp_)))
                                              (try simp only [← hl3_3])
                                              have h3x_ : Kd.R (Kd.int .i64) 3 (World.drewN wr nq) w.heap.size (fun _ => True) (.slice (some ⟨go39, 0, none⟩) x3_3.length co31) x3_3 := by with_reducible apply Kd.R_drewN; exact HO_3.out
                                              have h4x_ : Kd.R k54 54 (World.drewN wr nq) w.heap.size (fun _ => True) v139 y138 := by with_reducible apply Kd.R_drewN; exact HO_4.out
                                              have HP41 := Kd.R_putg h3x_ (x8_3 : Int) (wrap64 ((rd x3_3 x8_3) + 1))
                                              have n0_ := Aside0.mk (show Kd.R (Kd.int .i64) 3 ((World.drewN wr nq).setCell ⟨go39, (x8_3 : Int).toNat, none⟩ (.int .i64 (wrap64 ((rd x3_3 x8_3) + 1)))) w.heap.size (fun _ => True) (.slice (some ⟨go39, 0, none⟩) x3_3.length co31) y150 from by rw [Ny150.out]; exact HP41.1)
                                              have n1_ := Aside0.mk (Kd.R_over' (v := (.slice (some ⟨go39, 0, none⟩) x3_3.length co31)) h4x_ (Kd.R_typed h3x_) (by decide) HP41.2)
                                              have n2_ := Aside0.mk (show Below w.heap.size w ((World.drewN wr nq).setCell ⟨go39, (x8_3 : Int).toNat, none⟩ (.int .i64 (wrap64 ((rd x3_3 x8_3) + 1)))) from below_set (by with_reducible apply pw_below_drewN; exact HB.out) GB39.out)
                                              clear HO_3 HO_4 HB
                                              have HO_3 := n0_
                                              have HO_4 := n1_
                                              have HB := n2_
                                              (try rw [← add_plain go39 x5_2.toNat])
                                              go_roundg k3
                                              case measure => have := HK1.out; have := HK2.out; have := HK3.out; omega
                                              case rel => exact ⟨(y150), (wrap64 (x8_3 + 1)), (by first | rfl | (simp; done) | (simp [*]; done)), H', ⟨by have := HK1.out; have := HK2.out; have := HK3.out; omega⟩, ⟨by (try simp only [hl3_3]); (with_reducible repeat (first | apply Kd.R_alloc | apply Kd.R_drewN | apply Kd.R_drew)); exact HO_3.out⟩, ⟨by (try simp only [hl3_3]); (with_reducible repeat (first | apply Kd.R_alloc | apply Kd.R_drewN | apply Kd.R_drew)); exact HO_4.out⟩, ⟨by repeat (first | (with_reducible first | exact HB.out | apply below_alloc | apply pw_below_drewN | apply below_drew1) | exact HB.out)⟩⟩
                                            · rw [if_neg c38] at H
                                              have c38b0 : ((rd (rd_L4 l0 x8_3) (rd x3_3 x8_3)) == (rd (rd_L4 l0 x5_2) (rd x3_1 x5_2))) = false := beq_eq_false_iff_ne.mpr c38
                                              have c38b1 : ((rd (rd_L4 l0 x8_3) (rd x3_3 x8_3)) != (rd (rd_L4 l0 x5_2) (rd x3_1 x5_2))) = true := bne_iff_ne.mpr c38
                                              have H' := Aside0.mk H
                                              clear H
                                              have p144 : 0 ≤ (x8_3 : Int) := of_decide_eq_true (by first | (with_reducible assumption) | assumption)
                                              have q144 : x8_3 < (x3_3.length : Int) := of_decide_eq_true (by first | (with_reducible assumption) | assumption)
                                              obtain ⟨ad144, e144, hx144_0⟩ := Kd.at_int (Kd.R_reads' HO_3.out).2.2 x8_3 p144 q144
                                              obtain rfl : ad137 = ad144 := (by injection e144)
                                              replace p144 := eq_true p144
                                              replace q144 := eq_true q144
                                              have p145 : 0 ≤ (x8_3 : Int) := of_decide_eq_true (by first | (with_reducible assumption) | assumption)
                                              have q145 : x8_3 < (l0.length : Int) := of_decide_eq_true (by first | (with_reducible assumption) | assumption)
                                              obtain ⟨ad145, A145_0, c145_0, e145, hx145_0, hl145_0, hi145_0⟩ := at_L4 HR0.out x8_3 p145 q145
                                              obtain rfl : ad141 = ad145 := (by injection e145)
                                              replace hx145_0 := (HB.out.cell (World.block_lt_of_cell? w _ hx145_0)).trans hx145_0
                                              have HR145_0 := Aside0.mk hi145_0
                                              have HC145_0 := Aside0.mk hl145_0
                                              clear hi145_0 hl145_0
                                              replace p145 := eq_true p145
                                              replace q145 := eq_true q145
                                              have p146 : 0 ≤ (x8_3 : Int) := of_decide_eq_true (by first | (with_reducible assumption) | assumption)
                                              have q146 : x8_3 < (l0.length : Int) := of_decide_eq_true (by first | (with_reducible assumption) | assumption)
                                              obtain ⟨ad146, A146_0, c146_0, e146, hx146_0, hl146_0, hi146_0⟩ := at_L4 HR0.out x8_3 p146 q146
                                              obtain rfl : ad141 = ad146 := (by injection e146)
                                              replace hx146_0 := (HB.out.cell (World.block_lt_of_cell? w _ hx146_0)).trans hx146_0
                                              have HR146_0 := Aside0.mk hi146_0
                                              have HC146_0 := Aside0.mk hl146_0
                                              clear hi146_0 hl146_0
                                              replace p146 := eq_true p146
                                              replace q146 := eq_true q146
                                              have ea_ := Option.some.inj (hx145_0.symm.trans hx146_0)
                                              injection ea_ with ea_ en_ ec_
                                              subst ea_
                                              subst ec_
                                              clear en_
                                              have p147 : 0 ≤ (x8_3 : Int) := of_decide_eq_true (by first | (with_reducible assumption) | assumption)
                                              have q147 : x8_3 < (x3_3.length : Int) := of_decide_eq_true (by first | (with_reducible assumption) | assumption)
                                              obtain ⟨ad147, e147, hx147_0⟩ := Kd.at_int (Kd.R_reads' HO_3.out).2.2 x8_3 p147 q147
                                              obtain rfl : ad137 = ad147 := (by injection e147)
                                              replace p147 := eq_true p147
                                              replace q147 := eq_true q147
                                              have p148 : 0 ≤ ((rd x3_3 x8_3) : Int) := of_decide_eq_true (by first | (with_reducible assumption) | assumption)
                                              have q148 : (rd x3_3 x8_3) < ((rd_L4 l0 x8_3).length : Int) := of_decide_eq_true (by first | (with_reducible assumption) | assumption)
                                              obtain ⟨ad148, e148, hx148_0⟩ := Kd.at_int HR146_0.out (rd x3_3 x8_3) p148 q148
                                              cases e148
                                              replace hx148_0 := (HB.out.cell (World.block_lt_of_cell? w _ hx148_0)).trans hx148_0
                                              replace p148 := eq_true p148
                                              replace q148 := eq_true q148
                                              go_wp2
                                              repeat (go_quiet (fail); try go_wp2)
                                              (try simp only [← hl3_3])
                                              go_roundg k3
                                              case measure => have := HK1.out; have := HK2.out; have := HK3.out; omega
                                              case rel => exact ⟨(x3_3), (wrap64 (x8_3 + 1)), (by first | rfl | (simp; done) | (simp [*]; done)), H', ⟨by have := HK1.out; have := HK2.out; have := HK3.out; omega⟩, ⟨by (try simp only [hl3_3]); (with_reducible repeat (first | apply Kd.R_alloc | apply Kd.R_drewN | apply Kd.R_drew)); exact HO_3.out⟩, ⟨by (try simp only [hl3_3]); (with_reducible repeat (first | apply Kd.R_alloc | apply Kd.R_drewN | apply Kd.R_drew)); exact HO_4.out⟩, ⟨by repeat (first | (with_reducible first | exact HB.out | apply below_alloc | apply pw_below_drewN | apply below_drew1) | exact HB.out)⟩⟩
                                          · rw [if_neg c37] at H
                                            exact absurd H (by simp)
                                        · rw [if_neg c36] at H
                                          have c36b0 : decide ((rd x3_3 x8_3) < ((rd_L4 l0 x8_3).length : Int)) = false := decide_eq_false c36
                                          clear c36
                                          have H' := Aside0.mk H
                                          clear H
                                          have p144 : 0 ≤ (x8_3 : Int) := of_decide_eq_true (by first | (with_reducible assumption) | assumption)
                                          have q144 : x8_3 < (x3_3.length : Int) := of_decide_eq_true (by first | (with_reducible assumption) | assumption)
                                          obtain ⟨ad144, e144, hx144_0⟩ := Kd.at_int (Kd.R_reads' HO_3.out).2.2 x8_3 p144 q144
                                          obtain rfl : ad137 = ad144 := (by injection e144)
                                          replace p144 := eq_true p144
                                          replace q144 := eq_true q144
                                          have p145 : 0 ≤ (x8_3 : Int) := of_decide_eq_true (by first | (with_reducible assumption) | assumption)
                                          have q145 : x8_3 < (l0.length : Int) := of_decide_eq_true (by first | (with_reducible assumption) | assumption)
                                          obtain ⟨ad145, A145_0, c145_0, e145, hx145_0, hl145_0, hi145_0⟩ := at_L4 HR0.out x8_3 p145 q145
                                          obtain rfl : ad141 = ad145 := (by injection e145)
                                          replace hx145_0 := (HB.out.cell (World.block_lt_of_cell? w _ hx145_0)).trans hx145_0
                                          have HR145_0 := Aside0.mk hi145_0
                                          have HC145_0 := Aside0.mk hl145_0
                                          clear hi145_0 hl145_0
                                          replace p145 := eq_true p145
                                          replace q145 := eq_true q145
                                          go_wp2
                                          repeat (go_quiet (fail); try go_wp2)
                                          (try simp only [← hl3_3])
                                          go_roundg k3
                                          case measure => have := HK1.out; have := HK2.out; have := HK3.out; omega
                                          case rel => exact ⟨(x3_3), (wrap64 (x8_3 + 1)), (by first | rfl | (simp; done) | (simp [*]; done)), H', ⟨by have := HK1.out; have := HK2.out; have := HK3.out; omega⟩, ⟨by (try simp only [hl3_3]); (with_reducible repeat (first | apply Kd.R_alloc | apply Kd.R_drewN | apply Kd.R_drew)); exact HO_3.out⟩, ⟨by (try simp only [hl3_3]); (with_reducible repeat (first | apply Kd.R_alloc | apply Kd.R_drewN | apply Kd.R_drew)); exact HO_4.out⟩, ⟨by repeat (first | (with_reducible first | exact HB.out | apply below_alloc | apply pw_below_drewN | apply below_drew1) | exact HB.out)⟩⟩
                                      · rw [if_neg c35] at H
                                        exact absurd H (by simp)
                                    · rw [if_neg c34] at H
                                      exact absurd H (by simp)
                                  · rw [if_neg c33] at H
                                    have c33b0 : decide (x8_3 < (l0.length : Int)) = false := decide_eq_false c33
                                    clear c33
                                    have H' := Aside0.mk H
                                    clear H
                                    go_wp2
                                    repeat (go_quiet (fail); try go_wp2)
                                    (try simp only [← hl3_3])
                                    go_roundg k3
                                    case measure => have := HK1.out; have := HK2.out; have := HK3.out; omega
                                    case rel => exact ⟨(x3_3), (y138), H', ⟨by have := HK1.out; have := HK2.out; have := HK3.out; omega⟩, ⟨by (try simp only [hl3_3]); (with_reducible repeat (first | apply Kd.R_alloc | apply Kd.R_drewN | apply Kd.R_drew)); exact HO_3.out⟩, ⟨by (try simp only [hl3_3]); (with_reducible repeat (first | apply Kd.R_alloc | apply Kd.R_drewN | apply Kd.R_drew)); exact HO_4.out⟩, ⟨by repeat (first | (with_reducible first | exact HB.out | apply below_alloc | apply pw_below_drewN | apply below_drew1) | exact HB.out)⟩⟩
                            · rw [if_neg c30] at H
                              exact absurd H (by simp)
                          · rw [if_neg c29] at H
                            exact absurd H (by simp)
                        · rw [if_neg c28] at H
                          exact absurd H (by simp)
                      · rw [if_neg c27] at H
                        exact absurd H (by simp)
                    · rw [if_neg c26] at H
                      exact absurd H (by simp)
                  · rw [if_neg c25] at H
                    exact absurd H (by simp)
    · rw [if_neg c3] at H
      exact absurd H (by simp)
  · rw [if_neg c2] at H
    exact absurd H (by simp)

end Go.Proofs.Ytojbfjfjhfnopaa.G
end
