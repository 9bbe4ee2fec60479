/- Some of the claim's own texts, in one file: Range, Gx0, Shelf, SplitG, WordsG, Gx2, NumberG, Gx4, ParseG, PlainA, Gx17, ConvG, Digits, PlainB. Conditions: each theorem's own. -/
import Derived.RangeFuncNested
import Derived.RangeFuncBound
import Derived.RangeFuncCalls
import Derived.RangeFuncLeaves
import Derived.Shelf.Abstract
import Derived.Shelf.RegionOpen
import Derived.WalkKit
import Derived.OwnWalkIn
import Derived.TacticsInMore
import Derived.LoopNIn
import Derived.LoopIn
import Derived.Test.YtlfoaaeelcmhiaaDoorProg
import Derived.Below
import Derived.Deep.Draws
import Derived.Deep.AppendLies
import Derived.Maps.AppendAt
import Derived.OwnWalk
import Derived.Laws.BytesArg
import Derived.Laws.MakeOwn
import Derived.Laws.OwnMore
import Derived.Deep.OwnRows
import Derived.Tactics
import Derived.Lib.ConvBytes
import Derived.Laws.Slices
import Derived.KernelRfl
import Derived.RowKit3
import Derived.Deep.LoopGhost
import Derived.Deep.QuietTactic
import Derived.BigQuiet
import Derived.WideLaws
import Derived.Deep.DeepCutAuto
import Derived.Deep.CutBlock
import Derived.Deep.RegionHeld3
import Derived.Laws.Rows
import Derived.Lib.AppendStr
import Derived.ArgAppend
import Derived.Laws.IdiomCopy
import Derived.OrdersHeld
import Derived.Laws.BitsLemmas
import Derived.RowKit
import Derived.Test.YtlfoaaeelcmhiaaDoorWWords
import Derived.Test.YtlfoaaeelcmhiaaDoorWLast
import Derived.Test.YtlfoaaeelcmhiaaDoorWTab
import Derived.Test.YtlfoaaeelcmhiaaDoorWFour
import Derived.Test.YtlfoaaeelcmhiaaDoorWQPut
import Derived.Test.YtlfoaaeelcmhiaaDoorWApart
import Derived.Test.YtlfoaaeelcmhiaaDoorWArr
import Derived.Test.YtlfoaaeelcmhiaaDoorWZeros
import Derived.Test.YtlfoaaeelcmhiaaDoorWFoot
import Derived.Test.YtlfoaaeelcmhiaaDoorWKept
import Derived.Test.YtlfoaaeelcmhiaaDoorWShare
import Derived.Test.YtlfoaaeelcmhiaaDoorWN
import Derived.Test.YtlfoaaeelcmhiaaDoorWFootNe
import Derived.Test.YtlfoaaeelcmhiaaDoorWAt
import Derived.Test.YtlfoaaeelcmhiaaDoorWEqStruct
import Derived.Test.YtlfoaaeelcmhiaaDoorWRepsOne
import Derived.Test.YtlfoaaeelcmhiaaDoorWGuard
import Derived.Test.YtlfoaaeelcmhiaaDoorWNEv
import Derived.Test.YtlfoaaeelcmhiaaDoorWMore
import Derived.Shelf.Strconv.Itoa0
import Derived.Shelf.Strconv.Itoa1
import Derived.Shelf.LaysM
import Derived.Shelf.Strconv.Itoa2
import Derived.Shelf.Strconv.Itoa3
import Derived.Shelf.Strings.Search1
import Derived.Shelf.Strings.Search2
import Derived.Shelf.Strings.Search3
import Derived.Shelf.Strings.Shaped
import Derived.Shelf.Strconv.AppendUint10
import Derived.Shelf.Strconv.AppendInt10
import Derived.Shelf.Unicode.Decode
import Derived.Shelf.Unicode.DecodeSlow
import Derived.Shelf.Unicode.DecodeAny
import Derived.Shelf.Strings.FieldsFuncAny
import Derived.Shelf.Strings.FieldsFuncGrows
import Derived.Laws.ResultCell
import Derived.Lib.SmallJoins
section
/- A range over a function whose iterator keeps state of its own in cells: T is the set of the blocks that are the iterator's own. Of no program. -/
namespace Go.Proofs.YtlfoaaeelcmhiaaDoor.RangeT
open Go.RowKit Go.Shelf
set_option linter.unusedVariables false
abbrev Blocks := Nat → Prop
/-- What the iterator's own steps turn: its own blocks; it may lay new ones, its own or not. -/
structure Turned (T T' : Blocks) (A A' : World) : Prop where
  os : A'.os = A.os
  tape : A'.tape = A.tape
  output : A'.output = A.output
  size : A.heap.size ≤ A'.heap.size
  sub : ∀ k, T k → T' k
  new : ∀ k, T' k → T k ∨ (A.heap.size ≤ k ∧ k < A'.heap.size)
  same : ∀ k, k < A.heap.size → ¬ T k → A'.heap[k]? = A.heap[k]?
theorem Turned.refl (T : Blocks) (A : World) : Turned T T A A := ⟨rfl, rfl, rfl, Nat.le_refl _, fun _ h => h, fun _ h => .inl h, fun _ _ _ => rfl⟩
theorem Turned.trans {T T' T2 : Blocks} {A A' A2 : World} (h : Turned T T' A A') (k : Turned T' T2 A' A2) : Turned T T2 A A2 :=
  ⟨k.os.trans h.os, k.tape.trans h.tape, k.output.trans h.output, Nat.le_trans h.size k.size, fun j hj => k.sub j (h.sub j hj), fun j hj => (k.new j hj).elim (fun h1 => (h.new j h1).elim .inl (fun h2 => .inr ⟨h2.1, Nat.lt_of_lt_of_le h2.2 k.size⟩)) (fun h1 => .inr ⟨Nat.le_trans h.size h1.1, h1.2⟩),
    fun j hj hn => (k.same j (Nat.lt_of_lt_of_le hj h.size) (fun h2 => (h.new j h2).elim hn (fun h3 => absurd hj (by omega)))).trans (h.same j hj hn)⟩
theorem Turned.of_below {T : Blocks} {A A' : World} (h : Below A.heap.size A A') : Turned T T A A' := ⟨h.os, h.tape, h.output, h.size, fun _ h => h, fun _ h => .inl h, fun k hk _ => h.block k hk⟩
theorem Turned.drewN (T : Blocks) (A : World) (n : Nat) : Turned T T A (A.drewN n) := ⟨rfl, rfl, rfl, Nat.le_refl _, fun _ h => h, fun _ h => .inl h, fun _ _ _ => rfl⟩
theorem Turned.setCell {T : Blocks} {A : World} {p : Addr} (hp : T p.block) (v : Value) : Turned T T A (A.setCell p v) :=
  ⟨rfl, rfl, rfl, by simp [World.setCell], fun _ h => h, fun _ h => .inl h, fun k hk hn => Below.heap_setCell A p v k (by intro e; subst e; exact hn hp)⟩
def Abide {β : Type} (J : β → Blocks → World → Prop) : Prop := ∀ s T T' A A', J s T A → Turned T T' A A' → J s T' A'
/-- The contract of an iterator, at a world. -/
def SeqT {α : Type} (F : Fence) (n : Nat) (P : Program) (g : Nat) (lb : Array Value) (encs : α → Array Value) (Kp : World → World → Prop) (T0 : Blocks) (S Sp : List α → Prop) (Nx : List α → α → Prop) (W : World) : Prop :=
  ∀ (l : Nat) (J Jx : List α → Blocks → World → Prop) (W0 : World), Below W.heap.size W W0 → Abide J → Abide Jx →
    (∀ pre x T W1, J pre T W1 → Nx pre x → YieldAt F (n - 1) P l (encs x) W1 fun e W' =>
      (e = .returned (.bool true) ∧ J (pre ++ [x]) T W' ∧ Kp W1 W' ∧ W1.heap.size ≤ W'.heap.size ∧ ∀ k, T k → k < W1.heap.size → W'.heap[k]? = W1.heap[k]?) ∨ (e = .returned (.bool false) ∧ Jx (pre ++ [x]) T W')) →
    J [] T0 W0 →
    CallsIn F n P g (#[.func (.yield l) #[] #[]] ++ lb) W0 fun e W' => (∃ v, e = .returned v) ∧ ((∃ xs T, S xs ∧ J xs T W') ∨ (∃ pre T, Sp pre ∧ Jx pre T W'))
/-- How the body of a round may be left. -/
def postT {α : Type} (B : Nat) (T : Blocks) (Kp : World → World → Prop) (I : List α → Blocks → World → Prop) (Ix : Code → List α → Blocks → World → Prop) (xs : List α) (W : World) : Exit → Act → World → Prop
  | .normal, _, W' => KeepsFrom B W W' ∧ Kp W W' ∧ (∀ k, T k → k < W.heap.size → W'.heap[k]? = W.heap[k]?) ∧ I xs T W'
  | .ret, _, W' => KeepsFrom B W W' ∧ Ix .ret xs T W'
  | .exit id, _, W' => KeepsFrom B W W' ∧ Ix (.exit id) xs T W'
  | .goto t, _, W' => KeepsFrom B W W' ∧ Ix (.goto t) xs T W'
  | .panic _, _, _ => False
  | .outgrown, _, _ => False
def OwnT {α : Type} (B : Nat) (I : List α → Blocks → World → Prop) : Prop := ∀ (T : Blocks), OwnFrom B (fun s W => I s T W)
variable {F : Fence} {n : Nat} {P : Program}
theorem wpIn_rangeFunc_T {α : Type} {g : Operand} {ps : Array Tmp} {assign body : Code} {Q : Exit → Act → World → Prop} {a : Act} {w : World}
    (hro : F.round = none) (h1 : 1 ≤ n) {gf : Nat} {lb : Array Value} (hg : a.eval g = .func (.func gf) #[] lb) (hFg : F.fn gf) (eg : ∀ args w, (callFunc gf args).run P w = .ok (.enter gf args) w)
    {encs : α → Array Value} {Kp : World → World → Prop} {T0 : Blocks} {S Sp : List α → Prop} {Nx : List α → α → Prop} (hseq : SeqT F (n - 1) P gf lb encs Kp T0 S Sp Nx w) (hT0 : ∀ k, T0 k → k < w.heap.size)
    (hKt : ∀ {A B C : World}, Kp A B → Kp B C → Kp A C) (hKb : ∀ (W : World) (l : Nat) (o o' : Obj), w.heap.size ≤ l → W.heap[l]? = some o → o.isCells = false → o.isWalk = false → Kp W (W.putObj l o')) (hps : ∀ x, (encs x).size = ps.size)
    (I : List α → Blocks → World → Prop) (Ix : Code → List α → Blocks → World → Prop) (hA : Abide I) (hAx : ∀ c, Abide (Ix c)) (hI : OwnT w.heap.size I) (hIx : ∀ c, OwnT w.heap.size (Ix c)) (h0 : I [] T0 w) (a₁ : α → Act)
    (hassign : ∀ (l : Nat) (x : α) (W : World) (K : Act → World → Prop), K (a₁ x) W →
      assign.wpIn (F.inRound l) (n - 1 - 1) P (Exit.then K (fun _ _ _ => False)) { tmps := (ps.zip (encs x)).foldl (fun t (p, v) => t.setIfInBounds p v) a.tmps, defers := [] } W)
    (hbody : ∀ (l : Nat) (pre : List α) (x : α) (T : Blocks) (W : World), I pre T W → Nx pre x → body.wpIn (F.inRound l) (n - 1 - 1) P (postT w.heap.size T Kp I Ix (pre ++ [x]) W) (a₁ x) W)
    (hdone : ∀ (D : Nat) (xs : List α) (T : Blocks) (W : World), w.heap.size ≤ D → S xs → I xs T W → W.heap[D]? = some (.deferred (some [])) → Q .normal { a with defers := { target := .collected D, args := #[] } :: a.defers } W)
    (hstop : ∀ (D : Nat) (c : Code) (pre : List α) (T : Blocks) (W : World), w.heap.size ≤ D → Sp pre → Ix c pre T W → W.heap[D]? = some (.deferred (some [])) → c.wpIn F n P Q { a with defers := { target := .collected D, args := #[] } :: a.defers } W) :
    (Code.rangeFunc g ps assign body).wpIn F n P Q a w := by
  refine wpIn_rangeFunc fun fn hfn => ?_
  rw [hro]
  obtain ⟨rec, hrec⟩ : ∃ rec : LoopState → Option Code → Loop, rec = fun st pe => { state := st, pending := pe, fn, tmps := a.tmps, params := ps, assign, body, defers := w.heap.size } := ⟨_, rfl⟩
  obtain ⟨W1, hW1⟩ : ∃ W1, (w.alloc (.deferred (some []))).alloc (.loop (rec .ready none)) = W1 := ⟨_, rfl⟩
  have hL1 : W1.heap[w.heap.size + 1]? = some (.loop (rec .ready none)) := by
    rw [← hW1]; have := World.alloc_heap_new (w.alloc (.deferred (some []))) (.loop (rec .ready none)); rwa [World.size_alloc] at this
  have hD1 : W1.heap[w.heap.size]? = some (.deferred (some [])) := by
    rw [← hW1]; exact (Below.heap_alloc _ _ _ (by simp)).trans (World.alloc_heap_new w _)
  have hI1 : I [] T0 W1 := by rw [← hW1]; exact (hI T0).alloc _ ((hI T0).alloc _ h0)
  have hb1 : Below w.heap.size w W1 := by rw [← hW1]; exact ((Below.refl _ w).alloc (Nat.le_refl _) _).alloc (by simp) _
  refine ⟨w.heap.size + 1, [{ target := .collected w.heap.size, args := #[] }], W1, { target := .fn (.func gf) lb, args := #[.func (.yield (w.heap.size + 1)) #[] #[]] }, W1, gf,
    #[.func (.yield (w.heap.size + 1)) #[] #[]] ++ lb, W1, ?_, ?_, ?_, ?_, fun _ => h1, ?_⟩
  · rw [← hW1, hrec]; exact run_enterLoop_outer _ _ _ _ _
  · simp only [resolve, hg]
    simp [go_sem]
  · intro f' hf'; simp [Target.leads] at hf'; subst hf'; exact hFg
  · simp [invoke, go_sem, eg]
  · have keep : ∀ {T T' : Blocks} {A A' : World} {j : Nat} {o : Obj}, Turned T T' A A' → ¬ T j → A.heap[j]? = some o → A'.heap[j]? = some o ∧ ¬ T' j := fun {T T' A A' j o} ht hn ho => by
      have hlt : j < A.heap.size := (Array.getElem?_eq_some_iff.1 ho).1
      exact ⟨(ht.same j hlt hn).trans ho, fun h => (ht.new j h).elim hn (fun h2 => absurd hlt (by omega))⟩
    refine (hseq (w.heap.size + 1)
      (fun pre T W => I pre T W ∧ (W.heap[w.heap.size + 1]? = some (.loop (rec .ready none)) ∧ ¬ T (w.heap.size + 1)) ∧ W.heap[w.heap.size]? = some (.deferred (some [])) ∧ ¬ T w.heap.size)
      (fun pre T W => ∃ c, Ix c pre T W ∧ (W.heap[w.heap.size + 1]? = some (.loop (rec .done (some c))) ∧ ¬ T (w.heap.size + 1)) ∧ W.heap[w.heap.size]? = some (.deferred (some [])) ∧ ¬ T w.heap.size)
      W1 hb1
      (fun s T T' A A' hs ht => ⟨hA _ _ _ _ _ hs.1 ht, keep ht hs.2.1.2 hs.2.1.1, keep ht hs.2.2.2 hs.2.2.1⟩)
      (fun s T T' A A' hs ht => by
        obtain ⟨c, hc, hl, hk⟩ := hs
        exact ⟨c, hAx c _ _ _ _ _ hc ht, keep ht hl.2 hl.1, keep ht hk.2 hk.1⟩)
      ?_ ⟨hI1, ⟨hL1, fun h => by have := hT0 _ h; omega⟩, hD1, fun h => by have := hT0 _ h; omega⟩).mono ?_
    · rintro pre x T W ⟨hi, ⟨hl, hnl⟩, hk, hnk⟩ hlen
      have hlt : w.heap.size + 1 < W.heap.size := (Array.getElem?_eq_some_iff.1 hl).1
      have hy := run_yield (P := P) (args := encs x) hl (by rw [hrec]; exact hps x)
      rw [hrec] at hy
      refine ⟨fn, _, assign, body, hy, roundIn_of_wpIn hfn (hassign _ x W _ ⟨_, run_beginRound hl (by rw [hrec]), ?_⟩)⟩
      have hl2 : (W.putObj (w.heap.size + 1) (.loop { rec .ready none with state := .busy })).heap[w.heap.size + 1]? = some (.loop { rec .ready none with state := .busy }) := World.putObj_heap_same hlt
      have hk2 : (W.putObj (w.heap.size + 1) (.loop { rec .ready none with state := .busy })).heap[w.heap.size]? = some (.deferred (some [])) := (World.putObj_heap_other (by omega)).trans hk
      have hw2 : Kp W (W.putObj (w.heap.size + 1) (.loop { rec .ready none with state := .busy })) := hKb _ _ _ _ (by omega) hl rfl rfl
      have hsz2 : (W.putObj (w.heap.size + 1) (.loop { rec .ready none with state := .busy })).heap.size = W.heap.size := by simp [World.putObj]
      refine wpIn_mono (hbody _ pre x T _ ((hI T).putObj _ hi (by omega) hl rfl) hlen) ?_
      have fin : ∀ (jump : Option Code) (W3 : World), KeepsFrom w.heap.size (W.putObj (w.heap.size + 1) (.loop { rec .ready none with state := .busy })) W3 →
          (Instr.endRound (w.heap.size + 1) jump).run P W3 = .ok (.bool jump.isNone) (W3.putObj (w.heap.size + 1) (.loop (rec (if jump.isNone then .ready else .done) jump))) ∧
          W3.heap[w.heap.size + 1]? = some (.loop { rec .ready none with state := .busy }) ∧
          (W3.putObj (w.heap.size + 1) (.loop (rec (if jump.isNone then .ready else .done) jump))).heap[w.heap.size + 1]? = some (.loop (rec (if jump.isNone then .ready else .done) jump)) ∧
          (W3.putObj (w.heap.size + 1) (.loop (rec (if jump.isNone then .ready else .done) jump))).heap[w.heap.size]? = some (.deferred (some [])) := fun jump W3 hk3 => by
        have hl3 := hk3.same _ _ (by omega) hl2 rfl
        have := run_endRound (P := P) jump hl3
        rw [hrec] at this ⊢
        exact ⟨this, by rw [hrec] at hl3; exact hl3, World.putObj_heap_same (Array.getElem?_eq_some_iff.1 hl3).1, (World.putObj_heap_other (by omega)).trans (hk3.same _ _ (Nat.le_refl _) hk2 rfl)⟩
      rintro e a3 W3 hp
      cases e with
      | normal =>
        obtain ⟨hk3, hkp3, hT3, hi3⟩ := hp
        obtain ⟨hr, hl3, hl4, hk4⟩ := fin none W3 hk3
        have hs3 := hk3.size
        refine ⟨_, _, hr, .inl ⟨rfl, ⟨(hI T).putObj _ hi3 (by omega) hl3 rfl, ⟨hl4, hnl⟩, hk4, hnk⟩, hKt (hKt hw2 hkp3) (hKb _ _ _ _ (by omega) hl3 rfl rfl), by simp [World.putObj] at hs3 ⊢; omega, fun k hTk hkl => ?_⟩⟩
        have hne : k ≠ w.heap.size + 1 := fun e => hnl (e ▸ hTk)
        exact ((World.putObj_heap_other (by omega)).trans (hT3 k hTk (by rw [hsz2]; exact hkl))).trans (World.putObj_heap_other (by omega))
      | ret =>
        obtain ⟨hk3, hi3⟩ := hp
        obtain ⟨hr, hl3, hl4, hk4⟩ := fin (some .ret) W3 hk3
        exact ⟨_, _, hr, .inr ⟨rfl, .ret, (hIx _ T).putObj _ hi3 (by omega) hl3 rfl, ⟨hl4, hnl⟩, hk4, hnk⟩⟩
      | exit id =>
        obtain ⟨hk3, hi3⟩ := hp
        obtain ⟨hr, hl3, hl4, hk4⟩ := fin (some (.exit id)) W3 hk3
        exact ⟨_, _, hr, .inr ⟨rfl, .exit id, (hIx _ T).putObj _ hi3 (by omega) hl3 rfl, ⟨hl4, hnl⟩, hk4, hnk⟩⟩
      | goto t =>
        obtain ⟨hk3, hi3⟩ := hp
        obtain ⟨hr, hl3, hl4, hk4⟩ := fin (some (.goto t)) W3 hk3
        exact ⟨_, _, hr, .inr ⟨rfl, .goto t, (hIx _ T).putObj _ hi3 (by omega) hl3 rfl, ⟨hl4, hnl⟩, hk4, hnk⟩⟩
      | panic ch => exact hp.elim
      | outgrown => exact hp.elim
    · rintro e W2 ⟨⟨v, rfl⟩, (⟨xs, T, hS, hi, ⟨hl, _⟩, hk, _⟩ | ⟨pre, T, hSp, c, hi, ⟨hl, _⟩, hk, _⟩)⟩
      · exact ⟨none, _, by have := run_endLoop (P := P) hl (by rw [hrec]; simp); rw [hrec] at this; exact this, hdone _ xs T _ (Nat.le_refl _) hS ((hI T).putObj _ hi (by omega) hl rfl) ((World.putObj_heap_other (by omega)).trans hk)⟩
      · exact ⟨some c, _, by have := run_endLoop (P := P) hl (by rw [hrec]; simp); rw [hrec] at this; exact this, hstop _ c pre T _ (Nat.le_refl _) hSp ((hIx c T).putObj _ hi (by omega) hl rfl) ((World.putObj_heap_other (by omega)).trans hk)⟩
end Go.Proofs.YtlfoaaeelcmhiaaDoor.RangeT
end

section
-- Written by a program of this session (wip/gprint.py: the kit's print, with contracts proved by hand)
namespace Go.Proofs.YtlfoaaeelcmhiaaDoor.G
open Go.RowKit Go.Proofs.YtlfoaaeelcmhiaaDoorW.PrintWords Go.Proofs.YtlfoaaeelcmhiaaDoorW.PrintLast Go.Proofs.YtlfoaaeelcmhiaaDoorW.PrintMore
attribute [local go_sem] max2_int min2_int max_two min_two max_three min_three max_four min_four   -- for this text's walks alone
set_option linter.unusedVariables false
set_option linter.unusedSimpArgs false



def errW : Option Int → Value
  | none => .nilIface
  | some c => .iface 0 (.int .i64 c)
theorem errW_none : errW none = .nilIface := rfl
theorem errW_some (c : Int) : errW (some c) = .iface 0 (.int .i64 c) := rfl

theorem info3 : (Tryd.prog.info? 3).map (fun i => (i.zero, i.size, i.bytes)) = some (some (.int .i64 0), 1, 8) := by kernel_rfl
theorem info5 : (Tryd.prog.info? 5).map (fun i => (i.zero, i.size, i.bytes)) = some (some (.int .u8 0), 1, 1) := by kernel_rfl
theorem info9 : (Tryd.prog.info? 9).map (fun i => (i.zero, i.size, i.bytes)) = some (some (.string ⟨#[]⟩), 1, 16) := by kernel_rfl
theorem info30 : (Tryd.prog.info? 30).map (fun i => (i.zero, i.size, i.bytes)) = some (some (.agg #[(.string ⟨#[]⟩), (.slice none 0 0)]), 2, 40) := by kernel_rfl
theorem info31 : (Tryd.prog.info? 31).map (fun i => (i.zero, i.size, i.bytes)) = some (some (.int .u64 0), 1, 8) := by kernel_rfl
theorem info50 : (Tryd.prog.info? 50).map (fun i => (i.zero, i.size, i.bytes)) = some (some (.agg #[(.int .u64 0), (.int .u64 0)]), 2, 16) := by kernel_rfl
-- the values' own types
def rd_L3 (xs : List (List Int)) (i : Int) : (List Int) := xs.getD i.toNat ([] : List Int)
theorem at_L3 {w : World} {A : Option Addr} {n : Nat} {xs : List (List Int)} (h : Kd.C (Kd.slice 31 (Kd.int .u64)) w A n xs) (i : Int) (h0 : 0 ≤ i) (h1 : i < n) : ∃ ad A0 c0, A = some ad ∧ w.cell? (ad.add i.toNat) = some (.slice A0 (rd_L3 xs i).length c0) ∧ (rd_L3 xs i).length ≤ c0 ∧ (Kd.int .u64).C w A0 (rd_L3 xs i).length (rd_L3 xs i) := by
  obtain ⟨ad, c, e, _, hK, hc0⟩ := Kd.C_get h ([] : List Int) i h0 h1
  have hc : ∀ j u, c[j]? = some u → w.cell? (ad.add (i.toNat * 1 + j)) = some u := hc0
  obtain ⟨A0, c0, rfl, l0, g0⟩ := hK
  exact ⟨ad, A0, c0, e, by have hq := hc 0 _ rfl; rwa [Nat.mul_one, Nat.add_zero] at hq, l0, g0⟩

/-! #### struct type 30 -/
structure S30 where
  f0 : ByteArray
  f1 : (List Int)
def z30 : S30 := ⟨(⟨#[]⟩ : ByteArray), ([] : List Int)⟩
def k30 : Kd S30 := Kd.iso (Kd.pair Kd.string (Kd.slice 31 (Kd.int .u64))) (fun x : S30 => (x.f0, x.f1))
theorem k30_open {w : World} {x : S30} {cs : List Value} (h : k30.K w x cs) : ∃ A1 c1, cs = [.string x.f0, .slice A1 x.f1.length c1] ∧ x.f1.length ≤ c1 ∧ (Kd.int .u64).C w A1 x.f1.length x.f1 := by
  obtain ⟨_, _, rfl, rfl, ⟨A1, c1, rfl, l1, g1⟩⟩ := h
  exact ⟨A1, c1, rfl, l1, g1⟩
theorem k30_openM {w : World} {base : Nat} {ok : Nat → Prop} {x : S30} {cs : List Value} (h : k30.M w base ok x cs) : ∃ v1, cs = [.string x.f0, v1] ∧ (Kd.int .u64).R 31 w base ok v1 x.f1 := by
  obtain ⟨_, _, rfl, rfl, ⟨v1, rfl, g1⟩⟩ := h
  exact ⟨v1, rfl, g1⟩
theorem k30_mk (w : World) (x : S30) {A1 : Option Addr} {c1 : Nat} (l1 : x.f1.length ≤ c1) (g1 : (Kd.int .u64).C w A1 x.f1.length x.f1) : k30.K w x [.string x.f0, .slice A1 x.f1.length c1] := ⟨[.string x.f0], [.slice A1 x.f1.length c1], rfl, rfl, ⟨A1, c1, rfl, l1, g1⟩⟩
theorem k30_mkM (w : World) (base : Nat) (ok : Nat → Prop) (x : S30) {v1 : Value} (g1 : (Kd.int .u64).R 31 w base ok v1 x.f1) : k30.M w base ok x [.string x.f0, v1] := ⟨[.string x.f0], [v1], rfl, rfl, ⟨v1, rfl, g1⟩⟩
theorem k30_openF {W : World} {ok : Nat → Prop} {x : S30} {cs : List Value} (h : Kd.FK k30 W ok x cs) : ∃ A1 c1, cs = [.string x.f0, .slice A1 x.f1.length c1] ∧ x.f1.length ≤ c1 ∧ Kd.F (Kd.int .u64) W ok A1 x.f1.length x.f1 := by
  obtain ⟨A1, c1, rfl, l1, _⟩ := k30_open (Kd.FK_now h)
  exact ⟨A1, c1, rfl, l1, (fun W' hW => by obtain ⟨A1_, c1_, he, l1_, g1_⟩ := k30_open (h W' hW); injection (Option.some.inj (show some (Value.slice A1 x.f1.length c1) = some (Value.slice A1_ x.f1.length c1_) from congrArg (fun l => l[1]?) he)) with ha_ _ _; rw [ha_]; exact g1_)⟩
theorem k30_mkF (W : World) (ok : Nat → Prop) (x : S30) {A1 : Option Addr} {c1 : Nat} (l1 : x.f1.length ≤ c1) (g1 : Kd.F (Kd.int .u64) W ok A1 x.f1.length x.f1) : Kd.FK k30 W ok x [.string x.f0, .slice A1 x.f1.length c1] := fun W2 hW => k30_mk W2 x l1 (g1 W2 hW)
def rd_T30 (xs : List S30) (i : Int) : S30 := xs.getD i.toNat z30
theorem at_T30 {w : World} {A : Option Addr} {n : Nat} {xs : List S30} (h : Kd.C k30 w A n xs) (i : Int) (h0 : 0 ≤ i) (h1 : i < n) : ∃ ad A1 c1, A = some ad ∧ w.cell? (ad.add (i.toNat * 2)) = some (.string (rd_T30 xs i).f0) ∧ w.cell? ⟨(ad.add (i.toNat * 2)).block, (ad.add (i.toNat * 2)).off + 1, none⟩ = some (.slice A1 (rd_T30 xs i).f1.length c1) ∧ (rd_T30 xs i).f1.length ≤ c1 ∧ (Kd.int .u64).C w A1 (rd_T30 xs i).f1.length (rd_T30 xs i).f1 := by
  obtain ⟨ad, c, e, _, hK, hc0⟩ := Kd.C_get h z30 i h0 h1
  have hc : ∀ j u, c[j]? = some u → w.cell? (ad.add (i.toNat * 2 + j)) = some u := hc0
  obtain ⟨A1, c1, rfl, l1, g1⟩ := k30_open hK
  exact ⟨ad, A1, c1, e, hc 0 _ rfl, by rw [← add_field _ _ 1 (by omega)]; exact hc 1 _ rfl, l1, g1⟩

def rd_L5 (xs : List (List S30)) (i : Int) : (List S30) := xs.getD i.toNat ([] : List S30)
theorem at_L5 {w : World} {A : Option Addr} {n : Nat} {xs : List (List S30)} (h : Kd.C (Kd.slice 30 k30) w A n xs) (i : Int) (h0 : 0 ≤ i) (h1 : i < n) : ∃ ad A0 c0, A = some ad ∧ w.cell? (ad.add i.toNat) = some (.slice A0 (rd_L5 xs i).length c0) ∧ (rd_L5 xs i).length ≤ c0 ∧ k30.C w A0 (rd_L5 xs i).length (rd_L5 xs i) := by
  obtain ⟨ad, c, e, _, hK, hc0⟩ := Kd.C_get h ([] : List S30) i h0 h1
  have hc : ∀ j u, c[j]? = some u → w.cell? (ad.add (i.toNat * 1 + j)) = some u := hc0
  obtain ⟨A0, c0, rfl, l0, g0⟩ := hK
  exact ⟨ad, A0, c0, e, by have hq := hc 0 _ rfl; rwa [Nat.mul_one, Nat.add_zero] at hq, l0, g0⟩

def rd_L8 (xs : List (List Int)) (i : Int) : (List Int) := xs.getD i.toNat ([] : List Int)
theorem at_L8 {w : World} {A : Option Addr} {n : Nat} {xs : List (List Int)} (h : Kd.C (Kd.slice 5 (Kd.int .u8)) w A n xs) (i : Int) (h0 : 0 ≤ i) (h1 : i < n) : ∃ ad A0 c0, A = some ad ∧ w.cell? (ad.add i.toNat) = some (.slice A0 (rd_L8 xs i).length c0) ∧ (rd_L8 xs i).length ≤ c0 ∧ (Kd.int .u8).C w A0 (rd_L8 xs i).length (rd_L8 xs i) := by
  obtain ⟨ad, c, e, _, hK, hc0⟩ := Kd.C_get h ([] : List Int) i h0 h1
  have hc : ∀ j u, c[j]? = some u → w.cell? (ad.add (i.toNat * 1 + j)) = some u := hc0
  obtain ⟨A0, c0, rfl, l0, g0⟩ := hK
  exact ⟨ad, A0, c0, e, by have hq := hc 0 _ rfl; rwa [Nat.mul_one, Nat.add_zero] at hq, l0, g0⟩

/-! #### struct type 50 -/
structure S50 where
  f0 : Int
  f1 : Int
def z50 : S50 := ⟨(0 : Int), (0 : Int)⟩
def k50 : Kd S50 := Kd.iso (Kd.pair (Kd.int .u64) (Kd.int .u64)) (fun x : S50 => (x.f0, x.f1))
theorem k50_open {w : World} {x : S50} {cs : List Value} (h : k50.K w x cs) : cs = [.int .u64 x.f0, .int .u64 x.f1] := by
  obtain ⟨_, _, rfl, rfl, rfl⟩ := h
  exact rfl
theorem k50_openM {w : World} {base : Nat} {ok : Nat → Prop} {x : S50} {cs : List Value} (h : k50.M w base ok x cs) : cs = [.int .u64 x.f0, .int .u64 x.f1] := by
  obtain ⟨_, _, rfl, rfl, rfl⟩ := h
  exact rfl
theorem k50_mk (w : World) (x : S50)  : k50.K w x [.int .u64 x.f0, .int .u64 x.f1] := ⟨[.int .u64 x.f0], [.int .u64 x.f1], rfl, rfl, rfl⟩
theorem k50_mkM (w : World) (base : Nat) (ok : Nat → Prop) (x : S50)  : k50.M w base ok x [.int .u64 x.f0, .int .u64 x.f1] := ⟨[.int .u64 x.f0], [.int .u64 x.f1], rfl, rfl, rfl⟩
theorem k50_mkF (W : World) (ok : Nat → Prop) (x : S50) : Kd.FK k50 W ok x [.int .u64 x.f0, .int .u64 x.f1] := fun W2 _ => k50_mk W2 x
def rd_T50 (xs : List S50) (i : Int) : S50 := xs.getD i.toNat z50
theorem at_T50 {w : World} {A : Option Addr} {n : Nat} {xs : List S50} (h : Kd.C k50 w A n xs) (i : Int) (h0 : 0 ≤ i) (h1 : i < n) : ∃ ad , A = some ad ∧ w.cell? (ad.add (i.toNat * 2)) = some (.int .u64 (rd_T50 xs i).f0) ∧ w.cell? ⟨(ad.add (i.toNat * 2)).block, (ad.add (i.toNat * 2)).off + 1, none⟩ = some (.int .u64 (rd_T50 xs i).f1) := by
  obtain ⟨ad, c, e, _, hK, hc0⟩ := Kd.C_get h z50 i h0 h1
  have hc : ∀ j u, c[j]? = some u → w.cell? (ad.add (i.toNat * 2 + j)) = some u := hc0
  obtain rfl := k50_open hK
  exact ⟨ad, e, hc 0 _ rfl, by rw [← add_field _ _ 1 (by omega)]; exact hc 1 _ rfl⟩

def rd_L10 (xs : List (List S50)) (i : Int) : (List S50) := xs.getD i.toNat ([] : List S50)
theorem at_L10 {w : World} {A : Option Addr} {n : Nat} {xs : List (List S50)} (h : Kd.C (Kd.slice 50 k50) w A n xs) (i : Int) (h0 : 0 ≤ i) (h1 : i < n) : ∃ ad A0 c0, A = some ad ∧ w.cell? (ad.add i.toNat) = some (.slice A0 (rd_L10 xs i).length c0) ∧ (rd_L10 xs i).length ≤ c0 ∧ k50.C w A0 (rd_L10 xs i).length (rd_L10 xs i) := by
  obtain ⟨ad, c, e, _, hK, hc0⟩ := Kd.C_get h ([] : List S50) i h0 h1
  have hc : ∀ j u, c[j]? = some u → w.cell? (ad.add (i.toNat * 1 + j)) = some u := hc0
  obtain ⟨A0, c0, rfl, l0, g0⟩ := hK
  exact ⟨ad, A0, c0, e, by have hq := hc 0 _ rfl; rwa [Nat.mul_one, Nat.add_zero] at hq, l0, g0⟩

end Go.Proofs.YtlfoaaeelcmhiaaDoor.G
end

section
/-
  DERIVED: THE SHELF's CONTRACTS AT THIS DUMP, IN PLAIN WORDS (tools/lay-plain.mjs out of 'TrydShelf.lean', which tools/lay-shelf.mjs wrote): THE SAME DECLARATIONS UNDER THE SAME NAMES: 'import', 'namespace', 'open', 'def', 'theorem' AND NOTHING ELSE: no command of the shelf's: FOR A HAND-IN. Each laying: the table of numbers ('.._ren') and one theorem, a field a fact of the dump's own or the kernel's comparison; each contract: ONE APPLICATION.
-/
namespace Go.Proofs
open Go.Shelf
def Tryd.lays129_ren : Go.Shelf.Ren := ⟨fun | 129 => 54 | n => n, fun | 53 => 31 | 3 => 3 | 4 => 4 | 46 => 93 | 5 => 5 | 9 => 9 | n => n, fun | n => n⟩
theorem Tryd.lays129 : Go.Proofs.Lays.n129 Tryd.prog Tryd.lays129_ren := {
  mixed := by kernel_rfl
  f129 := Tryd.func54.trans (congrArg some (by kernel_rfl))
  t3 := Tryd.underlying3
  a3 := Tryd.isAgg3
  z3 := Tryd.sizeOf3
  v3 := Tryd.zeroValue3
  t4 := Tryd.underlying4
  a4 := Tryd.isAgg4
  z4 := Tryd.sizeOf4
  v4 := Tryd.zeroValue4
  t5 := Tryd.underlying5
  a5 := Tryd.isAgg5
  z5 := Tryd.sizeOf5
  v5 := Tryd.zeroValue5
  t9 := Tryd.underlying9
  a9 := Tryd.isAgg9
  z9 := Tryd.sizeOf9
  v9 := Tryd.zeroValue9
  t46 := Tryd.underlying93
  a46 := Tryd.isAgg93
  z46 := Tryd.sizeOf93
  v46 := Tryd.zeroValue93
  t53 := Tryd.underlying31
  a53 := Tryd.isAgg31
  z53 := Tryd.sizeOf31
  v53 := Tryd.zeroValue31 }
/-- bits.Len64: "Len64 returns the minimum number of bits required to represent x; the result is 0 for x == 0.": IT RETURNS 'Lib.bitLen x'; the world is as it was. ('h0', 'h1': x is a uint64.) (LAID: no walk: one application.) -/
theorem Tryd.bits_Len64 (x : Int) (w : World) (h0 : 0 ≤ x) (h1 : x ≤ 18446744073709551615) :
    Calls Tryd.prog 54 #[.int .u64 x] w fun e w' => e = .returned (.int .i64 (Lib.bitLen x.toNat)) ∧ w' = w := Any.bits_Len64 Tryd.lays129 x w h0 h1
def Tryd.lays317_ren : Go.Shelf.Ren := ⟨fun | 317 => 53 | n => n, fun | 3 => 3 | 46 => 93 | n => n, fun | n => n⟩
theorem Tryd.lays317 : Go.Proofs.Lays.n317 Tryd.prog Tryd.lays317_ren := {
  mixed := by kernel_rfl
  f317 := Tryd.func53.trans (congrArg some (by kernel_rfl))
  t3 := Tryd.underlying3
  a3 := Tryd.isAgg3
  z3 := Tryd.sizeOf3
  v3 := Tryd.zeroValue3
  t46 := Tryd.underlying93
  a46 := Tryd.isAgg93
  z46 := Tryd.sizeOf93
  v46 := Tryd.zeroValue93 }
open Go.Lib in
/-- internal/strconv.log10Pow2: "log10Pow2(x) returns ⌊log₁₀ 2**x⌋ = ⌊x * log₁₀ 2⌋.": '(x * 78913) >> 18', at an x up to 64 (a length in bits). The world is as it was. (LAID: no walk: one application.) -/
theorem Tryd.internal_strconv_log10Pow2 (x : Nat) (h : x ≤ 64) (w : World) :
    Calls Tryd.prog 53 #[.int .i64 x] w fun e w' => e = .returned (.int .i64 (Lib.l10 x)) ∧ w' = w := Any.internal_strconv_log10Pow2 Tryd.lays317 x h w
def Tryd.lays318_ren : Go.Shelf.Ren := ⟨fun | 318 => 55 | n => n, fun | 3 => 3 | 4 => 4 | n => n, fun | n => n⟩
theorem Tryd.lays318 : Go.Proofs.Lays.n318 Tryd.prog Tryd.lays318_ren := {
  mixed := by kernel_rfl
  f318 := Tryd.func55.trans (congrArg some (by kernel_rfl))
  t3 := Tryd.underlying3
  a3 := Tryd.isAgg3
  z3 := Tryd.sizeOf3
  v3 := Tryd.zeroValue3
  t4 := Tryd.underlying4
  a4 := Tryd.isAgg4
  z4 := Tryd.sizeOf4
  v4 := Tryd.zeroValue4 }
open Go.Lib in
/-- internal/strconv.bool2: "bool2 converts b to an integer: 1 for true, 0 for false." The world is as it was. (LAID: no walk: one application.) -/
theorem Tryd.internal_strconv_bool2_int (b : Bool) (w : World) :
    Calls Tryd.prog 55 #[.bool b] w fun e w' => e = .returned (.int .i64 (if b then 1 else 0)) ∧ w' = w := Any.internal_strconv_bool2_int Tryd.lays318 b w
def Tryd.lays283_ren : Go.Shelf.Ren := ⟨fun | 283 => 46 | n => n, fun | 3 => 3 | 9 => 9 | 4 => 4 | n => n, fun | n => n⟩
theorem Tryd.lays283 : Go.Proofs.Lays.n283 Tryd.prog Tryd.lays283_ren := {
  mixed := by kernel_rfl
  f283 := Tryd.func46.trans (congrArg some (by kernel_rfl))
  t3 := Tryd.underlying3
  a3 := Tryd.isAgg3
  z3 := Tryd.sizeOf3
  v3 := Tryd.zeroValue3
  t4 := Tryd.underlying4
  a4 := Tryd.isAgg4
  z4 := Tryd.sizeOf4
  v4 := Tryd.zeroValue4
  t9 := Tryd.underlying9
  a9 := Tryd.isAgg9
  z9 := Tryd.sizeOf9
  v9 := Tryd.zeroValue9 }
open Go.Lib in
/-- internal/strconv.small: "small returns the string for an i with 0 <= i < nSmalls.": i's decimal numeral. The world is as it was. (LAID: no walk: one application.) -/
theorem Tryd.internal_strconv_small (i : Nat) (h : i < 100) (w : World) :
    Calls Tryd.prog 46 #[.int .i64 i] w fun e w' => e = .returned (.string ⟨(Lib.decDigits i).toArray⟩) ∧ w' = w := Any.internal_strconv_small Tryd.lays283 i h w
def Tryd.laysM284_ren : Go.Shelf.Ren := ⟨fun | 284 => 47 | 129 => 54 | 317 => 53 | 318 => 55 | n => n, fun | 53 => 31 | 3 => 3 | 212 => 89 | 0 => 0 | 4 => 4 | 46 => 93 | 5 => 5 | 9 => 9 | n => n, fun | 17 => 0 | n => n⟩
theorem Tryd.laysM284 : Go.Proofs.LaysM.n284 Tryd.prog Tryd.laysM284_ren := {
  mixed := by kernel_rfl
  f129 := Tryd.func54.trans (congrArg some (by kernel_rfl))
  f284 := Tryd.func47.trans (congrArg some (by kernel_rfl))
  f317 := Tryd.func53.trans (congrArg some (by kernel_rfl))
  f318 := Tryd.func55.trans (congrArg some (by kernel_rfl))
  t0 := Tryd.underlying0
  a0 := Tryd.isAgg0
  z0 := Tryd.sizeOf0
  v0 := Tryd.zeroValue0
  t3 := Tryd.underlying3
  a3 := Tryd.isAgg3
  z3 := Tryd.sizeOf3
  v3 := Tryd.zeroValue3
  t4 := Tryd.underlying4
  a4 := Tryd.isAgg4
  z4 := Tryd.sizeOf4
  v4 := Tryd.zeroValue4
  t5 := Tryd.underlying5
  a5 := Tryd.isAgg5
  z5 := Tryd.sizeOf5
  v5 := Tryd.zeroValue5
  t9 := Tryd.underlying9
  a9 := Tryd.isAgg9
  z9 := Tryd.sizeOf9
  v9 := Tryd.zeroValue9
  t46 := Tryd.underlying93
  a46 := Tryd.isAgg93
  z46 := Tryd.sizeOf93
  v46 := Tryd.zeroValue93
  t53 := Tryd.underlying31
  a53 := Tryd.isAgg31
  z53 := Tryd.sizeOf31
  v53 := Tryd.zeroValue31
  t212 := Tryd.underlying89
  a212 := Tryd.isAgg89
  z212 := Tryd.sizeOf89
  v212 := Tryd.zeroValue89
  g17 := by kernel_rfl
  i0 := by kernel_rfl
  i3 := by kernel_rfl
  i4 := by kernel_rfl
  i5 := by kernel_rfl
  i9 := by kernel_rfl
  i46 := by kernel_rfl
  i53 := by kernel_rfl
  i212 := by kernel_rfl
  m17 := by kernel_rfl }
open Go.Lib in
/-- internal/strconv.numDigits, at a d that is not 0: THE NUMBER OF d's DECIMAL DIGITS. The world is as it was. (LAID: no walk: one application.) -/
theorem Tryd.internal_strconv_numDigits (u : Nat) (h1 : 1 ≤ u) (h2 : u < 18446744073709551616) (w : World) (htab : Lib.TabIs Tryd.prog w "internal/strconv.uint64pow10" .u64 Lib.pow10Tab) :
    Calls Tryd.prog 47 #[.int .u64 u] w fun e w' => e = .returned (.int .i64 (Lib.nDigits u)) ∧ w' = w := Any.internal_strconv_numDigits Tryd.laysM284 u h1 h2 w htab
def Tryd.lays285_ren : Go.Shelf.Ren := ⟨fun | 285 => 48 | n => n, fun | 37 => 47 | 53 => 31 | 3 => 3 | 4 => 4 | 51 => 90 | 9 => 9 | 5 => 5 | 0 => 0 | n => n, fun | n => n⟩
theorem Tryd.lays285 : Go.Proofs.Lays.n285 Tryd.prog Tryd.lays285_ren := {
  mixed := by kernel_rfl
  f285 := Tryd.func48.trans (congrArg some (by kernel_rfl))
  t0 := Tryd.underlying0
  a0 := Tryd.isAgg0
  z0 := Tryd.sizeOf0
  v0 := Tryd.zeroValue0
  t3 := Tryd.underlying3
  a3 := Tryd.isAgg3
  z3 := Tryd.sizeOf3
  v3 := Tryd.zeroValue3
  t4 := Tryd.underlying4
  a4 := Tryd.isAgg4
  z4 := Tryd.sizeOf4
  v4 := Tryd.zeroValue4
  t5 := Tryd.underlying5
  a5 := Tryd.isAgg5
  z5 := Tryd.sizeOf5
  v5 := Tryd.zeroValue5
  t9 := Tryd.underlying9
  a9 := Tryd.isAgg9
  z9 := Tryd.sizeOf9
  v9 := Tryd.zeroValue9
  t37 := Tryd.underlying47
  a37 := Tryd.isAgg47
  z37 := Tryd.sizeOf47
  v37 := Tryd.zeroValue47
  t51 := Tryd.underlying90
  a51 := Tryd.isAgg90
  z51 := Tryd.sizeOf90
  v51 := Tryd.zeroValue90
  t53 := Tryd.underlying31
  a53 := Tryd.isAgg31
  z53 := Tryd.sizeOf31
  v53 := Tryd.zeroValue31 }
open Go.RowKit Go.Sort Go.Lib in
/-- internal/strconv.formatBase10: "formatBase10 formats the decimal representation of u into a. The caller is responsible for ensuring that a is big enough to hold u. If a is too big, leading zeros will be filled in as needed.": THE ROW HOLDS u's DIGITS ('FmtInv .. 0 ..': every place t holds 'dg u (len - 1 - t)'); all else is as it was but for the count of draws. (LAID: no walk: one application.) -/
theorem Tryd.internal_strconv_formatBase10 (blk off cap : Nat) (u : Nat) (d : Array UInt8) (w : World) (hH : Holds (fun (b : UInt8) => Value.int .u8 (b.toNat : Int)) w blk off d) (hu : u < 10 ^ d.size) (hu64 : u < 18446744073709551616) (hsz : d.size < 4611686018427387904) :
    Calls Tryd.prog 48 #[.slice (some ⟨blk, off, none⟩) d.size cap, .int .u64 u] w fun e w' =>
      e = .returned (.tuple #[]) ∧ ∃ (n v' : Nat) (dk : Array UInt8), w' = (putRow (fun (b : UInt8) => Value.int .u8 (b.toNat : Int)) w blk off dk).drewN n ∧ FmtInv d.size u 0 v' dk := Any.internal_strconv_formatBase10 Tryd.lays285 blk off cap u d w hH hu hu64 hsz
def Tryd.laysM246_ren : Go.Shelf.Ren := ⟨fun | 246 => 50 | 283 => 46 | 284 => 47 | 285 => 48 | 286 => 49 | 129 => 54 | 317 => 53 | 318 => 55 | 319 => 56 | 320 => 57 | 337 => 62 | 338 => 63 | n => n, fun | 2 => 2 | 3 => 3 | 9 => 9 | 4 => 4 | 171 => 81 | 0 => 0 | 53 => 31 | 37 => 47 | 5 => 5 | 173 => 84 | 212 => 89 | 51 => 90 | 20 => 20 | 213 => 91 | 46 => 93 | 232 => 103 | 233 => 104 | n => n, fun | 17 => 0 | 18 => 4 | 19 => 5 | n => n⟩
theorem Tryd.laysM246 : Go.Proofs.LaysM.n246 Tryd.prog Tryd.laysM246_ren := {
  mixed := by kernel_rfl
  f129 := Tryd.func54.trans (congrArg some (by kernel_rfl))
  f246 := Tryd.func50.trans (congrArg some (by kernel_rfl))
  f283 := Tryd.func46.trans (congrArg some (by kernel_rfl))
  f284 := Tryd.func47.trans (congrArg some (by kernel_rfl))
  f285 := Tryd.func48.trans (congrArg some (by kernel_rfl))
  f286 := Tryd.func49.trans (congrArg some (by kernel_rfl))
  f317 := Tryd.func53.trans (congrArg some (by kernel_rfl))
  f318 := Tryd.func55.trans (congrArg some (by kernel_rfl))
  f319 := Tryd.func56.trans (congrArg some (by kernel_rfl))
  f320 := Tryd.func57.trans (congrArg some (by kernel_rfl))
  f337 := Tryd.func62.trans (congrArg some (by kernel_rfl))
  f338 := Tryd.func63.trans (congrArg some (by kernel_rfl))
  t0 := Tryd.underlying0
  a0 := Tryd.isAgg0
  z0 := Tryd.sizeOf0
  v0 := Tryd.zeroValue0
  t2 := Tryd.underlying2
  a2 := Tryd.isAgg2
  z2 := Tryd.sizeOf2
  v2 := Tryd.zeroValue2
  t3 := Tryd.underlying3
  a3 := Tryd.isAgg3
  z3 := Tryd.sizeOf3
  v3 := Tryd.zeroValue3
  t4 := Tryd.underlying4
  a4 := Tryd.isAgg4
  z4 := Tryd.sizeOf4
  v4 := Tryd.zeroValue4
  t5 := Tryd.underlying5
  a5 := Tryd.isAgg5
  z5 := Tryd.sizeOf5
  v5 := Tryd.zeroValue5
  t9 := Tryd.underlying9
  a9 := Tryd.isAgg9
  z9 := Tryd.sizeOf9
  v9 := Tryd.zeroValue9
  t20 := Tryd.underlying20
  a20 := Tryd.isAgg20
  z20 := Tryd.sizeOf20
  v20 := Tryd.zeroValue20
  t37 := Tryd.underlying47
  a37 := Tryd.isAgg47
  z37 := Tryd.sizeOf47
  v37 := Tryd.zeroValue47
  t46 := Tryd.underlying93
  a46 := Tryd.isAgg93
  z46 := Tryd.sizeOf93
  v46 := Tryd.zeroValue93
  t51 := Tryd.underlying90
  a51 := Tryd.isAgg90
  z51 := Tryd.sizeOf90
  v51 := Tryd.zeroValue90
  t53 := Tryd.underlying31
  a53 := Tryd.isAgg31
  z53 := Tryd.sizeOf31
  v53 := Tryd.zeroValue31
  t171 := Tryd.underlying81
  a171 := Tryd.isAgg81
  z171 := Tryd.sizeOf81
  v171 := Tryd.zeroValue81
  t173 := Tryd.underlying84
  a173 := Tryd.isAgg84
  z173 := Tryd.sizeOf84
  v173 := Tryd.zeroValue84
  t212 := Tryd.underlying89
  a212 := Tryd.isAgg89
  z212 := Tryd.sizeOf89
  v212 := Tryd.zeroValue89
  t213 := Tryd.underlying91
  a213 := Tryd.isAgg91
  z213 := Tryd.sizeOf91
  t232 := Tryd.underlying103
  a232 := Tryd.isAgg103
  z232 := Tryd.sizeOf103
  v232 := Tryd.zeroValue103
  t233 := Tryd.underlying104
  a233 := Tryd.isAgg104
  z233 := Tryd.sizeOf104
  v233 := Tryd.zeroValue104
  g17 := by kernel_rfl
  g18 := by kernel_rfl
  g19 := by kernel_rfl
  i0 := by kernel_rfl
  i2 := by kernel_rfl
  i3 := by kernel_rfl
  i4 := by kernel_rfl
  i5 := by kernel_rfl
  i9 := by kernel_rfl
  i20 := by kernel_rfl
  i37 := by kernel_rfl
  i46 := by kernel_rfl
  i51 := by kernel_rfl
  i53 := by kernel_rfl
  i171 := by kernel_rfl
  i173 := by kernel_rfl
  i212 := by kernel_rfl
  i232 := by kernel_rfl
  i233 := by kernel_rfl
  m17 := by kernel_rfl
  m18 := by kernel_rfl
  m19 := by kernel_rfl }
open Go.RowKit Go.Sort Go.Lib in
/-- internal/strconv.FormatInt: "FormatInt returns the string representation of i in the given base": AT BASE 10: i's decimal numeral, for every int64. The world behind the call: the world before it, new blocks behind the heap, draws. (LAID: no walk: one application.) -/
theorem Tryd.internal_strconv_FormatInt_10 (n : Int) (h0 : -9223372036854775808 ≤ n) (h1 : n ≤ 9223372036854775807) (w : World) (htab : Lib.TabIs Tryd.prog w "internal/strconv.uint64pow10" .u64 Lib.pow10Tab) :
    Calls Tryd.prog 50 #[.int .i64 n, .int .i64 10] w fun e w' => e = .returned (.string ⟨(Lib.itoa n).toArray⟩) ∧ ∃ k os, w' = grow (w.drewN k) os := Any.internal_strconv_FormatInt_10 Tryd.laysM246 n h0 h1 w htab
def Tryd.lays246_ren : Go.Shelf.Ren := ⟨fun | 246 => 50 | 283 => 46 | 284 => 47 | 285 => 48 | 286 => 49 | 129 => 54 | 317 => 53 | 318 => 55 | 319 => 56 | 320 => 57 | 337 => 62 | 338 => 63 | n => n, fun | 2 => 2 | 3 => 3 | 9 => 9 | 4 => 4 | 171 => 81 | 0 => 0 | 53 => 31 | 37 => 47 | 5 => 5 | 173 => 84 | 212 => 89 | 51 => 90 | 20 => 20 | 213 => 91 | 46 => 93 | 232 => 103 | 233 => 104 | n => n, fun | 17 => 0 | 18 => 4 | 19 => 5 | n => n⟩
theorem Tryd.lays246 : Go.Proofs.Lays.n246 Tryd.prog Tryd.lays246_ren := {
  mixed := by kernel_rfl
  f129 := Tryd.func54.trans (congrArg some (by kernel_rfl))
  f246 := Tryd.func50.trans (congrArg some (by kernel_rfl))
  f283 := Tryd.func46.trans (congrArg some (by kernel_rfl))
  f284 := Tryd.func47.trans (congrArg some (by kernel_rfl))
  f285 := Tryd.func48.trans (congrArg some (by kernel_rfl))
  f286 := Tryd.func49.trans (congrArg some (by kernel_rfl))
  f317 := Tryd.func53.trans (congrArg some (by kernel_rfl))
  f318 := Tryd.func55.trans (congrArg some (by kernel_rfl))
  f319 := Tryd.func56.trans (congrArg some (by kernel_rfl))
  f320 := Tryd.func57.trans (congrArg some (by kernel_rfl))
  f337 := Tryd.func62.trans (congrArg some (by kernel_rfl))
  f338 := Tryd.func63.trans (congrArg some (by kernel_rfl))
  t0 := Tryd.underlying0
  a0 := Tryd.isAgg0
  z0 := Tryd.sizeOf0
  v0 := Tryd.zeroValue0
  t2 := Tryd.underlying2
  a2 := Tryd.isAgg2
  z2 := Tryd.sizeOf2
  v2 := Tryd.zeroValue2
  t3 := Tryd.underlying3
  a3 := Tryd.isAgg3
  z3 := Tryd.sizeOf3
  v3 := Tryd.zeroValue3
  t4 := Tryd.underlying4
  a4 := Tryd.isAgg4
  z4 := Tryd.sizeOf4
  v4 := Tryd.zeroValue4
  t5 := Tryd.underlying5
  a5 := Tryd.isAgg5
  z5 := Tryd.sizeOf5
  v5 := Tryd.zeroValue5
  t9 := Tryd.underlying9
  a9 := Tryd.isAgg9
  z9 := Tryd.sizeOf9
  v9 := Tryd.zeroValue9
  t20 := Tryd.underlying20
  a20 := Tryd.isAgg20
  z20 := Tryd.sizeOf20
  v20 := Tryd.zeroValue20
  t37 := Tryd.underlying47
  a37 := Tryd.isAgg47
  z37 := Tryd.sizeOf47
  v37 := Tryd.zeroValue47
  t46 := Tryd.underlying93
  a46 := Tryd.isAgg93
  z46 := Tryd.sizeOf93
  v46 := Tryd.zeroValue93
  t51 := Tryd.underlying90
  a51 := Tryd.isAgg90
  z51 := Tryd.sizeOf90
  v51 := Tryd.zeroValue90
  t53 := Tryd.underlying31
  a53 := Tryd.isAgg31
  z53 := Tryd.sizeOf31
  v53 := Tryd.zeroValue31
  t171 := Tryd.underlying81
  a171 := Tryd.isAgg81
  z171 := Tryd.sizeOf81
  v171 := Tryd.zeroValue81
  t173 := Tryd.underlying84
  a173 := Tryd.isAgg84
  z173 := Tryd.sizeOf84
  v173 := Tryd.zeroValue84
  t212 := Tryd.underlying89
  a212 := Tryd.isAgg89
  z212 := Tryd.sizeOf89
  v212 := Tryd.zeroValue89
  t213 := Tryd.underlying91
  a213 := Tryd.isAgg91
  z213 := Tryd.sizeOf91
  t232 := Tryd.underlying103
  a232 := Tryd.isAgg103
  z232 := Tryd.sizeOf103
  v232 := Tryd.zeroValue103
  t233 := Tryd.underlying104
  a233 := Tryd.isAgg104
  z233 := Tryd.sizeOf104
  v233 := Tryd.zeroValue104
  g17 := by kernel_rfl
  g18 := by kernel_rfl
  g19 := by kernel_rfl }
open Go.RowKit Go.Sort Go.Lib in
/-- THE ROAD WITHOUT THE TABLE: 0 <= i < 100: two constants are read, nothing is laid: no premise on the world, and the world is as it was. (LAID: no walk: one application.) -/
theorem Tryd.internal_strconv_FormatInt_10_small (i : Nat) (hi : i < 100) (w : World) :
    Calls Tryd.prog 50 #[.int .i64 i, .int .i64 10] w fun e w' => e = .returned (.string ⟨(Lib.decDigits i).toArray⟩) ∧ w' = w := Any.internal_strconv_FormatInt_10_small Tryd.lays246 i hi w
def Tryd.laysM243_ren : Go.Shelf.Ren := ⟨fun | 243 => 42 | 246 => 50 | 283 => 46 | 284 => 47 | 285 => 48 | 286 => 49 | 129 => 54 | 317 => 53 | 318 => 55 | 319 => 56 | 320 => 57 | 337 => 62 | 338 => 63 | n => n, fun | 3 => 3 | 9 => 9 | 2 => 2 | 4 => 4 | 171 => 81 | 0 => 0 | 53 => 31 | 37 => 47 | 5 => 5 | 173 => 84 | 212 => 89 | 51 => 90 | 20 => 20 | 213 => 91 | 46 => 93 | 232 => 103 | 233 => 104 | n => n, fun | 17 => 0 | 18 => 4 | 19 => 5 | n => n⟩
theorem Tryd.laysM243 : Go.Proofs.LaysM.n243 Tryd.prog Tryd.laysM243_ren := {
  mixed := by kernel_rfl
  f129 := Tryd.func54.trans (congrArg some (by kernel_rfl))
  f243 := Tryd.func42.trans (congrArg some (by kernel_rfl))
  f246 := Tryd.func50.trans (congrArg some (by kernel_rfl))
  f283 := Tryd.func46.trans (congrArg some (by kernel_rfl))
  f284 := Tryd.func47.trans (congrArg some (by kernel_rfl))
  f285 := Tryd.func48.trans (congrArg some (by kernel_rfl))
  f286 := Tryd.func49.trans (congrArg some (by kernel_rfl))
  f317 := Tryd.func53.trans (congrArg some (by kernel_rfl))
  f318 := Tryd.func55.trans (congrArg some (by kernel_rfl))
  f319 := Tryd.func56.trans (congrArg some (by kernel_rfl))
  f320 := Tryd.func57.trans (congrArg some (by kernel_rfl))
  f337 := Tryd.func62.trans (congrArg some (by kernel_rfl))
  f338 := Tryd.func63.trans (congrArg some (by kernel_rfl))
  t0 := Tryd.underlying0
  a0 := Tryd.isAgg0
  z0 := Tryd.sizeOf0
  v0 := Tryd.zeroValue0
  t2 := Tryd.underlying2
  a2 := Tryd.isAgg2
  z2 := Tryd.sizeOf2
  v2 := Tryd.zeroValue2
  t3 := Tryd.underlying3
  a3 := Tryd.isAgg3
  z3 := Tryd.sizeOf3
  v3 := Tryd.zeroValue3
  t4 := Tryd.underlying4
  a4 := Tryd.isAgg4
  z4 := Tryd.sizeOf4
  v4 := Tryd.zeroValue4
  t5 := Tryd.underlying5
  a5 := Tryd.isAgg5
  z5 := Tryd.sizeOf5
  v5 := Tryd.zeroValue5
  t9 := Tryd.underlying9
  a9 := Tryd.isAgg9
  z9 := Tryd.sizeOf9
  v9 := Tryd.zeroValue9
  t20 := Tryd.underlying20
  a20 := Tryd.isAgg20
  z20 := Tryd.sizeOf20
  v20 := Tryd.zeroValue20
  t37 := Tryd.underlying47
  a37 := Tryd.isAgg47
  z37 := Tryd.sizeOf47
  v37 := Tryd.zeroValue47
  t46 := Tryd.underlying93
  a46 := Tryd.isAgg93
  z46 := Tryd.sizeOf93
  v46 := Tryd.zeroValue93
  t51 := Tryd.underlying90
  a51 := Tryd.isAgg90
  z51 := Tryd.sizeOf90
  v51 := Tryd.zeroValue90
  t53 := Tryd.underlying31
  a53 := Tryd.isAgg31
  z53 := Tryd.sizeOf31
  v53 := Tryd.zeroValue31
  t171 := Tryd.underlying81
  a171 := Tryd.isAgg81
  z171 := Tryd.sizeOf81
  v171 := Tryd.zeroValue81
  t173 := Tryd.underlying84
  a173 := Tryd.isAgg84
  z173 := Tryd.sizeOf84
  v173 := Tryd.zeroValue84
  t212 := Tryd.underlying89
  a212 := Tryd.isAgg89
  z212 := Tryd.sizeOf89
  v212 := Tryd.zeroValue89
  t213 := Tryd.underlying91
  a213 := Tryd.isAgg91
  z213 := Tryd.sizeOf91
  t232 := Tryd.underlying103
  a232 := Tryd.isAgg103
  z232 := Tryd.sizeOf103
  v232 := Tryd.zeroValue103
  t233 := Tryd.underlying104
  a233 := Tryd.isAgg104
  z233 := Tryd.sizeOf104
  v233 := Tryd.zeroValue104
  g17 := by kernel_rfl
  g18 := by kernel_rfl
  g19 := by kernel_rfl
  i0 := by kernel_rfl
  i2 := by kernel_rfl
  i3 := by kernel_rfl
  i4 := by kernel_rfl
  i5 := by kernel_rfl
  i9 := by kernel_rfl
  i20 := by kernel_rfl
  i37 := by kernel_rfl
  i46 := by kernel_rfl
  i51 := by kernel_rfl
  i53 := by kernel_rfl
  i171 := by kernel_rfl
  i173 := by kernel_rfl
  i212 := by kernel_rfl
  i232 := by kernel_rfl
  i233 := by kernel_rfl
  m17 := by kernel_rfl
  m18 := by kernel_rfl
  m19 := by kernel_rfl }
open Go.RowKit Go.Sort Go.Lib in
/-- internal/strconv.Itoa: "Itoa is equivalent to FormatInt(int64(i), 10).": i's decimal numeral, for every int. (LAID: no walk: one application.) -/
theorem Tryd.internal_strconv_Itoa (n : Int) (h0 : -9223372036854775808 ≤ n) (h1 : n ≤ 9223372036854775807) (w : World) (htab : Lib.TabIs Tryd.prog w "internal/strconv.uint64pow10" .u64 Lib.pow10Tab) :
    Calls Tryd.prog 42 #[.int .i64 n] w fun e w' => e = .returned (.string ⟨(Lib.itoa n).toArray⟩) ∧ ∃ k os, w' = grow (w.drewN k) os := Any.internal_strconv_Itoa Tryd.laysM243 n h0 h1 w htab
def Tryd.lays243_ren : Go.Shelf.Ren := ⟨fun | 243 => 42 | 246 => 50 | 283 => 46 | 284 => 47 | 285 => 48 | 286 => 49 | 129 => 54 | 317 => 53 | 318 => 55 | 319 => 56 | 320 => 57 | 337 => 62 | 338 => 63 | n => n, fun | 3 => 3 | 9 => 9 | 2 => 2 | 4 => 4 | 171 => 81 | 0 => 0 | 53 => 31 | 37 => 47 | 5 => 5 | 173 => 84 | 212 => 89 | 51 => 90 | 20 => 20 | 213 => 91 | 46 => 93 | 232 => 103 | 233 => 104 | n => n, fun | 17 => 0 | 18 => 4 | 19 => 5 | n => n⟩
theorem Tryd.lays243 : Go.Proofs.Lays.n243 Tryd.prog Tryd.lays243_ren := {
  mixed := by kernel_rfl
  f129 := Tryd.func54.trans (congrArg some (by kernel_rfl))
  f243 := Tryd.func42.trans (congrArg some (by kernel_rfl))
  f246 := Tryd.func50.trans (congrArg some (by kernel_rfl))
  f283 := Tryd.func46.trans (congrArg some (by kernel_rfl))
  f284 := Tryd.func47.trans (congrArg some (by kernel_rfl))
  f285 := Tryd.func48.trans (congrArg some (by kernel_rfl))
  f286 := Tryd.func49.trans (congrArg some (by kernel_rfl))
  f317 := Tryd.func53.trans (congrArg some (by kernel_rfl))
  f318 := Tryd.func55.trans (congrArg some (by kernel_rfl))
  f319 := Tryd.func56.trans (congrArg some (by kernel_rfl))
  f320 := Tryd.func57.trans (congrArg some (by kernel_rfl))
  f337 := Tryd.func62.trans (congrArg some (by kernel_rfl))
  f338 := Tryd.func63.trans (congrArg some (by kernel_rfl))
  t0 := Tryd.underlying0
  a0 := Tryd.isAgg0
  z0 := Tryd.sizeOf0
  v0 := Tryd.zeroValue0
  t2 := Tryd.underlying2
  a2 := Tryd.isAgg2
  z2 := Tryd.sizeOf2
  v2 := Tryd.zeroValue2
  t3 := Tryd.underlying3
  a3 := Tryd.isAgg3
  z3 := Tryd.sizeOf3
  v3 := Tryd.zeroValue3
  t4 := Tryd.underlying4
  a4 := Tryd.isAgg4
  z4 := Tryd.sizeOf4
  v4 := Tryd.zeroValue4
  t5 := Tryd.underlying5
  a5 := Tryd.isAgg5
  z5 := Tryd.sizeOf5
  v5 := Tryd.zeroValue5
  t9 := Tryd.underlying9
  a9 := Tryd.isAgg9
  z9 := Tryd.sizeOf9
  v9 := Tryd.zeroValue9
  t20 := Tryd.underlying20
  a20 := Tryd.isAgg20
  z20 := Tryd.sizeOf20
  v20 := Tryd.zeroValue20
  t37 := Tryd.underlying47
  a37 := Tryd.isAgg47
  z37 := Tryd.sizeOf47
  v37 := Tryd.zeroValue47
  t46 := Tryd.underlying93
  a46 := Tryd.isAgg93
  z46 := Tryd.sizeOf93
  v46 := Tryd.zeroValue93
  t51 := Tryd.underlying90
  a51 := Tryd.isAgg90
  z51 := Tryd.sizeOf90
  v51 := Tryd.zeroValue90
  t53 := Tryd.underlying31
  a53 := Tryd.isAgg31
  z53 := Tryd.sizeOf31
  v53 := Tryd.zeroValue31
  t171 := Tryd.underlying81
  a171 := Tryd.isAgg81
  z171 := Tryd.sizeOf81
  v171 := Tryd.zeroValue81
  t173 := Tryd.underlying84
  a173 := Tryd.isAgg84
  z173 := Tryd.sizeOf84
  v173 := Tryd.zeroValue84
  t212 := Tryd.underlying89
  a212 := Tryd.isAgg89
  z212 := Tryd.sizeOf89
  v212 := Tryd.zeroValue89
  t213 := Tryd.underlying91
  a213 := Tryd.isAgg91
  z213 := Tryd.sizeOf91
  t232 := Tryd.underlying103
  a232 := Tryd.isAgg103
  z232 := Tryd.sizeOf103
  v232 := Tryd.zeroValue103
  t233 := Tryd.underlying104
  a233 := Tryd.isAgg104
  z233 := Tryd.sizeOf104
  v233 := Tryd.zeroValue104
  g17 := by kernel_rfl
  g18 := by kernel_rfl
  g19 := by kernel_rfl }
open Go.RowKit Go.Sort Go.Lib in
/-- THE ROAD WITHOUT THE TABLE: 0 <= i < 100. (LAID: no walk: one application.) -/
theorem Tryd.internal_strconv_Itoa_small (i : Nat) (hi : i < 100) (w : World) :
    Calls Tryd.prog 42 #[.int .i64 i] w fun e w' => e = .returned (.string ⟨(Lib.decDigits i).toArray⟩) ∧ w' = w := Any.internal_strconv_Itoa_small Tryd.lays243 i hi w
def Tryd.laysM171_ren : Go.Shelf.Ren := ⟨fun | 171 => 32 | 243 => 42 | 246 => 50 | 283 => 46 | 284 => 47 | 285 => 48 | 286 => 49 | 129 => 54 | 317 => 53 | 318 => 55 | 319 => 56 | 320 => 57 | 337 => 62 | 338 => 63 | n => n, fun | 3 => 3 | 9 => 9 | 2 => 2 | 4 => 4 | 171 => 81 | 0 => 0 | 53 => 31 | 37 => 47 | 5 => 5 | 173 => 84 | 212 => 89 | 51 => 90 | 20 => 20 | 213 => 91 | 46 => 93 | 232 => 103 | 233 => 104 | n => n, fun | 17 => 0 | 18 => 4 | 19 => 5 | n => n⟩
theorem Tryd.laysM171 : Go.Proofs.LaysM.n171 Tryd.prog Tryd.laysM171_ren := {
  mixed := by kernel_rfl
  f129 := Tryd.func54.trans (congrArg some (by kernel_rfl))
  f171 := Tryd.func32.trans (congrArg some (by kernel_rfl))
  f243 := Tryd.func42.trans (congrArg some (by kernel_rfl))
  f246 := Tryd.func50.trans (congrArg some (by kernel_rfl))
  f283 := Tryd.func46.trans (congrArg some (by kernel_rfl))
  f284 := Tryd.func47.trans (congrArg some (by kernel_rfl))
  f285 := Tryd.func48.trans (congrArg some (by kernel_rfl))
  f286 := Tryd.func49.trans (congrArg some (by kernel_rfl))
  f317 := Tryd.func53.trans (congrArg some (by kernel_rfl))
  f318 := Tryd.func55.trans (congrArg some (by kernel_rfl))
  f319 := Tryd.func56.trans (congrArg some (by kernel_rfl))
  f320 := Tryd.func57.trans (congrArg some (by kernel_rfl))
  f337 := Tryd.func62.trans (congrArg some (by kernel_rfl))
  f338 := Tryd.func63.trans (congrArg some (by kernel_rfl))
  t0 := Tryd.underlying0
  a0 := Tryd.isAgg0
  z0 := Tryd.sizeOf0
  v0 := Tryd.zeroValue0
  t2 := Tryd.underlying2
  a2 := Tryd.isAgg2
  z2 := Tryd.sizeOf2
  v2 := Tryd.zeroValue2
  t3 := Tryd.underlying3
  a3 := Tryd.isAgg3
  z3 := Tryd.sizeOf3
  v3 := Tryd.zeroValue3
  t4 := Tryd.underlying4
  a4 := Tryd.isAgg4
  z4 := Tryd.sizeOf4
  v4 := Tryd.zeroValue4
  t5 := Tryd.underlying5
  a5 := Tryd.isAgg5
  z5 := Tryd.sizeOf5
  v5 := Tryd.zeroValue5
  t9 := Tryd.underlying9
  a9 := Tryd.isAgg9
  z9 := Tryd.sizeOf9
  v9 := Tryd.zeroValue9
  t20 := Tryd.underlying20
  a20 := Tryd.isAgg20
  z20 := Tryd.sizeOf20
  v20 := Tryd.zeroValue20
  t37 := Tryd.underlying47
  a37 := Tryd.isAgg47
  z37 := Tryd.sizeOf47
  v37 := Tryd.zeroValue47
  t46 := Tryd.underlying93
  a46 := Tryd.isAgg93
  z46 := Tryd.sizeOf93
  v46 := Tryd.zeroValue93
  t51 := Tryd.underlying90
  a51 := Tryd.isAgg90
  z51 := Tryd.sizeOf90
  v51 := Tryd.zeroValue90
  t53 := Tryd.underlying31
  a53 := Tryd.isAgg31
  z53 := Tryd.sizeOf31
  v53 := Tryd.zeroValue31
  t171 := Tryd.underlying81
  a171 := Tryd.isAgg81
  z171 := Tryd.sizeOf81
  v171 := Tryd.zeroValue81
  t173 := Tryd.underlying84
  a173 := Tryd.isAgg84
  z173 := Tryd.sizeOf84
  v173 := Tryd.zeroValue84
  t212 := Tryd.underlying89
  a212 := Tryd.isAgg89
  z212 := Tryd.sizeOf89
  v212 := Tryd.zeroValue89
  t213 := Tryd.underlying91
  a213 := Tryd.isAgg91
  z213 := Tryd.sizeOf91
  t232 := Tryd.underlying103
  a232 := Tryd.isAgg103
  z232 := Tryd.sizeOf103
  v232 := Tryd.zeroValue103
  t233 := Tryd.underlying104
  a233 := Tryd.isAgg104
  z233 := Tryd.sizeOf104
  v233 := Tryd.zeroValue104
  g17 := by kernel_rfl
  g18 := by kernel_rfl
  g19 := by kernel_rfl
  i0 := by kernel_rfl
  i2 := by kernel_rfl
  i3 := by kernel_rfl
  i4 := by kernel_rfl
  i5 := by kernel_rfl
  i9 := by kernel_rfl
  i20 := by kernel_rfl
  i37 := by kernel_rfl
  i46 := by kernel_rfl
  i51 := by kernel_rfl
  i53 := by kernel_rfl
  i171 := by kernel_rfl
  i173 := by kernel_rfl
  i212 := by kernel_rfl
  i232 := by kernel_rfl
  i233 := by kernel_rfl
  m17 := by kernel_rfl
  m18 := by kernel_rfl
  m19 := by kernel_rfl }
open Go.RowKit Go.Sort Go.Lib in
/-- strconv.Itoa: "Itoa is equivalent to FormatInt(int64(i), 10).": i's DECIMAL NUMERAL ('Lib.itoa': a '-' where i is negative, then the digits), FOR EVERY int. The world behind the call: the world before it, new blocks behind the heap (the library's 'var a [24]byte'), draws. (LAID: no walk: one application.) -/
theorem Tryd.strconv_Itoa (n : Int) (h0 : -9223372036854775808 ≤ n) (h1 : n ≤ 9223372036854775807) (w : World) (htab : Lib.TabIs Tryd.prog w "internal/strconv.uint64pow10" .u64 Lib.pow10Tab) :
    Calls Tryd.prog 32 #[.int .i64 n] w fun e w' => e = .returned (.string ⟨(Lib.itoa n).toArray⟩) ∧ ∃ k os, w' = grow (w.drewN k) os := Any.strconv_Itoa Tryd.laysM171 n h0 h1 w htab
def Tryd.lays171_ren : Go.Shelf.Ren := ⟨fun | 171 => 32 | 243 => 42 | 246 => 50 | 283 => 46 | 284 => 47 | 285 => 48 | 286 => 49 | 129 => 54 | 317 => 53 | 318 => 55 | 319 => 56 | 320 => 57 | 337 => 62 | 338 => 63 | n => n, fun | 3 => 3 | 9 => 9 | 2 => 2 | 4 => 4 | 171 => 81 | 0 => 0 | 53 => 31 | 37 => 47 | 5 => 5 | 173 => 84 | 212 => 89 | 51 => 90 | 20 => 20 | 213 => 91 | 46 => 93 | 232 => 103 | 233 => 104 | n => n, fun | 17 => 0 | 18 => 4 | 19 => 5 | n => n⟩
theorem Tryd.lays171 : Go.Proofs.Lays.n171 Tryd.prog Tryd.lays171_ren := {
  mixed := by kernel_rfl
  f129 := Tryd.func54.trans (congrArg some (by kernel_rfl))
  f171 := Tryd.func32.trans (congrArg some (by kernel_rfl))
  f243 := Tryd.func42.trans (congrArg some (by kernel_rfl))
  f246 := Tryd.func50.trans (congrArg some (by kernel_rfl))
  f283 := Tryd.func46.trans (congrArg some (by kernel_rfl))
  f284 := Tryd.func47.trans (congrArg some (by kernel_rfl))
  f285 := Tryd.func48.trans (congrArg some (by kernel_rfl))
  f286 := Tryd.func49.trans (congrArg some (by kernel_rfl))
  f317 := Tryd.func53.trans (congrArg some (by kernel_rfl))
  f318 := Tryd.func55.trans (congrArg some (by kernel_rfl))
  f319 := Tryd.func56.trans (congrArg some (by kernel_rfl))
  f320 := Tryd.func57.trans (congrArg some (by kernel_rfl))
  f337 := Tryd.func62.trans (congrArg some (by kernel_rfl))
  f338 := Tryd.func63.trans (congrArg some (by kernel_rfl))
  t0 := Tryd.underlying0
  a0 := Tryd.isAgg0
  z0 := Tryd.sizeOf0
  v0 := Tryd.zeroValue0
  t2 := Tryd.underlying2
  a2 := Tryd.isAgg2
  z2 := Tryd.sizeOf2
  v2 := Tryd.zeroValue2
  t3 := Tryd.underlying3
  a3 := Tryd.isAgg3
  z3 := Tryd.sizeOf3
  v3 := Tryd.zeroValue3
  t4 := Tryd.underlying4
  a4 := Tryd.isAgg4
  z4 := Tryd.sizeOf4
  v4 := Tryd.zeroValue4
  t5 := Tryd.underlying5
  a5 := Tryd.isAgg5
  z5 := Tryd.sizeOf5
  v5 := Tryd.zeroValue5
  t9 := Tryd.underlying9
  a9 := Tryd.isAgg9
  z9 := Tryd.sizeOf9
  v9 := Tryd.zeroValue9
  t20 := Tryd.underlying20
  a20 := Tryd.isAgg20
  z20 := Tryd.sizeOf20
  v20 := Tryd.zeroValue20
  t37 := Tryd.underlying47
  a37 := Tryd.isAgg47
  z37 := Tryd.sizeOf47
  v37 := Tryd.zeroValue47
  t46 := Tryd.underlying93
  a46 := Tryd.isAgg93
  z46 := Tryd.sizeOf93
  v46 := Tryd.zeroValue93
  t51 := Tryd.underlying90
  a51 := Tryd.isAgg90
  z51 := Tryd.sizeOf90
  v51 := Tryd.zeroValue90
  t53 := Tryd.underlying31
  a53 := Tryd.isAgg31
  z53 := Tryd.sizeOf31
  v53 := Tryd.zeroValue31
  t171 := Tryd.underlying81
  a171 := Tryd.isAgg81
  z171 := Tryd.sizeOf81
  v171 := Tryd.zeroValue81
  t173 := Tryd.underlying84
  a173 := Tryd.isAgg84
  z173 := Tryd.sizeOf84
  v173 := Tryd.zeroValue84
  t212 := Tryd.underlying89
  a212 := Tryd.isAgg89
  z212 := Tryd.sizeOf89
  v212 := Tryd.zeroValue89
  t213 := Tryd.underlying91
  a213 := Tryd.isAgg91
  z213 := Tryd.sizeOf91
  t232 := Tryd.underlying103
  a232 := Tryd.isAgg103
  z232 := Tryd.sizeOf103
  v232 := Tryd.zeroValue103
  t233 := Tryd.underlying104
  a233 := Tryd.isAgg104
  z233 := Tryd.sizeOf104
  v233 := Tryd.zeroValue104
  g17 := by kernel_rfl
  g18 := by kernel_rfl
  g19 := by kernel_rfl }
open Go.RowKit Go.Sort Go.Lib in
/-- THE ROAD WITHOUT THE TABLE: 0 <= i < 100: NO PREMISE ON THE WORLD, AND THE WORLD IS AS IT WAS: a row that keeps its argument in that range need list no table ('laid = []'). (LAID: no walk: one application.) -/
theorem Tryd.strconv_Itoa_small (i : Nat) (hi : i < 100) (w : World) :
    Calls Tryd.prog 32 #[.int .i64 i] w fun e w' => e = .returned (.string ⟨(Lib.decDigits i).toArray⟩) ∧ w' = w := Any.strconv_Itoa_small Tryd.lays171 i hi w
def Tryd.lays217_ren : Go.Shelf.Ren := ⟨fun | 217 => 58 | 266 => 64 | n => n, fun | 9 => 9 | 5 => 5 | 3 => 3 | n => n, fun | n => n⟩
theorem Tryd.lays217 : Go.Proofs.Lays.n217 Tryd.prog Tryd.lays217_ren := {
  mixed := by kernel_rfl
  f217 := Tryd.func58.trans (congrArg some (by kernel_rfl))
  f266 := Tryd.func64.trans (congrArg some (by kernel_rfl))
  t3 := Tryd.underlying3
  a3 := Tryd.isAgg3
  z3 := Tryd.sizeOf3
  v3 := Tryd.zeroValue3
  t5 := Tryd.underlying5
  a5 := Tryd.isAgg5
  z5 := Tryd.sizeOf5
  v5 := Tryd.zeroValue5
  t9 := Tryd.underlying9
  a9 := Tryd.isAgg9
  z9 := Tryd.sizeOf9
  v9 := Tryd.zeroValue9 }
open Go.RowKit Go.Lib in
/-- internal/stringslite.IndexByte (what strings.IndexByte calls): IT RETURNS 'Lib.indexByte s c'; the world is as it was. (LAID: no walk: one application.) -/
theorem Tryd.stringslite_IndexByte (s : ByteArray) (c : Int) (w : World) :
    Calls Tryd.prog 58 #[.string s, .int .u8 c] w fun e w' => e = .returned (.int .i64 (Lib.indexByte s.data.toList c.toNat.toUInt8)) ∧ w' = w := Any.stringslite_IndexByte Tryd.lays217 s c w
def Tryd.lays224_ren : Go.Shelf.Ren := ⟨fun | 224 => 60 | n => n, fun | 3 => 3 | n => n, fun | n => n⟩
theorem Tryd.lays224 : Go.Proofs.Lays.n224 Tryd.prog Tryd.lays224_ren := {
  mixed := by kernel_rfl
  f224 := Tryd.func60.trans (congrArg some (by kernel_rfl))
  t3 := Tryd.underlying3
  a3 := Tryd.isAgg3
  z3 := Tryd.sizeOf3
  v3 := Tryd.zeroValue3 }
open Go.RowKit Go.Lib in
/-- internal/bytealg.Cutover: "Cutover reports the number of failures of IndexByte we should tolerate before switching over to Index. n is the number of bytes processed so far.": on amd64: (n + 16) / 8. (LAID: no walk: one application.) -/
theorem Tryd.bytealg_Cutover (n : Int) (h0 : 0 ≤ n) (h1 : n < 4611686018427387904) (w : World) :
    Calls Tryd.prog 60 #[.int .i64 n] w fun e w' => e = .returned (.int .i64 ((n + 16) / 8)) ∧ w' = w := Any.bytealg_Cutover Tryd.lays224 n h0 h1 w
def Tryd.lays314_ren : Go.Shelf.Ren := ⟨fun | 314 => 65 | n => n, fun | 9 => 9 | 51 => 90 | 3 => 3 | 4 => 4 | 5 => 5 | 46 => 93 | n => n, fun | n => n⟩
theorem Tryd.lays314 : Go.Proofs.Lays.n314 Tryd.prog Tryd.lays314_ren := {
  mixed := by kernel_rfl
  f314 := Tryd.func65.trans (congrArg some (by kernel_rfl))
  t3 := Tryd.underlying3
  a3 := Tryd.isAgg3
  z3 := Tryd.sizeOf3
  v3 := Tryd.zeroValue3
  t4 := Tryd.underlying4
  a4 := Tryd.isAgg4
  z4 := Tryd.sizeOf4
  v4 := Tryd.zeroValue4
  t5 := Tryd.underlying5
  a5 := Tryd.isAgg5
  z5 := Tryd.sizeOf5
  v5 := Tryd.zeroValue5
  t9 := Tryd.underlying9
  a9 := Tryd.isAgg9
  z9 := Tryd.sizeOf9
  v9 := Tryd.zeroValue9
  t46 := Tryd.underlying93
  a46 := Tryd.isAgg93
  z46 := Tryd.sizeOf93
  v46 := Tryd.zeroValue93
  t51 := Tryd.underlying90
  a51 := Tryd.isAgg90
  z51 := Tryd.sizeOf90
  v51 := Tryd.zeroValue90 }
open Go.RowKit Go.Lib in
/-- hashStr: "returns the hash and the appropriate multiplicative factor for use in Rabin-Karp algorithm": THE HASH OF ALL OF sep, AND 16777619 ^ len(sep), both in uint32. (LAID: no walk: one application.) -/
theorem Tryd.bytealg_hashStr (sep : ByteArray) (hs : sep.size < 4294967281) (w : World) :
    Calls Tryd.prog 65 #[.string sep] w fun e w' => e = .returned (.tuple #[.int .u32 (RK.H sep.data.toList % 4294967296), .int .u32 (16777619 ^ sep.size % 4294967296)]) ∧ w' = w := Any.bytealg_hashStr Tryd.lays314 sep hs w
def Tryd.lays267_ren : Go.Shelf.Ren := ⟨fun | 267 => 61 | 314 => 65 | n => n, fun | 9 => 9 | 3 => 3 | 146 => 101 | 51 => 90 | 4 => 4 | 5 => 5 | 46 => 93 | n => n, fun | n => n⟩
theorem Tryd.lays267 : Go.Proofs.Lays.n267 Tryd.prog Tryd.lays267_ren := {
  mixed := by kernel_rfl
  f267 := Tryd.func61.trans (congrArg some (by kernel_rfl))
  f314 := Tryd.func65.trans (congrArg some (by kernel_rfl))
  t3 := Tryd.underlying3
  a3 := Tryd.isAgg3
  z3 := Tryd.sizeOf3
  v3 := Tryd.zeroValue3
  t4 := Tryd.underlying4
  a4 := Tryd.isAgg4
  z4 := Tryd.sizeOf4
  v4 := Tryd.zeroValue4
  t5 := Tryd.underlying5
  a5 := Tryd.isAgg5
  z5 := Tryd.sizeOf5
  v5 := Tryd.zeroValue5
  t9 := Tryd.underlying9
  a9 := Tryd.isAgg9
  z9 := Tryd.sizeOf9
  v9 := Tryd.zeroValue9
  t46 := Tryd.underlying93
  a46 := Tryd.isAgg93
  z46 := Tryd.sizeOf93
  v46 := Tryd.zeroValue93
  t51 := Tryd.underlying90
  a51 := Tryd.isAgg90
  z51 := Tryd.sizeOf90
  v51 := Tryd.zeroValue90
  t146 := Tryd.underlying101
  a146 := Tryd.isAgg101
  z146 := Tryd.sizeOf101
  v146 := Tryd.zeroValue101 }
open Go.RowKit Go.Lib in
theorem Tryd.bytealg_IndexRabinKarp (s sep : ByteArray) (h1 : 1 ≤ sep.size) (h2 : sep.size ≤ s.size) (hs : s.size < 4294967281) (w : World) :
    Calls Tryd.prog 61 #[.string s, .string sep] w fun e w' => e = .returned (.int .i64 (Lib.index s.data.toList sep.data.toList)) ∧ w' = w := Any.bytealg_IndexRabinKarp Tryd.lays267 s sep h1 h2 hs w
def Tryd.lays219_ren : Go.Shelf.Ren := ⟨fun | 219 => 52 | 217 => 58 | 225 => 59 | 224 => 60 | 267 => 61 | 266 => 64 | 314 => 65 | n => n, fun | 9 => 9 | 3 => 3 | 4 => 4 | 5 => 5 | 46 => 93 | 146 => 101 | 51 => 90 | n => n, fun | 1 => 3 | n => n⟩
theorem Tryd.lays219 : Go.Proofs.Lays.n219 Tryd.prog Tryd.lays219_ren := {
  mixed := by kernel_rfl
  f217 := Tryd.func58.trans (congrArg some (by kernel_rfl))
  f219 := Tryd.func52.trans (congrArg some (by kernel_rfl))
  f224 := Tryd.func60.trans (congrArg some (by kernel_rfl))
  f225 := Tryd.func59.trans (congrArg some (by kernel_rfl))
  f266 := Tryd.func64.trans (congrArg some (by kernel_rfl))
  f267 := Tryd.func61.trans (congrArg some (by kernel_rfl))
  f314 := Tryd.func65.trans (congrArg some (by kernel_rfl))
  t3 := Tryd.underlying3
  a3 := Tryd.isAgg3
  z3 := Tryd.sizeOf3
  v3 := Tryd.zeroValue3
  t4 := Tryd.underlying4
  a4 := Tryd.isAgg4
  z4 := Tryd.sizeOf4
  v4 := Tryd.zeroValue4
  t5 := Tryd.underlying5
  a5 := Tryd.isAgg5
  z5 := Tryd.sizeOf5
  v5 := Tryd.zeroValue5
  t9 := Tryd.underlying9
  a9 := Tryd.isAgg9
  z9 := Tryd.sizeOf9
  v9 := Tryd.zeroValue9
  t46 := Tryd.underlying93
  a46 := Tryd.isAgg93
  z46 := Tryd.sizeOf93
  v46 := Tryd.zeroValue93
  t51 := Tryd.underlying90
  a51 := Tryd.isAgg90
  z51 := Tryd.sizeOf90
  v51 := Tryd.zeroValue90
  t146 := Tryd.underlying101
  a146 := Tryd.isAgg101
  z146 := Tryd.sizeOf101
  v146 := Tryd.zeroValue101
  g1 := by kernel_rfl }
open Go.RowKit Go.Lib in
/-- internal/stringslite.Index (what strings.Index calls) AT A substr OF ONE BYTE c: IT RETURNS 'Lib.indexByte s c'; the world is as it was. (LAID: no walk: one application.) -/
theorem Tryd.stringslite_Index_one (s : ByteArray) (c : UInt8) (w : World) :
    Calls Tryd.prog 52 #[.string s, .string ⟨#[c]⟩] w fun e w' => e = .returned (.int .i64 (Lib.indexByte s.data.toList c)) ∧ w' = w := Any.stringslite_Index_one Tryd.lays219 s c w
open Go.RowKit Go.Lib in
/-- internal/stringslite.Index (what strings.Index calls) AT A substr OF WHATEVER LENGTH: IT RETURNS 'Lib.index s substr'; the world is as it was. 'm': what internal/bytealg.MaxLen holds: whatever. (LAID: no walk: one application.) -/
theorem Tryd.stringslite_Index (s sub : ByteArray) (m : Int) (w : World) (hs : s.size < 4294967281) (hm : w.cell? ⟨3, 0, none⟩ = some (.int .i64 m)) :
    Calls Tryd.prog 52 #[.string s, .string sub] w fun e w' => e = .returned (.int .i64 (Lib.index s.data.toList sub.data.toList)) ∧ w' = w := Any.stringslite_Index Tryd.lays219 s sub m w hs hm
def Tryd.lays143_ren : Go.Shelf.Ren := ⟨fun | 143 => 45 | 219 => 52 | 217 => 58 | 225 => 59 | 224 => 60 | 267 => 61 | 266 => 64 | 314 => 65 | n => n, fun | 9 => 9 | 3 => 3 | 4 => 4 | 5 => 5 | 46 => 93 | 146 => 101 | 51 => 90 | n => n, fun | 1 => 3 | n => n⟩
theorem Tryd.lays143 : Go.Proofs.Lays.n143 Tryd.prog Tryd.lays143_ren := {
  mixed := by kernel_rfl
  f143 := Tryd.func45.trans (congrArg some (by kernel_rfl))
  f217 := Tryd.func58.trans (congrArg some (by kernel_rfl))
  f219 := Tryd.func52.trans (congrArg some (by kernel_rfl))
  f224 := Tryd.func60.trans (congrArg some (by kernel_rfl))
  f225 := Tryd.func59.trans (congrArg some (by kernel_rfl))
  f266 := Tryd.func64.trans (congrArg some (by kernel_rfl))
  f267 := Tryd.func61.trans (congrArg some (by kernel_rfl))
  f314 := Tryd.func65.trans (congrArg some (by kernel_rfl))
  t3 := Tryd.underlying3
  a3 := Tryd.isAgg3
  z3 := Tryd.sizeOf3
  v3 := Tryd.zeroValue3
  t4 := Tryd.underlying4
  a4 := Tryd.isAgg4
  z4 := Tryd.sizeOf4
  v4 := Tryd.zeroValue4
  t5 := Tryd.underlying5
  a5 := Tryd.isAgg5
  z5 := Tryd.sizeOf5
  v5 := Tryd.zeroValue5
  t9 := Tryd.underlying9
  a9 := Tryd.isAgg9
  z9 := Tryd.sizeOf9
  v9 := Tryd.zeroValue9
  t46 := Tryd.underlying93
  a46 := Tryd.isAgg93
  z46 := Tryd.sizeOf93
  v46 := Tryd.zeroValue93
  t51 := Tryd.underlying90
  a51 := Tryd.isAgg90
  z51 := Tryd.sizeOf90
  v51 := Tryd.zeroValue90
  t146 := Tryd.underlying101
  a146 := Tryd.isAgg101
  z146 := Tryd.sizeOf101
  v146 := Tryd.zeroValue101
  g1 := by kernel_rfl }
open Go.RowKit Go.Lib in
/-- strings.Index: "Index returns the index of the first instance of substr in s, or -1 if substr is not present in s.": AT A substr OF ONE BYTE c: IT RETURNS 'Lib.indexByte s c'; the world is as it was. (LAID: no walk: one application.) -/
theorem Tryd.strings_Index_one (s : ByteArray) (c : UInt8) (w : World) :
    Calls Tryd.prog 45 #[.string s, .string ⟨#[c]⟩] w fun e w' => e = .returned (.int .i64 (Lib.indexByte s.data.toList c)) ∧ w' = w := Any.strings_Index_one Tryd.lays143 s c w
open Go.RowKit Go.Lib in
/-- strings.Index: "Index returns the index of the first instance of substr in s, or -1 if substr is not present in s.": IT RETURNS 'Lib.index s substr'; the world is as it was. (LAID: no walk: one application.) -/
theorem Tryd.strings_Index (s sub : ByteArray) (m : Int) (w : World) (hs : s.size < 4294967281) (hm : w.cell? ⟨3, 0, none⟩ = some (.int .i64 m)) :
    Calls Tryd.prog 45 #[.string s, .string sub] w fun e w' => e = .returned (.int .i64 (Lib.index s.data.toList sub.data.toList)) ∧ w' = w := Any.strings_Index Tryd.lays143 s sub m w hs hm
def Tryd.laysM219_ren : Go.Shelf.Ren := ⟨fun | 219 => 52 | 217 => 58 | 225 => 59 | 224 => 60 | 267 => 61 | 266 => 64 | 314 => 65 | n => n, fun | 9 => 9 | 3 => 3 | 4 => 4 | 5 => 5 | 46 => 93 | 146 => 101 | 51 => 90 | n => n, fun | 1 => 3 | n => n⟩
theorem Tryd.laysM219 : Go.Proofs.LaysM.n219 Tryd.prog Tryd.laysM219_ren := {
  mixed := by kernel_rfl
  f217 := Tryd.func58.trans (congrArg some (by kernel_rfl))
  f219 := Tryd.func52.trans (congrArg some (by kernel_rfl))
  f224 := Tryd.func60.trans (congrArg some (by kernel_rfl))
  f225 := Tryd.func59.trans (congrArg some (by kernel_rfl))
  f266 := Tryd.func64.trans (congrArg some (by kernel_rfl))
  f267 := Tryd.func61.trans (congrArg some (by kernel_rfl))
  f314 := Tryd.func65.trans (congrArg some (by kernel_rfl))
  t3 := Tryd.underlying3
  a3 := Tryd.isAgg3
  z3 := Tryd.sizeOf3
  v3 := Tryd.zeroValue3
  t4 := Tryd.underlying4
  a4 := Tryd.isAgg4
  z4 := Tryd.sizeOf4
  v4 := Tryd.zeroValue4
  t5 := Tryd.underlying5
  a5 := Tryd.isAgg5
  z5 := Tryd.sizeOf5
  v5 := Tryd.zeroValue5
  t9 := Tryd.underlying9
  a9 := Tryd.isAgg9
  z9 := Tryd.sizeOf9
  v9 := Tryd.zeroValue9
  t46 := Tryd.underlying93
  a46 := Tryd.isAgg93
  z46 := Tryd.sizeOf93
  v46 := Tryd.zeroValue93
  t51 := Tryd.underlying90
  a51 := Tryd.isAgg90
  z51 := Tryd.sizeOf90
  v51 := Tryd.zeroValue90
  t146 := Tryd.underlying101
  a146 := Tryd.isAgg101
  z146 := Tryd.sizeOf101
  v146 := Tryd.zeroValue101
  g1 := by kernel_rfl
  i3 := by kernel_rfl
  i4 := by kernel_rfl
  i5 := by kernel_rfl
  i9 := by kernel_rfl
  i46 := by kernel_rfl
  i51 := by kernel_rfl
  i146 := by kernel_rfl
  m1 := by kernel_rfl
  s1_3 := fun w h => Go.Proofs.cell_of_shapedOpen_int (zero := #[.int .i64 0]) (t := 3) h (of_decide_eq_true (by kernel_rfl)) (by kernel_rfl) rfl (by kernel_rfl) (by kernel_rfl) Tryd.underlying3 }
open Go.RowKit Go.Lib in
theorem Tryd.stringslite_Index_shaped (s sub : ByteArray) (w : World) (h : w.ShapedOpen Tryd.prog) (hs : s.size < 4294967281) :
    Calls Tryd.prog 52 #[.string s, .string sub] w fun e w' => e = .returned (.int .i64 (Lib.index s.data.toList sub.data.toList)) ∧ w' = w := Any.stringslite_Index_shaped Tryd.laysM219 s sub w h hs
def Tryd.laysM143_ren : Go.Shelf.Ren := ⟨fun | 143 => 45 | 219 => 52 | 217 => 58 | 225 => 59 | 224 => 60 | 267 => 61 | 266 => 64 | 314 => 65 | n => n, fun | 9 => 9 | 3 => 3 | 4 => 4 | 5 => 5 | 46 => 93 | 146 => 101 | 51 => 90 | n => n, fun | 1 => 3 | n => n⟩
theorem Tryd.laysM143 : Go.Proofs.LaysM.n143 Tryd.prog Tryd.laysM143_ren := {
  mixed := by kernel_rfl
  f143 := Tryd.func45.trans (congrArg some (by kernel_rfl))
  f217 := Tryd.func58.trans (congrArg some (by kernel_rfl))
  f219 := Tryd.func52.trans (congrArg some (by kernel_rfl))
  f224 := Tryd.func60.trans (congrArg some (by kernel_rfl))
  f225 := Tryd.func59.trans (congrArg some (by kernel_rfl))
  f266 := Tryd.func64.trans (congrArg some (by kernel_rfl))
  f267 := Tryd.func61.trans (congrArg some (by kernel_rfl))
  f314 := Tryd.func65.trans (congrArg some (by kernel_rfl))
  t3 := Tryd.underlying3
  a3 := Tryd.isAgg3
  z3 := Tryd.sizeOf3
  v3 := Tryd.zeroValue3
  t4 := Tryd.underlying4
  a4 := Tryd.isAgg4
  z4 := Tryd.sizeOf4
  v4 := Tryd.zeroValue4
  t5 := Tryd.underlying5
  a5 := Tryd.isAgg5
  z5 := Tryd.sizeOf5
  v5 := Tryd.zeroValue5
  t9 := Tryd.underlying9
  a9 := Tryd.isAgg9
  z9 := Tryd.sizeOf9
  v9 := Tryd.zeroValue9
  t46 := Tryd.underlying93
  a46 := Tryd.isAgg93
  z46 := Tryd.sizeOf93
  v46 := Tryd.zeroValue93
  t51 := Tryd.underlying90
  a51 := Tryd.isAgg90
  z51 := Tryd.sizeOf90
  v51 := Tryd.zeroValue90
  t146 := Tryd.underlying101
  a146 := Tryd.isAgg101
  z146 := Tryd.sizeOf101
  v146 := Tryd.zeroValue101
  g1 := by kernel_rfl
  i3 := by kernel_rfl
  i4 := by kernel_rfl
  i5 := by kernel_rfl
  i9 := by kernel_rfl
  i46 := by kernel_rfl
  i51 := by kernel_rfl
  i146 := by kernel_rfl
  m1 := by kernel_rfl
  s1_3 := fun w h => Go.Proofs.cell_of_shapedOpen_int (zero := #[.int .i64 0]) (t := 3) h (of_decide_eq_true (by kernel_rfl)) (by kernel_rfl) rfl (by kernel_rfl) (by kernel_rfl) Tryd.underlying3 }
open Go.RowKit Go.Lib in
theorem Tryd.strings_Index_shaped (s sub : ByteArray) (w : World) (h : w.ShapedOpen Tryd.prog) (hs : s.size < 4294967281) :
    Calls Tryd.prog 45 #[.string s, .string sub] w fun e w' => e = .returned (.int .i64 (Lib.index s.data.toList sub.data.toList)) ∧ w' = w := Any.strings_Index_shaped Tryd.laysM143 s sub w h hs
def Tryd.laysM288_ren : Go.Shelf.Ren := ⟨fun | 288 => 41 | 283 => 46 | 284 => 47 | 285 => 48 | 286 => 49 | 129 => 54 | 317 => 53 | 318 => 55 | 319 => 56 | 320 => 57 | 337 => 62 | 338 => 63 | n => n, fun | 37 => 47 | 53 => 31 | 3 => 3 | 4 => 4 | 9 => 9 | 171 => 81 | 0 => 0 | 173 => 84 | 212 => 89 | 51 => 90 | 5 => 5 | 20 => 20 | 213 => 91 | 46 => 93 | 232 => 103 | 233 => 104 | n => n, fun | 17 => 0 | 18 => 4 | 19 => 5 | n => n⟩
theorem Tryd.laysM288 : Go.Proofs.LaysM.n288 Tryd.prog Tryd.laysM288_ren := {
  mixed := by kernel_rfl
  f129 := Tryd.func54.trans (congrArg some (by kernel_rfl))
  f283 := Tryd.func46.trans (congrArg some (by kernel_rfl))
  f284 := Tryd.func47.trans (congrArg some (by kernel_rfl))
  f285 := Tryd.func48.trans (congrArg some (by kernel_rfl))
  f286 := Tryd.func49.trans (congrArg some (by kernel_rfl))
  f288 := Tryd.func41.trans (congrArg some (by kernel_rfl))
  f317 := Tryd.func53.trans (congrArg some (by kernel_rfl))
  f318 := Tryd.func55.trans (congrArg some (by kernel_rfl))
  f319 := Tryd.func56.trans (congrArg some (by kernel_rfl))
  f320 := Tryd.func57.trans (congrArg some (by kernel_rfl))
  f337 := Tryd.func62.trans (congrArg some (by kernel_rfl))
  f338 := Tryd.func63.trans (congrArg some (by kernel_rfl))
  t0 := Tryd.underlying0
  a0 := Tryd.isAgg0
  z0 := Tryd.sizeOf0
  v0 := Tryd.zeroValue0
  t3 := Tryd.underlying3
  a3 := Tryd.isAgg3
  z3 := Tryd.sizeOf3
  v3 := Tryd.zeroValue3
  t4 := Tryd.underlying4
  a4 := Tryd.isAgg4
  z4 := Tryd.sizeOf4
  v4 := Tryd.zeroValue4
  t5 := Tryd.underlying5
  a5 := Tryd.isAgg5
  z5 := Tryd.sizeOf5
  v5 := Tryd.zeroValue5
  t9 := Tryd.underlying9
  a9 := Tryd.isAgg9
  z9 := Tryd.sizeOf9
  v9 := Tryd.zeroValue9
  t20 := Tryd.underlying20
  a20 := Tryd.isAgg20
  z20 := Tryd.sizeOf20
  v20 := Tryd.zeroValue20
  t37 := Tryd.underlying47
  a37 := Tryd.isAgg47
  z37 := Tryd.sizeOf47
  v37 := Tryd.zeroValue47
  t46 := Tryd.underlying93
  a46 := Tryd.isAgg93
  z46 := Tryd.sizeOf93
  v46 := Tryd.zeroValue93
  t51 := Tryd.underlying90
  a51 := Tryd.isAgg90
  z51 := Tryd.sizeOf90
  v51 := Tryd.zeroValue90
  t53 := Tryd.underlying31
  a53 := Tryd.isAgg31
  z53 := Tryd.sizeOf31
  v53 := Tryd.zeroValue31
  t171 := Tryd.underlying81
  a171 := Tryd.isAgg81
  z171 := Tryd.sizeOf81
  v171 := Tryd.zeroValue81
  t173 := Tryd.underlying84
  a173 := Tryd.isAgg84
  z173 := Tryd.sizeOf84
  v173 := Tryd.zeroValue84
  t212 := Tryd.underlying89
  a212 := Tryd.isAgg89
  z212 := Tryd.sizeOf89
  v212 := Tryd.zeroValue89
  t213 := Tryd.underlying91
  a213 := Tryd.isAgg91
  z213 := Tryd.sizeOf91
  t232 := Tryd.underlying103
  a232 := Tryd.isAgg103
  z232 := Tryd.sizeOf103
  v232 := Tryd.zeroValue103
  t233 := Tryd.underlying104
  a233 := Tryd.isAgg104
  z233 := Tryd.sizeOf104
  v233 := Tryd.zeroValue104
  g17 := by kernel_rfl
  g18 := by kernel_rfl
  g19 := by kernel_rfl
  i0 := by kernel_rfl
  i3 := by kernel_rfl
  i4 := by kernel_rfl
  i5 := by kernel_rfl
  i9 := by kernel_rfl
  i20 := by kernel_rfl
  i37 := by kernel_rfl
  i46 := by kernel_rfl
  i51 := by kernel_rfl
  i53 := by kernel_rfl
  i171 := by kernel_rfl
  i173 := by kernel_rfl
  i212 := by kernel_rfl
  i232 := by kernel_rfl
  i233 := by kernel_rfl
  m17 := by kernel_rfl
  m18 := by kernel_rfl
  m19 := by kernel_rfl }
open Go.RowKit Go.Sort Go.Lib in
/-- internal/strconv.AppendUint(dst, i, 10), i BELOW 100: WHAT COMES BACK OWNS dst's CELLS AND, BEHIND THEM, i's DECIMAL NUMERAL. No table is read. Below the call's own blocks nothing has turned. (LAID: no walk: one application.) -/
theorem Tryd.internal_strconv_AppendUint_10_small (B n u : Nat) (hu : u < 100) (sv : Value) (xs : List Value) (w : World) (hown : w.ownsRow B 5 1 sv n xs) (hBw : B ≤ w.heap.size) (hlim : n + 20 ≤ 140737488355328) :
    Calls Tryd.prog 41 #[sv, .int .u64 u, .int .i64 10] w fun e w' => ∃ v', e = .returned v' ∧ w'.ownsRow B 5 1 v' (n + (Lib.decDigits u).length) (xs ++ Lib.byteCells (Lib.decDigits u)) ∧ Below B w w' ∧ Lib.OthersKept 5 none w w' := Any.internal_strconv_AppendUint_10_small Tryd.laysM288 B n u hu sv xs w hown hBw hlim
open Go.RowKit Go.Sort Go.Lib in
/-- internal/strconv.AppendUint(dst, i, 10), i FROM 100 ON: likewise; the digits are laid in an array of the call's own and appended. (LAID: no walk: one application.) -/
theorem Tryd.internal_strconv_AppendUint_10_big (B n u : Nat) (hu : 100 ≤ u) (hu64 : u < 18446744073709551616) (sv : Value) (xs : List Value) (w : World) (hown : w.ownsRow B 5 1 sv n xs) (hBw : B ≤ w.heap.size) (hlim : n + 20 ≤ 140737488355328) (htab : Lib.TabIs Tryd.prog w "internal/strconv.uint64pow10" .u64 Lib.pow10Tab) :
    Calls Tryd.prog 41 #[sv, .int .u64 u, .int .i64 10] w fun e w' => ∃ v', e = .returned v' ∧ w'.ownsRow B 5 1 v' (n + (Lib.decDigits u).length) (xs ++ Lib.byteCells (Lib.decDigits u)) ∧ Below B w w' ∧ Lib.OthersKept 5 none w w' := Any.internal_strconv_AppendUint_10_big Tryd.laysM288 B n u hu hu64 sv xs w hown hBw hlim htab
open Go.RowKit Go.Sort Go.Lib in
/-- internal/strconv.AppendUint(dst, i, 10): the two contracts as one. NO WALK. (LAID: no walk: one application.) -/
theorem Tryd.internal_strconv_AppendUint_10 (B n u : Nat) (hu64 : u < 18446744073709551616) (sv : Value) (xs : List Value) (w : World) (hown : w.ownsRow B 5 1 sv n xs) (hBw : B ≤ w.heap.size) (hlim : n + 20 ≤ 140737488355328) (htab : Lib.TabIs Tryd.prog w "internal/strconv.uint64pow10" .u64 Lib.pow10Tab) :
    Calls Tryd.prog 41 #[sv, .int .u64 u, .int .i64 10] w fun e w' => ∃ v', e = .returned v' ∧ w'.ownsRow B 5 1 v' (n + (Lib.decDigits u).length) (xs ++ Lib.byteCells (Lib.decDigits u)) ∧ Below B w w' ∧ Lib.OthersKept 5 none w w' := Any.internal_strconv_AppendUint_10 Tryd.laysM288 B n u hu64 sv xs w hown hBw hlim htab
def Tryd.lays197_ren : Go.Shelf.Ren := ⟨fun | 197 => 44 | 260 => 51 | n => n, fun | 9 => 9 | 21 => 21 | 3 => 3 | 4 => 4 | 5 => 5 | 105 => 75 | 119 => 95 | 0 => 0 | 46 => 93 | 139 => 98 | 138 => 97 | n => n, fun | 3 => 1 | 4 => 2 | n => n⟩
theorem Tryd.lays197 : Go.Proofs.Lays.n197 Tryd.prog Tryd.lays197_ren := {
  mixed := by kernel_rfl
  f197 := Tryd.func44.trans (congrArg some (by kernel_rfl))
  f260 := Tryd.func51.trans (congrArg some (by kernel_rfl))
  t0 := Tryd.underlying0
  a0 := Tryd.isAgg0
  z0 := Tryd.sizeOf0
  v0 := Tryd.zeroValue0
  t3 := Tryd.underlying3
  a3 := Tryd.isAgg3
  z3 := Tryd.sizeOf3
  v3 := Tryd.zeroValue3
  t4 := Tryd.underlying4
  a4 := Tryd.isAgg4
  z4 := Tryd.sizeOf4
  v4 := Tryd.zeroValue4
  t5 := Tryd.underlying5
  a5 := Tryd.isAgg5
  z5 := Tryd.sizeOf5
  v5 := Tryd.zeroValue5
  t9 := Tryd.underlying9
  a9 := Tryd.isAgg9
  z9 := Tryd.sizeOf9
  v9 := Tryd.zeroValue9
  t21 := Tryd.underlying21
  a21 := Tryd.isAgg21
  z21 := Tryd.sizeOf21
  v21 := Tryd.zeroValue21
  t46 := Tryd.underlying93
  a46 := Tryd.isAgg93
  z46 := Tryd.sizeOf93
  v46 := Tryd.zeroValue93
  t105 := Tryd.underlying75
  a105 := Tryd.isAgg75
  z105 := Tryd.sizeOf75
  v105 := Tryd.zeroValue75
  t119 := Tryd.underlying95
  a119 := Tryd.isAgg95
  z119 := Tryd.sizeOf95
  t138 := Tryd.underlying97
  a138 := Tryd.isAgg97
  z138 := Tryd.sizeOf97
  v138 := Tryd.zeroValue97
  t139 := Tryd.underlying98
  a139 := Tryd.isAgg98
  z139 := Tryd.sizeOf98
  v139 := Tryd.zeroValue98
  g3 := by kernel_rfl
  g4 := by kernel_rfl }
open Go.RowKit Go.Lib in
/-- unicode/utf8.DecodeRuneInString: "DecodeRuneInString is like DecodeRune but its input is a string.": ("DecodeRune unpacks the first UTF-8 encoding in p and returns the rune and its width in bytes."): WHERE s BEGINS WITH AN ASCII BYTE x: (x, 1). (LAID: no walk: one application.) -/
theorem Tryd.utf8_DecodeRuneInString_ascii (s : ByteArray) (x : UInt8) (w : World) (h0 : s.data.toList[0]? = some x) (hx : x.toNat < 128) :
    Calls Tryd.prog 44 #[.string s] w fun e w' => e = .returned (.tuple #[.int .i32 x.toNat, .int .i64 1]) ∧ w' = w := Any.utf8_DecodeRuneInString_ascii Tryd.lays197 s x w h0 hx
def Tryd.lays260_ren : Go.Shelf.Ren := ⟨fun | 260 => 51 | n => n, fun | 9 => 9 | 21 => 21 | 3 => 3 | 4 => 4 | 5 => 5 | 119 => 95 | 0 => 0 | 46 => 93 | 139 => 98 | 138 => 97 | n => n, fun | 3 => 1 | 4 => 2 | n => n⟩
theorem Tryd.lays260 : Go.Proofs.Lays.n260 Tryd.prog Tryd.lays260_ren := {
  mixed := by kernel_rfl
  f260 := Tryd.func51.trans (congrArg some (by kernel_rfl))
  t0 := Tryd.underlying0
  a0 := Tryd.isAgg0
  z0 := Tryd.sizeOf0
  v0 := Tryd.zeroValue0
  t3 := Tryd.underlying3
  a3 := Tryd.isAgg3
  z3 := Tryd.sizeOf3
  v3 := Tryd.zeroValue3
  t4 := Tryd.underlying4
  a4 := Tryd.isAgg4
  z4 := Tryd.sizeOf4
  v4 := Tryd.zeroValue4
  t5 := Tryd.underlying5
  a5 := Tryd.isAgg5
  z5 := Tryd.sizeOf5
  v5 := Tryd.zeroValue5
  t9 := Tryd.underlying9
  a9 := Tryd.isAgg9
  z9 := Tryd.sizeOf9
  v9 := Tryd.zeroValue9
  t21 := Tryd.underlying21
  a21 := Tryd.isAgg21
  z21 := Tryd.sizeOf21
  v21 := Tryd.zeroValue21
  t46 := Tryd.underlying93
  a46 := Tryd.isAgg93
  z46 := Tryd.sizeOf93
  v46 := Tryd.zeroValue93
  t119 := Tryd.underlying95
  a119 := Tryd.isAgg95
  z119 := Tryd.sizeOf95
  t138 := Tryd.underlying97
  a138 := Tryd.isAgg97
  z138 := Tryd.sizeOf97
  v138 := Tryd.zeroValue97
  t139 := Tryd.underlying98
  a139 := Tryd.isAgg98
  z139 := Tryd.sizeOf98
  v139 := Tryd.zeroValue98
  g3 := by kernel_rfl
  g4 := by kernel_rfl }
open Go.RowKit Go.Lib in
theorem Tryd.utf8_decodeRuneInStringSlow (s : ByteArray) (w : World) (hT : Lib.Utf8Tabs 1 2 w) :
    Calls Tryd.prog 51 #[.string s] w fun e w' => e = .returned (.tuple #[.int .i32 (Lib.decodeGo s).1, .int .i64 (Lib.decodeGo s).2]) ∧ Below w.heap.size w w' := Any.utf8_decodeRuneInStringSlow Tryd.lays260 s w hT
open Go.RowKit Go.Lib in
/-- **unicode/utf8.DecodeRuneInString AT EVERY STRING.** (LAID: no walk: one application.) -/
theorem Tryd.utf8_DecodeRuneInString (s : ByteArray) (w : World) (hT : Lib.Utf8Tabs 1 2 w) :
    Calls Tryd.prog 44 #[.string s] w fun e w' => e = .returned (.tuple #[.int .i32 (Lib.decodeGo s).1, .int .i64 (Lib.decodeGo s).2]) ∧ Below w.heap.size w w' := Any.utf8_DecodeRuneInString Tryd.lays197 s w hT
def Tryd.lays229_ren : Go.Shelf.Ren := ⟨fun | 229 => 37 | n => n, fun | 9 => 9 | 40 => 72 | 31 => 54 | 152 => 78 | 3 => 3 | 0 => 0 | 4 => 4 | 21 => 21 | 154 => 80 | n => n, fun | n => n⟩
theorem Tryd.lays229 : Go.Proofs.Lays.n229 Tryd.prog Tryd.lays229_ren := {
  mixed := by kernel_rfl
  f229 := Tryd.func37.trans (congrArg some (by kernel_rfl))
  t0 := Tryd.underlying0
  a0 := Tryd.isAgg0
  z0 := Tryd.sizeOf0
  v0 := Tryd.zeroValue0
  t3 := Tryd.underlying3
  a3 := Tryd.isAgg3
  z3 := Tryd.sizeOf3
  v3 := Tryd.zeroValue3
  t4 := Tryd.underlying4
  a4 := Tryd.isAgg4
  z4 := Tryd.sizeOf4
  v4 := Tryd.zeroValue4
  t9 := Tryd.underlying9
  a9 := Tryd.isAgg9
  z9 := Tryd.sizeOf9
  v9 := Tryd.zeroValue9
  t21 := Tryd.underlying21
  a21 := Tryd.isAgg21
  z21 := Tryd.sizeOf21
  v21 := Tryd.zeroValue21
  t31 := Tryd.underlying54
  a31 := Tryd.isAgg54
  z31 := Tryd.sizeOf54
  v31 := Tryd.zeroValue54
  t40 := Tryd.underlying72
  a40 := Tryd.isAgg72
  z40 := Tryd.sizeOf72
  v40 := Tryd.zeroValue72
  t152 := Tryd.underlying78
  a152 := Tryd.isAgg78
  z152 := Tryd.sizeOf78
  v152 := Tryd.zeroValue78
  t154 := Tryd.underlying80
  a154 := Tryd.isAgg80
  z154 := Tryd.sizeOf80
  v154 := Tryd.zeroValue80 }
open Go.RowKit Go.Lib in
theorem Tryd.strings_FieldsFunc_runes (g : Nat) (lb : Array Value) (eg : ∀ args w, (callFunc g args).run Tryd.prog w = .ok (.enter g args) w) (p : Nat → Bool) (s : ByteArray) (w : World) (hs : s.size ≤ 4294967296) (hp : PredAtRunes Tryd.prog g lb p w) :
    Calls Tryd.prog 37 #[.string s, .func (.func g) #[] lb] w fun e w' => ∃ A, e = .returned (.slice (some ⟨A, 0, none⟩) (Lib.goFieldsP p s).length (Lib.goFieldsP p s).length) ∧ w.heap.size ≤ A ∧
      w'.ownsRow w.heap.size 9 1 (.slice (some ⟨A, 0, none⟩) (Lib.goFieldsP p s).length (Lib.goFieldsP p s).length) (Lib.goFieldsP p s).length ((Lib.goFieldsP p s).map Value.string) ∧ Below w.heap.size w w' := Any.strings_FieldsFunc_runes Tryd.lays229 g lb eg p s w hs hp (by kernel_rfl) (by kernel_rfl)
open Go.RowKit Go.Lib in
/-- .. over a hand of the authors' house's premise as it stands. (LAID: no walk: one application.) -/
theorem Tryd.strings_FieldsFunc (g : Nat) (lb : Array Value) (eg : ∀ args w, (callFunc g args).run Tryd.prog w = .ok (.enter g args) w) (p : Nat → Bool) (s : ByteArray) (w : World) (hs : s.size ≤ 4294967296) (hp : PredAt Tryd.prog g lb encR p w) :
    Calls Tryd.prog 37 #[.string s, .func (.func g) #[] lb] w fun e w' => ∃ A, e = .returned (.slice (some ⟨A, 0, none⟩) (Lib.goFieldsP p s).length (Lib.goFieldsP p s).length) ∧ w.heap.size ≤ A ∧
      w'.ownsRow w.heap.size 9 1 (.slice (some ⟨A, 0, none⟩) (Lib.goFieldsP p s).length (Lib.goFieldsP p s).length) (Lib.goFieldsP p s).length ((Lib.goFieldsP p s).map Value.string) ∧ Below w.heap.size w w' := Any.strings_FieldsFunc Tryd.lays229 g lb eg p s w hs hp (by kernel_rfl) (by kernel_rfl)
open Go.RowKit Go.Lib in
theorem Tryd.strings_FieldsFunc_grows (g : Nat) (lb : Array Value) (eg : ∀ args w, (callFunc g args).run Tryd.prog w = .ok (.enter g args) w) (p : Nat → Bool) (s : ByteArray) (w : World) (hs : s.size ≤ 4294967296) (hp : PredGrows Tryd.prog g lb p w) :
    Calls Tryd.prog 37 #[.string s, .func (.func g) #[] lb] w fun e w' => ∃ A, e = .returned (.slice (some ⟨A, 0, none⟩) (Lib.goFieldsP p s).length (Lib.goFieldsP p s).length) ∧ w.heap.size ≤ A ∧
      w'.ownsRow w.heap.size 9 1 (.slice (some ⟨A, 0, none⟩) (Lib.goFieldsP p s).length (Lib.goFieldsP p s).length) (Lib.goFieldsP p s).length ((Lib.goFieldsP p s).map Value.string) ∧ Below w.heap.size w w' := Any.strings_FieldsFunc_grows Tryd.lays229 g lb eg p s w hs hp (by kernel_rfl) (by kernel_rfl)
end Go.Proofs
end

section
/- The contract of what strings.SplitSeq(s, sep) hands back, sep being one byte: the pieces, in their order. -/
namespace Go.Proofs.YtlfoaaeelcmhiaaDoor.G
open Go.RowKit Go.Shelf Go.Proofs.YtlfoaaeelcmhiaaDoor.RangeT Go.Proofs.YtlfoaaeelcmhiaaDoorW.PrintWords Go.Proofs.YtlfoaaeelcmhiaaDoorW.PrintLast Go.Proofs.YtlfoaaeelcmhiaaDoorW.PrintMore
attribute [local go_sem] Oper.semAt_some
set_option linter.unusedVariables false
def pieces (c : UInt8) : Nat → ByteArray → List ByteArray
  | 0, s => [s]
  | f + 1, s => if Lib.indexByte s.data.toList c < 0 then [s] else s.extract 0 (Lib.indexByte s.data.toList c).toNat :: pieces c f (s.extract ((Lib.indexByte s.data.toList c).toNat + 1) s.size)
theorem pieces_ne (c : UInt8) (f : Nat) (s : ByteArray) : 0 < (pieces c f s).length := by
  cases f with
  | zero => simp [pieces]
  | succ f => unfold pieces; split <;> simp
theorem indexByte_lt (l : List UInt8) (c : UInt8) : Lib.indexByte l c < (l.length : Int) := by
  induction l with
  | nil => simp [Lib.indexByte]
  | cons b l ih =>
    unfold Lib.indexByte
    split
    · simp only [List.length_cons]; omega
    · split
      · simp only [List.length_cons]; omega
      · simp only [List.length_cons]; omega
def strLeft (b : Nat) (W : World) : Nat := match W.cell? ⟨b, 0, none⟩ with | some (.string s) => s.size | _ => 0
theorem strLeft_eq {b : Nat} {W : World} {s : ByteArray} (h : W.cell? ⟨b, 0, none⟩ = some (.string s)) : strLeft b W = s.size := by simp [strLeft, h]
def splitOwn (b1 b2 b3 : Nat) : Blocks := fun k => k = b1 ∨ k = b2 ∨ k = b3
structure SplitState (b1 b2 b3 : Nat) (c : UInt8) (rest : ByteArray) (W : World) : Prop where
  h1 : W.heap[b1]? = some (.cells #[.string ⟨#[c]⟩] 9 (0, 0))
  h2 : W.heap[b2]? = some (.cells #[.string rest] 9 (0, 0))
  h3 : W.heap[b3]? = some (.cells #[.int .i64 0] 3 (0, 0))
theorem SplitState.keep {b1 b2 b3 : Nat} {c : UInt8} {rest : ByteArray} {W W' : World} (h : SplitState b1 b2 b3 c rest W) (hk : ∀ k, splitOwn b1 b2 b3 k → k < W.heap.size → W'.heap[k]? = W.heap[k]?) : SplitState b1 b2 b3 c rest W' :=
  ⟨(hk b1 (.inl rfl) (Array.getElem?_eq_some_iff.1 h.h1).1).trans h.h1, (hk b2 (.inr (.inl rfl)) (Array.getElem?_eq_some_iff.1 h.h2).1).trans h.h2, (hk b3 (.inr (.inr rfl)) (Array.getElem?_eq_some_iff.1 h.h3).1).trans h.h3⟩
set_option maxRecDepth 100000 in
set_option maxHeartbeats 4000000 in
theorem split_in (n : Nat) (hn : 1 ≤ n) (l b1 b2 b3 : Nat) (h12 : b1 ≠ b2) (h32 : b3 ≠ b2) (c : UInt8) (s : ByteArray) (hs : s.size ≤ 4294967296) (J Jx : List ByteArray → World → Prop)
    (hJ : ∀ xs W v, J xs W → J xs (W.setCell ⟨b2, 0, none⟩ v))
    (hY : ∀ pre x W, J pre W → (∃ more, pre ++ [x] ++ more = pieces c s.size s) → YieldAt Fence.wide (n - 1) Tryd.prog l #[.string x] W fun e W' =>
      (e = .returned (.bool true) ∧ J (pre ++ [x]) W' ∧ ∀ k, splitOwn b1 b2 b3 k → k < W.heap.size → W'.heap[k]? = W.heap[k]?) ∨ (e = .returned (.bool false) ∧ Jx (pre ++ [x]) W'))
    (W : World) (hst : SplitState b1 b2 b3 c s W) (h0 : J [] W) :
    CallsIn Fence.wide n Tryd.prog 43 #[.func (.yield l) #[] #[], .pointer (some ⟨b1, 0, none⟩), .pointer (some ⟨b2, 0, none⟩), .pointer (some ⟨b3, 0, none⟩)] W fun e W' => (∃ v, e = .returned v) ∧
      ((∃ ys, ys = pieces c s.size s ∧ J ys W') ∨ (∃ pre, (∃ more, pre ++ more = pieces c s.size s) ∧ Jx pre W')) := by
  refine callsIn_of_wp Tryd.func43 rfl trivial ?_ rfl
  simp only [Tryd.ntmps43, List.size_toArray, List.length_cons, List.length_nil, Nat.reduceAdd, Nat.reduceSub, Array.replicate_succ, Array.replicate_zero, List.push_toArray, List.append_toArray, List.nil_append, List.cons_append]
  have hc1 := (blk_cell hst.h1 0).trans rfl
  gi_wp2
  gi_loopw [7, 8] (fun i v wr => ∃ (pre : List ByteArray) (rest : ByteArray) (f : Nat), SplitState b1 b2 b3 c rest wr ∧ J pre wr ∧ pre ++ pieces c f rest = pieces c s.size s ∧ rest.size ≤ f ∧ rest.size ≤ s.size)
    (fun _ _ wr => strLeft b2 wr)
  case atStart => exact ⟨[], s, s.size, hst, h0, rfl, Nat.le_refl _, Nat.le_refl _⟩
  case round =>
    obtain ⟨pre, rest, f, HS, hJs, hpc, hrf, hrs⟩ := hrel
    have hx1 := (blk_cell HS.h1 0).trans rfl
    have hx2 := (blk_cell HS.h2 0).trans rfl
    have hx3 := (blk_cell HS.h3 0).trans rfl
    have hf2 := blk_frozen HS.h2 0
    have hib := Lib.indexByte_ge rest.data.toList c
    have hil : Lib.indexByte rest.data.toList c < (rest.size : Int) := by
      have := indexByte_lt rest.data.toList c
      rwa [Array.length_toList] at this
    obtain ⟨i, hi⟩ : ∃ i, Lib.indexByte rest.data.toList c = i := ⟨_, rfl⟩
    have hidx := (Tryd.strings_Index_one rest c wr).mono (R' := fun e w' => e = .returned (.int .i64 i) ∧ w' = wr) (fun e w' h => by rw [hi] at h; exact h)
    have HIDX := Aside0.mk hidx
    have hleft := strLeft_eq hx2
    by_cases hneg : i < 0
    · have hd := decide_eq_true hneg
      have hall : pieces c f rest = [rest] := by
        cases f with
        | zero => rfl
        | succ f => simp only [pieces]; rw [hi, if_pos hneg]
      obtain ⟨fn, tmps, assign, body, hy, hR⟩ := hY pre rest wr hJs ⟨[], by rw [← hpc, hall]; simp⟩
      rw [hall] at hpc
      clear hidx hc1
      gi_wp2_with (first | (refine ⟨trivial, ?_⟩; gi_at_call 45; refine (callsIn_wide.2 HIDX.out).mono ?_; rintro e w' ⟨rfl, rfl⟩))
      refine hR.mono ?_
      rintro e W3 (⟨rfl, hJ3, hk3⟩ | ⟨rfl, hJx3⟩)
      · gi_wp2
        go_end0
        exact ⟨⟨_, rfl⟩, .inl ⟨_, hpc, hJ3⟩⟩
      · gi_wp2
        go_end0
        exact ⟨⟨_, rfl⟩, .inr ⟨_, ⟨[], by rw [List.append_nil]; exact hpc⟩, hJx3⟩⟩
    · have hd := decide_eq_false hneg
      rw [hi] at hil hib
      obtain ⟨f, rfl⟩ : ∃ g, f = g + 1 := ⟨f - 1, by omega⟩
      have hall : pieces c (f + 1) rest = rest.extract 0 i.toNat :: pieces c f (rest.extract (i.toNat + 1) rest.size) := by
        simp only [pieces]; rw [hi, if_neg hneg]
      obtain ⟨fn, tmps, assign, body, hy, hR⟩ := hY pre (rest.extract 0 i.toNat) wr hJs ⟨_, by rw [← hpc, hall, List.append_assoc]; rfl⟩
      rw [hall] at hpc
      obtain ⟨m, rfl⟩ : ∃ m : Nat, i = (m : Int) := ⟨i.toNat, by omega⟩
      have hw1 : IntKind.i64.wrap (m : Int) = (m : Int) := by rw [IntKind.wrap_i64]; omega
      have hw2 : IntKind.i64.wrap ((m : Int) + 1) = ((m + 1 : Nat) : Int) := by rw [IntKind.wrap_i64]; omega
      rw [Int.toNat_natCast] at hy hpc
      have hm1 : m ≤ rest.size := by omega
      have hm2 : m + 1 ≤ rest.size := by omega
      have HPC := Aside0.mk hpc
      clear hidx hc1 hpc
      gi_wp2_with (first | (refine ⟨trivial, ?_⟩; gi_at_call 45; refine (callsIn_wide.2 HIDX.out).mono ?_; rintro e w' ⟨rfl, rfl⟩))
      refine hR.mono ?_
      rintro e W3 (⟨rfl, hJ3, hk3⟩ | ⟨rfl, hJx3⟩)
      · have HS3 := HS.keep hk3
        have hy1 := (blk_cell HS3.h1 0).trans rfl
        have hy2 := (blk_cell HS3.h2 0).trans rfl
        have hg2 := blk_frozen HS3.h2 0
        gi_wp2
        go_roundw
        case rel =>
          have hsz : (rest.extract (m + 1) rest.size).size ≤ f := by rw [ByteArray.size_extract]; omega
          refine ⟨pre ++ [rest.extract 0 m], rest.extract (m + 1) rest.size, f, ⟨?_, ?_, ?_⟩, hJ _ _ _ hJ3, ?_, hsz, ?_⟩
          · exact (Below.heap_setCell _ _ _ _ h12).trans HS3.h1
          · exact blk_put HS3.h2 0 _ rfl
          · exact (Below.heap_setCell _ _ _ _ h32).trans HS3.h3
          · rw [← HPC.out]; simp
          · rw [ByteArray.size_extract]; omega
        case measure =>
          rw [hleft, strLeft_eq (s := rest.extract (m + 1) rest.size) ((blk_cell (blk_put HS3.h2 0 _ rfl) 0).trans rfl), ByteArray.size_extract]
          omega
      · gi_wp2
        refine bodyPost_ret (results_none rfl _ _ _) rfl ?_
        exact ⟨⟨_, rfl⟩, .inr ⟨_, ⟨_, by rw [List.append_assoc]; exact HPC.out⟩, hJx3⟩⟩
/-- What the iterator owes to whoever ranges over it. -/
theorem split_stops (n : Nat) (hn : 1 ≤ n) (b1 b2 b3 : Nat) (h12 : b1 ≠ b2) (h32 : b3 ≠ b2) (c : UInt8) (s : ByteArray) (hs : s.size ≤ 4294967296) (W : World) (hst : SplitState b1 b2 b3 c s W) :
    SeqT Fence.wide n Tryd.prog 43 #[.pointer (some ⟨b1, 0, none⟩), .pointer (some ⟨b2, 0, none⟩), .pointer (some ⟨b3, 0, none⟩)] (fun x : ByteArray => #[Value.string x]) (fun _ _ => True) (splitOwn b1 b2 b3) (fun ys => ys = pieces c s.size s) (fun pre => ∃ more, pre ++ more = pieces c s.size s) (fun pre x => ∃ more, pre ++ [x] ++ more = pieces c s.size s) W := by
  intro l J Jx W0 hb hJ hJx hY h0
  have hst0 := hst.keep (W' := W0) (fun k _ hk => hb.block k hk)
  refine (split_in n hn l b1 b2 b3 h12 h32 c s hs (fun pre W => J pre (splitOwn b1 b2 b3) W) (fun pre W => Jx pre (splitOwn b1 b2 b3) W)
    (fun xs W v h => hJ _ _ _ _ _ h (Turned.setCell (p := ⟨b2, 0, none⟩) (.inr (.inl rfl)) v)) ?_ W0 hst0 h0).mono ?_
  · intro pre x W1 h1 hlen
    obtain ⟨fn, tmps, assign, body, hy, hR⟩ := hY pre x _ W1 h1 hlen
    refine ⟨fn, tmps, assign, body, hy, hR.mono ?_⟩
    rintro e W' (⟨he, hj, _, _, hk⟩ | h)
    · exact .inl ⟨he, hj, hk⟩
    · exact .inr h
  · rintro e W' ⟨hv, (⟨ys, hys, hj⟩ | ⟨pre, hm, hj⟩)⟩
    · exact ⟨hv, .inl ⟨ys, _, hys, hj⟩⟩
    · exact ⟨hv, .inr ⟨pre, _, hm, hj⟩⟩
theorem splitSeq_calls (s sep : ByteArray) (z : Int) (w : World) : Calls Tryd.prog 36 #[.string s, .string sep, .int .i64 z] w fun e w' =>
    e = .returned (.func (.func 43) #[] #[.pointer (some ⟨w.heap.size + 1, 0, none⟩), .pointer (some ⟨w.heap.size, 0, none⟩), .pointer (some ⟨w.heap.size + 2, 0, none⟩)]) ∧ w' = ((w.alloc (.cells #[.string s] 9)).alloc (.cells #[.string sep] 9)).alloc (.cells #[.int .i64 z] 3) := by
  go_enter Tryd.func36, Tryd.ntmps36
  go_wp2
  go_ret
  exact ⟨rfl, rfl⟩
theorem SplitSeq_calls (s sep : ByteArray) (w : World) : Calls Tryd.prog 22 #[.string s, .string sep] w fun e w' =>
    e = .returned (.func (.func 43) #[] #[.pointer (some ⟨w.heap.size + 1, 0, none⟩), .pointer (some ⟨w.heap.size, 0, none⟩), .pointer (some ⟨w.heap.size + 2, 0, none⟩)]) ∧ w' = ((w.alloc (.cells #[.string s] 9)).alloc (.cells #[.string sep] 9)).alloc (.cells #[.int .i64 0] 3) := by
  go_enter Tryd.func22, Tryd.ntmps22
  go_wp2_with (first | (go_at_call 36; refine (splitSeq_calls s sep 0 _).mono ?_; rintro e w' ⟨rfl, rfl⟩))
  go_ret
  exact ⟨rfl, rfl⟩
end Go.Proofs.YtlfoaaeelcmhiaaDoor.G
end

section
/- The contract of script.words, by hand: strings.FieldsFunc with a closure. -/
namespace Go.Proofs.YtlfoaaeelcmhiaaDoor.G
open Go.RowKit Go.Shelf Go.Proofs.YtlfoaaeelcmhiaaDoorW.PrintWords Go.Proofs.YtlfoaaeelcmhiaaDoorW.PrintLast Go.Proofs.YtlfoaaeelcmhiaaDoorW.PrintMore
set_option linter.unusedVariables false
def isBlank (r : Nat) : Bool := r == 32
def script_words.f (a0 : ByteArray) : Option (List ByteArray) := if a0.size ≤ 4294967296 then some (Lib.goFieldsP isBlank a0) else none
theorem blank_pred (w : World) : PredAt Tryd.prog 38 #[] encR isBlank w := by
  intro W x hb
  show Calls Tryd.prog 38 #[.int .i32 (x : Int)] W fun e w' => e = .returned (.bool (isBlank x)) ∧ ∃ q, w' = W.drewN q
  have h : ((x : Int) == 32) = isBlank x := by
    unfold isBlank
    by_cases h : x = 32
    · subst h; rfl
    · rw [beq_eq_false_iff_ne.2 h, beq_eq_false_iff_ne.2 (by omega)]
  go_enter Tryd.func38, Tryd.ntmps38
  go_wp2
  go_ret
  exact ⟨rfl, 0, rfl⟩
theorem script_words.calls (a0 : ByteArray) (r : List ByteArray) (w : World) (h : script_words.f a0 = some r) :
    Calls Tryd.prog 23 #[.string a0] w fun e w' => ∃ v0 : Value, e = .returned v0 ∧ Kd.R Kd.string 9 w' w.heap.size (fun _ => True) v0 r ∧ Below w.heap.size w w' := by
  unfold script_words.f at h
  by_cases hc : a0.size ≤ 4294967296
  · rw [if_pos hc] at h
    obtain rfl := Option.some.inj h
    have hin := Tryd.strings_FieldsFunc 38 #[] (enters_of Tryd.func38 (by kernel_rfl) rfl) isBlank a0 w hc (blank_pred w)
    have HIN := Aside0.mk hin
    clear hin h hc
    go_enter Tryd.func23, Tryd.ntmps23
    go_wp2_with (first | (go_at_call 37; refine HIN.out.mono ?_; rintro e w' ⟨A, rfl, hA, ho, hb⟩; have HO := Aside0.mk ho; have HB := Aside0.mk hb; clear ho hb hA))
    go_ret
    exact ⟨_, rfl, Kd.R_of_own HO.out (fun _ _ => trivial), HB.out⟩
  · rw [if_neg hc] at h
    cases h
end Go.Proofs.YtlfoaaeelcmhiaaDoor.G
end

section
-- Written by a program of this session (wip/gprint.py: the kit's print, with contracts proved by hand)
namespace Go.Proofs.YtlfoaaeelcmhiaaDoor.G
open Go.RowKit Go.Proofs.YtlfoaaeelcmhiaaDoorW.PrintWords Go.Proofs.YtlfoaaeelcmhiaaDoorW.PrintLast Go.Proofs.YtlfoaaeelcmhiaaDoorW.PrintMore
attribute [local go_sem] max2_int min2_int max_two min_two max_three min_three max_four min_four   -- for this text's walks alone
set_option linter.unusedVariables false
set_option linter.unusedSimpArgs false

/-! ### script_takes: function 27 -/
mutual
def script_takes.j0 : Nat → ByteArray → Bool → Option (Int × Bool)
  | 0, _, _ => none
  | k + 1, x4, x7 => if x7 = true then (some (2, true)) else (if x4.toList = ([100, 101, 108] : List UInt8) then (script_takes.j1 k x4 (x4.toList == ([100, 101, 108] : List UInt8))) else (if x4.toList = ([103, 101, 116] : List UInt8) then (script_takes.j1 k x4 (x4.toList == ([103, 101, 116] : List UInt8))) else (if x4.toList = ([102, 108, 111, 111, 114] : List UInt8) then (script_takes.j1 k x4 (x4.toList == ([102, 108, 111, 111, 114] : List UInt8))) else (if x4.toList = ([99, 101, 105, 108] : List UInt8) then (script_takes.j1 k x4 (x4.toList == ([99, 101, 105, 108] : List UInt8))) else (script_takes.j1 k x4 (x4.toList == ([114, 97, 110, 107] : List UInt8)))))))
def script_takes.j1 : Nat → ByteArray → Bool → Option (Int × Bool)
  | 0, _, _ => none
  | k + 1, x4, x11 => if x11 = true then (some (1, true)) else (if x4.toList = ([115, 116, 97, 116, 115] : List UInt8) then (some (0, true)) else (if x4.toList = ([115, 97, 118, 101] : List UInt8) then (some (0, true)) else (if x4.toList = ([108, 111, 97, 100] : List UInt8) then (some (0, true)) else (some (0, false)))))
end
def script_takes.f (k : Nat) (a0 : ByteArray) : Option (Int × Bool) := if a0.toList = ([109, 97, 112] : List UInt8) then (some (3, true)) else (if a0.toList = ([112, 117, 116] : List UInt8) then (script_takes.j0 k a0 (a0.toList == ([112, 117, 116] : List UInt8))) else (if a0.toList = ([114, 97, 110, 103, 101] : List UInt8) then (script_takes.j0 k a0 (a0.toList == ([114, 97, 110, 103, 101] : List UInt8))) else (script_takes.j0 k a0 (a0.toList == ([112, 97, 116, 104] : List UInt8)))))
theorem script_takes.mono_l : ∀ k, (∀ y0 y1, LeO (script_takes.j0 k y0 y1) (script_takes.j0 (k + 1) y0 y1)) ∧ (∀ y0 y1, LeO (script_takes.j1 k y0 y1) (script_takes.j1 (k + 1) y0 y1))
  | 0 => ⟨fun _ _ r h => by simp [script_takes.j0] at h, fun _ _ r h => by simp [script_takes.j1] at h⟩
  | k + 1 => by
    obtain ⟨ih0, ih1⟩ := script_takes.mono_l k
    refine ⟨?_, ?_⟩
    · intro y0 y1
      unfold script_takes.j0
      repeat' first
      | (with_reducible exact ih0 _ _)
      | (with_reducible exact ih1 _ _)
      | (with_reducible exact LeO.refl _)
      | (with_reducible exact LeO.none _)
      | (with_reducible refine LeO.ite ?_ ?_)
      | (with_reducible refine LeO.bind ?_ (fun _ => ?_))
      | exact ih0 _ _
      | exact ih1 _ _
      | exact LeO.none _
      | refine LeO.ite ?_ ?_
      | refine LeO.bind ?_ (fun _ => ?_)
    · intro y0 y1
      unfold script_takes.j1
      repeat' first
      | (with_reducible exact ih0 _ _)
      | (with_reducible exact ih1 _ _)
      | (with_reducible exact LeO.refl _)
      | (with_reducible exact LeO.none _)
      | (with_reducible refine LeO.ite ?_ ?_)
      | (with_reducible refine LeO.bind ?_ (fun _ => ?_))
      | exact ih0 _ _
      | exact ih1 _ _
      | exact LeO.none _
      | refine LeO.ite ?_ ?_
      | refine LeO.bind ?_ (fun _ => ?_)
theorem script_takes.mono : ∀ a0 k, LeO (script_takes.f k a0) (script_takes.f (k + 1) a0) := by
  intro a0 k
  obtain ⟨ih0, ih1⟩ := script_takes.mono_l k
  unfold script_takes.f
  repeat' first
      | (with_reducible exact ih0 _ _)
      | (with_reducible exact ih1 _ _)
      | (with_reducible exact LeO.refl _)
      | (with_reducible exact LeO.none _)
      | (with_reducible refine LeO.ite ?_ ?_)
      | (with_reducible refine LeO.bind ?_ (fun _ => ?_))
      | exact ih0 _ _
      | exact ih1 _ _
      | exact LeO.none _
      | refine LeO.ite ?_ ?_
      | refine LeO.bind ?_ (fun _ => ?_)
set_option maxHeartbeats 8000000 in
set_option maxRecDepth 100000 in
theorem script_takes.calls (k : Nat) (a0 : ByteArray) (r1 : Int) (r2 : Bool) (w : World) (h : script_takes.f k a0 = some (r1, r2)) :
    Calls Tryd.prog 27 #[.string a0] w fun e w' => e = .returned (.tuple #[.int .i64 r1, .bool r2]) ∧ Drawn0 w w' := by
  have H : (if a0.toList = ([109, 97, 112] : List UInt8) then (some (3, true)) else (if a0.toList = ([112, 117, 116] : List UInt8) then (script_takes.j0 k a0 (a0.toList == ([112, 117, 116] : List UInt8))) else (if a0.toList = ([114, 97, 110, 103, 101] : List UInt8) then (script_takes.j0 k a0 (a0.toList == ([114, 97, 110, 103, 101] : List UInt8))) else (script_takes.j0 k a0 (a0.toList == ([112, 97, 116, 104] : List UInt8)))))) = some (r1, r2) := h
  clear h
  by_cases c2 : a0.toList = ([109, 97, 112] : List UInt8)
  · rw [if_pos c2] at H
    have c2b0 : (a0.toList == ([109, 97, 112] : List UInt8)) = true := beq_iff_eq.mpr c2
    have c2b1 : (a0.toList != ([109, 97, 112] : List UInt8)) = false := bne_eq_false_iff_eq.mpr c2
    clear c2
    simp only [Option.some.injEq, Prod.mk.injEq] at H
    obtain ⟨rfl, rfl⟩ := H
    go_enter Tryd.func27, Tryd.ntmps27
    go_wp2
    go_ret2
    exact ⟨by first | rfl | (simp; done) | (simp [*]; done), by repeat (first | exact Drawn0.refl _ | apply Drawn0.step)⟩
  · rw [if_neg c2] at H
    have c2b0 : (a0.toList == ([109, 97, 112] : List UInt8)) = false := beq_eq_false_iff_ne.mpr c2
    have c2b1 : (a0.toList != ([109, 97, 112] : List UInt8)) = true := bne_iff_ne.mpr c2
    have HC3 := Aside0.mk H
    clear H
    go_enter Tryd.func27, Tryd.ntmps27
    go_upto_if 7 with (fail)
    go_cut [7] (fun v7 wc => ∃ (kq : Nat) (x7_2 : Bool), v7 = .bool x7_2 ∧ Aside0 (script_takes.j0 kq a0 x7_2 = some (r1, r2)) ∧ Aside0 (kq ≤ k) ∧ Drawn0 w wc)
    case first =>
      have H := HC3.out
      clear HC3
      by_cases c4 : a0.toList = ([112, 117, 116] : List UInt8)
      · rw [if_pos c4] at H
        have c4b0 : (a0.toList == ([112, 117, 116] : List UInt8)) = true := beq_iff_eq.mpr c4
        have c4b1 : (a0.toList != ([112, 117, 116] : List UInt8)) = false := bne_eq_false_iff_eq.mpr c4
        clear c4
        (first | rw [c4b0] | (simp only [i64_w, i32_w]; rw [c4b0]) | skip)
        have H' := Aside0.mk H
        clear H
        go_wp2
        go_meet
        case rel => exact ⟨_, ((a0.toList == ([112, 117, 116] : List UInt8))), (by first | rfl | (simp; done) | (simp [*]; done)), H', ⟨by first | omega | exact Nat.le_refl _⟩, by repeat (first | exact Drawn0.refl _ | apply Drawn0.step)⟩
      · rw [if_neg c4] at H
        have c4b0 : (a0.toList == ([112, 117, 116] : List UInt8)) = false := beq_eq_false_iff_ne.mpr c4
        have c4b1 : (a0.toList != ([112, 117, 116] : List UInt8)) = true := bne_iff_ne.mpr c4
        (first | rw [c4b0] | (simp only [i64_w, i32_w]; rw [c4b0]) | skip)
        by_cases c5 : a0.toList = ([114, 97, 110, 103, 101] : List UInt8)
        · rw [if_pos c5] at H
          have c5b0 : (a0.toList == ([114, 97, 110, 103, 101] : List UInt8)) = true := beq_iff_eq.mpr c5
          have c5b1 : (a0.toList != ([114, 97, 110, 103, 101] : List UInt8)) = false := bne_eq_false_iff_eq.mpr c5
          clear c5
          have H' := Aside0.mk H
          clear H
          go_wp2
          go_meet
          case rel => exact ⟨_, ((a0.toList == ([114, 97, 110, 103, 101] : List UInt8))), (by first | rfl | (simp; done) | (simp [*]; done)), H', ⟨by first | omega | exact Nat.le_refl _⟩, by repeat (first | exact Drawn0.refl _ | apply Drawn0.step)⟩
        · rw [if_neg c5] at H
          have c5b0 : (a0.toList == ([114, 97, 110, 103, 101] : List UInt8)) = false := beq_eq_false_iff_ne.mpr c5
          have c5b1 : (a0.toList != ([114, 97, 110, 103, 101] : List UInt8)) = true := bne_iff_ne.mpr c5
          have H' := Aside0.mk H
          clear H
          go_wp2
          go_meet
          case rel => exact ⟨_, ((a0.toList == ([112, 97, 116, 104] : List UInt8))), (by first | rfl | (simp; done) | (simp [*]; done)), H', ⟨by first | omega | exact Nat.le_refl _⟩, by repeat (first | exact Drawn0.refl _ | apply Drawn0.step)⟩
    case rest =>
      clear HC3
      try clear c2
      try clear c2b0
      try clear c2b1
      try clear p2
      try clear c4
      try clear c4b0
      try clear c4b1
      try clear c5
      try clear c5b0
      try clear c5b1
      obtain ⟨kq, x7_2, rfl, HA, HJ2, ⟨mc2, rfl⟩⟩ := hcut
      cases kq with
      | zero => exact absurd HA.out (by simp [script_takes.j0])
      | succ kj2 =>
        have H := HA.out
        clear HA
        simp only [script_takes.j0] at H
        by_cases c6 : x7_2 = true
        · subst c6
          have H1 : (some (2, true)) = some (r1, r2) := by rw [if_pos rfl] at H; exact H
          clear H
          have H := H1
          clear H1
          simp only [Option.some.injEq, Prod.mk.injEq] at H
          obtain ⟨rfl, rfl⟩ := H
          go_wp2
          go_ret2
          exact ⟨by first | rfl | (simp; done) | (simp [*]; done), by repeat (first | exact Drawn0.refl _ | apply Drawn0.step)⟩
        · replace c6 := Bool.eq_false_iff.mpr c6
          subst c6
          have H1 : (if a0.toList = ([100, 101, 108] : List UInt8) then (script_takes.j1 kj2 a0 (a0.toList == ([100, 101, 108] : List UInt8))) else (if a0.toList = ([103, 101, 116] : List UInt8) then (script_takes.j1 kj2 a0 (a0.toList == ([103, 101, 116] : List UInt8))) else (if a0.toList = ([102, 108, 111, 111, 114] : List UInt8) then (script_takes.j1 kj2 a0 (a0.toList == ([102, 108, 111, 111, 114] : List UInt8))) else (if a0.toList = ([99, 101, 105, 108] : List UInt8) then (script_takes.j1 kj2 a0 (a0.toList == ([99, 101, 105, 108] : List UInt8))) else (script_takes.j1 kj2 a0 (a0.toList == ([114, 97, 110, 107] : List UInt8))))))) = some (r1, r2) := by rw [if_neg (show ¬ (false = true) by decide)] at H; exact H
          clear H
          have H := H1
          clear H1
          have HC7 := Aside0.mk H
          clear H
          go_upto_if 11 with (fail)
          go_cut [11] (fun v11 wc => ∃ (kq : Nat) (x11_6 : Bool), v11 = .bool x11_6 ∧ Aside0 (script_takes.j1 kq a0 x11_6 = some (r1, r2)) ∧ Aside0 (kq ≤ kj2) ∧ Drawn0 w wc)
          case first =>
            have H := HC7.out
            clear HC7
            by_cases c8 : a0.toList = ([100, 101, 108] : List UInt8)
            · rw [if_pos c8] at H
              have c8b0 : (a0.toList == ([100, 101, 108] : List UInt8)) = true := beq_iff_eq.mpr c8
              have c8b1 : (a0.toList != ([100, 101, 108] : List UInt8)) = false := bne_eq_false_iff_eq.mpr c8
              clear c8
              (first | rw [c8b0] | (simp only [i64_w, i32_w]; rw [c8b0]) | skip)
              have H' := Aside0.mk H
              clear H
              go_wp2
              go_meet
              case rel => exact ⟨_, ((a0.toList == ([100, 101, 108] : List UInt8))), (by first | rfl | (simp; done) | (simp [*]; done)), H', ⟨by have := HJ2.out; first | omega | exact Nat.le_refl _⟩, by repeat (first | exact Drawn0.refl _ | apply Drawn0.step)⟩
            · rw [if_neg c8] at H
              have c8b0 : (a0.toList == ([100, 101, 108] : List UInt8)) = false := beq_eq_false_iff_ne.mpr c8
              have c8b1 : (a0.toList != ([100, 101, 108] : List UInt8)) = true := bne_iff_ne.mpr c8
              (first | rw [c8b0] | (simp only [i64_w, i32_w]; rw [c8b0]) | skip)
              by_cases c9 : a0.toList = ([103, 101, 116] : List UInt8)
              · rw [if_pos c9] at H
                have c9b0 : (a0.toList == ([103, 101, 116] : List UInt8)) = true := beq_iff_eq.mpr c9
                have c9b1 : (a0.toList != ([103, 101, 116] : List UInt8)) = false := bne_eq_false_iff_eq.mpr c9
                clear c9
                have H' := Aside0.mk H
                clear H
                go_wp2
                go_meet
                case rel => exact ⟨_, ((a0.toList == ([103, 101, 116] : List UInt8))), (by first | rfl | (simp; done) | (simp [*]; done)), H', ⟨by have := HJ2.out; first | omega | exact Nat.le_refl _⟩, by repeat (first | exact Drawn0.refl _ | apply Drawn0.step)⟩
              · rw [if_neg c9] at H
                have c9b0 : (a0.toList == ([103, 101, 116] : List UInt8)) = false := beq_eq_false_iff_ne.mpr c9
                have c9b1 : (a0.toList != ([103, 101, 116] : List UInt8)) = true := bne_iff_ne.mpr c9
                by_cases c10 : a0.toList = ([102, 108, 111, 111, 114] : List UInt8)
                · rw [if_pos c10] at H
                  have c10b0 : (a0.toList == ([102, 108, 111, 111, 114] : List UInt8)) = true := beq_iff_eq.mpr c10
                  have c10b1 : (a0.toList != ([102, 108, 111, 111, 114] : List UInt8)) = false := bne_eq_false_iff_eq.mpr c10
                  clear c10
                  have H' := Aside0.mk H
                  clear H
                  go_wp2
                  go_meet
                  case rel => exact ⟨_, ((a0.toList == ([102, 108, 111, 111, 114] : List UInt8))), (by first | rfl | (simp; done) | (simp [*]; done)), H', ⟨by have := HJ2.out; first | omega | exact Nat.le_refl _⟩, by repeat (first | exact Drawn0.refl _ | apply Drawn0.step)⟩
                · rw [if_neg c10] at H
                  have c10b0 : (a0.toList == ([102, 108, 111, 111, 114] : List UInt8)) = false := beq_eq_false_iff_ne.mpr c10
                  have c10b1 : (a0.toList != ([102, 108, 111, 111, 114] : List UInt8)) = true := bne_iff_ne.mpr c10
                  by_cases c11 : a0.toList = ([99, 101, 105, 108] : List UInt8)
                  · rw [if_pos c11] at H
                    have c11b0 : (a0.toList == ([99, 101, 105, 108] : List UInt8)) = true := beq_iff_eq.mpr c11
                    have c11b1 : (a0.toList != ([99, 101, 105, 108] : List UInt8)) = false := bne_eq_false_iff_eq.mpr c11
                    clear c11
                    have H' := Aside0.mk H
                    clear H
                    go_wp2
                    go_meet
                    case rel => exact ⟨_, ((a0.toList == ([99, 101, 105, 108] : List UInt8))), (by first | rfl | (simp; done) | (simp [*]; done)), H', ⟨by have := HJ2.out; first | omega | exact Nat.le_refl _⟩, by repeat (first | exact Drawn0.refl _ | apply Drawn0.step)⟩
                  · rw [if_neg c11] at H
                    have c11b0 : (a0.toList == ([99, 101, 105, 108] : List UInt8)) = false := beq_eq_false_iff_ne.mpr c11
                    have c11b1 : (a0.toList != ([99, 101, 105, 108] : List UInt8)) = true := bne_iff_ne.mpr c11
                    have H' := Aside0.mk H
                    clear H
                    go_wp2
                    go_meet
                    case rel => exact ⟨_, ((a0.toList == ([114, 97, 110, 107] : List UInt8))), (by first | rfl | (simp; done) | (simp [*]; done)), H', ⟨by have := HJ2.out; first | omega | exact Nat.le_refl _⟩, by repeat (first | exact Drawn0.refl _ | apply Drawn0.step)⟩
          case rest =>
            clear HC7
            try clear c1
            try clear c2
            try clear c2b0
            try clear c2b1
            try clear p2
            try clear c4
            try clear c4b0
            try clear c4b1
            try clear c5
            try clear c5b0
            try clear c5b1
            try clear c6
            try clear c8
            try clear c8b0
            try clear c8b1
            try clear c9
            try clear c9b0
            try clear c9b1
            try clear c10
            try clear c10b0
            try clear c10b1
            try clear c11
            try clear c11b0
            try clear c11b1
            try clear p2
            obtain ⟨kq, x11_6, rfl, HA, HJ6, ⟨mc6, rfl⟩⟩ := hcut
            cases kq with
            | zero => exact absurd HA.out (by simp [script_takes.j1])
            | succ kj6 =>
              have H := HA.out
              clear HA
              simp only [script_takes.j1] at H
              by_cases c12 : x11_6 = true
              · subst c12
                have H1 : (some (1, true)) = some (r1, r2) := by rw [if_pos rfl] at H; exact H
                clear H
                have H := H1
                clear H1
                simp only [Option.some.injEq, Prod.mk.injEq] at H
                obtain ⟨rfl, rfl⟩ := H
                go_wp2
                go_ret2
                exact ⟨by first | rfl | (simp; done) | (simp [*]; done), by repeat (first | exact Drawn0.refl _ | apply Drawn0.step)⟩
              · replace c12 := Bool.eq_false_iff.mpr c12
                subst c12
                have H1 : (if a0.toList = ([115, 116, 97, 116, 115] : List UInt8) then (some (0, true)) else (if a0.toList = ([115, 97, 118, 101] : List UInt8) then (some (0, true)) else (if a0.toList = ([108, 111, 97, 100] : List UInt8) then (some (0, true)) else (some (0, false))))) = some (r1, r2) := by rw [if_neg (show ¬ (false = true) by decide)] at H; exact H
                clear H
                have H := H1
                clear H1
                by_cases c13 : a0.toList = ([115, 116, 97, 116, 115] : List UInt8)
                · rw [if_pos c13] at H
                  have c13b0 : (a0.toList == ([115, 116, 97, 116, 115] : List UInt8)) = true := beq_iff_eq.mpr c13
                  have c13b1 : (a0.toList != ([115, 116, 97, 116, 115] : List UInt8)) = false := bne_eq_false_iff_eq.mpr c13
                  clear c13
                  simp only [Option.some.injEq, Prod.mk.injEq] at H
                  obtain ⟨rfl, rfl⟩ := H
                  go_wp2
                  go_ret2
                  exact ⟨by first | rfl | (simp; done) | (simp [*]; done), by repeat (first | exact Drawn0.refl _ | apply Drawn0.step)⟩
                · rw [if_neg c13] at H
                  have c13b0 : (a0.toList == ([115, 116, 97, 116, 115] : List UInt8)) = false := beq_eq_false_iff_ne.mpr c13
                  have c13b1 : (a0.toList != ([115, 116, 97, 116, 115] : List UInt8)) = true := bne_iff_ne.mpr c13
                  by_cases c14 : a0.toList = ([115, 97, 118, 101] : List UInt8)
                  · rw [if_pos c14] at H
                    have c14b0 : (a0.toList == ([115, 97, 118, 101] : List UInt8)) = true := beq_iff_eq.mpr c14
                    have c14b1 : (a0.toList != ([115, 97, 118, 101] : List UInt8)) = false := bne_eq_false_iff_eq.mpr c14
                    clear c14
                    simp only [Option.some.injEq, Prod.mk.injEq] at H
                    obtain ⟨rfl, rfl⟩ := H
                    go_wp2
                    go_ret2
                    exact ⟨by first | rfl | (simp; done) | (simp [*]; done), by repeat (first | exact Drawn0.refl _ | apply Drawn0.step)⟩
                  · rw [if_neg c14] at H
                    have c14b0 : (a0.toList == ([115, 97, 118, 101] : List UInt8)) = false := beq_eq_false_iff_ne.mpr c14
                    have c14b1 : (a0.toList != ([115, 97, 118, 101] : List UInt8)) = true := bne_iff_ne.mpr c14
                    by_cases c15 : a0.toList = ([108, 111, 97, 100] : List UInt8)
                    · rw [if_pos c15] at H
                      have c15b0 : (a0.toList == ([108, 111, 97, 100] : List UInt8)) = true := beq_iff_eq.mpr c15
                      have c15b1 : (a0.toList != ([108, 111, 97, 100] : List UInt8)) = false := bne_eq_false_iff_eq.mpr c15
                      clear c15
                      simp only [Option.some.injEq, Prod.mk.injEq] at H
                      obtain ⟨rfl, rfl⟩ := H
                      go_wp2
                      go_ret2
                      exact ⟨by first | rfl | (simp; done) | (simp [*]; done), by repeat (first | exact Drawn0.refl _ | apply Drawn0.step)⟩
                    · rw [if_neg c15] at H
                      have c15b0 : (a0.toList == ([108, 111, 97, 100] : List UInt8)) = false := beq_eq_false_iff_ne.mpr c15
                      have c15b1 : (a0.toList != ([108, 111, 97, 100] : List UInt8)) = true := bne_iff_ne.mpr c15
                      simp only [Option.some.injEq, Prod.mk.injEq] at H
                      obtain ⟨rfl, rfl⟩ := H
                      go_wp2
                      go_ret2
                      exact ⟨by first | rfl | (simp; done) | (simp [*]; done), by repeat (first | exact Drawn0.refl _ | apply Drawn0.step)⟩

end Go.Proofs.YtlfoaaeelcmhiaaDoor.G
end

section
/- The contract of script.number, by hand: a range over a text's letters. -/
namespace Go.Proofs.YtlfoaaeelcmhiaaDoor.G
open Go.RowKit Go.Shelf Go.Proofs.YtlfoaaeelcmhiaaDoorW.PrintWords Go.Proofs.YtlfoaaeelcmhiaaDoorW.PrintLast Go.Proofs.YtlfoaaeelcmhiaaDoorW.PrintMore
set_option linter.unusedVariables false
/-- Whether a letter at a place ends it, n being what was read. -/
def badLetter (s : ByteArray) (pos : Nat) (R : Nat) (n : Int) : Bool := decide ((R : Int) < 48) || decide (57 < (R : Int)) || (decide (0 < (pos : Int)) && (bt s 0 == 48)) || decide ((18446744073709551615 - ((R : Int) - 48)) / 10 < n)
def numFrom (s : ByteArray) : Nat → Nat → Int → Int × Bool
  | 0, _, n => (n, true)
  | f + 1, pos, n => if pos < s.size then (if badLetter s pos (Utf8.decode s pos).1 n = true then (0, false) else numFrom s f (pos + (Utf8.decode s pos).2) (10 * n + (((Utf8.decode s pos).1 : Int) - 48))) else (n, true)
def script_number.f (a0 : ByteArray) : Option (Int × Bool) := if a0.size ≤ 4294967296 then some (numFrom a0 a0.size 0 0) else none
set_option maxHeartbeats 4000000 in
set_option maxRecDepth 100000 in
theorem script_number.calls (a0 : ByteArray) (r1 : Int) (r2 : Bool) (w : World) (h : script_number.f a0 = some (r1, r2)) :
    Calls Tryd.prog 39 #[.string a0] w fun e w' => e = .returned (.tuple #[.int .u64 r1, .bool r2]) ∧ Below w.heap.size w w' := by
  unfold script_number.f at h
  by_cases hc : a0.size ≤ 4294967296
  · rw [if_pos hc] at h
    have hr : numFrom a0 a0.size 0 0 = (r1, r2) := Option.some.inj h
    have HR := Aside0.mk hr
    clear h hr
    go_enter Tryd.func39, Tryd.ntmps39
    go_wp2
    go_loopg [4] a0.size (fun gf v4 w' => ∃ (pos : Nat) (n : Int), v4 = .int .u64 n ∧ Aside0 (0 ≤ n ∧ n ≤ 18446744073709551615) ∧ Aside0 (numFrom a0 gf pos n = (r1, r2)) ∧ Aside0 (w'.heap[w.heap.size]? = some (.stringIter a0 pos)) ∧ Aside0 (Below w.heap.size w w') ∧ Aside0 (a0.size ≤ pos + gf ∧ pos ≤ a0.size))
    case atStart => exact ⟨0, 0, rfl, ⟨by omega⟩, HR, ⟨World.iter_heap w a0 0⟩, ⟨(Below.refl _ _).alloc (Nat.le_refl _) _⟩, ⟨by omega, by omega⟩⟩
    case round =>
      clear HR
      obtain ⟨pos, n, rfl, HN, HA, HI, HB, HP⟩ := hrel
      have hp := HP.out
      have hn := HN.out
      by_cases hlt : pos < a0.size
      · obtain ⟨g', rfl⟩ : ∃ g', gk = g' + 1 := ⟨gk - 1, by omega⟩
        have hnx : ∀ ty, (Instr.next (.pointer (some ⟨w.heap.size, 0, none⟩)) true ty).run Tryd.prog wr = _ := fun ty => Lib.run_next_any_at wr w.heap.size a0 pos ty HI.out hlt
        have hwd := Lib.width_pos a0 pos
        have hwn : pos + (Utf8.decode a0 pos).2 ≤ a0.size := by
          have := Lib.decodeN_le_n' (a0.size - pos) (a0.get! pos).toNat (a0.get! (pos + 1)).toNat (a0.get! (pos + 2)).toNat (a0.get! (pos + 3)).toNat (by omega)
          rw [← Lib.decode_at] at this
          omega
        have hA := HA.out
        have hRle := Lib.rune_le a0 pos
        obtain ⟨R, hR⟩ : ∃ R, (Utf8.decode a0 pos).1 = R := ⟨_, rfl⟩
        obtain ⟨K, hK⟩ : ∃ K, (Utf8.decode a0 pos).2 = K := ⟨_, rfl⟩
        simp only [numFrom, hlt, if_true, hR, hK] at hA
        rw [hR, hK] at hnx
        rw [hK] at hwd hwn
        rw [hR] at hRle
        have hit2 := Lib.iterAt_heap wr w.heap.size a0 pos (pos + K) HI.out
        have hbw2 := Lib.below_iterAt HB.out (k := w.heap.size) (Nat.le_refl _) a0 (pos + K)
        obtain ⟨W, hWd⟩ : ∃ W, wr.iterAt w.heap.size a0 (pos + K) = W := ⟨_, rfl⟩
        rw [hWd] at hnx hit2 hbw2
        have HI2 := Aside0.mk hit2
        have HB2 := Aside0.mk hbw2
        clear HA HI HB hit2 hbw2 hWd
        have hb0 : ∀ h : 0 < a0.size, ((a0[0]'h).toNat : Int) = bt a0 0 := bt_at a0 0
        have hs0 : (0 < a0.size) = True := eq_true (by omega)
        have hs1 : (0 : Int) < (a0.size : Int) := by omega
        have hs2 := eq_true hs1
        have hw1 : IntKind.i32.wrap ((R : Int) - 48) = (R : Int) - 48 := by rw [IntKind.wrap_i32]; omega
        have hbadtrue : badLetter a0 pos R n = true → (0, false) = (r1, r2) := fun e => by rw [if_pos e] at hA; exact hA
        have hbadfalse : badLetter a0 pos R n = false → numFrom a0 g' (pos + K) (10 * n + ((R : Int) - 48)) = (r1, r2) := fun e => by rw [if_neg (by rw [e]; decide)] at hA; exact hA
        have HT := Aside0.mk hbadtrue
        have HF := Aside0.mk hbadfalse
        have HW := Aside0.mk (show 1 ≤ K ∧ pos + K ≤ a0.size from ⟨hwd, hwn⟩)
        clear hbadtrue hbadfalse hA hR hK hwd hwn hlt
        by_cases c1 : (R : Int) < 48
        · have HA2 := Aside0.mk (HT.out (by unfold badLetter; rw [decide_eq_true c1]; simp))
          have c1b := decide_eq_true c1
          clear HT HF
          go_wp2
          go_ret2
          have := HA2.out
          injection this with e1 e2
          subst e1 e2
          exact ⟨rfl, HB2.out⟩
        · have c1b := decide_eq_false c1
          have hw2 : IntKind.u64.wrap ((R : Int) - 48) = (R : Int) - 48 := by rw [IntKind.wrap_u64]; omega
          by_cases c2 : 57 < (R : Int)
          · have HA2 := Aside0.mk (HT.out (by unfold badLetter; rw [decide_eq_true c2]; simp))
            have c2b := decide_eq_true c2
            clear HT HF
            go_wp2
            go_ret2
            have := HA2.out
            injection this with e1 e2
            subst e1 e2
            exact ⟨rfl, HB2.out⟩
          · have c2b := decide_eq_false c2
            have hw3 : IntKind.u64.wrap (18446744073709551615 - ((R : Int) - 48)) = 18446744073709551615 - ((R : Int) - 48) := by rw [IntKind.wrap_u64]; omega
            have next : badLetter a0 pos R n = false → n ≤ (18446744073709551615 - ((R : Int) - 48)) / 10 → True := fun _ _ => trivial
            by_cases c3 : 0 < (pos : Int)
            · have c3b := decide_eq_true c3
              have c3n : decide (0 < pos) = true := decide_eq_true (by omega)
              by_cases c4 : bt a0 0 = 48
              · have HA2 := Aside0.mk (HT.out (by unfold badLetter; rw [c3b, beq_iff_eq.2 c4]; simp))
                have c4b := beq_iff_eq.2 c4
                clear HT HF
                go_wp2
                go_ret2
                have := HA2.out
                injection this with e1 e2
                subst e1 e2
                exact ⟨rfl, HB2.out⟩
              · have c4b : (bt a0 0 == 48) = false := beq_eq_false_iff_ne.2 c4
                by_cases c5 : (18446744073709551615 - ((R : Int) - 48)) / 10 < n
                · have HA2 := Aside0.mk (HT.out (by unfold badLetter; rw [decide_eq_true c5]; simp))
                  have c5b := decide_eq_true c5
                  clear HT HF
                  go_wp2
                  go_ret2
                  have := HA2.out
                  injection this with e1 e2
                  subst e1 e2
                  exact ⟨rfl, HB2.out⟩
                · have HA2 := Aside0.mk (HF.out (by unfold badLetter; rw [decide_eq_false c1, decide_eq_false c2, c4b, decide_eq_false c5]; simp))
                  have c5b := decide_eq_false c5
                  have hw4 : IntKind.u64.wrap (10 * n) = 10 * n := by rw [IntKind.wrap_u64]; omega
                  have hw5 : IntKind.u64.wrap (10 * n + ((R : Int) - 48)) = 10 * n + ((R : Int) - 48) := by rw [IntKind.wrap_u64]; omega
                  have HN2 : Aside0 (0 ≤ 10 * n + ((R : Int) - 48) ∧ 10 * n + ((R : Int) - 48) ≤ 18446744073709551615) := ⟨by omega⟩
                  clear HT HF
                  go_wp2
                  go_roundg g'
                  case measure => omega
                  case rel => exact ⟨pos + K, _, rfl, HN2, HA2, HI2, HB2, ⟨by have := HW.out; have := HP.out; omega, HW.out.2⟩⟩
            · have c3b := decide_eq_false c3
              have c3n : decide (0 < pos) = false := decide_eq_false (by omega)
              by_cases c5 : (18446744073709551615 - ((R : Int) - 48)) / 10 < n
              · have HA2 := Aside0.mk (HT.out (by unfold badLetter; rw [decide_eq_true c5]; simp))
                have c5b := decide_eq_true c5
                clear HT HF
                go_wp2
                go_ret2
                have := HA2.out
                injection this with e1 e2
                subst e1 e2
                exact ⟨rfl, HB2.out⟩
              · have HA2 := Aside0.mk (HF.out (by unfold badLetter; rw [decide_eq_false c1, decide_eq_false c2, c3b, decide_eq_false c5]; simp))
                have c5b := decide_eq_false c5
                have hw4 : IntKind.u64.wrap (10 * n) = 10 * n := by rw [IntKind.wrap_u64]; omega
                have hw5 : IntKind.u64.wrap (10 * n + ((R : Int) - 48)) = 10 * n + ((R : Int) - 48) := by rw [IntKind.wrap_u64]; omega
                have HN2 : Aside0 (0 ≤ 10 * n + ((R : Int) - 48) ∧ 10 * n + ((R : Int) - 48) ≤ 18446744073709551615) := ⟨by omega⟩
                clear HT HF
                go_wp2
                go_roundg g'
                case measure => omega
                case rel => exact ⟨pos + K, _, rfl, HN2, HA2, HI2, HB2, ⟨by have := HW.out; have := HP.out; omega, HW.out.2⟩⟩
      · have hps : pos = a0.size := by omega
        have hA := HA.out
        have e : numFrom a0 gk pos n = (n, true) := by cases gk with
          | zero => rfl
          | succ g' => simp only [numFrom]; rw [if_neg hlt]
        rw [e] at hA
        injection hA with e1 e2
        subst e1 e2
        have hnx : ∀ ty, (Instr.next (.pointer (some ⟨w.heap.size, 0, none⟩)) true ty).run Tryd.prog wr = _ := fun ty => Lib.run_next_end_at wr w.heap.size a0 pos ty HI.out hlt
        clear hps e HA hp
        go_wp2
        go_ret2
        exact ⟨rfl, HB.out⟩
  · rw [if_neg hc] at h
    cases h
end Go.Proofs.YtlfoaaeelcmhiaaDoor.G
end

section
-- Written by a program of this session (wip/gprint.py: the kit's print, with contracts proved by hand)
namespace Go.Proofs.YtlfoaaeelcmhiaaDoor.G
open Go.RowKit Go.Proofs.YtlfoaaeelcmhiaaDoorW.PrintWords Go.Proofs.YtlfoaaeelcmhiaaDoorW.PrintLast Go.Proofs.YtlfoaaeelcmhiaaDoorW.PrintMore
attribute [local go_sem] max2_int min2_int max_two min_two max_three min_three max_four min_four   -- for this text's walks alone
set_option linter.unusedVariables false
set_option linter.unusedSimpArgs false

/-! ### script_command: function 24 -/
def script_command.l0 : Nat → List ByteArray → Int → Int → ByteArray → List Int → Option (ByteArray × List Int × Int)
  | 0, _, _, _, _, _ => none
  | k + 1, x34, x35, x36, x107000, x107001 => if x36 < x35 then (if 0 ≤ x36 then (if x36 < (x34.length : Int) then ((script_number.f (rdOf ByteArray.empty x34 x36)).bind fun bt109 => (if bt109.2 = true then (if x107001.length < 17592186044416 then (script_command.l0 k x34 x35 (wrap64 (x36 + 1)) x107000 (x107001 ++ [bt109.1])) else (none)) else (some ((⟨#[]⟩ : ByteArray), ([] : List Int), 212)))) else (none)) else (none)) else (some (x107000, x107001, 0))
def script_command.f (k : Nat) (l0 : List ByteArray) : Option (ByteArray × List Int × Int) := if 0 < (l0.length : Int) then ((script_takes.f k (rdOf ByteArray.empty l0 0)).bind fun bt103 => (if bt103.2 = true then (if (l0.length : Int) = (wrap64 (bt103.1 + 1)) then (if 1 ≤ (l0.length : Int) then (script_command.l0 k (l0.drop 1) ((l0.drop 1).length : Int) 0 (rdOf ByteArray.empty l0 0) ([] : List Int)) else (none)) else (some ((⟨#[]⟩ : ByteArray), ([] : List Int), 213))) else (some ((⟨#[]⟩ : ByteArray), ([] : List Int), 211)))) else (none)
def tl1 (l : List ByteArray) : List ByteArray := l.drop 1
theorem tl1_len (l : List ByteArray) : l.length - 1 = (tl1 l).length := by simp [tl1]
theorem script_command.mono_l : ∀ k, (∀ y0 y1 y2 y3 y4, LeO (script_command.l0 k y0 y1 y2 y3 y4) (script_command.l0 (k + 1) y0 y1 y2 y3 y4))
  | 0 => fun _ _ _ _ _ r h => by simp [script_command.l0] at h
  | k + 1 => by
    have ih0 := script_command.mono_l k
    · intro y0 y1 y2 y3 y4
      unfold script_command.l0
      repeat' first
      | (with_reducible exact ih0 _ _ _ _ _)
      | (with_reducible exact script_takes.mono _ _)
      | (with_reducible exact LeO.refl _)
      | (with_reducible exact LeO.none _)
      | (with_reducible refine LeO.ite ?_ ?_)
      | (with_reducible refine LeO.bind ?_ (fun _ => ?_))
      | exact ih0 _ _ _ _ _
      | exact script_takes.mono _ _
      | exact LeO.none _
      | refine LeO.ite ?_ ?_
      | refine LeO.bind ?_ (fun _ => ?_)
theorem script_command.mono : ∀ a0 k, LeO (script_command.f k a0) (script_command.f (k + 1) a0) := by
  intro a0 k
  have ih0 := script_command.mono_l k
  unfold script_command.f
  repeat' first
      | (with_reducible exact ih0 _ _ _ _ _)
      | (with_reducible exact script_takes.mono _ _)
      | (with_reducible exact LeO.refl _)
      | (with_reducible exact LeO.none _)
      | (with_reducible refine LeO.ite ?_ ?_)
      | (with_reducible refine LeO.bind ?_ (fun _ => ?_))
      | exact ih0 _ _ _ _ _
      | exact script_takes.mono _ _
      | exact LeO.none _
      | refine LeO.ite ?_ ?_
      | refine LeO.bind ?_ (fun _ => ?_)
set_option maxHeartbeats 8000000 in
set_option maxRecDepth 100000 in
theorem script_command.calls (k : Nat) (A0 : Option Addr) (c0 : Nat) (l0 : List ByteArray) (r1 : ByteArray) (r2 : List Int) (r3 : Int) (w : World) (hr0 : Kd.C Kd.string w A0 l0.length l0) (hc0 : l0.length ≤ c0) (h : script_command.f k l0 = some (r1, r2, r3)) :
    Calls Tryd.prog 24 #[.slice A0 l0.length c0] w fun e w' => ∃ v1_ : Value, e = .returned (.tuple #[.agg #[.string r1, v1_], .int .i64 r3]) ∧ Kd.R (Kd.int .u64) 31 w' w.heap.size (fun _ => True) v1_ r2 ∧ Below w.heap.size w w' := by
  have hu30 := Tryd.underlying30
  have HR0 := Aside0.mk hr0
  have HC0 := Aside0.mk hc0
  clear hr0 hc0
  have HB := Aside0.mk (Below.refl w.heap.size w)
  have H : (if 0 < (l0.length : Int) then ((script_takes.f k (rdOf ByteArray.empty l0 0)).bind fun bt103 => (if bt103.2 = true then (if (l0.length : Int) = (wrap64 (bt103.1 + 1)) then (if 1 ≤ (l0.length : Int) then (script_command.l0 k (tl1 l0) ((tl1 l0).length : Int) 0 (rdOf ByteArray.empty l0 0) ([] : List Int)) else (none)) else (some ((⟨#[]⟩ : ByteArray), ([] : List Int), 213))) else (some ((⟨#[]⟩ : ByteArray), ([] : List Int), 211)))) else (none)) = some (r1, r2, r3) := h
  clear h
  by_cases c2 : 0 < (l0.length : Int)
  · rw [if_pos c2] at H
    have c2b0 : decide (0 < (l0.length : Int)) = true := decide_eq_true c2
    have c2b1 : decide (0 < l0.length) = true := decide_eq_true (by omega)
    clear c2
    replace H := Option.bind_eq_some_iff.mp H
    obtain ⟨⟨t103, t104⟩, A30, H⟩ := H
    replace H : (if t104 = true then (if (l0.length : Int) = (wrap64 (t103 + 1)) then (if 1 ≤ (l0.length : Int) then (script_command.l0 k (tl1 l0) ((tl1 l0).length : Int) 0 (rdOf ByteArray.empty l0 0) ([] : List Int)) else (none)) else (some ((⟨#[]⟩ : ByteArray), ([] : List Int), 213))) else (some ((⟨#[]⟩ : ByteArray), ([] : List Int), 211))) = some (r1, r2, r3) := H
    have A3 := Aside0.mk A30
    clear A30
    by_cases c4 : t104 = true
    · subst c4
      have H1 : (if (l0.length : Int) = (wrap64 (t103 + 1)) then (if 1 ≤ (l0.length : Int) then (script_command.l0 k (tl1 l0) ((tl1 l0).length : Int) 0 (rdOf ByteArray.empty l0 0) ([] : List Int)) else (none)) else (some ((⟨#[]⟩ : ByteArray), ([] : List Int), 213))) = some (r1, r2, r3) := by rw [if_pos rfl] at H; exact H
      clear H
      have H := H1
      clear H1
      by_cases c5 : (l0.length : Int) = (wrap64 (t103 + 1))
      · rw [if_pos c5] at H
        have c5b0 : ((l0.length : Int) == (wrap64 (t103 + 1))) = true := beq_iff_eq.mpr c5
        have c5b1 : ((l0.length : Int) != (wrap64 (t103 + 1))) = false := bne_eq_false_iff_eq.mpr c5
        clear c5
        by_cases c6 : 1 ≤ (l0.length : Int)
        · rw [if_pos c6] at H
          have c6b0 := eq_true c6
          have c6b1 : decide (1 ≤ (l0.length : Int)) = true := decide_eq_true c6
          clear c6
          have hlen1 := tl1_len l0
          have H' := Aside0.mk H
          clear H
          go_enter Tryd.func24, Tryd.ntmps24
          go_wp2_with (first | ((with_reducible refine gate_dst (N := 2) rfl ?_); refine box_event ?hg (N := 2) ?hd (cs := #[.string (⟨#[]⟩ : ByteArray), .slice none 0 0]) (t := 30) ?hr ?_; (case hd => rfl); (case hg => rfl); (case hr => first | (go_simp; done) | (go_simp; rfl)); intro gb101 hg w7 hbox hb; have n0_ := Aside0.mk (below_step (by repeat (first | (with_reducible first | exact HB.out | apply below_alloc | apply pw_below_drewN | apply below_drew1) | exact HB.out)) hb); have n1_ := Aside0.mk (hbox); have n2_ := Aside0.mk ((by rw [hg]; exact (below_size (by repeat (first | (with_reducible first | exact HB.out | apply below_alloc | apply pw_below_drewN | apply below_drew1) | exact HB.out))) : w.heap.size ≤ gb101)); have n3_ := Aside0.mk ((by rw [hg]; exact (below_size (by repeat (first | (with_reducible first | exact HB.out | apply below_alloc | apply pw_below_drewN | apply below_drew1) | exact HB.out))) : w.heap.size ≤ gb101)); clear HB; have HB := n0_; have BK101 := n1_; have GW101 := n2_; have GE101 := n3_; clear n0_ n1_ n2_ n3_; clear hb hbox hg; have p102 : 0 ≤ (0 : Int) := (by omega); have q102 : 0 < (l0.length : Int) := of_decide_eq_true (by first | (with_reducible assumption) | assumption); obtain ⟨ad102, e102, hx102_0⟩ := Kd.at_string HR0.out 0 p102 q102; cases e102; have qi102 : (0 < l0.length) = True := eq_true (by omega); (try rw [show ((0 : Int)).toNat = 0 from rfl] at hx102_0); (try rw [Addr.add_zero'] at hx102_0); replace hx102_0 := (HB.out.cell (World.block_lt_of_cell? w _ hx102_0)).trans hx102_0; replace p102 := eq_true p102; replace q102 := eq_true q102) | ((with_reducible refine gate_callee (f := 27) rfl ?_); refine goesL_ (some 15) rfl rfl Tryd.func27 (by kernel_rfl) rfl #[.string (rdOf ByteArray.empty l0 0)] rfl (by (try simp only [List.map_toArray, List.map_cons, List.map_nil]); first | done | rfl | (simp only [List.length_drop, List.length_take]; rfl)) ?_; (with_reducible refine (script_takes.calls k (rdOf ByteArray.empty l0 0) t103 true _ A3.out).mono ?_); rintro e w' ⟨rfl, ⟨nd, rfl⟩⟩; refine ⟨_, rfl, ?_⟩; (try (rw [drewN_self w7]; generalize hq_ : World.drewN w7 _ = w7; have n0_ : Aside0 (w7.heap[gb101]? = some (.cells #[.string (⟨#[]⟩ : ByteArray), .slice none 0 0] 30 (0, 0))) := ⟨by rw [← hq_]; exact (by (with_reducible repeat (first | refine blk_drewN ?_ _ | refine blk_drew ?_ | refine blk_alloc ?_ _)); exact BK101.out)⟩; have n1_ : Aside0 (Below w.heap.size w w7) := ⟨by rw [← hq_]; exact (by repeat (first | (with_reducible first | exact HB.out | apply below_alloc | apply pw_below_drewN | apply below_drew1 | refine below_set ?_ GE101.out) | exact HB.out))⟩; clear BK101 HB hq_; have BK101 := n0_; have HB := n1_; clear n0_ n1_)); have p105 : 0 ≤ (0 : Int) := (by omega); have q105 : 0 < (l0.length : Int) := of_decide_eq_true (by first | (with_reducible assumption) | assumption); obtain ⟨ad105, e105, hx105_0⟩ := Kd.at_string HR0.out 0 p105 q105; obtain rfl : ad102 = ad105 := (by injection e105); have qi105 : (0 < l0.length) = True := eq_true (by omega); (try rw [show ((0 : Int)).toNat = 0 from rfl] at hx105_0); (try rw [Addr.add_zero'] at hx105_0); replace hx105_0 := (HB.out.cell (World.block_lt_of_cell? w _ hx105_0)).trans hx105_0; replace p105 := eq_true p105; replace q105 := eq_true q105) | ((with_reducible refine gate_dst (N := 6) rfl ?_); refine box_event ?hg (N := 6) ?hd (cs := #[.string (⟨#[]⟩ : ByteArray), .slice none 0 0]) (t := 30) ?hr ?_; (case hd => rfl); (case hg => rfl); (case hr => first | (go_simp; done) | (go_simp; rfl)); intro gb106 hg w8 hbox hb; have n0_ := Aside0.mk (blk_below (g := gb101) (o := .cells #[.string (⟨#[]⟩ : ByteArray), .slice none 0 0] 30 (0, 0)) (by (with_reducible repeat (first | refine blk_drewN ?_ _ | refine blk_drew ?_ | refine blk_alloc ?_ _)); exact BK101.out) hb); have n1_ := Aside0.mk (below_step (by repeat (first | (with_reducible first | exact HB.out | apply below_alloc | apply pw_below_drewN | apply below_drew1 | refine below_set ?_ GE101.out) | exact HB.out)) hb); have n2_ := Aside0.mk (hbox); have n3_ := Aside0.mk ((by rw [hg]; exact (below_size (by repeat (first | (with_reducible first | exact HB.out | apply below_alloc | apply pw_below_drewN | apply below_drew1 | refine below_set ?_ GE101.out) | exact HB.out))) : w.heap.size ≤ gb106)); have n4_ := Aside0.mk ((by rw [hg]; exact (below_size (by repeat (first | (with_reducible first | exact HB.out | apply below_alloc | apply pw_below_drewN | apply below_drew1 | refine below_set ?_ GE101.out) | exact HB.out))) : w.heap.size ≤ gb106)); have n5_ := Aside0.mk ((by rw [hg]; exact Nat.ne_of_lt (blk_lt (g := gb101) (o := .cells #[.string (⟨#[]⟩ : ByteArray), .slice none 0 0] 30 (0, 0)) (by (with_reducible repeat (first | refine blk_drewN ?_ _ | refine blk_drew ?_ | refine blk_alloc ?_ _)); exact BK101.out)) : gb101 ≠ gb106)); have n6_ := Aside0.mk ((by rw [hg]; exact Nat.ne_of_gt (blk_lt (g := gb101) (o := .cells #[.string (⟨#[]⟩ : ByteArray), .slice none 0 0] 30 (0, 0)) (by (with_reducible repeat (first | refine blk_drewN ?_ _ | refine blk_drew ?_ | refine blk_alloc ?_ _)); exact BK101.out)) : gb106 ≠ gb101)); clear BK101; clear HB; have BK101 := n0_; have HB := n1_; have BK106 := n2_; have GW106 := n3_; have GE106 := n4_; have NB101_106 := n5_; have NB106_101 := n6_; clear n0_ n1_ n2_ n3_ n4_ n5_ n6_; clear hb hbox hg; have hnb9 := NB106_101.out; have hnc9 := NB101_106.out; have hcz10_0 : w8.cell? ⟨gb106, 0, none⟩ = some (.string (⟨#[]⟩ : ByteArray)) := (blk_cell BK106.out 0).trans rfl; have hcz10_1 : w8.cell? ⟨gb106, 1, none⟩ = some (.slice none 0 0) := (blk_cell BK106.out 1).trans rfl; have hfz10_0 := blk_frozen BK106.out 0; have hfz10_1 := blk_frozen BK106.out 1; obtain ⟨i011, hi011, _, hsz11, _⟩ := info_parts info9; obtain ⟨A11, hcut11, hA11, hC11⟩ := print_drop_of (P := Tryd.prog) Value.string (⟨#[]⟩ : ByteArray) 54 9 .i64 Tryd.underlying54 hi011 hsz11 (some ad102) c0 l0 1 (by omega) (of_decide_eq_true (by first | (with_reducible assumption) | assumption)) HC0.out; have HR107 : Aside0 (Kd.C Kd.string w A11 (tl1 l0).length (tl1 l0)) := ⟨Kd.C_of_reads (h1 := fun _ => rfl) (hA11 _ (Kd.reads_of_C HR0.out))⟩; have HC107 := Aside0.mk hC11; clear hA11 hC11 hi011 hsz11))
          go_loopg [36] k (fun kq v36 w' => ∃ (x36_1 : Int) (x102000_1 : ByteArray) (x107001_1 : List Int) (u107001 : Value), v36 = .int .i64 x36_1 ∧ Aside0 (script_command.l0 kq (tl1 l0) ((tl1 l0).length : Int) x36_1 (rdOf ByteArray.empty l0 0) x107001_1 = some (r1, r2, r3)) ∧ Aside0 (kq ≤ k) ∧ Aside0 (Kd.R (Kd.int .u64) 31 w' w.heap.size (fun _ => True) u107001 x107001_1) ∧ Aside0 (w'.heap[gb101]? = some (.cells #[.string x102000_1, (.slice none 0 0)] 30 (0, 0))) ∧ Aside0 (w'.heap[gb106]? = some (.cells #[.string (rdOf ByteArray.empty l0 0), u107001] 30 (0, 0))) ∧ Aside0 (Below w.heap.size w w'))
          case atStart => exact ⟨(0), ((⟨#[]⟩ : ByteArray)), (([] : List Int)), (.slice none 0 0), (by first | rfl | (simp; done) | (simp [*]; done)), H', ⟨Nat.le_refl _⟩, ⟨by first | exact Kd.R_nil _ _ _ _ _ | exact Kd.N_nil _ _ _ _ _ | exact Kd.V_nil _ _ _ _ _ | exact Kd.Q_nil _ _ _ _ _ | exact Kd.S_nil _ _ _ _ _⟩, ⟨by (with_reducible repeat (first | refine blk_drewN ?_ _ | refine blk_drew ?_ | refine blk_alloc ?_ _)); refine blk_far ?_ NB101_106.out _; (with_reducible repeat (first | refine blk_drewN ?_ _ | refine blk_drew ?_ | refine blk_alloc ?_ _)); refine blk_far ?_ NB101_106.out _; (with_reducible repeat (first | refine blk_drewN ?_ _ | refine blk_drew ?_ | refine blk_alloc ?_ _)); exact BK101.out⟩, ⟨by (with_reducible repeat (first | refine blk_drewN ?_ _ | refine blk_drew ?_ | refine blk_alloc ?_ _)); refine blk_put (cs := #[.string (rdOf ByteArray.empty l0 0), .slice none 0 0]) ?_ 1 _ rfl; (with_reducible repeat (first | refine blk_drewN ?_ _ | refine blk_drew ?_ | refine blk_alloc ?_ _)); refine blk_put (cs := #[.string (⟨#[]⟩ : ByteArray), .slice none 0 0]) ?_ 0 _ rfl; (with_reducible repeat (first | refine blk_drewN ?_ _ | refine blk_drew ?_ | refine blk_alloc ?_ _)); exact BK106.out⟩, ⟨by repeat (first | (with_reducible first | exact HB.out | apply below_alloc | apply pw_below_drewN | apply below_drew1 | refine below_set ?_ GE101.out | refine below_set ?_ GE106.out) | exact HB.out)⟩⟩
          case round =>
            clear H'
            try clear p1
            try clear q1
            try clear hx1
            try clear qi1
            try clear c2
            try clear c2b0
            try clear c2b1
            try clear p2
            try clear c4
            try clear c5
            try clear c5b0
            try clear c5b1
            try clear c6
            try clear c6b0
            try clear c6b1
            try clear p6
            try clear c9
            try clear p10
            try clear q10
            try clear hx10
            try clear qi10
            try clear hcz10_0
            try clear hcz10_1
            try clear hfz10_0
            try clear hfz10_1
            try clear hx102_0
            try clear hx105_0
            try clear p102
            try clear p105
            try clear q102
            try clear q105
            obtain ⟨x36_1, x102000_1, x107001_1, u107001, rfl, HA, HK1, HO_107001, BK101, BK106, HB⟩ := hrel
            cases gk with
            | zero => exact absurd HA.out (by simp [script_command.l0])
            | succ k1 =>
              have H := HA.out
              clear HA
              simp only [script_command.l0] at H
              by_cases c12 : x36_1 < ((tl1 l0).length : Int)
              · rw [if_pos c12] at H
                have c12b0 : decide (x36_1 < ((tl1 l0).length : Int)) = true := decide_eq_true c12
                clear c12
                by_cases c13 : 0 ≤ x36_1
                · rw [if_pos c13] at H
                  have c13b0 : decide (0 ≤ x36_1) = true := decide_eq_true c13
                  clear c13
                  by_cases c14 : x36_1 < ((tl1 l0).length : Int)
                  · rw [if_pos c14] at H
                    have c14b0 : decide (x36_1 < ((tl1 l0).length : Int)) = true := decide_eq_true c14
                    clear c14
                    replace H := Option.bind_eq_some_iff.mp H
                    obtain ⟨⟨t109, t110⟩, A150, H⟩ := H
                    replace H : (if t110 = true then (if x107001_1.length < 17592186044416 then (script_command.l0 k1 (tl1 l0) ((tl1 l0).length : Int) (wrap64 (x36_1 + 1)) (rdOf ByteArray.empty l0 0) (x107001_1 ++ [t109])) else (none)) else (some ((⟨#[]⟩ : ByteArray), ([] : List Int), 212))) = some (r1, r2, r3) := H
                    have A15 := Aside0.mk A150
                    clear A150
                    by_cases c16 : t110 = true
                    · subst c16
                      have H1 : (if x107001_1.length < 17592186044416 then (script_command.l0 k1 (tl1 l0) ((tl1 l0).length : Int) (wrap64 (x36_1 + 1)) (rdOf ByteArray.empty l0 0) (x107001_1 ++ [t109])) else (none)) = some (r1, r2, r3) := by rw [if_pos rfl] at H; exact H
                      clear H
                      have H := H1
                      clear H1
                      by_cases c17 : x107001_1.length < 17592186044416
                      · rw [if_pos c17] at H
                        have LMc17 := Aside0.mk c17
                        clear c17
                        obtain ⟨y111, hy111⟩ : ∃ y_ : List Int, y_ = (x107001_1 ++ [t109]) := ⟨_, rfl⟩
                        replace H : (script_command.l0 k1 (tl1 l0) ((tl1 l0).length : Int) (wrap64 (x36_1 + 1)) (rdOf ByteArray.empty l0 0) y111) = some (r1, r2, r3) := by first | (rw [hy111]; with_reducible exact H) | (have H2_ := (Option.bind_some _ _).symm.trans H; rw [hy111]; with_reducible exact H2_) | (have H2_ := (Option.bind_some _ _).symm.trans H; with_reducible exact H2_) | with_reducible exact H | (rw [hy111]; exact H) | exact H
                        have Ny111 := Aside0.mk hy111
                        clear hy111
                        have H' := Aside0.mk H
                        clear H
                        have p108 : 0 ≤ (x36_1 : Int) := of_decide_eq_true (by first | (with_reducible assumption) | assumption)
                        have q108 : x36_1 < ((tl1 l0).length : Int) := of_decide_eq_true (by first | (with_reducible assumption) | assumption)
                        obtain ⟨ad108, e108, hx108_0⟩ := Kd.at_string HR107.out x36_1 p108 q108
                        cases e108
                        replace hx108_0 := (HB.out.cell (World.block_lt_of_cell? w _ hx108_0)).trans hx108_0
                        replace p108 := eq_true p108
                        replace q108 := eq_true q108
                        go_wp2_with (first | ((with_reducible refine gate_callee (f := 39) rfl ?_); refine goesL_ (some 42) rfl rfl Tryd.func39 (by kernel_rfl) rfl #[.string (rdOf ByteArray.empty (tl1 l0) x36_1)] rfl (by (try simp only [List.map_toArray, List.map_cons, List.map_nil]); first | done | rfl | (simp only [List.length_drop, List.length_take]; rfl)) ?_; (with_reducible refine (script_number.calls (rdOf ByteArray.empty (tl1 l0) x36_1) t109 true _ A15.out).mono ?_); rintro e w18 ⟨rfl, hb⟩; refine ⟨_, rfl, ?_⟩; have n0_ := Aside0.mk (Kd.R_below (by (with_reducible repeat (first | apply Kd.R_alloc | apply Kd.R_drewN | apply Kd.R_drew)); exact HO_107001.out) hb); have n1_ := Aside0.mk (blk_below (g := gb101) (o := .cells #[.string x102000_1, .slice none 0 0] 30 (0, 0)) (by (with_reducible repeat (first | refine blk_drewN ?_ _ | refine blk_drew ?_ | refine blk_alloc ?_ _)); exact BK101.out) hb); have n2_ := Aside0.mk (blk_below (g := gb106) (o := .cells #[.string (rdOf ByteArray.empty l0 0), u107001] 30 (0, 0)) (by (with_reducible repeat (first | refine blk_drewN ?_ _ | refine blk_drew ?_ | refine blk_alloc ?_ _)); exact BK106.out) hb); have n3_ := Aside0.mk (below_step (by repeat (first | (with_reducible first | exact HB.out | apply below_alloc | apply pw_below_drewN | apply below_drew1 | refine below_set ?_ GE101.out | refine below_set ?_ GE106.out) | exact HB.out)) hb); clear HO_107001; clear BK101; clear BK106; clear HB; have HO_107001 := n0_; have BK101 := n1_; have BK106 := n2_; have HB := n3_; clear n0_ n1_ n2_ n3_; (try clear hb); (try clear hb2); (try clear hk); (try clear hi); have hnb19 := NB106_101.out; have hnc19 := NB101_106.out; have hcz20_0 : w18.cell? ⟨gb106, 0, none⟩ = some (.string (rdOf ByteArray.empty l0 0)) := (blk_cell BK106.out 0).trans rfl; have hcz20_1 : w18.cell? ⟨gb106, 1, none⟩ = some (u107001) := (blk_cell BK106.out 1).trans rfl; have hfz20_0 := blk_frozen BK106.out 0; have hfz20_1 := blk_frozen BK106.out 1) | ((with_reducible refine gate_builtin (b := .append) (xs := #[.tmp 49, .tmp 51]) rfl ?_); at_builtin; refine Kd.R_append (Kd.int .u64) (w0 := w) w.heap.size rfl (.tmp 49) (.tmp 51) 28 31 (.int .u64 0) 8 rfl Tryd.underlying28 info31 rfl (by decide) (by omega) u107001 x107001_1 t109 [.int .u64 t109] (fun _ => True) (fun _ => False) rfl rfl ?aP (fun _ hk => hk.elim) ?aF ?aO ?aB ?aS ?aL ?_; (case aP => exact rfl); (case aB => exact (by repeat (first | (with_reducible first | exact HB.out | apply below_alloc | apply pw_below_drewN | apply below_drew1 | refine below_set ?_ GE101.out | refine below_set ?_ GE106.out) | exact HB.out))); (case aF => exact (fun _ _ => trivial)); (case aO => exact (by (with_reducible repeat (first | apply Kd.R_alloc | apply Kd.R_drewN | apply Kd.R_drew)); exact HO_107001.out)); (case aS => exact (below_size (by repeat (first | (with_reducible first | exact HB.out | apply below_alloc | apply pw_below_drewN | apply below_drew1 | refine below_set ?_ GE101.out | refine below_set ?_ GE106.out) | exact HB.out)))); (case aL => have := LMc17.out; omega); intro v112 w21 ho hb hg hat; rw [← Ny111.out] at ho; have n0_ := Aside0.mk (blk_grown (g := gb101) (o := .cells #[.string x102000_1, .slice none 0 0] 30 (0, 0)) (by (with_reducible repeat (first | refine blk_drewN ?_ _ | refine blk_drew ?_ | refine blk_alloc ?_ _)); exact BK101.out) hg (Kd.R_ne HO_107001.out BK101.out (by decide))); have n1_ := Aside0.mk (blk_grown (g := gb106) (o := .cells #[.string (rdOf ByteArray.empty l0 0), u107001] 30 (0, 0)) (by (with_reducible repeat (first | refine blk_drewN ?_ _ | refine blk_drew ?_ | refine blk_alloc ?_ _)); exact BK106.out) hg (Kd.R_ne HO_107001.out BK106.out (by decide))); have n2_ := Aside0.mk (hb); have n3_ := Aside0.mk (ho); clear BK101; clear BK106; clear HB; clear HO_107001; have BK101 := n0_; have BK106 := n1_; have HB := n2_; have HO113 := n3_; clear n0_ n1_ n2_ n3_; clear ho hb hg hat; obtain ⟨Ao22, co22, eo22⟩ := Kd.R_slice HO113.out; subst eo22; have hcz23_0 : w21.cell? ⟨gb106, 0, none⟩ = some (.string (rdOf ByteArray.empty l0 0)) := (blk_cell BK106.out 0).trans rfl; have hcz23_1 : w21.cell? ⟨gb106, 1, none⟩ = some (u107001) := (blk_cell BK106.out 1).trans rfl; have hfz23_0 := blk_frozen BK106.out 0; have hfz23_1 := blk_frozen BK106.out 1))
                        go_roundg k1
                        case measure => have := HK1.out; omega
                        case rel => exact ⟨(wrap64 (x36_1 + 1)), (x102000_1), (y111), (.slice Ao22 y111.length co22), (by first | rfl | (simp; done) | (simp [*]; done)), H', ⟨by have := HK1.out; omega⟩, ⟨by (with_reducible repeat (first | apply Kd.R_alloc | apply Kd.R_drewN | apply Kd.R_drew)); exact Kd.R_mono (Kd.R_far (p := ⟨gb106, 1, none⟩) (Kd.R_types HO113.out BK106.out (by decide)) (fun _ hk => hk.2) (.slice Ao22 y111.length co22)) (fun _ hk => trivial)⟩, ⟨by (with_reducible repeat (first | refine blk_drewN ?_ _ | refine blk_drew ?_ | refine blk_alloc ?_ _)); refine blk_far ?_ NB101_106.out _; (with_reducible repeat (first | refine blk_drewN ?_ _ | refine blk_drew ?_ | refine blk_alloc ?_ _)); exact BK101.out⟩, ⟨by (with_reducible repeat (first | refine blk_drewN ?_ _ | refine blk_drew ?_ | refine blk_alloc ?_ _)); refine blk_put (cs := #[.string (rdOf ByteArray.empty l0 0), u107001]) ?_ 1 _ rfl; (with_reducible repeat (first | refine blk_drewN ?_ _ | refine blk_drew ?_ | refine blk_alloc ?_ _)); exact BK106.out⟩, ⟨by repeat (first | (with_reducible first | exact HB.out | apply below_alloc | apply pw_below_drewN | apply below_drew1 | refine below_set ?_ GE101.out | refine below_set ?_ GE106.out) | exact HB.out)⟩⟩
                      · rw [if_neg c17] at H
                        exact absurd H (by simp)
                    · replace c16 := Bool.eq_false_iff.mpr c16
                      subst c16
                      have H1 : (some ((⟨#[]⟩ : ByteArray), ([] : List Int), 212)) = some (r1, r2, r3) := by rw [if_neg (show ¬ (false = true) by decide)] at H; exact H
                      clear H
                      have H := H1
                      clear H1
                      simp only [Option.some.injEq, Prod.mk.injEq] at H
                      obtain ⟨rfl, rfl, rfl⟩ := H
                      have p108 : 0 ≤ (x36_1 : Int) := of_decide_eq_true (by first | (with_reducible assumption) | assumption)
                      have q108 : x36_1 < ((tl1 l0).length : Int) := of_decide_eq_true (by first | (with_reducible assumption) | assumption)
                      obtain ⟨ad108, e108, hx108_0⟩ := Kd.at_string HR107.out x36_1 p108 q108
                      cases e108
                      replace hx108_0 := (HB.out.cell (World.block_lt_of_cell? w _ hx108_0)).trans hx108_0
                      replace p108 := eq_true p108
                      replace q108 := eq_true q108
                      go_wp2_with (first | ((with_reducible refine gate_callee (f := 39) rfl ?_); refine goesL_ (some 42) rfl rfl Tryd.func39 (by kernel_rfl) rfl #[.string (rdOf ByteArray.empty (tl1 l0) x36_1)] rfl (by (try simp only [List.map_toArray, List.map_cons, List.map_nil]); first | done | rfl | (simp only [List.length_drop, List.length_take]; rfl)) ?_; (with_reducible refine (script_number.calls (rdOf ByteArray.empty (tl1 l0) x36_1) t109 false _ A15.out).mono ?_); rintro e w24 ⟨rfl, hb⟩; refine ⟨_, rfl, ?_⟩; have n0_ := Aside0.mk (Kd.R_below (by (with_reducible repeat (first | apply Kd.R_alloc | apply Kd.R_drewN | apply Kd.R_drew)); exact HO_107001.out) hb); have n1_ := Aside0.mk (blk_below (g := gb101) (o := .cells #[.string x102000_1, .slice none 0 0] 30 (0, 0)) (by (with_reducible repeat (first | refine blk_drewN ?_ _ | refine blk_drew ?_ | refine blk_alloc ?_ _)); exact BK101.out) hb); have n2_ := Aside0.mk (blk_below (g := gb106) (o := .cells #[.string (rdOf ByteArray.empty l0 0), u107001] 30 (0, 0)) (by (with_reducible repeat (first | refine blk_drewN ?_ _ | refine blk_drew ?_ | refine blk_alloc ?_ _)); exact BK106.out) hb); have n3_ := Aside0.mk (below_step (by repeat (first | (with_reducible first | exact HB.out | apply below_alloc | apply pw_below_drewN | apply below_drew1 | refine below_set ?_ GE101.out | refine below_set ?_ GE106.out) | exact HB.out)) hb); clear HO_107001; clear BK101; clear BK106; clear HB; have HO_107001 := n0_; have BK101 := n1_; have BK106 := n2_; have HB := n3_; clear n0_ n1_ n2_ n3_; (try clear hb); (try clear hb2); (try clear hk); (try clear hi); have hnb25 := NB101_106.out; have hnc25 := NB106_101.out; have hcz26_0 : w24.cell? ⟨gb101, 0, none⟩ = some (.string x102000_1) := (blk_cell BK101.out 0).trans rfl; have hcz26_1 : w24.cell? ⟨gb101, 1, none⟩ = some (.slice none 0 0) := (blk_cell BK101.out 1).trans rfl; have hfz26_0 := blk_frozen BK101.out 0; have hfz26_1 := blk_frozen BK101.out 1))
                      refine bodyPost_ret (results_ct rfl _ _ gb101 30 #[.string (⟨#[]⟩ : ByteArray), .slice none 0 0] (0, 0) _ rfl (by (with_reducible repeat (first | refine blk_drewN ?_ _ | refine blk_drew ?_ | refine blk_alloc ?_ _)); refine blk_put (cs := #[.string (⟨#[]⟩ : ByteArray), .slice none 0 0]) ?_ 1 _ rfl; (with_reducible repeat (first | refine blk_drewN ?_ _ | refine blk_drew ?_ | refine blk_alloc ?_ _)); refine blk_put (cs := #[.string x102000_1, .slice none 0 0]) ?_ 0 _ rfl; (with_reducible repeat (first | refine blk_drewN ?_ _ | refine blk_drew ?_ | refine blk_alloc ?_ _)); exact BK101.out) Tryd.underlying30 rfl (by kernel_rfl)) rfl ?_
                      exact ⟨_, by first | rfl | (simp [errW_none, errW_some] <;> rfl) | (simp [*, errW_none, errW_some] <;> rfl), by first | exact Kd.R_nil _ _ _ _ _ | exact Kd.N_nil _ _ _ _ _ | exact Kd.V_nil _ _ _ _ _ | exact Kd.Q_nil _ _ _ _ _ | exact Kd.S_nil _ _ _ _ _, by repeat (first | (with_reducible first | exact HB.out | apply below_alloc | apply pw_below_drewN | apply below_drew1 | refine below_set ?_ GE101.out | refine below_set ?_ GE106.out) | exact HB.out)⟩
                  · rw [if_neg c14] at H
                    exact absurd H (by simp)
                · rw [if_neg c13] at H
                  exact absurd H (by simp)
              · rw [if_neg c12] at H
                have c12b0 : decide (x36_1 < ((tl1 l0).length : Int)) = false := decide_eq_false c12
                clear c12
                simp only [Option.some.injEq, Prod.mk.injEq] at H
                obtain ⟨rfl, rfl, rfl⟩ := H
                have hnb27 := NB106_101.out
                have hnc27 := NB101_106.out
                have hcz28_0 : wr.cell? ⟨gb106, 0, none⟩ = some (.string (rdOf ByteArray.empty l0 0)) := (blk_cell BK106.out 0).trans rfl
                have hcz28_1 : wr.cell? ⟨gb106, 1, none⟩ = some (u107001) := (blk_cell BK106.out 1).trans rfl
                have hfz28_0 := blk_frozen BK106.out 0
                have hfz28_1 := blk_frozen BK106.out 1
                have hcz29_0 : wr.cell? ⟨gb101, 0, none⟩ = some (.string x102000_1) := (blk_cell BK101.out 0).trans rfl
                have hcz29_1 : wr.cell? ⟨gb101, 1, none⟩ = some (.slice none 0 0) := (blk_cell BK101.out 1).trans rfl
                have hfz29_0 := blk_frozen BK101.out 0
                have hfz29_1 := blk_frozen BK101.out 1
                obtain ⟨Ao30, co30, eo30⟩ := Kd.R_slice HO_107001.out
                subst eo30
                go_wp2
                refine bodyPost_ret (results_ct rfl _ _ gb101 30 #[.string (rdOf ByteArray.empty l0 0), .slice Ao30 x107001_1.length co30] (0, 0) _ rfl (by (with_reducible repeat (first | refine blk_drewN ?_ _ | refine blk_drew ?_ | refine blk_alloc ?_ _)); refine blk_put (cs := #[.string (rdOf ByteArray.empty l0 0), .slice none 0 0]) ?_ 1 _ rfl; (with_reducible repeat (first | refine blk_drewN ?_ _ | refine blk_drew ?_ | refine blk_alloc ?_ _)); refine blk_put (cs := #[.string x102000_1, .slice none 0 0]) ?_ 0 _ rfl; (with_reducible repeat (first | refine blk_drewN ?_ _ | refine blk_drew ?_ | refine blk_alloc ?_ _)); exact BK101.out) Tryd.underlying30 rfl (by kernel_rfl)) rfl ?_
                exact ⟨_, by first | rfl | (simp [errW_none, errW_some] <;> rfl) | (simp [*, errW_none, errW_some] <;> rfl), by (with_reducible repeat (first | apply Kd.R_alloc | apply Kd.R_drewN | apply Kd.R_drew)); exact Kd.R_mono (Kd.R_far (p := ⟨gb101, 1, none⟩) (Kd.R_far (p := ⟨gb101, 0, none⟩) (Kd.R_types HO_107001.out BK101.out (by decide)) (fun _ hk => hk.2) (.string (rdOf ByteArray.empty l0 0))) (fun _ hk => hk.2) (.slice Ao30 x107001_1.length co30)) (fun _ hk => trivial), by repeat (first | (with_reducible first | exact HB.out | apply below_alloc | apply pw_below_drewN | apply below_drew1 | refine below_set ?_ GE101.out | refine below_set ?_ GE106.out) | exact HB.out)⟩
        · rw [if_neg c6] at H
          exact absurd H (by simp)
      · rw [if_neg c5] at H
        have c5b0 : ((l0.length : Int) == (wrap64 (t103 + 1))) = false := beq_eq_false_iff_ne.mpr c5
        have c5b1 : ((l0.length : Int) != (wrap64 (t103 + 1))) = true := bne_iff_ne.mpr c5
        simp only [Option.some.injEq, Prod.mk.injEq] at H
        obtain ⟨rfl, rfl, rfl⟩ := H
        go_enter Tryd.func24, Tryd.ntmps24
        go_wp2_with (first | ((with_reducible refine gate_dst (N := 2) rfl ?_); refine box_event ?hg (N := 2) ?hd (cs := #[.string (⟨#[]⟩ : ByteArray), .slice none 0 0]) (t := 30) ?hr ?_; (case hd => rfl); (case hg => rfl); (case hr => first | (go_simp; done) | (go_simp; rfl)); intro gb101 hg w31 hbox hb; have n0_ := Aside0.mk (below_step (by repeat (first | (with_reducible first | exact HB.out | apply below_alloc | apply pw_below_drewN | apply below_drew1) | exact HB.out)) hb); have n1_ := Aside0.mk (hbox); have n2_ := Aside0.mk ((by rw [hg]; exact (below_size (by repeat (first | (with_reducible first | exact HB.out | apply below_alloc | apply pw_below_drewN | apply below_drew1) | exact HB.out))) : w.heap.size ≤ gb101)); have n3_ := Aside0.mk ((by rw [hg]; exact (below_size (by repeat (first | (with_reducible first | exact HB.out | apply below_alloc | apply pw_below_drewN | apply below_drew1) | exact HB.out))) : w.heap.size ≤ gb101)); clear HB; have HB := n0_; have BK101 := n1_; have GW101 := n2_; have GE101 := n3_; clear n0_ n1_ n2_ n3_; clear hb hbox hg; have p102 : 0 ≤ (0 : Int) := (by omega); have q102 : 0 < (l0.length : Int) := of_decide_eq_true (by first | (with_reducible assumption) | assumption); obtain ⟨ad102, e102, hx102_0⟩ := Kd.at_string HR0.out 0 p102 q102; cases e102; have qi102 : (0 < l0.length) = True := eq_true (by omega); (try rw [show ((0 : Int)).toNat = 0 from rfl] at hx102_0); (try rw [Addr.add_zero'] at hx102_0); replace hx102_0 := (HB.out.cell (World.block_lt_of_cell? w _ hx102_0)).trans hx102_0; replace p102 := eq_true p102; replace q102 := eq_true q102) | ((with_reducible refine gate_callee (f := 27) rfl ?_); refine goesL_ (some 15) rfl rfl Tryd.func27 (by kernel_rfl) rfl #[.string (rdOf ByteArray.empty l0 0)] rfl (by (try simp only [List.map_toArray, List.map_cons, List.map_nil]); first | done | rfl | (simp only [List.length_drop, List.length_take]; rfl)) ?_; (with_reducible refine (script_takes.calls k (rdOf ByteArray.empty l0 0) t103 true _ A3.out).mono ?_); rintro e w' ⟨rfl, ⟨nd, rfl⟩⟩; refine ⟨_, rfl, ?_⟩; (try (rw [drewN_self w31]; generalize hq_ : World.drewN w31 _ = w31; have n0_ : Aside0 (w31.heap[gb101]? = some (.cells #[.string (⟨#[]⟩ : ByteArray), .slice none 0 0] 30 (0, 0))) := ⟨by rw [← hq_]; exact (by (with_reducible repeat (first | refine blk_drewN ?_ _ | refine blk_drew ?_ | refine blk_alloc ?_ _)); exact BK101.out)⟩; have n1_ : Aside0 (Below w.heap.size w w31) := ⟨by rw [← hq_]; exact (by repeat (first | (with_reducible first | exact HB.out | apply below_alloc | apply pw_below_drewN | apply below_drew1 | refine below_set ?_ GE101.out) | exact HB.out))⟩; clear BK101 HB hq_; have BK101 := n0_; have HB := n1_; clear n0_ n1_)); have hcz32_0 : w31.cell? ⟨gb101, 0, none⟩ = some (.string (⟨#[]⟩ : ByteArray)) := (blk_cell BK101.out 0).trans rfl; have hcz32_1 : w31.cell? ⟨gb101, 1, none⟩ = some (.slice none 0 0) := (blk_cell BK101.out 1).trans rfl; have hfz32_0 := blk_frozen BK101.out 0; have hfz32_1 := blk_frozen BK101.out 1))
        refine bodyPost_ret (results_ct rfl _ _ gb101 30 #[.string (⟨#[]⟩ : ByteArray), .slice none 0 0] (0, 0) _ rfl (by (with_reducible repeat (first | refine blk_drewN ?_ _ | refine blk_drew ?_ | refine blk_alloc ?_ _)); refine blk_put (cs := #[.string (⟨#[]⟩ : ByteArray), .slice none 0 0]) ?_ 1 _ rfl; (with_reducible repeat (first | refine blk_drewN ?_ _ | refine blk_drew ?_ | refine blk_alloc ?_ _)); refine blk_put (cs := #[.string (⟨#[]⟩ : ByteArray), .slice none 0 0]) ?_ 0 _ rfl; (with_reducible repeat (first | refine blk_drewN ?_ _ | refine blk_drew ?_ | refine blk_alloc ?_ _)); exact BK101.out) Tryd.underlying30 rfl (by kernel_rfl)) rfl ?_
        exact ⟨_, by first | rfl | (simp [errW_none, errW_some] <;> rfl) | (simp [*, errW_none, errW_some] <;> rfl), by first | exact Kd.R_nil _ _ _ _ _ | exact Kd.N_nil _ _ _ _ _ | exact Kd.V_nil _ _ _ _ _ | exact Kd.Q_nil _ _ _ _ _ | exact Kd.S_nil _ _ _ _ _, by repeat (first | (with_reducible first | exact HB.out | apply below_alloc | apply pw_below_drewN | apply below_drew1 | refine below_set ?_ GE101.out) | exact HB.out)⟩
    · replace c4 := Bool.eq_false_iff.mpr c4
      subst c4
      have H1 : (some ((⟨#[]⟩ : ByteArray), ([] : List Int), 211)) = some (r1, r2, r3) := by rw [if_neg (show ¬ (false = true) by decide)] at H; exact H
      clear H
      have H := H1
      clear H1
      simp only [Option.some.injEq, Prod.mk.injEq] at H
      obtain ⟨rfl, rfl, rfl⟩ := H
      go_enter Tryd.func24, Tryd.ntmps24
      go_wp2_with (first | ((with_reducible refine gate_dst (N := 2) rfl ?_); refine box_event ?hg (N := 2) ?hd (cs := #[.string (⟨#[]⟩ : ByteArray), .slice none 0 0]) (t := 30) ?hr ?_; (case hd => rfl); (case hg => rfl); (case hr => first | (go_simp; done) | (go_simp; rfl)); intro gb101 hg w33 hbox hb; have n0_ := Aside0.mk (below_step (by repeat (first | (with_reducible first | exact HB.out | apply below_alloc | apply pw_below_drewN | apply below_drew1) | exact HB.out)) hb); have n1_ := Aside0.mk (hbox); have n2_ := Aside0.mk ((by rw [hg]; exact (below_size (by repeat (first | (with_reducible first | exact HB.out | apply below_alloc | apply pw_below_drewN | apply below_drew1) | exact HB.out))) : w.heap.size ≤ gb101)); have n3_ := Aside0.mk ((by rw [hg]; exact (below_size (by repeat (first | (with_reducible first | exact HB.out | apply below_alloc | apply pw_below_drewN | apply below_drew1) | exact HB.out))) : w.heap.size ≤ gb101)); clear HB; have HB := n0_; have BK101 := n1_; have GW101 := n2_; have GE101 := n3_; clear n0_ n1_ n2_ n3_; clear hb hbox hg; have p102 : 0 ≤ (0 : Int) := (by omega); have q102 : 0 < (l0.length : Int) := of_decide_eq_true (by first | (with_reducible assumption) | assumption); obtain ⟨ad102, e102, hx102_0⟩ := Kd.at_string HR0.out 0 p102 q102; cases e102; have qi102 : (0 < l0.length) = True := eq_true (by omega); (try rw [show ((0 : Int)).toNat = 0 from rfl] at hx102_0); (try rw [Addr.add_zero'] at hx102_0); replace hx102_0 := (HB.out.cell (World.block_lt_of_cell? w _ hx102_0)).trans hx102_0; replace p102 := eq_true p102; replace q102 := eq_true q102) | ((with_reducible refine gate_callee (f := 27) rfl ?_); refine goesL_ (some 15) rfl rfl Tryd.func27 (by kernel_rfl) rfl #[.string (rdOf ByteArray.empty l0 0)] rfl (by (try simp only [List.map_toArray, List.map_cons, List.map_nil]); first | done | rfl | (simp only [List.length_drop, List.length_take]; rfl)) ?_; (with_reducible refine (script_takes.calls k (rdOf ByteArray.empty l0 0) t103 false _ A3.out).mono ?_); rintro e w' ⟨rfl, ⟨nd, rfl⟩⟩; refine ⟨_, rfl, ?_⟩; (try (rw [drewN_self w33]; generalize hq_ : World.drewN w33 _ = w33; have n0_ : Aside0 (w33.heap[gb101]? = some (.cells #[.string (⟨#[]⟩ : ByteArray), .slice none 0 0] 30 (0, 0))) := ⟨by rw [← hq_]; exact (by (with_reducible repeat (first | refine blk_drewN ?_ _ | refine blk_drew ?_ | refine blk_alloc ?_ _)); exact BK101.out)⟩; have n1_ : Aside0 (Below w.heap.size w w33) := ⟨by rw [← hq_]; exact (by repeat (first | (with_reducible first | exact HB.out | apply below_alloc | apply pw_below_drewN | apply below_drew1 | refine below_set ?_ GE101.out) | exact HB.out))⟩; clear BK101 HB hq_; have BK101 := n0_; have HB := n1_; clear n0_ n1_)); have hcz34_0 : w33.cell? ⟨gb101, 0, none⟩ = some (.string (⟨#[]⟩ : ByteArray)) := (blk_cell BK101.out 0).trans rfl; have hcz34_1 : w33.cell? ⟨gb101, 1, none⟩ = some (.slice none 0 0) := (blk_cell BK101.out 1).trans rfl; have hfz34_0 := blk_frozen BK101.out 0; have hfz34_1 := blk_frozen BK101.out 1))
      refine bodyPost_ret (results_ct rfl _ _ gb101 30 #[.string (⟨#[]⟩ : ByteArray), .slice none 0 0] (0, 0) _ rfl (by (with_reducible repeat (first | refine blk_drewN ?_ _ | refine blk_drew ?_ | refine blk_alloc ?_ _)); refine blk_put (cs := #[.string (⟨#[]⟩ : ByteArray), .slice none 0 0]) ?_ 1 _ rfl; (with_reducible repeat (first | refine blk_drewN ?_ _ | refine blk_drew ?_ | refine blk_alloc ?_ _)); refine blk_put (cs := #[.string (⟨#[]⟩ : ByteArray), .slice none 0 0]) ?_ 0 _ rfl; (with_reducible repeat (first | refine blk_drewN ?_ _ | refine blk_drew ?_ | refine blk_alloc ?_ _)); exact BK101.out) Tryd.underlying30 rfl (by kernel_rfl)) rfl ?_
      exact ⟨_, by first | rfl | (simp [errW_none, errW_some] <;> rfl) | (simp [*, errW_none, errW_some] <;> rfl), by first | exact Kd.R_nil _ _ _ _ _ | exact Kd.N_nil _ _ _ _ _ | exact Kd.V_nil _ _ _ _ _ | exact Kd.Q_nil _ _ _ _ _ | exact Kd.S_nil _ _ _ _ _, by repeat (first | (with_reducible first | exact HB.out | apply below_alloc | apply pw_below_drewN | apply below_drew1 | refine below_set ?_ GE101.out) | exact HB.out)⟩
  · rw [if_neg c2] at H
    exact absurd H (by simp)

end Go.Proofs.YtlfoaaeelcmhiaaDoor.G
end

section
/- The contract of script.Parse, by hand: a range over strings.SplitSeq. -/
namespace Go.Proofs.YtlfoaaeelcmhiaaDoor.G
open Go.RowKit Go.Shelf Go.Proofs.YtlfoaaeelcmhiaaDoor.RangeT Go.Proofs.YtlfoaaeelcmhiaaDoorW.PrintWords Go.Proofs.YtlfoaaeelcmhiaaDoorW.PrintLast Go.Proofs.YtlfoaaeelcmhiaaDoorW.PrintMore
attribute [local go_sem] Oper.semAt_some
set_option linter.unusedVariables false
section
variable {F : Fence} {n : Nat} {P : Program} {ops : Array Oper} {rest : List Oper} {o : Oper} {a : Act} {Q : Exit → Act → World → Prop} {α : Type}
/-- append of one element onto a row of elements that lie apart, in a round. -/
theorem listIn_append_S (d : Kd α) {W : World} (base : Nat) (hgd : o.guard = none) (s x : Operand) (t e : TypeId) (z : Value) (bytes : Nat)
    (ho : o.op = .call { callee := .builtin .append, args := #[s, x], argTypes := #[t, t] })
    (ht : P.underlying t = some (.slice e)) (hinfo : (P.info? e).map (fun i => (i.zero, i.size, i.bytes)) = some (some z, d.sz, bytes)) (hz : z.cells.size = d.sz) (hs0 : 0 < d.sz) (hb0 : 0 < bytes)
    (v : Value) (xs : List α) (p : α) (cs : List Value) (ok okp : Nat → Prop) (hs : a.eval s = v) (hx : a.eval x = .slice (some ⟨W.heap.size, 0, none⟩) 1 1) (hp : d.M W base okp p cs) (hokp : ∀ k, okp k → ok k ∧ some k ≠ v.ownBlock) (hfresh : ∀ k, W.heap.size ≤ k → ok k)
    (HO : Kd.S d e W base (fun k => ok k ∧ ¬ okp k) v xs) (hbase : base ≤ W.heap.size) (hl : (xs.length + 1) * bytes ≤ 140737488355328)
    (h : ∀ v1 w1, Kd.S d e w1 base ok v1 (xs ++ [p]) → W.grownBy w1 v.ownBlock → (∀ k, v.ownBlock = some k → base ≤ k ∧ ok k ∧ ∃ cells q, W.heap[k]? = some (.cells cells q (0, 0))) → wpListIn F n P ops Q rest (a.put o.dst v1) w1) :
    wpListIn F n P ops Q (o :: rest) a (W.alloc (.cells cs.toArray e)) := by
  obtain ⟨f, hf, hR⟩ := Kd.S_tag HO xs.length okp (fun _ hk h2 => h2.2 hk)
  obtain ⟨i0, hi, hz0, hz1, hz2⟩ := info_parts hinfo
  have hR' := Kd.R_mono (ok' := ok) hR (fun _ hk => hk.1)
  have hty : ∀ k, v.ownBlock = some k → base ≤ k ∧ ok k ∧ ∃ cells q, W.heap[k]? = some (.cells cells q (0, 0)) := fun k hk => by
    obtain ⟨h0, inner, hown, hr⟩ := hR'
    obtain ⟨cells, hc⟩ := own_typed hown k hk
    exact ⟨own_base hown k hk, h0 k hk, cells, _, hc⟩
  obtain ⟨h0, inner, hown, hr⟩ := hR'
  have hpM : (Kd.tag f d).M W base okp (p, xs.length) cs := d.M_mono (fun k hk => ⟨hk, hf k hk⟩) hp
  have hlen : xs.length + 1 ≤ 140737488355328 := Nat.le_trans (Nat.le_mul_of_pos_right _ hb0) hl
  have hcl : cs.length = d.sz := d.K_len (d.K_of_M hp)
  have hc1 := d.K_one (d.K_of_M hp)
  rw [List.length_zipIdx] at hown
  refine wpListIn_plain hgd fun K hK' => ?_
  obtain ⟨v', w', hrun, r1, r2, r3, r4⟩ := run_append_own_at (P := P) (W.alloc (.cells cs.toArray e)) base t o.type e i0 z d.sz bytes ht hi hz0 hz1 hz2 hz hs0 v xs.length inner (hown.alloc _) ⟨W.heap.size, 0, none⟩ 1 1 cs (by rw [hcl]; simp)
    (by simpa using World.news_of_block (cs := cs.toArray) (t := e) (fr := (0, 0)) (heap_alloc_new W (.cells cs.toArray e))) hc1 (by simp only [maxLen]; omega) hl (by simp; omega)
  have hgr : W.grownBy w' v.ownBlock := World.grownBy.trans (World.grownBy_alloc W _ _) r2
  have hat : v'.ownBlock = v.ownBlock ∨ ∃ b, v'.ownBlock = some b ∧ W.heap.size ≤ b := r4.imp id (fun h => ⟨_, h, by simp⟩)
  have hfin : Kd.S d e w' base ok v' (xs ++ [p]) := by
    refine ⟨f, ?_⟩
    rw [Kd.zip_snoc]
    exact Kd.R_appended (d := Kd.tag f d) h0 hr hpM hokp hfresh (by rw [List.length_zipIdx]; exact r1) hgr hat
  unfold Oper.wpIn
  refine ⟨?_, ?_⟩
  · simp [Oper.about, ho, resolve, Target.leads, Sem.run_pure]
  · rw [Oper.semAt_plain F _ _ (by rw [ho]; intro c hc'; cases hc')]
    simp [execOp, ho, resolve, invoke, builtin, hs, hx, hrun, Result.andThen]
    exact hK' _ _ (h v' w' hfin hgr hty)
end
/-- What Parse answers, line by line. -/
def parseK : Nat := 20
def parseL : List ByteArray → List S30 → Int → Option (List S30 × Int × Int)
  | [], l, _ => some (l, 0, 0)
  | p :: ps, l, at_ =>
    if (Lib.goFieldsP isBlank p).length = 0 then parseL ps l (at_ + 1)
    else if (rdOf ByteArray.empty (Lib.goFieldsP isBlank p) 0).size = 0 then none
    else if bt (rdOf ByteArray.empty (Lib.goFieldsP isBlank p) 0) 0 = 35 then parseL ps l (at_ + 1)
    else if l.length = 4096 then some ([], at_ + 1, 210)
    else match script_command.f parseK (Lib.goFieldsP isBlank p) with
      | none => none
      | some r => if r.2.2 = 0 then parseL ps (l ++ [⟨r.1, r.2.1⟩]) (at_ + 1) else some ([], at_ + 1, r.2.2)
def script_Parse.f (a0 : ByteArray) : Option (List S30 × Int × Int) := if (a0.size : Int) > 65536 then some ([], 0, 210) else parseL (pieces 10 a0.size a0) [] 0
theorem results_cell3 {fn : Func} {p q r : Tmp} {ty tz tu : TypeId} (h : fn.results = #[.cell p ty, .cell q tz, .cell r tu]) (tmps : Array Value) (P : Program) (w : World) {a b c : Addr} {x y z : Value}
    (ha : tmps[p]?.getD undef = .pointer (some a)) (hb : tmps[q]?.getD undef = .pointer (some b)) (hc : tmps[r]?.getD undef = .pointer (some c))
    (hx : (loadVar ty a).run P w = .ok x w) (hy : (loadVar tz b).run P w = .ok y w) (hz : (loadVar tu c).run P w = .ok z w) : (results fn tmps).run P w = .ok (.tuple #[x, y, z]) w := by
  simp only [results, h]
  simp [Sem.run_bind, Result.andThen, ha, hb, hc, hx, hy, hz, asAddr]
/-- What is known between two lines. -/
structure PState (w : World) (ps0 : List ByteArray) (pre : List ByteArray) (T : Blocks) (W : World) : Prop where
  ex : ∃ (l : List S30) (v : Value), W.heap[w.heap.size]? = some (.cells #[v] 23 (0, 0)) ∧ Kd.S k30 30 W w.heap.size (fun k => ¬ T k) v l ∧ l.length ≤ 4096 ∧ (∀ rest, parseL (pre ++ rest) [] 0 = parseL rest l (pre.length : Int))
  at_ : W.heap[w.heap.size + 1]? = some (.cells #[.int .i64 (pre.length : Int)] 3 (0, 0))
  e : W.heap[w.heap.size + 2]? = some (.cells #[.int .i64 0] 24 (0, 0))
  below : Below w.heap.size w W
  own : ∀ k, T k → w.heap.size + 2 < k ∧ k < W.heap.size
/-- What is known where a line was wrong. -/
structure PStop (w : World) (ps0 : List ByteArray) (pre : List ByteArray) (T : Blocks) (W : World) : Prop where
  ex : ∃ (a e : Int), W.heap[w.heap.size]? = some (.cells #[.slice none 0 0] 23 (0, 0)) ∧ W.heap[w.heap.size + 1]? = some (.cells #[.int .i64 a] 3 (0, 0)) ∧ W.heap[w.heap.size + 2]? = some (.cells #[.int .i64 e] 24 (0, 0)) ∧ (∀ rest, parseL (pre ++ rest) [] 0 = some ([], a, e))
  below : Below w.heap.size w W
  own : ∀ k, T k → w.heap.size + 2 < k ∧ k < W.heap.size
theorem turned_below {T T' : Blocks} {A A' w : World} {B : Nat} (h : Below B w A) (ht : Turned T T' A A') (hown : ∀ k, T k → B ≤ k) (hB : B ≤ A.heap.size) : Below B w A' :=
  ⟨ht.os.trans h.os, ht.tape.trans h.tape, ht.output.trans h.output, Nat.le_trans h.size ht.size, fun k hk => (ht.same k (Nat.lt_of_lt_of_le hk hB) (fun h2 => by have := hown k h2; omega)).trans (h.block k hk)⟩
theorem turned_own {T T' : Blocks} {A A' : World} {B : Nat} (ht : Turned T T' A A') (hown : ∀ k, T k → B < k ∧ k < A.heap.size) (hB : B < A.heap.size) : ∀ k, T' k → B < k ∧ k < A'.heap.size := fun k hk => by
  have hs := ht.size
  rcases ht.new k hk with h | h
  · have := hown k h; omega
  · omega
theorem turned_blk {T T' : Blocks} {A A' : World} {j : Nat} {o : Obj} (ht : Turned T T' A A') (hn : ¬ T j) (ho : A.heap[j]? = some o) : A'.heap[j]? = some o := (ht.same j (Array.getElem?_eq_some_iff.1 ho).1 hn).trans ho
theorem pstate_abide (w : World) (ps0 : List ByteArray) : Abide (PState w ps0) := by
  intro pre T T' A A' h ht
  obtain ⟨⟨l, v, h1, h2, h3, h4⟩, ha, he, hb, ho⟩ := h
  have n0 : ∀ j, j ≤ w.heap.size + 2 → ¬ T j := fun j hj hT => by have := ho j hT; omega
  have hsz : w.heap.size + 2 < A.heap.size := (Array.getElem?_eq_some_iff.1 he).1
  refine ⟨⟨l, v, turned_blk ht (n0 _ (by omega)) h1, ?_, h3, h4⟩, turned_blk ht (n0 _ (by omega)) ha, turned_blk ht (n0 _ (by omega)) he, turned_below hb ht (fun k hk => by have := ho k hk; omega) (by omega), turned_own ht ho hsz⟩
  refine Kd.S_mono (Kd.S_step (Kd.S_bound h2) (fun k hk hlt => ht.same k hlt hk.1)) (fun k hk hT' => ?_)
  rcases ht.new k hT' with h | h
  · exact hk.1 h
  · have := hk.2.2.1; omega
theorem pstop_abide (w : World) (ps0 : List ByteArray) : Abide (PStop w ps0) := by
  intro pre T T' A A' h ht
  obtain ⟨⟨a, e, h1, h2, h3, h4⟩, hb, ho⟩ := h
  have n0 : ∀ j, j ≤ w.heap.size + 2 → ¬ T j := fun j hj hT => by have := ho j hT; omega
  have hsz : w.heap.size + 2 < A.heap.size := (Array.getElem?_eq_some_iff.1 h3).1
  exact ⟨⟨a, e, turned_blk ht (n0 _ (by omega)) h1, turned_blk ht (n0 _ (by omega)) h2, turned_blk ht (n0 _ (by omega)) h3, h4⟩, turned_below hb ht (fun k hk => by have := ho k hk; omega) (by omega), turned_own ht ho hsz⟩
theorem grown_blk {A A' : World} {row : Option Nat} {j : Nat} {o : Obj} (hg : A.grownBy A' row) (hr : ∀ r, row = some r → ∃ q : Obj, A.heap[r]? = some q ∧ q.isCells = false) (ho : A.heap[j]? = some o) (hc : o.isCells = true) : A'.heap[j]? = some o := by
  refine (hg.block j (Array.getElem?_eq_some_iff.1 ho).1 (fun e => ?_)).trans ho
  obtain ⟨q, hq, hqc⟩ := hr j e.symm
  rw [ho] at hq
  injection hq with hq
  rw [hq, hqc] at hc
  cases hc
theorem pstate_own (w : World) (ps0 : List ByteArray) (B : Nat) (hB : w.heap.size ≤ B) : OwnT B (PState w ps0) := by
  intro T pre A A' row h hg hr
  obtain ⟨⟨l, v, h1, h2, h3, h4⟩, ha, he, hb, ho⟩ := h
  have hr' : ∀ r, row = some r → ∃ q : Obj, A.heap[r]? = some q ∧ q.isCells = false := fun r e => (hr r e).2
  have hs := hg.size
  refine ⟨⟨l, v, grown_blk hg hr' h1 rfl, ?_, h3, h4⟩, grown_blk hg hr' ha rfl, grown_blk hg hr' he rfl, hb.grown hg hb.size (fun k e => Nat.le_trans hB (hr k e).1), fun k hk => by have := ho k hk; omega⟩
  refine Kd.S_mono (Kd.S_step (Kd.S_bound h2) (fun k hk hlt => ?_)) (fun k hk => hk.1)
  obtain ⟨_, _, _, q, _, cells, hc⟩ := hk
  exact (grown_blk hg hr' hc rfl).trans hc.symm
theorem pstop_own (w : World) (ps0 : List ByteArray) (B : Nat) (hB : w.heap.size ≤ B) : OwnT B (PStop w ps0) := by
  intro T pre A A' row h hg hr
  obtain ⟨⟨a, e, h1, h2, h3, h4⟩, hb, ho⟩ := h
  have hr' : ∀ r, row = some r → ∃ q : Obj, A.heap[r]? = some q ∧ q.isCells = false := fun r e => (hr r e).2
  have hs := hg.size
  exact ⟨⟨a, e, grown_blk hg hr' h1 rfl, grown_blk hg hr' h2 rfl, grown_blk hg hr' h3 rfl, h4⟩, hb.grown hg hb.size (fun k e => Nat.le_trans hB (hr k e).1), fun k hk => by have := ho k hk; omega⟩
theorem pieces_size (c : UInt8) : ∀ (f : Nat) (s x : ByteArray), x ∈ pieces c f s → x.size ≤ s.size
  | 0, s, x, h => by simp [pieces] at h; subst h; exact Nat.le_refl _
  | f + 1, s, x, h => by
    unfold pieces at h
    split at h
    · simp at h; subst h; exact Nat.le_refl _
    · rcases List.mem_cons.1 h with h | h
      · subst h; rw [ByteArray.size_extract]; omega
      · have := pieces_size c f _ x h
        rw [ByteArray.size_extract] at this
        omega
theorem pieces_length (c : UInt8) : ∀ (f : Nat) (s : ByteArray), (pieces c f s).length ≤ f + 1
  | 0, s => by simp [pieces]
  | f + 1, s => by
    unfold pieces
    split
    · simp
    · have := pieces_length c f (s.extract ((Lib.indexByte s.data.toList c).toNat + 1) s.size)
      simp only [List.length_cons]
      omega
theorem parse_results (tmps : Array Value) (X : World) (b0 b1 b2 : Nat) (A : Option Addr) (n c : Nat) (a e : Int) (t2 : tmps[2]?.getD undef = .pointer (some ⟨b0, 0, none⟩)) (t3 : tmps[3]?.getD undef = .pointer (some ⟨b1, 0, none⟩)) (t4 : tmps[4]?.getD undef = .pointer (some ⟨b2, 0, none⟩))
    (h0 : X.heap[b0]? = some (.cells #[.slice A n c] 23 (0, 0))) (h1 : X.heap[b1]? = some (.cells #[.int .i64 a] 3 (0, 0))) (h2 : X.heap[b2]? = some (.cells #[.int .i64 e] 24 (0, 0))) : (results Tryd.f12 tmps).run Tryd.prog X = .ok (.tuple #[.slice A n c, .int .i64 a, .int .i64 e]) X := by
  have hx0 := (blk_cell h0 0).trans rfl
  have hx1 := (blk_cell h1 0).trans rfl
  have hx2 := (blk_cell h2 0).trans rfl
  have hu := Tryd.underlying23
  have hu1 := Tryd.underlying24
  have hu2 := Tryd.underlying3
  refine results_cell3 (p := 2) (q := 3) (r := 4) (ty := 23) (tz := 3) (tu := 24) rfl tmps _ X t2 t3 t4 ?_ ?_ ?_
  · go_simp
  · go_simp
  · go_simp
set_option maxRecDepth 100000 in
set_option maxHeartbeats 4000000 in
theorem script_Parse.calls (a0 : ByteArray) (r1 : List S30) (r2 : Int) (r3 : Int) (w : World) (h : script_Parse.f a0 = some (r1, r2, r3)) :
    Calls Tryd.prog 12 #[.string a0] w fun e w' => ∃ v0_ : Value, e = .returned (.tuple #[v0_, .int .i64 r2, .int .i64 r3]) ∧ Kd.S k30 30 w' w.heap.size (fun _ => True) v0_ r1 ∧ Below w.heap.size w w' := by
  refine (callsIn_wide (n := 3)).1 ?_
  refine callsIn_of_wp_marks Tryd.func12 rfl trivial ?_ rfl
  simp only [Tryd.ntmps12, List.size_toArray, List.length_cons, List.length_nil, Nat.reduceAdd, Nat.reduceSub, Array.replicate_succ, Array.replicate_zero, List.push_toArray, List.append_toArray, List.nil_append, List.cons_append]
  obtain ⟨W1, hW1⟩ : ∃ W1, ((w.alloc (.cells #[.slice none 0 0] 23)).alloc (.cells #[.int .i64 0] 3)).alloc (.cells #[.int .i64 0] 24) = W1 := ⟨_, rfl⟩
  have hb1 : Below w.heap.size w W1 := by rw [← hW1]; exact (((Below.refl _ w).alloc (Nat.le_refl _) _).alloc (by simp) _).alloc (by simp; omega) _
  have hc0 : W1.heap[w.heap.size]? = some (.cells #[.slice none 0 0] 23 (0, 0)) := by
    rw [← hW1]; exact (Below.heap_alloc _ _ _ (by simp; omega)).trans ((Below.heap_alloc _ _ _ (by simp)).trans (World.alloc_heap_new w _))
  have hc1 : W1.heap[w.heap.size + 1]? = some (.cells #[.int .i64 0] 3 (0, 0)) := by
    rw [← hW1]; refine (Below.heap_alloc _ _ _ (by simp)).trans ?_; have := World.alloc_heap_new (w.alloc (.cells #[.slice none 0 0] 23)) (.cells #[.int .i64 0] 3); rwa [World.size_alloc] at this
  have hc2 : W1.heap[w.heap.size + 2]? = some (.cells #[.int .i64 0] 24 (0, 0)) := by
    rw [← hW1]; have := World.alloc_heap_new ((w.alloc (.cells #[.slice none 0 0] 23)).alloc (.cells #[.int .i64 0] 3)) (.cells #[.int .i64 0] 24); rwa [World.size_alloc, World.size_alloc] at this
  have hsz1 : W1.heap.size = w.heap.size + 3 := by rw [← hW1]; simp
  by_cases hlong : (65536 : Int) < (a0.size : Int)
  · have hd := decide_eq_true hlong
    unfold script_Parse.f at h
    rw [if_pos hlong] at h
    injection h with h
    injection h with e1 h
    injection h with e2 e3
    subst e1 e2 e3
    have hx0 := (blk_cell hc0 0).trans rfl
    have hx1 := (blk_cell hc1 0).trans rfl
    have hx2 := (blk_cell hc2 0).trans rfl
    have hf0 := blk_frozen hc0 0
    have hf1 := blk_frozen hc1 0
    have hf2 := blk_frozen hc2 0
    have hn01 : w.heap.size ≠ w.heap.size + 1 := by omega
    have hn02 : w.heap.size ≠ w.heap.size + 1 + 1 := by omega
    have hn12 : w.heap.size + 1 ≠ w.heap.size + 1 + 1 := by omega
    gi_wp2
    refine ⟨_, parse_results _ _ w.heap.size (w.heap.size + 1) (w.heap.size + 1 + 1) none 0 0 0 210 rfl rfl rfl ?_ ?_ ?_, _, rfl, Kd.S_nil _ _ _ _ _, ?_⟩
    · exact (Below.heap_setCell _ _ _ _ hn02).trans ((Below.heap_setCell _ _ _ _ hn01).trans (blk_put hc0 0 _ rfl))
    · exact (Below.heap_setCell _ _ _ _ hn12).trans (blk_put ((Below.heap_setCell _ _ _ _ (Ne.symm hn01)).trans hc1) 0 _ rfl)
    · exact blk_put ((Below.heap_setCell _ _ _ _ (Ne.symm hn12)).trans ((Below.heap_setCell _ _ _ _ (Ne.symm hn02)).trans hc2)) 0 _ rfl
    · exact below_set (below_set (below_set hb1 (Nat.le_refl _)) (Nat.le_succ _)) (by omega)
  · have hd := decide_eq_false hlong
    have hle : a0.size ≤ 65536 := by omega
    unfold script_Parse.f at h
    rw [if_neg hlong] at h
    gi_wp2_with (first | (refine ⟨trivial, ?_⟩; gi_at_call 22; refine (callsIn_wide.2 (SplitSeq_calls a0 ⟨#[10]⟩ _)).mono ?_; rintro e w' ⟨rfl, rfl⟩))
    obtain ⟨W2, hW2⟩ : ∃ W2, ((W1.alloc (.cells #[.string a0] 9)).alloc (.cells #[.string ⟨#[10]⟩] 9)).alloc (.cells #[.int .i64 0] 3) = W2 := ⟨_, rfl⟩
    rw [hW2]
    have hb12 : Below W1.heap.size W1 W2 := by rw [← hW2]; exact (((Below.refl _ W1).alloc (Nat.le_refl _) _).alloc (by simp) _).alloc (by simp; omega) _
    have hs2 : W2.heap[w.heap.size + 3]? = some (.cells #[.string a0] 9 (0, 0)) := by
      rw [← hW2, ← hsz1]; exact (Below.heap_alloc _ _ _ (by simp; omega)).trans ((Below.heap_alloc _ _ _ (by simp)).trans (World.alloc_heap_new W1 _))
    have hs1 : W2.heap[w.heap.size + 3 + 1]? = some (.cells #[.string ⟨#[10]⟩] 9 (0, 0)) := by
      rw [← hW2, ← hsz1]; refine (Below.heap_alloc _ _ _ (by simp)).trans ?_; have := World.alloc_heap_new (W1.alloc (.cells #[.string a0] 9)) (.cells #[.string ⟨#[10]⟩] 9); rwa [World.size_alloc] at this
    have hs3 : W2.heap[w.heap.size + 3 + 2]? = some (.cells #[.int .i64 0] 3 (0, 0)) := by
      rw [← hW2, ← hsz1]; have := World.alloc_heap_new ((W1.alloc (.cells #[.string a0] 9)).alloc (.cells #[.string ⟨#[10]⟩] 9)) (.cells #[.int .i64 0] 3); rwa [World.size_alloc, World.size_alloc] at this
    have hsz2 : W2.heap.size = w.heap.size + 6 := by rw [← hW2]; simp; omega
    have hst : SplitState (w.heap.size + 3 + 1) (w.heap.size + 3) (w.heap.size + 3 + 2) 10 a0 W2 := ⟨hs1, hs2, hs3⟩
    have hp0 : PState w (pieces 10 a0.size a0) [] (splitOwn (w.heap.size + 3 + 1) (w.heap.size + 3) (w.heap.size + 3 + 2)) W2 :=
      ⟨⟨[], .slice none 0 0, (hb12.block _ (by omega)).trans hc0, Kd.S_nil _ _ _ _ _, by simp, fun _ => rfl⟩, (hb12.block _ (by omega)).trans hc1, (hb12.block _ (by omega)).trans hc2, hb1.trans (hb12.mono (by omega)),
        fun k hk => by rcases hk with h | h | h <;> omega⟩
    refine wpIn_rangeFunc_T (n := 3) rfl (by omega) (gf := 43) (lb := #[.pointer (some ⟨w.heap.size + 3 + 1, 0, none⟩), .pointer (some ⟨w.heap.size + 3, 0, none⟩), .pointer (some ⟨w.heap.size + 3 + 2, 0, none⟩)]) rfl trivial (enters_of Tryd.func43 (by kernel_rfl) rfl)
      (split_stops 2 (by omega) _ _ _ (by omega) (by omega) 10 a0 (by omega) W2 hst) (fun k hk => by rcases hk with h | h | h <;> omega) (fun _ _ => trivial) (fun _ _ _ _ _ _ _ _ => trivial) (fun _ => rfl)
      (PState w (pieces 10 a0.size a0)) (fun c pre T W => c = .ret ∧ PStop w (pieces 10 a0.size a0) pre T W) (pstate_abide _ _) (fun c s T T' A A' h ht => ⟨h.1, pstop_abide _ _ _ _ _ _ _ h.2 ht⟩)
      (pstate_own _ _ _ (by omega)) (fun c T s A A' row h hg hr => ⟨h.1, pstop_own w (pieces 10 a0.size a0) W2.heap.size (by omega) T s A A' row h.2 hg hr⟩) hp0
      (fun x => { tmps := #[.string a0, undef, .pointer (some ⟨w.heap.size, 0, none⟩), .pointer (some ⟨w.heap.size + 1, 0, none⟩), .pointer (some ⟨w.heap.size + 1 + 1, 0, none⟩), .string x, undef, undef, undef, .string a0, .int .i64 a0.size, .bool false, .string a0,
          .func (.func 43) #[] #[.pointer (some ⟨w.heap.size + 3 + 1, 0, none⟩), .pointer (some ⟨w.heap.size + 3, 0, none⟩), .pointer (some ⟨w.heap.size + 3 + 2, 0, none⟩)], .string x, undef, undef, undef, undef, undef, undef, undef, undef, undef, undef, undef, undef, undef, undef, undef, undef, undef, undef, undef, undef, undef, undef, undef, undef, undef, undef, undef, undef, undef, undef, undef, undef], defers := [] }) ?assign ?body ?done ?stop
    case assign =>
      intro l x W K hK
      gi_wp2
      exact hK
    case body =>
      intro l pre x T W hP ⟨more, hmore⟩
      have hxs : x.size ≤ 4294967296 := by
        have := pieces_size 10 a0.size a0 x (by rw [← hmore]; simp)
        omega
      have hn : pre.length ≤ 65537 := by
        have := pieces_length 10 a0.size a0
        rw [← hmore] at this
        simp only [List.length_append] at this
        omega
      obtain ⟨⟨ll, v, h1, h2, h3, h4⟩, ha, he, hb, ho⟩ := hP
      have hH : parseL (x :: more) ll (pre.length : Int) = some (r1, r2, r3) := by
        have := h4 (x :: more)
        rw [show pre ++ x :: more = pieces 10 a0.size a0 from by rw [← hmore]; simp, h] at this
        exact this.symm
      clear hp0 hst hs1 hs2 hs3 hb12 hW2 hb1 hc0 hc1 hc2 hmore h
      obtain ⟨A, c, rfl⟩ := Kd.R_slice (Kd.S_R h2)
      have hwords : script_words.f x = some (Lib.goFieldsP isBlank x) := by unfold script_words.f; rw [if_pos hxs]
      obtain ⟨ws, hws⟩ : ∃ ws, Lib.goFieldsP isBlank x = ws := ⟨_, rfl⟩
      rw [hws] at hwords
      have hx1 := (blk_cell ha 0).trans rfl
      have hf1 := blk_frozen ha 0
      have hw1 : IntKind.i64.wrap ((pre.length : Int) + 1) = (pre.length : Int) + 1 := by rw [IntKind.wrap_i64]; omega
      have h11 : 1 ≤ 3 - 1 - 1 := by omega
      have hn01 : w.heap.size ≠ w.heap.size + 1 := by omega
      have hn02 : w.heap.size ≠ w.heap.size + 1 + 1 := by omega
      have hn12 : w.heap.size + 1 ≠ w.heap.size + 1 + 1 := by omega
      have g0 : (W.setCell ⟨w.heap.size + 1, 0, none⟩ (.int .i64 ((pre.length : Int) + 1))).heap[w.heap.size]? = some (.cells #[.slice A ll.length c] 23 (0, 0)) := (Below.heap_setCell _ _ _ _ hn01).trans h1
      have g1 : (W.setCell ⟨w.heap.size + 1, 0, none⟩ (.int .i64 ((pre.length : Int) + 1))).heap[w.heap.size + 1]? = some (.cells #[.int .i64 ((pre.length : Int) + 1)] 3 (0, 0)) := blk_put ha 0 _ rfl
      have g2 : (W.setCell ⟨w.heap.size + 1, 0, none⟩ (.int .i64 ((pre.length : Int) + 1))).heap[w.heap.size + 1 + 1]? = some (.cells #[.int .i64 0] 24 (0, 0)) := (Below.heap_setCell _ _ _ _ (Ne.symm hn12)).trans he
      have gS : Kd.S k30 30 (W.setCell ⟨w.heap.size + 1, 0, none⟩ (.int .i64 ((pre.length : Int) + 1))) w.heap.size (fun k => ¬ T k ∧ k ≠ w.heap.size + 1) (.slice A ll.length c) ll := Kd.S_far (Kd.S_types h2 ha (by decide)) (p := ⟨w.heap.size + 1, 0, none⟩) (fun k hk => hk.2) _
      have gB : Below w.heap.size w (W.setCell ⟨w.heap.size + 1, 0, none⟩ (.int .i64 ((pre.length : Int) + 1))) := below_set hb (Nat.le_succ _)
      have gK : KeepsFrom W2.heap.size W (W.setCell ⟨w.heap.size + 1, 0, none⟩ (.int .i64 ((pre.length : Int) + 1))) := (KeepsOthers.setCell _ _ _).from _
      have gT : ∀ k, T k → k < W.heap.size → (W.setCell ⟨w.heap.size + 1, 0, none⟩ (.int .i64 ((pre.length : Int) + 1))).heap[k]? = W.heap[k]? := fun k hk _ => Below.heap_setCell _ _ _ _ (by have := ho k hk; intro e; simp at e; omega)
      have gsz : (W.setCell ⟨w.heap.size + 1, 0, none⟩ (.int .i64 ((pre.length : Int) + 1))).heap.size = W.heap.size := by simp [World.setCell]
      obtain ⟨X, hX⟩ : ∃ X, W.setCell ⟨w.heap.size + 1, 0, none⟩ (.int .i64 ((pre.length : Int) + 1)) = X := ⟨_, rfl⟩
      rw [hX] at g0 g1 g2 gS gB gK gT gsz
      clear h1 ha he hb h2
      have hplen : ((pre ++ [x]).length : Int) = (pre.length : Int) + 1 := by simp
      -- the next line is read in a state that keeps all of this
      have next : ∀ (X2 : World) (_ : Below X.heap.size X X2), (∀ rest, parseL ((pre ++ [x]) ++ rest) [] 0 = parseL rest ll ((pre.length : Int) + 1)) → postT W2.heap.size T (fun _ _ => True) (PState w (pieces 10 a0.size a0)) (fun c pre T W => c = .ret ∧ PStop w (pieces 10 a0.size a0) pre T W) (pre ++ [x]) W .normal { tmps := #[], defers := [] } X2 := by
        intro X2 hb2 hpar
        have hs2 := hb2.size
        refine ⟨gK.trans ⟨hb2.size, fun k o _ hk _ => (hb2.block k (Array.getElem?_eq_some_iff.1 hk).1).trans hk⟩, trivial, fun k hk hlt => (hb2.block k (by omega)).trans (gT k hk hlt), ?_⟩
        refine ⟨⟨ll, _, (hb2.block _ (Array.getElem?_eq_some_iff.1 g0).1).trans g0, Kd.S_mono (Kd.S_below gS hb2) (fun k hk => hk.1), h3, fun rest => by rw [hpar rest, hplen]⟩, by rw [hplen]; exact (hb2.block _ (Array.getElem?_eq_some_iff.1 g1).1).trans g1, (hb2.block _ (Array.getElem?_eq_some_iff.1 g2).1).trans g2, gB.trans (hb2.mono gB.size), fun k hk => by have := ho k hk; omega⟩
      have stopW : ∀ (X2 : World) (_ : Below X.heap.size X X2) (e : Int), (∀ rest, parseL ((pre ++ [x]) ++ rest) [] 0 = some ([], (pre.length : Int) + 1, e)) → postT W2.heap.size T (fun _ _ => True) (PState w (pieces 10 a0.size a0)) (fun c pre T W => c = .ret ∧ PStop w (pieces 10 a0.size a0) pre T W) (pre ++ [x]) W .ret { tmps := #[], defers := [] }
          (((X2.setCell ⟨w.heap.size, 0, none⟩ (.slice none 0 0)).setCell ⟨w.heap.size + 1, 0, none⟩ (.int .i64 ((pre.length : Int) + 1))).setCell ⟨w.heap.size + 1 + 1, 0, none⟩ (.int .i64 e)).drew := by
        intro X2 hb2 e hpar
        have hs2 := hb2.size
        have j0 := (hb2.block _ (Array.getElem?_eq_some_iff.1 g0).1).trans g0
        have j1 := (hb2.block _ (Array.getElem?_eq_some_iff.1 g1).1).trans g1
        have j2 := (hb2.block _ (Array.getElem?_eq_some_iff.1 g2).1).trans g2
        refine ⟨((gK.trans ⟨hb2.size, fun k o _ hk _ => (hb2.block k (Array.getElem?_eq_some_iff.1 hk).1).trans hk⟩).trans (((KeepsOthers.setCell _ _ _).trans ((KeepsOthers.setCell _ _ _).trans (KeepsOthers.setCell _ _ _))).from _)).trans ((KeepsOthers.drew _).from _), rfl, ?_⟩
        refine ⟨⟨(pre.length : Int) + 1, e, ?_, ?_, ?_, hpar⟩, ?_, fun k hk => by have := ho k hk; have h1 : (World.drew (((X2.setCell ⟨w.heap.size, 0, none⟩ (.slice none 0 0)).setCell ⟨w.heap.size + 1, 0, none⟩ (.int .i64 ((pre.length : Int) + 1))).setCell ⟨w.heap.size + 1 + 1, 0, none⟩ (.int .i64 e))).heap.size = X2.heap.size := (by simp [World.setCell]); omega⟩
        · exact (Below.heap_setCell _ _ _ _ hn02).trans ((Below.heap_setCell _ _ _ _ hn01).trans (blk_put j0 0 _ rfl))
        · exact (Below.heap_setCell _ _ _ _ hn12).trans (blk_put ((Below.heap_setCell _ _ _ _ (Ne.symm hn01)).trans j1) 0 _ rfl)
        · exact blk_put ((Below.heap_setCell _ _ _ _ (Ne.symm hn12)).trans ((Below.heap_setCell _ _ _ _ (Ne.symm hn02)).trans j2)) 0 _ rfl
        · exact (below_set (below_set (below_set (gB.trans (hb2.mono gB.size)) (Nat.le_refl _)) (Nat.le_succ _)) (by omega)).drew
      have hL : ∀ rest, parseL ((pre ++ [x]) ++ rest) [] 0 = parseL (x :: rest) ll (pre.length : Int) := fun rest => by rw [← h4 (x :: rest)]; simp
      by_cases c1 : ws.length = 0
      · have hpar : ∀ rest, parseL ((pre ++ [x]) ++ rest) [] 0 = parseL rest ll ((pre.length : Int) + 1) := fun rest => by
          rw [hL rest]; simp only [parseL]; rw [hws, if_pos c1]
        have NX := Aside0.mk (fun X2 hb2 => next X2 hb2 hpar)
        have c1b : ((ws.length : Int) == 0) = true := by rw [c1]; rfl
        have HW := Aside0.mk (script_words.calls x ws X hwords)
        clear next stopW hpar hL gS gB gK gT g0 g1 g2 gsz h4 hH hwords
        gi_wp2_with (first | (refine ⟨trivial, ?_⟩; gi_at_call 23; refine (CallsIn.inRound l (callsIn_wide.2 HW.out)).mono ?_; rintro e w2 ⟨v0, rfl, hR, hb⟩; obtain ⟨A2, c2, rfl⟩ := Kd.R_slice hR; have HR := Aside0.mk hR; have HB2 := Aside0.mk hb; clear hR hb))
        exact NX.out w2 HB2.out
      · obtain ⟨wd, hwd⟩ : ∃ wd, rdOf ByteArray.empty ws 0 = wd := ⟨_, rfl⟩
        have c1b : ((ws.length : Int) == 0) = false := beq_eq_false_iff_ne.2 (by omega)
        have HW := Aside0.mk (script_words.calls x ws X hwords)
        by_cases c2 : wd.size = 0
        · simp only [parseL] at hH
          rw [hws, if_neg c1, hwd, if_pos c2] at hH
          cases hH
        · have hws0 : (0 : Int) < (ws.length : Int) := by omega
          have hws1 : (0 < ws.length) = True := eq_true (by omega)
          have hwd1 : (0 < wd.size) = True := eq_true (by omega)
          have hwd2 : ((0 : Int) < (wd.size : Int)) = True := eq_true (by omega)
          have hbt : ∀ h : 0 < wd.size, ((wd[0]'h).toNat : Int) = bt wd 0 := bt_at wd 0
          by_cases c3 : bt wd 0 = 35
          · have hpar : ∀ rest, parseL ((pre ++ [x]) ++ rest) [] 0 = parseL rest ll ((pre.length : Int) + 1) := fun rest => by
              rw [hL rest]; simp only [parseL]; rw [hws, if_neg c1, hwd, if_neg c2, if_pos c3]
            have NX := Aside0.mk (fun X2 hb2 => next X2 hb2 hpar)
            have c3b : (bt wd 0 == 35) = true := beq_iff_eq.2 c3
            clear next stopW hpar hL gS gB gK gT g0 g1 g2 gsz h4 hH hwords
            gi_wp2_with (first | (refine ⟨trivial, ?_⟩; gi_at_call 23; refine (CallsIn.inRound l (callsIn_wide.2 HW.out)).mono ?_; rintro e w2 ⟨v0, rfl, hR, hb⟩; obtain ⟨A2, c2, rfl⟩ := Kd.R_slice hR; obtain ⟨ad, ea, hw0⟩ := Kd.at_string (Kd.R_reads' hR).2.2 0 (Int.le_refl _) hws0; subst ea; rw [hwd, show (0 : Int).toNat = 0 from rfl, Addr.add_zero'] at hw0; have HB2 := Aside0.mk hb; clear hR hb))
            exact NX.out w2 HB2.out
          · have c3b : (bt wd 0 == 35) = false := beq_eq_false_iff_ne.2 c3
            by_cases c4 : ll.length = 4096
            · have c4b : ((ll.length : Int) == 4096) = true := beq_iff_eq.2 (by omega)
              have c4n : (ll.length == 4096) = true := beq_iff_eq.2 c4
              have hpar : ∀ rest, parseL ((pre ++ [x]) ++ rest) [] 0 = some ([], (pre.length : Int) + 1, 210) := fun rest => by
                rw [hL rest]; simp only [parseL]; rw [hws, if_neg c1, hwd, if_neg c2, if_neg c3, if_pos c4]
              have ST := Aside0.mk (fun X2 hb2 => stopW X2 hb2 210 hpar)
              clear next stopW hpar hL
              gi_wp2_with (first | (refine ⟨trivial, ?_⟩; gi_at_call 23; refine (CallsIn.inRound l (callsIn_wide.2 HW.out)).mono ?_; rintro e w2 ⟨v0, rfl, hR, hb⟩; obtain ⟨A2, c2, rfl⟩ := Kd.R_slice hR; obtain ⟨ad, ea, hw0⟩ := Kd.at_string (Kd.R_reads' hR).2.2 0 (Int.le_refl _) hws0; subst ea; rw [hwd, show (0 : Int).toNat = 0 from rfl, Addr.add_zero'] at hw0; have HB2 := Aside0.mk hb; have k0 := (hb.block _ (Array.getElem?_eq_some_iff.1 g0).1).trans g0; have k1 := (hb.block _ (Array.getElem?_eq_some_iff.1 g1).1).trans g1; have k2 := (hb.block _ (Array.getElem?_eq_some_iff.1 g2).1).trans g2; have x0 := (blk_cell k0 0).trans rfl; have x1 := (blk_cell k1 0).trans rfl; have x2 := (blk_cell k2 0).trans rfl; have y0 := blk_frozen k0 0; have y1 := blk_frozen k1 0; have y2 := blk_frozen k2 0; clear hR hb))
              clear gS gB gK gT g0 g1 g2 gsz h4 hH hwords k0 k1 k2
              gi_region
              all_goals gi_wp2
              all_goals exact ST.out w2 HB2.out
            · have c4b : ((ll.length : Int) == 4096) = false := beq_eq_false_iff_ne.2 (by omega)
              have c4n : (ll.length == 4096) = false := beq_eq_false_iff_ne.2 c4
              obtain ⟨q, hq⟩ : ∃ q, script_command.f parseK ws = q := ⟨_, rfl⟩
              cases q with
              | none =>
                simp only [parseL] at hH
                rw [hws, if_neg c1, hwd, if_neg c2, if_neg c3, if_neg c4, hq] at hH
                cases hH
              | some r =>
                obtain ⟨q1, q2, q3⟩ := r
                have HQ := Aside0.mk hq
                by_cases c5 : q3 = 0
                · subst c5
                  have hpar : ∀ rest, parseL ((pre ++ [x]) ++ rest) [] 0 = parseL rest (ll ++ [⟨q1, q2⟩]) ((pre.length : Int) + 1) := fun rest => by
                    rw [hL rest]; simp only [parseL]; rw [hws, if_neg c1, hwd, if_neg c2, if_neg c3, if_neg c4, hq]
                    simp only
                    rw [if_pos trivial]
                  have HPAR := Aside0.mk hpar
                  have hS3 := Kd.S_types (Kd.S_types (Kd.S_types gS g0 (by decide)) g1 (by decide)) g2 (by decide)
                  have HS3 := Aside0.mk hS3
                  clear next stopW hpar hL hq hS3
                  have hgx2 : w.heap.size + 1 + 1 < X.heap.size := (Array.getElem?_eq_some_iff.1 g2).1
                  have hown := Kd.S_lt gS
                  have HOKP : Aside0 (∀ (w2 w3 : World), Below X.heap.size X w2 → ∀ k, (w2.heap.size ≤ k ∧ k < w3.heap.size) → (fun k => (((¬ T k ∧ k ≠ w.heap.size + 1) ∧ k ≠ w.heap.size) ∧ k ≠ w.heap.size + 1) ∧ k ≠ w.heap.size + 1 + 1) k ∧ some k ≠ (Value.slice A ll.length c).ownBlock) := ⟨fun w2 w3 hb k hk => by
                    have h1 := hb.size
                    have hT : ¬ T k := fun h => by have := ho k h; omega
                    exact ⟨⟨⟨⟨⟨hT, by omega⟩, by omega⟩, by omega⟩, by omega⟩, fun e => by have := hown k e.symm; omega⟩⟩
                  have HFRESH : Aside0 (∀ (w3 : World) (A3_ : Option Addr) (c3_ : Nat), Below X.heap.size X w3 → ∀ k, (w3.alloc (.cells #[.string q1, .slice A3_ q2.length c3_] 30)).heap.size ≤ k → (fun k => (((¬ T k ∧ k ≠ w.heap.size + 1) ∧ k ≠ w.heap.size) ∧ k ≠ w.heap.size + 1) ∧ k ≠ w.heap.size + 1 + 1) k) := ⟨fun w3 A3_ c3_ hb k hk => by
                    have h1 := hb.size
                    rw [World.size_alloc] at hk
                    have hT : ¬ T k := fun h => by have := ho k h; omega
                    exact ⟨⟨⟨⟨hT, by omega⟩, by omega⟩, by omega⟩, by omega⟩⟩
                  have hl40 : Aside0 ((ll.length + 1) * 40 ≤ 140737488355328) := ⟨by omega⟩
                  gi_wp2_with (first
                    | (refine ⟨trivial, ?_⟩; gi_at_call 23; refine (CallsIn.inRound l (callsIn_wide.2 HW.out)).mono ?_; rintro e w2 ⟨v0, rfl, hR, hb⟩; obtain ⟨A2, c2, rfl⟩ := Kd.R_slice hR; obtain ⟨ad, ea, hw0⟩ := Kd.at_string (Kd.R_reads' hR).2.2 0 (Int.le_refl _) hws0; subst ea; rw [hwd, show (0 : Int).toNat = 0 from rfl, Addr.add_zero'] at hw0; have HR := Aside0.mk hR; have HB2 := Aside0.mk hb; have k0 := (hb.block _ (Array.getElem?_eq_some_iff.1 g0).1).trans g0; have k1 := (hb.block _ (Array.getElem?_eq_some_iff.1 g1).1).trans g1; have k2 := (hb.block _ (Array.getElem?_eq_some_iff.1 g2).1).trans g2; have x0 := (blk_cell k0 0).trans rfl; have x1 := (blk_cell k1 0).trans rfl; have x2 := (blk_cell k2 0).trans rfl; have y0 := blk_frozen k0 0; have y1 := blk_frozen k1 0; have y2 := blk_frozen k2 0; clear hR hb)
                    | (refine ⟨trivial, ?_⟩; gi_at_call 24; refine (CallsIn.inRound l (callsIn_wide.2 (script_command.calls parseK _ _ ws q1 q2 0 _ (Kd.R_reads' HR.out).2.2 (Kd.R_reads' HR.out).2.1 HQ.out))).mono ?_; rintro e w3 ⟨v1, rfl, hR1, hb⟩; obtain ⟨A3, c3', rfl⟩ := Kd.R_slice hR1; have HR1 := Aside0.mk hR1; have HB3 := Aside0.mk hb; have HB23 := Aside0.mk (below_step HB2.out hb); have m0 := (hb.block _ (Array.getElem?_eq_some_iff.1 k0).1).trans k0; have m1 := (hb.block _ (Array.getElem?_eq_some_iff.1 k1).1).trans k1; have m2 := (hb.block _ (Array.getElem?_eq_some_iff.1 k2).1).trans k2; have z0 := (blk_cell m0 0).trans rfl; have z1 := (blk_cell m1 0).trans rfl; have z2 := (blk_cell m2 0).trans rfl; have t0 := blk_frozen m0 0; have t1 := blk_frozen m1 0; have t2 := blk_frozen m2 0; clear hR1 hb; have hb4 := below_alloc (Below.refl w3.heap.size w3) (.cells #[.string q1, .slice A3 q2.length c3'] 30); have n0 := (hb4.block _ (Array.getElem?_eq_some_iff.1 m0).1).trans m0; have n1 := (hb4.block _ (Array.getElem?_eq_some_iff.1 m1).1).trans m1; have n2 := (hb4.block _ (Array.getElem?_eq_some_iff.1 m2).1).trans m2; have nb := World.alloc_heap_new w3 (.cells #[.string q1, .slice A3 q2.length c3'] 30); have v0 := (blk_cell n0 0).trans rfl; have u0 := blk_frozen n0 0; have vb0 := (blk_cell nb 0).trans rfl; have vb1 := (blk_cell nb 1).trans rfl)
                    | (gi_at_builtin; go_must (refine listIn_append_S (W := (w3.alloc (.cells #[.string q1, .slice A3 q2.length c3'] 30))) k30 w.heap.size rfl (.tmp 42) (.tmp 44) 23 30 (.agg #[(.string ⟨#[]⟩), (.slice none 0 0)]) 40 rfl Tryd.underlying23 info30 rfl (by decide) (by omega) (.slice A ll.length c) ll ⟨q1, q2⟩ [.string q1, .slice A3 q2.length c3'] (fun k => (((¬ T k ∧ k ≠ w.heap.size + 1) ∧ k ≠ w.heap.size) ∧ k ≠ w.heap.size + 1) ∧ k ≠ w.heap.size + 1 + 1) (fun k => w2.heap.size ≤ k ∧ k < w3.heap.size) rfl ?hx ?hp ?hokp ?hfresh ?HO ?hbase ?hl ?_; (case hx => exact congrArg (fun j => Value.slice (some ⟨j, 0, none⟩) 1 1) (World.size_alloc w3 _).symm); (case hp => exact k30_mkM _ w.heap.size _ ⟨q1, q2⟩ (Kd.R_lower (Kd.R_mono (Kd.R_below (Kd.R_bound HR1.out) (below_alloc (Below.refl _ _) _)) (fun k hk => ⟨hk.2.1, hk.2.2.1⟩)) (Nat.le_trans gB.size HB2.out.size))); (case hokp => exact HOKP.out w2 w3 HB2.out); (case hfresh => exact HFRESH.out w3 _ _ HB23.out); (case HO => exact Kd.S_mono (Kd.S_below (Kd.S_bound HS3.out) (below_alloc HB23.out _)) (fun k hk => ⟨hk.1, fun h => Nat.lt_irrefl _ (Nat.lt_of_lt_of_le hk.2.2.1 (Nat.le_trans HB2.out.size h.1))⟩)); (case hbase => exact Nat.le_trans gB.size (below_alloc HB23.out _).size); (case hl => exact hl40.out); intro v5 w5 hS5 hg5 hty; obtain ⟨A5, c5, rfl⟩ := Kd.R_slice (Kd.S_R hS5); have e0 := (hg5.block w.heap.size (Array.getElem?_eq_some_iff.1 n0).1 (fun e => (hty _ e.symm).2.1.1.1.2 rfl)).trans n0; have d0 := (blk_cell e0 0).trans rfl; have d1 := blk_frozen e0 0; have HS5 := Aside0.mk hS5; have HG5 := Aside0.mk hg5; have HTY := Aside0.mk hty; clear hS5 hg5 hty)))
                  have hlen5 : (ll ++ [(⟨q1, q2⟩ : S30)]).length = ll.length + 1 := by simp
                  have hS5 := HS5.out
                  rw [hlen5] at hS5
                  have hg5 := HG5.out
                  have hty := HTY.out
                  have hb34 := below_alloc HB23.out (.cells #[.string q1, .slice A3 q2.length c3'] 30)
                  have e1 := (hg5.block (w.heap.size + 1) (Array.getElem?_eq_some_iff.1 n1).1 (fun e => (hty _ e.symm).2.1.1.2 rfl)).trans n1
                  have e2 := (hg5.block (w.heap.size + 1 + 1) (Array.getElem?_eq_some_iff.1 n2).1 (fun e => (hty _ e.symm).2.1.2 rfl)).trans n2
                  have hs34 := hb34.size
                  have hs5 := hg5.size
                  have hB5 : Below w.heap.size w w5 := (gB.trans (hb34.mono gB.size)).grown hg5 (Nat.le_trans gB.size hs34) (fun k hk => (hty k hk).1)
                  have hsz6 : (w5.setCell ⟨w.heap.size, 0, none⟩ (.slice A5 (ll.length + 1) c5)).heap.size = w5.heap.size := by simp [World.setCell]
                  refine ⟨(gK.trans ⟨hb34.size, fun k o _ hk _ => (hb34.block k (Array.getElem?_eq_some_iff.1 hk).1).trans hk⟩).trans (KeepsFrom.trans ⟨hg5.size, fun k o _ hk hc => ?_⟩ ((KeepsOthers.setCell _ _ _).from _)), trivial, fun k hk hlt => ?_, ?_⟩
                  · refine (hg5.block k (Array.getElem?_eq_some_iff.1 hk).1 (fun e => ?_)).trans hk
                    obtain ⟨_, _, cells, q, hq2⟩ := hty k e.symm
                    rw [hq2] at hk
                    injection hk with hk
                    rw [← hk] at hc
                    cases hc
                  · have hk2 := ho k hk
                    exact (Below.heap_setCell _ _ _ _ (by simp only []; omega)).trans ((hg5.block k (by omega) (fun e => (hty k e.symm).2.1.1.1.1.1 hk)).trans ((hb34.block k (by omega)).trans (gT k hk hlt)))
                  · refine ⟨⟨ll ++ [⟨q1, q2⟩], .slice A5 (ll.length + 1) c5, blk_put e0 0 _ rfl, Kd.S_mono (Kd.S_far hS5 (p := ⟨w.heap.size, 0, none⟩) (fun k hk => hk.1.1.2) _) (fun k hk => hk.1.1.1.1), by rw [hlen5]; omega, fun rest => by rw [HPAR.out rest, hplen]⟩, by rw [hplen]; exact (Below.heap_setCell _ _ _ _ (Ne.symm hn01)).trans e1, (Below.heap_setCell _ _ _ _ (Ne.symm hn02)).trans e2, below_set hB5 (Nat.le_refl _), fun k hk => by have := ho k hk; omega⟩
                · have c5b : (q3 != 0) = true := bne_iff_ne.2 c5
                  have hpar : ∀ rest, parseL ((pre ++ [x]) ++ rest) [] 0 = some ([], (pre.length : Int) + 1, q3) := fun rest => by
                    rw [hL rest]; simp only [parseL]; rw [hws, if_neg c1, hwd, if_neg c2, if_neg c3, if_neg c4, hq]
                    simp only
                    rw [if_neg c5]
                  have ST := Aside0.mk (fun X2 hb2 => stopW X2 hb2 q3 hpar)
                  clear next stopW hpar hL hq
                  gi_wp2_with (first | (refine ⟨trivial, ?_⟩; gi_at_call 23; refine (CallsIn.inRound l (callsIn_wide.2 HW.out)).mono ?_; rintro e w2 ⟨v0, rfl, hR, hb⟩; obtain ⟨A2, c2, rfl⟩ := Kd.R_slice hR; obtain ⟨ad, ea, hw0⟩ := Kd.at_string (Kd.R_reads' hR).2.2 0 (Int.le_refl _) hws0; subst ea; rw [hwd, show (0 : Int).toNat = 0 from rfl, Addr.add_zero'] at hw0; have HR := Aside0.mk hR; have HB2 := Aside0.mk hb; have k0 := (hb.block _ (Array.getElem?_eq_some_iff.1 g0).1).trans g0; have k1 := (hb.block _ (Array.getElem?_eq_some_iff.1 g1).1).trans g1; have k2 := (hb.block _ (Array.getElem?_eq_some_iff.1 g2).1).trans g2; have x0 := (blk_cell k0 0).trans rfl; have x1 := (blk_cell k1 0).trans rfl; have x2 := (blk_cell k2 0).trans rfl; have y0 := blk_frozen k0 0; have y1 := blk_frozen k1 0; have y2 := blk_frozen k2 0; clear hR hb) | (refine ⟨trivial, ?_⟩; gi_at_call 24; refine (CallsIn.inRound l (callsIn_wide.2 (script_command.calls parseK _ _ ws q1 q2 q3 _ (Kd.R_reads' HR.out).2.2 (Kd.R_reads' HR.out).2.1 HQ.out))).mono ?_; rintro e w3 ⟨v1, rfl, hR1, hb⟩; obtain ⟨A3, c3', rfl⟩ := Kd.R_slice hR1; have HR1 := Aside0.mk hR1; have HB3 := Aside0.mk hb; have HB23 := Aside0.mk (below_step HB2.out hb); have m0 := (hb.block _ (Array.getElem?_eq_some_iff.1 k0).1).trans k0; have m1 := (hb.block _ (Array.getElem?_eq_some_iff.1 k1).1).trans k1; have m2 := (hb.block _ (Array.getElem?_eq_some_iff.1 k2).1).trans k2; have z0 := (blk_cell m0 0).trans rfl; have z1 := (blk_cell m1 0).trans rfl; have z2 := (blk_cell m2 0).trans rfl; have t0 := blk_frozen m0 0; have t1 := blk_frozen m1 0; have t2 := blk_frozen m2 0; clear hR1 hb))
                  have HB4 := Aside0.mk (below_alloc HB23.out (.cells #[.string q1, .slice A3 q2.length c3'] 30))
                  have hb4 := below_alloc (Below.refl w3.heap.size w3) (.cells #[.string q1, .slice A3 q2.length c3'] 30)
                  have n0 := (hb4.block _ (Array.getElem?_eq_some_iff.1 m0).1).trans m0
                  have n1 := (hb4.block _ (Array.getElem?_eq_some_iff.1 m1).1).trans m1
                  have n2 := (hb4.block _ (Array.getElem?_eq_some_iff.1 m2).1).trans m2
                  have v0 := (blk_cell n0 0).trans rfl
                  have v1 := (blk_cell n1 0).trans rfl
                  have v2 := (blk_cell n2 0).trans rfl
                  have u0 := blk_frozen n0 0
                  have u1 := blk_frozen n1 0
                  have u2 := blk_frozen n2 0
                  generalize w3.alloc (.cells #[.string q1, .slice A3 q2.length c3'] 30) = w4 at *
                  clear gS gB gK gT g0 g1 g2 gsz h4 hH hwords k0 k1 k2 m0 m1 m2 n0 n1 n2 hb4 x0 x1 x2 y0 y1 y2 z0 z1 z2 t0 t1 t2 hw0
                  gi_region
                  all_goals gi_wp2
                  all_goals exact ST.out w4 HB4.out
    case done =>
      intro D xs T W hD hxs hP hK
      subst hxs
      obtain ⟨⟨ll, v, h1, h2, h3, h4⟩, ha, he, hb, ho⟩ := hP
      have hp := h4 []
      rw [List.append_nil, h] at hp
      simp only [parseL] at hp
      injection hp with hp
      injection hp with e1 hp
      injection hp with e2 e3
      subst e1 e2 e3
      obtain ⟨A, c, rfl⟩ := Kd.R_slice (Kd.S_R h2)
      have hx0 := (blk_cell h1 0).trans rfl
      have hx1 := (blk_cell ha 0).trans rfl
      have hx2 := (blk_cell he 0).trans rfl
      have hf0 := blk_frozen h1 0
      have hf1 := blk_frozen ha 0
      have hf2 := blk_frozen he 0
      gi_wp2
      refine ⟨by simp, .inl ⟨_, _, rfl, run_takeDeferred (((KeepsOthers.setCell _ _ _).trans ((KeepsOthers.setCell _ _ _).trans (KeepsOthers.setCell _ _ _))).same D _ hK rfl), ?_⟩⟩
      have hn01 : w.heap.size ≠ w.heap.size + 1 := by omega
      have hn02 : w.heap.size ≠ w.heap.size + 1 + 1 := by omega
      have hn12 : w.heap.size + 1 ≠ w.heap.size + 1 + 1 := by omega
      refine ⟨_, parse_results _ _ w.heap.size (w.heap.size + 1) (w.heap.size + 1 + 1) A r1.length c 0 0 rfl rfl rfl ?_ ?_ ?_, _, rfl, ?_, ?_⟩
      · refine (World.putObj_heap_other (by omega)).trans ?_
        exact (Below.heap_setCell _ _ _ _ hn02).trans ((Below.heap_setCell _ _ _ _ hn01).trans (blk_put h1 0 _ rfl))
      · refine (World.putObj_heap_other (by omega)).trans ?_
        exact (Below.heap_setCell _ _ _ _ hn12).trans (blk_put ((Below.heap_setCell _ _ _ _ (Ne.symm hn01)).trans ha) 0 _ rfl)
      · refine (World.putObj_heap_other (by omega)).trans ?_
        exact blk_put ((Below.heap_setCell _ _ _ _ (Ne.symm hn12)).trans ((Below.heap_setCell _ _ _ _ (Ne.symm hn02)).trans he)) 0 _ rfl
      · have hS := Kd.S_bound (Kd.S_types (Kd.S_types (Kd.S_types h2 h1 (by decide)) ha (by decide)) he (by decide))
        refine Kd.S_mono (Kd.S_step hS (fun k hk hlt => ?_)) (fun _ _ => trivial)
        obtain ⟨⟨⟨⟨_, n0⟩, n1⟩, n2⟩, _, _, q, _, cells, hc⟩ := hk
        have hkD : k ≠ D := fun e => by rw [e, hK] at hc; injection hc with hc; cases hc
        refine (World.putObj_heap_other (by omega)).trans ?_
        exact (Below.heap_setCell _ _ _ _ n2).trans ((Below.heap_setCell _ _ _ _ n1).trans (Below.heap_setCell _ _ _ _ n0))
      · exact (below_set (below_set (below_set hb (Nat.le_refl _)) (Nat.le_succ _)) (by omega)).grown (grownBy_putObj' _ D _) (by have := hb.size; simp; omega) (fun k e => by cases e; omega)
    case stop =>
      rintro D c pre T W hD ⟨more, hmore⟩ ⟨rfl, hP⟩ hK
      obtain ⟨⟨a, e, h1, h2, h3, h4⟩, hb, ho⟩ := hP
      have hn01 : w.heap.size ≠ w.heap.size + 1 := by omega
      have hn02 : w.heap.size ≠ w.heap.size + 1 + 1 := by omega
      have hn12 : w.heap.size + 1 ≠ w.heap.size + 1 + 1 := by omega
      have hp := h4 more
      rw [hmore, h] at hp
      injection hp with hp
      injection hp with e1 hp
      injection hp with e2 e3
      subst e1 e2 e3
      gi_wp2
      refine ⟨by simp, .inl ⟨_, _, rfl, run_takeDeferred hK, ?_⟩⟩
      refine ⟨_, parse_results _ _ w.heap.size (w.heap.size + 1) (w.heap.size + 1 + 1) none 0 0 r2 r3 rfl rfl rfl ?_ ?_ ?_, _, rfl, Kd.S_nil _ _ _ _ _, ?_⟩
      · exact (World.putObj_heap_other (by omega)).trans h1
      · exact (World.putObj_heap_other (by omega)).trans h2
      · exact (World.putObj_heap_other (by omega)).trans h3
      · exact hb.grown (grownBy_putObj' _ D _) hb.size (fun k e => by cases e; omega)
end Go.Proofs.YtlfoaaeelcmhiaaDoor.G
end

section
/- Plain laws: pieces between bytes of a kind; the fields of a line. -/
namespace Go.Proofs.YtlfoaaeelcmhiaaDoor.Pure
open Go.RowKit Go.Proofs.YtlfoaaeelcmhiaaDoor.G Go.Proofs.YtlfoaaeelcmhiaaDoorW.PrintWords
set_option linter.unusedVariables false
abbrev Bytes := List UInt8
def bl (s : ByteArray) : Bytes := s.data.toList
def mk (l : Bytes) : ByteArray := ⟨l.toArray⟩
theorem bl_mk (l : Bytes) : bl (mk l) = l := by simp [bl, mk]
theorem mk_bl (s : ByteArray) : mk (bl s) = s := by apply ByteArray.ext; simp [bl, mk]
theorem bl_inj {s t : ByteArray} (h : bl s = bl t) : s = t := by rw [← mk_bl s, ← mk_bl t, h]
theorem bl_length (s : ByteArray) : (bl s).length = s.size := by unfold bl; rw [Array.length_toList]; rfl
theorem bl_append (s t : ByteArray) : bl (s ++ t) = bl s ++ bl t := by simp [bl]
theorem bl_extract (s : ByteArray) (a b : Nat) : bl (s.extract a b) = ((bl s).drop a).take (b - a) := by
  unfold bl
  rw [ByteArray.data_extract, Array.toList_extract]
/-- The pieces between bytes c. -/
def splitL (c : UInt8) : Bytes → List Bytes
  | [] => [[]]
  | x :: xs => if x == c then [] :: splitL c xs else match splitL c xs with | [] => [[x]] | p :: ps => (x :: p) :: ps
theorem splitL_cons (c x : UInt8) (xs : Bytes) : splitL c (x :: xs) = if x == c then [] :: splitL c xs else match splitL c xs with | [] => [[x]] | p :: ps => (x :: p) :: ps := rfl
theorem splitL_ne (c : UInt8) (l : Bytes) : splitL c l ≠ [] := by
  cases l with
  | nil => simp [splitL]
  | cons x xs => unfold splitL; split <;> (try split) <;> simp
theorem splitL_idx (c : UInt8) (l : Bytes) : (Lib.indexByte l c < 0 → splitL c l = [l]) ∧ (0 ≤ Lib.indexByte l c → splitL c l = l.take (Lib.indexByte l c).toNat :: splitL c (l.drop ((Lib.indexByte l c).toNat + 1))) := by
  induction l with
  | nil => simp [splitL, Lib.indexByte]
  | cons b l ih =>
    have hge := Lib.indexByte_ge l c
    rw [splitL_cons]
    unfold Lib.indexByte
    by_cases hb : (b == c) = true
    · rw [if_pos hb, if_pos hb]
      exact ⟨fun h => by omega, fun _ => by simp⟩
    · rw [if_neg hb, if_neg hb]
      by_cases hm : Lib.indexByte l c = -1
      · rw [if_pos (by rw [hm]; rfl), ih.1 (by omega)]
        exact ⟨fun _ => rfl, fun h => by omega⟩
      · rw [if_neg (by simpa using hm), ih.2 (by omega)]
        refine ⟨fun h => by omega, fun _ => ?_⟩
        have e : (Lib.indexByte l c + 1).toNat = (Lib.indexByte l c).toNat + 1 := by omega
        rw [e]
        simp
theorem pieces_list (c : UInt8) : ∀ (f : Nat) (s : ByteArray), s.size ≤ f → (pieces c f s).map bl = splitL c (bl s)
  | 0, s, h => by
    have : bl s = [] := List.eq_nil_of_length_eq_zero (by rw [bl_length]; omega)
    simp [pieces, this, splitL]
  | f + 1, s, h => by
    unfold pieces
    have hi := splitL_idx c (bl s)
    by_cases hn : Lib.indexByte s.data.toList c < 0
    · rw [if_pos hn, hi.1 hn]
      rfl
    · rw [if_neg hn, hi.2 (by unfold bl; omega), List.map_cons, bl_extract]
      have hlt := indexByte_lt s.data.toList c
      rw [Array.length_toList] at hlt
      have hs : (s.data.size : Int) = (s.size : Int) := rfl
      rw [pieces_list c f _ (by rw [ByteArray.size_extract]; omega), bl_extract]
      congr 1
      congr 1
      rw [List.take_of_length_le (by rw [List.length_drop, bl_length]; omega)]
      rfl
theorem decodeN_low (n b0 b1 b2 b3 : Nat) : (b0 < 128 ∧ Lib.decodeN n b0 b1 b2 b3 = (b0, 1)) ∨
    (128 ≤ b0 ∧ 128 ≤ (Lib.decodeN n b0 b1 b2 b3).1 ∧ (1 < (Lib.decodeN n b0 b1 b2 b3).2 → 128 ≤ b1) ∧ (2 < (Lib.decodeN n b0 b1 b2 b3).2 → 128 ≤ b2) ∧ (3 < (Lib.decodeN n b0 b1 b2 b3).2 → 128 ≤ b3) ∧ (Lib.decodeN n b0 b1 b2 b3).2 ≤ 4) := by
  unfold Lib.decodeN
  repeat' split
  all_goals first | exact .inl ⟨by omega, rfl⟩ | (right; simp only; omega)
/-- The fields, as Go's text goes: cur is the word that is open. -/
def fieldsGo : Bytes → Bytes → List Bytes
  | [], cur => if cur = [] then [] else [cur]
  | x :: xs, cur => if x = 32 then (if cur = [] then fieldsGo xs [] else cur :: fieldsGo xs []) else fieldsGo xs (cur ++ [x])
theorem fieldsGo_split (l cur : Bytes) : fieldsGo l cur = (match splitL 32 l with | [] => [] | p :: ps => (cur ++ p) :: ps).filter (· ≠ []) := by
  induction l generalizing cur with
  | nil => unfold fieldsGo splitL; by_cases h : cur = [] <;> simp [h]
  | cons x xs ih =>
    rw [splitL_cons]
    unfold fieldsGo
    by_cases hx : x = 32
    · have hx' : (x == 32) = true := by simpa using hx
      rw [if_pos hx, if_pos hx', ih]
      have hn := splitL_ne 32 xs
      cases hs : splitL 32 xs with
      | nil => exact absurd hs hn
      | cons p ps => by_cases h : cur = [] <;> simp [h]
    · have hx' : ¬ (x == 32) = true := by simpa using hx
      rw [if_neg hx, if_neg hx', ih]
      have hn := splitL_ne 32 xs
      cases hs : splitL 32 xs with
      | nil => exact absurd hs hn
      | cons p ps => simp
theorem fieldsGo_nil_ne {cur : Bytes} (h : cur ≠ []) : fieldsGo [] cur = [cur] := by unfold fieldsGo; rw [if_neg h]
theorem fieldsGo_blank_ne {cur : Bytes} (xs : Bytes) (h : cur ≠ []) : fieldsGo (32 :: xs) cur = cur :: fieldsGo xs [] := by rw [fieldsGo, if_pos rfl, if_neg h]
theorem fieldsGo_run (l more cur : Bytes) (h : ∀ x ∈ l, x ≠ 32) : fieldsGo (l ++ more) cur = fieldsGo more (cur ++ l) := by
  induction l generalizing cur with
  | nil => simp
  | cons x l ih =>
    have hx := h x (List.mem_cons_self)
    simp only [List.cons_append, fieldsGo, if_neg hx]
    rw [ih _ (fun y hy => h y (List.mem_cons_of_mem _ hy))]
    simp
theorem get_bl (s : ByteArray) (i : Nat) (h : i < s.size) : (bl s)[i]? = some (s.get! i) := by
  have h' : i < s.data.size := h
  unfold bl ByteArray.get!
  rw [Array.getElem?_toList, Array.getElem?_eq_getElem h']
  congr 1
  exact (getElem!_pos s.data i h').symm
theorem run_of (s : ByteArray) (pos K : Nat) (hp : pos + K ≤ s.size) (h : ∀ j, j < K → s.get! (pos + j) ≠ 32) : ∀ x ∈ ((bl s).drop pos).take K, x ≠ 32 := by
  intro x hx
  obtain ⟨j, hj, hjx⟩ := List.getElem_of_mem hx
  rw [List.length_take, List.length_drop, bl_length] at hj
  rw [List.getElem_take, List.getElem_drop] at hjx
  have := get_bl s (pos + j) (by omega)
  rw [List.getElem?_eq_getElem (by rw [bl_length]; omega)] at this
  rw [← hjx, Option.some.inj this]
  exact h j (by omega)
def openWord (s : ByteArray) (pos : Nat) : Option Nat → Bytes
  | some a => ((bl s).drop a).take (pos - a)
  | none => []
theorem openWord_step (s : ByteArray) (pos K : Nat) (st : Option Nat) (hst : ∀ a, st = some a → a < pos) (hp : pos + K ≤ s.size) :
    openWord s pos st ++ ((bl s).drop pos).take K = openWord s (pos + K) (some (match st with | some a => a | none => pos)) := by
  cases st with
  | none => simp only [openWord, List.nil_append, Nat.add_sub_cancel_left]
  | some a =>
    have ha := hst a rfl
    simp only [openWord]
    have e : (bl s).drop pos = ((bl s).drop a).drop (pos - a) := by rw [List.drop_drop]; congr 1; omega
    rw [e, show pos + K - a = (pos - a) + K from by omega, List.take_add]
theorem spans_end (s : ByteArray) (st : Option Nat) (acc : List (Nat × Nat)) (h3 : ∀ a, st = some a → a < s.size) :
    (Lib.closeSpans s (acc, st)).map (fun x => bl (s.extract x.1 x.2)) = acc.map (fun x => bl (s.extract x.1 x.2)) ++ fieldsGo ((bl s).drop s.size) (openWord s s.size st) := by
  have hd : (bl s).drop s.size = [] := List.drop_eq_nil_of_le (by rw [bl_length]; omega)
  rw [hd]
  cases st with
  | none => simp [Lib.closeSpans, openWord, fieldsGo]
  | some a =>
    have ha := h3 a rfl
    have hne : ((bl s).drop a).take (s.size - a) ≠ [] := by
      intro h
      have := congrArg List.length h
      rw [List.length_take, List.length_drop, bl_length, List.length_nil] at this
      omega
    rw [show openWord s s.size (some a) = ((bl s).drop a).take (s.size - a) from rfl, fieldsGo_nil_ne hne]
    simp only [Lib.closeSpans, List.map_append, List.map_cons, List.map_nil, bl_extract]
theorem spans_fields (s : ByteArray) : ∀ (f pos : Nat) (st : Option Nat) (acc : List (Nat × Nat)), s.size ≤ pos + f → pos ≤ s.size → (∀ a, st = some a → a < pos) →
    (Lib.closeSpans s (Lib.spansFromP isBlank s f pos st acc)).map (fun x => bl (s.extract x.1 x.2)) = acc.map (fun x => bl (s.extract x.1 x.2)) ++ fieldsGo ((bl s).drop pos) (openWord s pos st) := by
  intro f
  induction f with
  | zero =>
    intro pos st acc h1 h2 h3
    have hp : pos = s.size := by omega
    subst hp
    exact spans_end s st acc h3
  | succ f ih =>
    intro pos st acc h1 h2 h3
    by_cases hlt : pos < s.size
    · have hlow := decodeN_low (s.size - pos) (s.get! pos).toNat (s.get! (pos + 1)).toNat (s.get! (pos + 2)).toNat (s.get! (pos + 3)).toNat
      rw [← Lib.decode_at] at hlow
      have hwd := Lib.width_pos s pos
      have hwn : pos + (Utf8.decode s pos).2 ≤ s.size := by
        have := Lib.decodeN_le_n' (s.size - pos) (s.get! pos).toNat (s.get! (pos + 1)).toNat (s.get! (pos + 2)).toNat (s.get! (pos + 3)).toNat (by omega)
        rw [← Lib.decode_at] at this
        omega
      unfold Lib.spansFromP
      rw [if_pos hlt]
      have hget := get_bl s pos hlt
      have hcons : (bl s).drop pos = s.get! pos :: (bl s).drop (pos + 1) := by
        rw [List.drop_eq_getElem_cons (by rw [bl_length]; exact hlt)]
        rw [List.getElem?_eq_getElem (by rw [bl_length]; exact hlt)] at hget
        rw [Option.some.inj hget]
      by_cases hb : isBlank (Utf8.decode s pos).1 = true
      · rw [if_pos hb]
        have h32 : (Utf8.decode s pos).1 = 32 := by simpa [isBlank] using hb
        rcases hlow with ⟨hl, hd⟩ | ⟨_, hl, _⟩
        · rw [hd] at h32 ⊢
          have hbyte : s.get! pos = 32 := by
            apply UInt8.toNat_inj.1
            exact h32
          cases st with
          | none =>
            simp only []
            rw [ih (pos + 1) none acc (by omega) (by omega) (fun a h => by cases h), hcons]
            simp [fieldsGo, hbyte, openWord]
          | some a =>
            have ha := h3 a rfl
            simp only []
            rw [ih (pos + 1) none (acc ++ [(a, pos)]) (by omega) (by omega) (fun a h => by cases h), hcons]
            have hne : ((bl s).drop a).take (pos - a) ≠ [] := by
              intro h
              have := congrArg List.length h
              rw [List.length_take, List.length_drop, bl_length, List.length_nil] at this
              omega
            rw [hbyte, show openWord s pos (some a) = ((bl s).drop a).take (pos - a) from rfl, fieldsGo_blank_ne _ hne]
            simp only [openWord, List.map_append, List.map_cons, List.map_nil, bl_extract]
            simp
        · omega
      · rw [if_neg hb]
        have hrun : ∀ j, j < (Utf8.decode s pos).2 → s.get! (pos + j) ≠ 32 := by
          intro j hj hbyte
          have hbn : (s.get! (pos + j)).toNat = 32 := by rw [hbyte]; rfl
          rcases hlow with ⟨hl, hd⟩ | ⟨hl, hr, k1, k2, k3, k4⟩
          · rw [hd] at hj hb
            have : j = 0 := by simpa using hj
            subst this
            exact hb (by rw [Nat.add_zero] at hbn; simp [isBlank, hbn])
          · rcases (show j = 0 ∨ j = 1 ∨ j = 2 ∨ j = 3 from by omega) with e | e | e | e <;> subst e
            · rw [Nat.add_zero] at hbn; omega
            · have := k1 hj; omega
            · have := k2 hj; omega
            · have := k3 hj; omega
        have hsplit : (bl s).drop pos = ((bl s).drop pos).take (Utf8.decode s pos).2 ++ (bl s).drop (pos + (Utf8.decode s pos).2) := by
          rw [← List.drop_drop, List.take_append_drop]
        have hfin := fieldsGo_run (((bl s).drop pos).take (Utf8.decode s pos).2) ((bl s).drop (pos + (Utf8.decode s pos).2)) (openWord s pos st) (run_of s pos _ hwn hrun)
        rw [← hsplit, openWord_step s pos _ st h3 hwn] at hfin
        rw [hfin]
        cases st with
        | none => exact ih _ _ _ (by omega) hwn (fun a h => by cases h; omega)
        | some a => exact ih _ _ _ (by omega) hwn (fun b h => by cases h; have := h3 a rfl; omega)
    · have hp : pos = s.size := by omega
      subst hp
      rw [Lib.spansFromP_end _ _ _ _ _ _ hlt]
      exact spans_end s st acc h3
/-- The fields of a line: the pieces between blanks that are not empty. -/
theorem fields_list (s : ByteArray) : (Lib.goFieldsP isBlank s).map bl = (splitL 32 (bl s)).filter (· ≠ []) := by
  have h := spans_fields s s.size 0 none [] (by omega) (by omega) (fun a h => by cases h)
  unfold Lib.goFieldsP Lib.spansOfP
  rw [List.map_map]
  refine h.trans ?_
  simp only [List.map_nil, List.nil_append, List.drop_zero, openWord]
  rw [fieldsGo_split]
  cases hs : splitL 32 (bl s) with
  | nil => rfl
  | cons p ps => rfl
end Go.Proofs.YtlfoaaeelcmhiaaDoor.Pure
end

section
-- Written by a program of this session (wip/gprint.py: the kit's print, with contracts proved by hand)
namespace Go.Proofs.YtlfoaaeelcmhiaaDoor.G
open Go.RowKit Go.Proofs.YtlfoaaeelcmhiaaDoorW.PrintWords Go.Proofs.YtlfoaaeelcmhiaaDoorW.PrintLast Go.Proofs.YtlfoaaeelcmhiaaDoorW.PrintMore
attribute [local go_sem] max2_int min2_int max_two min_two max_three min_three max_four min_four   -- for this text's walks alone
set_option linter.unusedVariables false
set_option linter.unusedSimpArgs false

/-! ### inclineref21_digits: function 30 -/
def inclineref21_digits.l0 : Nat → Int → ByteArray → Option (ByteArray)
  | 0, _, _ => none
  | k + 1, x0, x3 => if x0 > 9 then ((some (([(IntKind.u64.wrap (48 + (Int.tmod x0 10))) % 256] : List Int) : List Int)).bind fun y252 => (if (strOfNums y252).size + x3.size ≤ 9223372036854775807 then (inclineref21_digits.l0 k (IntKind.u64.wrap (Int.tdiv x0 10)) ((strOfNums y252) ++ x3)) else (none))) else ((some (([(IntKind.u64.wrap (48 + x0)) % 256] : List Int) : List Int)).bind fun y255 => (if (strOfNums y255).size + x3.size ≤ 9223372036854775807 then (some ((strOfNums y255) ++ x3)) else (none)))
def inclineref21_digits.f (k : Nat) (a0 : Int) : Option (ByteArray) := inclineref21_digits.l0 k a0 (⟨#[]⟩ : ByteArray)
theorem inclineref21_digits.mono_l : ∀ k, (∀ y0 y1, LeO (inclineref21_digits.l0 k y0 y1) (inclineref21_digits.l0 (k + 1) y0 y1))
  | 0 => fun _ _ r h => by simp [inclineref21_digits.l0] at h
  | k + 1 => by
    have ih0 := inclineref21_digits.mono_l k
    · intro y0 y1
      unfold inclineref21_digits.l0
      repeat' first
      | (with_reducible exact ih0 _ _)
      | (with_reducible exact LeO.refl _)
      | (with_reducible exact LeO.none _)
      | (with_reducible refine LeO.ite ?_ ?_)
      | (with_reducible refine LeO.bind ?_ (fun _ => ?_))
      | exact ih0 _ _
      | exact LeO.none _
      | refine LeO.ite ?_ ?_
      | refine LeO.bind ?_ (fun _ => ?_)
theorem inclineref21_digits.mono : ∀ a0 k, LeO (inclineref21_digits.f k a0) (inclineref21_digits.f (k + 1) a0) := by
  intro a0 k
  have ih0 := inclineref21_digits.mono_l k
  unfold inclineref21_digits.f
  repeat' first
      | (with_reducible exact ih0 _ _)
      | (with_reducible exact LeO.refl _)
      | (with_reducible exact LeO.none _)
      | (with_reducible refine LeO.ite ?_ ?_)
      | (with_reducible refine LeO.bind ?_ (fun _ => ?_))
      | exact ih0 _ _
      | exact LeO.none _
      | refine LeO.ite ?_ ?_
      | refine LeO.bind ?_ (fun _ => ?_)
set_option maxHeartbeats 8000000 in
set_option maxRecDepth 100000 in
theorem inclineref21_digits.calls (k : Nat) (a0 : Int) (r : ByteArray) (w : World) (h : inclineref21_digits.f k a0 = some r) :
    Calls Tryd.prog 30 #[.int .u64 a0] w fun e w' => e = .returned (.string r) ∧ Below w.heap.size w w' := by
  have HB := Aside0.mk (Below.refl w.heap.size w)
  have H : (inclineref21_digits.l0 k a0 (⟨#[]⟩ : ByteArray)) = some r := h
  clear h
  have H' := Aside0.mk H
  clear H
  go_enter Tryd.func30, Tryd.ntmps30
  go_wp2
  go_loopg [0, 3] k (fun kq v0 v3 w' => ∃ (x0_1 : Int) (x3_1 : ByteArray), v0 = .int .u64 x0_1 ∧ v3 = .string x3_1 ∧ Aside0 (inclineref21_digits.l0 kq x0_1 x3_1 = some r) ∧ Aside0 (kq ≤ k) ∧ Aside0 (Below w.heap.size w w'))
  case atStart => exact ⟨(a0), ((⟨#[]⟩ : ByteArray)), (by first | rfl | (simp; done) | (simp [*]; done)), (by first | rfl | (simp; done) | (simp [*]; done)), H', ⟨Nat.le_refl _⟩, ⟨by repeat (first | (with_reducible first | exact HB.out | apply below_alloc | apply pw_below_drewN | apply below_drew1) | exact HB.out)⟩⟩
  case round =>
    clear H'
    obtain ⟨x0_1, x3_1, rfl, rfl, HA, HK1, HB⟩ := hrel
    cases gk with
    | zero => exact absurd HA.out (by simp [inclineref21_digits.l0])
    | succ k1 =>
      have H := HA.out
      clear HA
      simp only [inclineref21_digits.l0] at H
      by_cases c2 : x0_1 > 9
      · rw [if_pos c2] at H
        have c2b0 : decide (9 < x0_1) = true := decide_eq_true c2
        clear c2
        obtain ⟨y252, hy252⟩ : ∃ y_ : List Int, y_ = (([(IntKind.u64.wrap (48 + (Int.tmod x0_1 10))) % 256] : List Int)) := ⟨_, rfl⟩
        replace H : (if (strOfNums y252).size + x3_1.size ≤ 9223372036854775807 then (inclineref21_digits.l0 k1 (IntKind.u64.wrap (Int.tdiv x0_1 10)) ((strOfNums y252) ++ x3_1)) else (none)) = some r := by first | (rw [hy252]; with_reducible exact H) | (have H2_ := (Option.bind_some _ _).symm.trans H; rw [hy252]; with_reducible exact H2_) | (have H2_ := (Option.bind_some _ _).symm.trans H; with_reducible exact H2_) | with_reducible exact H | (rw [hy252]; exact H) | exact H
        have Ny252 := Aside0.mk hy252
        clear hy252
        by_cases c3 : (strOfNums y252).size + x3_1.size ≤ 9223372036854775807
        · rw [if_pos c3] at H
          have c3b0 := eq_true c3
          have c3b1 : decide ((strOfNums y252).size + x3_1.size ≤ 9223372036854775807) = true := decide_eq_true c3
          try have c3b2 : (9223372036854775807 < (strOfNums y252).size + x3_1.size) = False := eq_false (Nat.not_lt.2 c3)
          have H' := Aside0.mk H
          clear H
          go_wp2_with (first | ((with_reducible refine gate_dst (N := 10) rfl ?_); refine Kd.R_lit (Kd.int .u8) _ 5 ?hg (N := 10) ?hd (xs := ([(IntKind.u64.wrap (48 + (Int.tmod x0_1 10))) % 256] : List Int)) (inner := [.int .u8 ((IntKind.u64.wrap (48 + (Int.tmod x0_1 10))) % 256)]) (ok := fun _ => True) (okp := fun _ => True) ?hr ?hp (fun _ hk => hk) trivial (Below.refl _ _) (Nat.le_refl _) (by simp) ?_; (case hd => rfl); (case hg => rfl); (case hr => first | (go_simp; done) | (go_simp; rfl)); (case hp => exact (Reps.one (show Kd.M (Kd.int .u8) _ _ _ ((IntKind.u64.wrap (48 + (Int.tmod x0_1 10))) % 256) [.int .u8 ((IntKind.u64.wrap (48 + (Int.tmod x0_1 10))) % 256)] from rfl) (Reps.none _ _))); intro v253 w4 ho5 hb hg_ hnew_; clear hg_ hnew_; (first | rw [← Ny252.out] at ho5 | (simp only [Int.reduceToNat] at ho5; rw [← Ny252.out] at ho5)); have n0_ := Aside0.mk (Kd.R_lower ho5 (below_size (by repeat (first | (with_reducible first | exact HB.out | apply below_alloc | apply pw_below_drewN | apply below_drew1) | exact HB.out)))); have n1_ := Aside0.mk (below_step (by repeat (first | (with_reducible first | exact HB.out | apply below_alloc | apply pw_below_drewN | apply below_drew1) | exact HB.out)) hb); clear HB; have HO254 := n0_; have HB := n1_; clear n0_ n1_; clear hb ho5; have hcv6 := own_string (P := Tryd.prog) Tryd.underlying47 Tryd.underlying5 Tryd.underlying9 (Kd.own_of_R HO254.out)))
          go_roundg k1
          case measure => have := HK1.out; omega
          case rel => exact ⟨(IntKind.u64.wrap (Int.tdiv x0_1 10)), ((strOfNums y252) ++ x3_1), (by first | rfl | (simp; done) | (simp [*]; done)), (by first | rfl | (simp; done) | (simp [*]; done)), H', ⟨by have := HK1.out; omega⟩, ⟨by repeat (first | (with_reducible first | exact HB.out | apply below_alloc | apply pw_below_drewN | apply below_drew1) | exact HB.out)⟩⟩
        · rw [if_neg c3] at H
          exact absurd H (by simp)
      · rw [if_neg c2] at H
        have c2b0 : decide (9 < x0_1) = false := decide_eq_false c2
        clear c2
        obtain ⟨y255, hy255⟩ : ∃ y_ : List Int, y_ = (([(IntKind.u64.wrap (48 + x0_1)) % 256] : List Int)) := ⟨_, rfl⟩
        replace H : (if (strOfNums y255).size + x3_1.size ≤ 9223372036854775807 then (some ((strOfNums y255) ++ x3_1)) else (none)) = some r := by first | (rw [hy255]; with_reducible exact H) | (have H2_ := (Option.bind_some _ _).symm.trans H; rw [hy255]; with_reducible exact H2_) | (have H2_ := (Option.bind_some _ _).symm.trans H; with_reducible exact H2_) | with_reducible exact H | (rw [hy255]; exact H) | exact H
        have Ny255 := Aside0.mk hy255
        clear hy255
        by_cases c7 : (strOfNums y255).size + x3_1.size ≤ 9223372036854775807
        · rw [if_pos c7] at H
          have c7b0 := eq_true c7
          have c7b1 : decide ((strOfNums y255).size + x3_1.size ≤ 9223372036854775807) = true := decide_eq_true c7
          try have c7b2 : (9223372036854775807 < (strOfNums y255).size + x3_1.size) = False := eq_false (Nat.not_lt.2 c7)
          obtain rfl := Option.some.inj H
          go_wp2_with (first | ((with_reducible refine gate_dst (N := 19) rfl ?_); refine Kd.R_lit (Kd.int .u8) _ 5 ?hg (N := 19) ?hd (xs := ([(IntKind.u64.wrap (48 + x0_1)) % 256] : List Int)) (inner := [.int .u8 ((IntKind.u64.wrap (48 + x0_1)) % 256)]) (ok := fun _ => True) (okp := fun _ => True) ?hr ?hp (fun _ hk => hk) trivial (Below.refl _ _) (Nat.le_refl _) (by simp) ?_; (case hd => rfl); (case hg => rfl); (case hr => first | (go_simp; done) | (go_simp; rfl)); (case hp => exact (Reps.one (show Kd.M (Kd.int .u8) _ _ _ ((IntKind.u64.wrap (48 + x0_1)) % 256) [.int .u8 ((IntKind.u64.wrap (48 + x0_1)) % 256)] from rfl) (Reps.none _ _))); intro v256 w8 ho9 hb hg_ hnew_; clear hg_ hnew_; (first | rw [← Ny255.out] at ho9 | (simp only [Int.reduceToNat] at ho9; rw [← Ny255.out] at ho9)); have n0_ := Aside0.mk (Kd.R_lower ho9 (below_size (by repeat (first | (with_reducible first | exact HB.out | apply below_alloc | apply pw_below_drewN | apply below_drew1) | exact HB.out)))); have n1_ := Aside0.mk (below_step (by repeat (first | (with_reducible first | exact HB.out | apply below_alloc | apply pw_below_drewN | apply below_drew1) | exact HB.out)) hb); clear HB; have HO257 := n0_; have HB := n1_; clear n0_ n1_; clear hb ho9; have hcv10 := own_string (P := Tryd.prog) Tryd.underlying47 Tryd.underlying5 Tryd.underlying9 (Kd.own_of_R HO257.out)))
          go_ret
          exact ⟨by first | rfl | (simp [errW_none, errW_some] <;> rfl) | (simp [*, errW_none, errW_some] <;> rfl), by repeat (first | (with_reducible first | exact HB.out | apply below_alloc | apply pw_below_drewN | apply below_drew1) | exact HB.out)⟩
        · rw [if_neg c7] at H
          exact absurd H (by simp)

end Go.Proofs.YtlfoaaeelcmhiaaDoor.G
end

section
/- Contracts of strconv.AppendUint and strconv.Itoa in the print's form; the laid table that they read (Tabs). -/
namespace Go.Proofs.YtlfoaaeelcmhiaaDoor.G
open Go.RowKit Go.Proofs.YtlfoaaeelcmhiaaDoorW.PrintWords Go.Proofs.YtlfoaaeelcmhiaaDoorW.PrintLast Go.Proofs.YtlfoaaeelcmhiaaDoorW.PrintMore
set_option linter.unusedVariables false
/-- The table of powers that the library reads: it lies as it was laid. -/
def Tabs (w : World) : Prop := Lib.TabIs Tryd.prog w "internal/strconv.uint64pow10" .u64 Lib.pow10Tab
theorem Tabs.keep {w w' : World} (h : Tabs w) (hb : Below w.heap.size w w') : Tabs w' := Lib.tabBelow_of_tabIs h w' hb
/-- A block of another element type lies as it did behind a write to bytes. -/
theorem blk_others {w w' : World} {e t : Nat} {g : Nat} {cs : Array Value} {fz : Nat × Nat} (hb : w.heap[g]? = some (.cells cs t fz)) (hk : Lib.OthersKept e none w w') (hne : t ≠ e) : w'.heap[g]? = some (.cells cs t fz) :=
  hk g _ hb (by simp) (fun c fz' h => by injection h with _ h2 _; exact hne h2)

def nums (l : List UInt8) : List Int := l.map fun b => (b.toNat : Int)
theorem byteCells_nums (l : List UInt8) : Lib.byteCells l = encs (Value.int .u8) (nums l) := by
  simp [Lib.byteCells, encs, nums]
def strconv_AppendUint.f (l0 : List Int) (a1 a2 : Int) : Option (List Int) := if a2 = 10 ∧ (0 ≤ a1 ∧ a1 ≤ 18446744073709551615) ∧ l0.length + 20 ≤ 140737488355328 then some (l0 ++ nums (Lib.decDigits a1.toNat)) else none
theorem strconv_AppendUint.calls (P0_ : Nat → Prop) (u : Value) (l0 : List Int) (a1 a2 : Int) (r : List Int) (w0 w : World) (hB : Below w0.heap.size w0 w) (ho0 : Kd.R (Kd.int .u8) 5 w w0.heap.size P0_ u l0) (hT : Tabs w0) (h : strconv_AppendUint.f l0 a1 a2 = some r) :
    Calls Tryd.prog 28 #[u, .int .u64 a1, .int .i64 a2] w fun e w' => ∃ v0 : Value, e = .returned v0 ∧ Kd.R (Kd.int .u8) 5 w' w0.heap.size (fun _ => True) v0 r ∧ Below w0.heap.size w0 w' ∧ Lib.OthersKept 5 none w w' := by
  unfold strconv_AppendUint.f at h
  by_cases hc : a2 = 10 ∧ (0 ≤ a1 ∧ a1 ≤ 18446744073709551615) ∧ l0.length + 20 ≤ 140737488355328
  · rw [if_pos hc] at h
    obtain rfl := Option.some.inj h
    obtain ⟨rfl, ⟨h0, h1⟩, hl⟩ := hc
    obtain ⟨n, rfl⟩ : ∃ n : Nat, a1 = (n : Int) := ⟨a1.toNat, by omega⟩
    rw [Int.toNat_natCast]
    have hown := Kd.own_of_R ho0
    have hin := Tryd.internal_strconv_AppendUint_10 w0.heap.size l0.length n (by omega) u _ w hown (below_size hB) hl (Lib.tabBelow_of_tabIs hT w hB)
    have HIN := Aside0.mk hin
    have HB := Aside0.mk hB
    clear hin hown ho0 hT h hB h0 h1 hl
    go_enter Tryd.func28, Tryd.ntmps28
    go_wp2_with (first | (go_at_call 41; refine HIN.out.mono ?_; rintro e w' ⟨v', rfl, ho, hb, hk⟩; have HO := Aside0.mk ho; have HB2 := Aside0.mk hb; have HK := Aside0.mk hk; clear ho hb hk))
    go_ret
    refine ⟨v', rfl, Kd.R_of_own ?_ (fun _ _ => trivial), HB.out.trans HB2.out, HK.out⟩
    have := HO.out
    rw [byteCells_nums] at this
    rw [List.length_append, show (nums (Lib.decDigits n)).length = (Lib.decDigits n).length from by simp [nums], show encs (Value.int .u8) (l0 ++ nums (Lib.decDigits n)) = encs (Value.int .u8) l0 ++ encs (Value.int .u8) (nums (Lib.decDigits n)) from by simp [encs]]
    exact this
  · rw [if_neg hc] at h
    cases h

def strconv_Itoa.f (a0 : Int) : Option ByteArray := if -9223372036854775808 ≤ a0 ∧ a0 ≤ 9223372036854775807 then some ⟨(Lib.itoa a0).toArray⟩ else none
theorem strconv_Itoa.calls (a0 : Int) (r : ByteArray) (w : World) (hT : Tabs w) (h : strconv_Itoa.f a0 = some r) :
    Calls Tryd.prog 32 #[.int .i64 a0] w fun e w' => e = .returned (.string r) ∧ Below w.heap.size w w' := by
  unfold strconv_Itoa.f at h
  by_cases hc : -9223372036854775808 ≤ a0 ∧ a0 ≤ 9223372036854775807
  · rw [if_pos hc] at h
    obtain rfl := Option.some.inj h
    refine (Tryd.strconv_Itoa a0 hc.1 hc.2 w hT).mono ?_
    rintro e w' ⟨rfl, k, os, rfl⟩
    exact ⟨rfl, Lib.below_grow _ w (Nat.le_refl _) k os⟩
  · rw [if_neg hc] at h
    cases h
end Go.Proofs.YtlfoaaeelcmhiaaDoor.G
end

section
/- The plain law of the reference's digits: the decimal numeral. -/
namespace Go.Proofs.YtlfoaaeelcmhiaaDoor.Pure
open Go.RowKit Go.Proofs.YtlfoaaeelcmhiaaDoor.G Go.Proofs.YtlfoaaeelcmhiaaDoorW.PrintWords Go.Proofs.YtlfoaaeelcmhiaaDoorW.PrintLast
set_option linter.unusedVariables false
def dstr (n : Nat) : ByteArray := ⟨(Lib.decDigits n).toArray⟩
theorem decDigits_small {n : Nat} (h : n < 10) : Lib.decDigits n = [UInt8.ofNat (48 + n)] := by rw [Lib.decDigits, dif_pos h]
theorem decDigits_big {n : Nat} (h : ¬ n < 10) : Lib.decDigits n = Lib.decDigits (n / 10) ++ [UInt8.ofNat (48 + n % 10)] := by rw [Lib.decDigits, dif_neg h]
theorem u64w {i : Int} (h0 : 0 ≤ i) (h1 : i ≤ 18446744073709551615) : IntKind.u64.wrap i = i := by rw [IntKind.wrap_u64]; omega
theorem one_str (m : Nat) (h : m ≤ 57) : strOfNums [((m : Int)) % 256] = ⟨#[UInt8.ofNat m]⟩ := by
  have : ((m : Int) % 256).toNat = m := by omega
  simp [strOfNums, this]
theorem str_append (a b : List UInt8) (s : ByteArray) : (⟨(a ++ b).toArray⟩ : ByteArray) ++ s = (⟨a.toArray⟩ : ByteArray) ++ ((⟨b.toArray⟩ : ByteArray) ++ s) := by
  have : (⟨(a ++ b).toArray⟩ : ByteArray) = (⟨a.toArray⟩ : ByteArray) ++ ⟨b.toArray⟩ := by
    apply ByteArray.ext
    simp
  rw [this, ByteArray.append_assoc]
theorem digits_is : ∀ (d : Nat) (n : Nat) (s : ByteArray) (k : Nat), n < 10 ^ (d + 1) → n < 18446744073709551616 → s.size + d ≤ 1000 → d < k →
    inclineref21_digits.l0 k (n : Int) s = some (dstr n ++ s) := by
  intro d
  induction d with
  | zero =>
    intro n s k h1 h2 h3 hk
    obtain ⟨k, rfl⟩ : ∃ m, k = m + 1 := ⟨k - 1, by omega⟩
    have hn : n < 10 := by simpa using h1
    simp only [inclineref21_digits.l0]
    rw [if_neg (by omega), u64w (by omega) (by omega), show (48 : Int) + (n : Int) = ((48 + n : Nat) : Int) from by omega, Option.bind_some, one_str _ (by omega)]
    have hz : (⟨#[UInt8.ofNat (48 + n)]⟩ : ByteArray).size = 1 := rfl
    rw [if_pos (by rw [hz]; omega)]
    unfold dstr
    rw [decDigits_small hn]
  | succ d ih =>
    intro n s k h1 h2 h3 hk
    obtain ⟨k, rfl⟩ : ∃ m, k = m + 1 := ⟨k - 1, by omega⟩
    by_cases hn : n < 10
    · simp only [inclineref21_digits.l0]
      rw [if_neg (by omega), u64w (by omega) (by omega), show (48 : Int) + (n : Int) = ((48 + n : Nat) : Int) from by omega, Option.bind_some, one_str _ (by omega)]
      have hz : (⟨#[UInt8.ofNat (48 + n)]⟩ : ByteArray).size = 1 := rfl
      rw [if_pos (by rw [hz]; omega)]
      unfold dstr
      rw [decDigits_small hn]
    · simp only [inclineref21_digits.l0]
      have hm : Int.tmod (n : Int) 10 = ((n % 10 : Nat) : Int) := by rw [Int.tmod_eq_emod_of_nonneg (by omega)]; omega
      have hd : Int.tdiv (n : Int) 10 = ((n / 10 : Nat) : Int) := by rw [Int.tdiv_eq_ediv_of_nonneg (by omega)]; omega
      rw [if_pos (by omega), hm, hd, u64w (by omega) (by omega), u64w (by omega) (by omega), show (48 : Int) + ((n % 10 : Nat) : Int) = ((48 + n % 10 : Nat) : Int) from by omega, Option.bind_some, one_str _ (by omega)]
      have hz : (⟨#[UInt8.ofNat (48 + n % 10)]⟩ : ByteArray).size = 1 := rfl
      rw [if_pos (by rw [hz]; omega)]
      have hs : ((⟨#[UInt8.ofNat (48 + n % 10)]⟩ : ByteArray) ++ s).size = 1 + s.size := by rw [ByteArray.size_append, hz]
      rw [ih (n / 10) _ k (by rw [Nat.pow_succ] at h1; omega) (by omega) (by rw [hs]; omega) (by omega)]
      unfold dstr
      rw [decDigits_big hn, str_append]
theorem digits_f (n : Int) (h0 : 0 ≤ n) (h1 : n ≤ 18446744073709551615) (k : Nat) (hk : 20 ≤ k) : inclineref21_digits.f k n = some (dstr n.toNat) := by
  have hz : (⟨#[]⟩ : ByteArray).size = 0 := rfl
  have := digits_is 19 n.toNat ⟨#[]⟩ k (by omega) (by omega) (by rw [hz]; omega) (by omega)
  rw [Int.toNat_of_nonneg h0] at this
  unfold inclineref21_digits.f
  rw [this]
  congr 1
  apply ByteArray.ext
  simp
end Go.Proofs.YtlfoaaeelcmhiaaDoor.Pure
end

section
/- Plain laws, on: numbers and their numerals. -/
namespace Go.Proofs.YtlfoaaeelcmhiaaDoor.Pure
open Go.RowKit Go.Proofs.YtlfoaaeelcmhiaaDoor.G Go.Proofs.YtlfoaaeelcmhiaaDoorW.PrintWords
set_option linter.unusedVariables false
def isDig (b : UInt8) : Bool := decide (48 ≤ b.toNat) && decide (b.toNat ≤ 57)
/-- The value of digits behind n. -/
def val : Bytes → Nat → Nat
  | [], n => n
  | b :: l, n => val l (10 * n + (b.toNat - 48))
theorem val_append (a b : Bytes) (n : Nat) : val (a ++ b) n = val b (val a n) := by
  induction a generalizing n with
  | nil => rfl
  | cons x a ih => exact ih _
theorem val_ge (l : Bytes) (n : Nat) : n ≤ val l n := by
  induction l generalizing n with
  | nil => exact Nat.le_refl _
  | cons x l ih => have := ih (10 * n + (x.toNat - 48)); simp only [val]; omega
/-- A number's own numeral: digits, no zero ahead of others. -/
def numeral : Bytes → Bool
  | [] => false
  | [b] => isDig b
  | b :: l => isDig b && b != 48 && l.all isDig
/-- number, letter by letter (bytes), behind the first. -/
def numGo (z : Bool) : Bytes → Bool → Int → Int × Bool
  | [], _, n => (n, true)
  | b :: l, first, n => if ((b.toNat : Int) < 48 ∨ 57 < (b.toNat : Int)) ∨ (first = false ∧ z = true) ∨ (18446744073709551615 - ((b.toNat : Int) - 48)) / 10 < n then (0, false) else numGo z l false (10 * n + ((b.toNat : Int) - 48))
theorem numFrom_go (s : ByteArray) : ∀ (f pos : Nat) (n : Int), s.size ≤ pos + f → pos ≤ s.size → numFrom s f pos n = numGo (bt s 0 == 48) ((bl s).drop pos) (decide (pos = 0)) n := by
  intro f
  induction f with
  | zero =>
    intro pos n h1 h2
    have hd : (bl s).drop pos = [] := List.drop_eq_nil_of_le (by rw [bl_length]; omega)
    rw [hd]
    rfl
  | succ f ih =>
    intro pos n h1 h2
    by_cases hlt : pos < s.size
    · have hlow := decodeN_low (s.size - pos) (s.get! pos).toNat (s.get! (pos + 1)).toNat (s.get! (pos + 2)).toNat (s.get! (pos + 3)).toNat
      rw [← Lib.decode_at] at hlow
      have hget := get_bl s pos hlt
      have hcons : (bl s).drop pos = s.get! pos :: (bl s).drop (pos + 1) := by
        rw [List.drop_eq_getElem_cons (by rw [bl_length]; exact hlt)]
        rw [List.getElem?_eq_getElem (by rw [bl_length]; exact hlt)] at hget
        rw [Option.some.inj hget]
      rw [hcons]
      unfold numFrom numGo
      rw [if_pos hlt]
      rcases hlow with ⟨hl, hd⟩ | ⟨hl, hr, _⟩
      · rw [hd]
        have hiff : (badLetter s pos (s.get! pos).toNat n = true) ↔ ((((s.get! pos).toNat : Int) < 48 ∨ 57 < ((s.get! pos).toNat : Int)) ∨ (decide (pos = 0) = false ∧ (bt s 0 == 48) = true) ∨ (18446744073709551615 - (((s.get! pos).toNat : Int) - 48)) / 10 < n) := by
          unfold badLetter
          simp only [Bool.or_eq_true, Bool.and_eq_true, decide_eq_true_eq, decide_eq_false_iff_not]
          constructor
          · rintro (((h | h) | ⟨h, h'⟩) | h)
            · exact .inl (.inl h)
            · exact .inl (.inr h)
            · exact .inr (.inl ⟨by omega, h'⟩)
            · exact .inr (.inr h)
          · rintro ((h | h) | ⟨h, h'⟩ | h)
            · exact .inl (.inl (.inl h))
            · exact .inl (.inl (.inr h))
            · exact .inl (.inr ⟨by omega, h'⟩)
            · exact .inr h
        by_cases hb : badLetter s pos (s.get! pos).toNat n = true
        · rw [if_pos hb, if_pos (hiff.1 hb)]
        · rw [if_neg hb, if_neg (fun h => hb (hiff.2 h))]
          simp only []
          rw [ih (pos + 1) _ (by omega) (by omega)]
          congr 1
      · rw [if_pos (show badLetter s pos (Utf8.decode s pos).1 n = true from by unfold badLetter; rw [decide_eq_true (show 57 < ((Utf8.decode s pos).1 : Int) from by omega)]; simp), if_pos (.inl (.inr (by omega)))]
    · have hd : (bl s).drop pos = [] := List.drop_eq_nil_of_le (by rw [bl_length]; omega)
      rw [hd]
      unfold numFrom numGo
      rw [if_neg hlt]
/-- Behind the first digit: all are digits, there is no zero ahead, and the value fits. -/
theorem numGo_rest (z : Bool) (l : Bytes) (n : Nat) (hn : n ≤ 18446744073709551615) : numGo z l false (n : Int) = if (l = [] ∨ z = false) ∧ l.all isDig = true ∧ val l n ≤ 18446744073709551615 then ((val l n : Int), true) else (0, false) := by
  induction l generalizing n with
  | nil => simp [numGo, val, hn]
  | cons b l ih =>
    unfold numGo
    have hbd : isDig b = true ↔ ¬ ((b.toNat : Int) < 48 ∨ 57 < (b.toNat : Int)) := by
      unfold isDig
      simp only [Bool.and_eq_true, decide_eq_true_eq]
      omega
    by_cases hd : isDig b = true
    · have hd' := hbd.1 hd
      have hd2 : 48 ≤ b.toNat ∧ b.toNat ≤ 57 := by omega
      cases z with
      | true =>
        rw [if_pos (.inr (.inl ⟨rfl, rfl⟩)), if_neg (by rintro ⟨h, _⟩; rcases h with h | h <;> cases h)]
      | false =>
        by_cases ho : (18446744073709551615 - ((b.toNat : Int) - 48)) / 10 < (n : Int)
        · rw [if_pos (.inr (.inr ho)), if_neg]
          rintro ⟨_, _, hv⟩
          have := val_ge l (10 * n + (b.toNat - 48))
          simp only [val] at hv
          omega
        · rw [if_neg (by rintro (h | ⟨_, h⟩ | h); exact hd' h; cases h; exact ho h)]
          rw [show 10 * (n : Int) + ((b.toNat : Int) - 48) = ((10 * n + (b.toNat - 48) : Nat) : Int) from by omega, ih _ (by omega)]
          simp only [List.all_cons, hd, Bool.true_and, val]
          by_cases h1 : l.all isDig = true ∧ val l (10 * n + (b.toNat - 48)) ≤ 18446744073709551615
          · rw [if_pos ⟨.inr trivial, h1⟩, if_pos ⟨.inr trivial, h1⟩]
          · rw [if_neg (fun h => h1 h.2), if_neg (fun h => h1 h.2)]
    · rw [if_pos (.inl (Decidable.not_not.1 (mt hbd.2 hd))), if_neg]
      rintro ⟨_, h, _⟩
      rw [List.all_cons, Bool.and_eq_true] at h
      exact hd h.1
theorem digit_ofNat {b : UInt8} (h : isDig b = true) : UInt8.ofNat (48 + (b.toNat - 48)) = b := by
  unfold isDig at h
  simp only [Bool.and_eq_true, decide_eq_true_eq] at h
  rw [show 48 + (b.toNat - 48) = b.toNat from by omega]
  simp
theorem isDig_bounds {b : UInt8} (h : isDig b = true) : 48 ≤ b.toNat ∧ b.toNat ≤ 57 := by
  unfold isDig at h
  simpa using h
theorem dec_val (l : Bytes) (n : Nat) (hn : 0 < n) (h : l.all isDig = true) : Lib.decDigits (val l n) = Lib.decDigits n ++ l := by
  induction l generalizing n with
  | nil => simp [val]
  | cons b l ih =>
    rw [List.all_cons, Bool.and_eq_true] at h
    have hb := isDig_bounds h.1
    simp only [val]
    rw [ih _ (by omega) h.2, decDigits_big (show ¬ 10 * n + (b.toNat - 48) < 10 from by omega)]
    rw [show (10 * n + (b.toNat - 48)) / 10 = n from by omega, show (10 * n + (b.toNat - 48)) % 10 = b.toNat - 48 from by omega, digit_ofNat h.1]
    simp
theorem dec_numeral {w : Bytes} (h : numeral w = true) : Lib.decDigits (val w 0) = w := by
  match w, h with
  | [b], h =>
    have hb := isDig_bounds (b := b) h
    simp only [val, Nat.mul_zero, Nat.zero_add]
    rw [decDigits_small (by omega), digit_ofNat h]
  | b :: c :: l, h =>
    simp only [numeral, Bool.and_eq_true] at h
    obtain ⟨⟨h1, h2⟩, h3⟩ := h
    have hb := isDig_bounds h1
    have hne : b.toNat ≠ 48 := by
      intro e
      have : b = 48 := UInt8.toNat_inj.1 e
      rw [this] at h2
      cases h2
    show Lib.decDigits (val (c :: l) (10 * 0 + (b.toNat - 48))) = _
    rw [Nat.mul_zero, Nat.zero_add, dec_val _ _ (by omega) h3, decDigits_small (by omega), digit_ofNat h1]
    rfl
theorem toNat_digit (d : Nat) (h : d < 10) : (UInt8.ofNat (48 + d)).toNat = 48 + d := by
  rw [UInt8.toNat_ofNat']
  omega
theorem dec_all : ∀ (n : Nat), (Lib.decDigits n).all isDig = true ∧ val (Lib.decDigits n) 0 = n ∧ (10 ≤ n → (Lib.decDigits n).head? ≠ some 48) ∧ Lib.decDigits n ≠ [] := by
  intro n
  induction n using Nat.strongRecOn with
  | _ n ih =>
    by_cases h : n < 10
    · rw [decDigits_small h]
      have ht := toNat_digit n h
      refine ⟨by simp [isDig]; omega, by simp only [val, ht]; omega, fun h2 => by omega, by simp⟩
    · obtain ⟨i1, i2, i3, i4⟩ := ih (n / 10) (by omega)
      have ht := toNat_digit (n % 10) (by omega)
      rw [decDigits_big h]
      refine ⟨by simp only [List.all_append, i1, Bool.true_and, List.all_cons, List.all_nil, Bool.and_true]; simp [isDig]; omega, by rw [val_append, i2]; simp only [val, ht]; omega, fun _ => ?_, by simp⟩
      by_cases h2 : n / 10 < 10
      · rw [decDigits_small h2]
        simp only [List.cons_append, List.nil_append, List.head?_cons, ne_eq, Option.some.injEq]
        intro e
        have := congrArg UInt8.toNat e
        rw [toNat_digit _ h2] at this
        have h48 : (48 : UInt8).toNat = 48 := rfl
        omega
      · have := i3 (by omega)
        cases hq : Lib.decDigits (n / 10) with
        | nil => exact absurd hq i4
        | cons b l => rw [hq] at this; simpa using this
theorem numeral_dec (n : Nat) : numeral (Lib.decDigits n) = true := by
  obtain ⟨h1, h2, h3, h4⟩ := dec_all n
  by_cases h : n < 10
  · rw [decDigits_small h] at h1 ⊢
    simpa [numeral] using h1
  · have hh := h3 (by omega)
    have hb := decDigits_big h
    cases hd : Lib.decDigits n with
    | nil => exact absurd hd h4
    | cons b l =>
      rw [hd] at h1 hh
      cases l with
      | nil =>
        have := congrArg List.length (hb.symm.trans hd)
        simp only [List.length_append, List.length_cons, List.length_nil] at this
        have h0 := (dec_all (n / 10)).2.2.2
        have : 0 < (Lib.decDigits (n / 10)).length := List.length_pos_iff.2 h0
        omega
      | cons c l =>
        rw [List.all_cons, Bool.and_eq_true] at h1
        simp only [numeral, h1.1, h1.2, Bool.and_true, Bool.true_and]
        simp only [List.head?_cons, ne_eq, Option.some.injEq] at hh
        simpa using hh
/-- script.number, of a word that is not empty. -/
theorem number_is (w : ByteArray) (h0 : 0 < w.size) (hs : w.size ≤ 4294967296) : script_number.f w = some (if numeral (bl w) = true ∧ val (bl w) 0 ≤ 18446744073709551615 then ((val (bl w) 0 : Int), true) else (0, false)) := by
  unfold script_number.f
  rw [if_pos hs, numFrom_go w w.size 0 0 (by omega) (by omega)]
  congr 1
  rw [List.drop_zero]
  have hg := get_bl w 0 h0
  cases hb : bl w with
  | nil => rw [hb] at hg; cases hg
  | cons b l =>
    rw [hb] at hg
    have hbt : bt w 0 = (b.toNat : Int) := by
      have hgb : w.get! 0 = b := by simpa using hg.symm
      have h0' : 0 < w.data.size := h0
      rw [← hgb]
      unfold bt
      rw [dif_pos (show (0 : Int).toNat < w.size from h0)]
      congr 2
      unfold ByteArray.get!
      exact (getElem!_pos w.data 0 h0').symm
    have hz : (bt w 0 == 48) = (b == 48) := by
      rw [hbt]
      by_cases h : b = 48
      · subst h; rfl
      · have h1 : ¬ ((b.toNat : Int) = 48) := fun e => h (UInt8.toNat_inj.1 (show b.toNat = 48 from by omega))
        rw [beq_eq_false_iff_ne.2 h, beq_eq_false_iff_ne.2 h1]
    rw [hz]
    unfold numGo
    have hbd : isDig b = true ↔ ¬ ((b.toNat : Int) < 48 ∨ 57 < (b.toNat : Int)) := by
      unfold isDig
      simp only [Bool.and_eq_true, decide_eq_true_eq]
      omega
    by_cases hd : isDig b = true
    · have hb2 := isDig_bounds hd
      rw [if_neg (by rintro (h | ⟨h, _⟩ | h); exact hbd.1 hd h; simp at h; omega)]
      rw [show 10 * (0 : Int) + ((b.toNat : Int) - 48) = ((b.toNat - 48 : Nat) : Int) from by omega, numGo_rest _ _ _ (by omega)]
      have hv : val (b :: l) 0 = val l (b.toNat - 48) := by simp [val]
      rw [hv]
      have hnum : numeral (b :: l) = true ↔ (l = [] ∨ (b == 48) = false) ∧ l.all isDig = true := by
        cases l with
        | nil => simp [numeral, hd]
        | cons c l =>
          simp only [numeral, hd, Bool.true_and, Bool.and_eq_true]
          constructor
          · rintro ⟨h1, h2⟩
            exact ⟨.inr (by simpa using h1), h2⟩
          · rintro ⟨h1, h2⟩
            refine ⟨?_, h2⟩
            rcases h1 with h1 | h1
            · cases h1
            · simpa using h1
      by_cases hc : numeral (b :: l) = true ∧ val l (b.toNat - 48) ≤ 18446744073709551615
      · rw [if_pos hc, if_pos ⟨(hnum.1 hc.1).1, (hnum.1 hc.1).2, hc.2⟩]
      · rw [if_neg hc, if_neg (fun h => hc ⟨hnum.2 ⟨h.1, h.2.1⟩, h.2.2⟩)]
    · rw [if_pos (.inl (Decidable.not_not.1 (mt hbd.2 hd))), if_neg]
      rintro ⟨h, _⟩
      cases l with
      | nil => exact hd h
      | cons c l =>
        simp only [numeral, Bool.and_eq_true] at h
        exact hd h.1.1
end Go.Proofs.YtlfoaaeelcmhiaaDoor.Pure
end
