/- Some of the claim's own texts, in one file: Gx0, Range, HeapL, HeapM, Seqs, MergeL, Gather, HeapG, HeapT, MergeS, MergeH, MergeR, MergeE, Parts, Collect, EntriesW, EntriesG, SiftW, SeqsI. Conditions: each theorem's own. -/
import Derived.Test.YtojbfjfjhfnopaaProg
import Derived.Below
import Derived.Deep.Draws
import Derived.Deep.AppendLies
import Derived.Maps.AppendAt
import Derived.OwnWalk
import Derived.Laws.BytesArg
import Derived.Laws.MakeOwn
import Derived.Laws.OwnMore
import Derived.Deep.OwnRows
import Derived.Tactics
import Derived.Lib.ConvBytes
import Derived.Laws.Slices
import Derived.WalkKit
import Derived.KernelRfl
import Derived.RowKit3
import Derived.Deep.LoopGhost
import Derived.Deep.QuietTactic
import Derived.BigQuiet
import Derived.WideLaws
import Derived.Deep.DeepCutAuto
import Derived.Deep.CutBlock
import Derived.Deep.RegionHeld3
import Derived.Laws.Rows
import Derived.Lib.AppendStr
import Derived.ArgAppend
import Derived.Laws.IdiomCopy
import Derived.OrdersHeld
import Derived.Laws.BitsLemmas
import Derived.RowKit
import Derived.Test.YtojbfjfjhfnopaaWWords
import Derived.Test.YtojbfjfjhfnopaaWLast
import Derived.Test.YtojbfjfjhfnopaaWTab
import Derived.Test.YtojbfjfjhfnopaaWFour
import Derived.Test.YtojbfjfjhfnopaaWQPut
import Derived.Test.YtojbfjfjhfnopaaWApart
import Derived.Test.YtojbfjfjhfnopaaWArr
import Derived.Test.YtojbfjfjhfnopaaWZeros
import Derived.Test.YtojbfjfjhfnopaaWFoot
import Derived.Test.YtojbfjfjhfnopaaWKept
import Derived.Test.YtojbfjfjhfnopaaWShare
import Derived.Test.YtojbfjfjhfnopaaWN
import Derived.Test.YtojbfjfjhfnopaaWFootNe
import Derived.Test.YtojbfjfjhfnopaaWAt
import Derived.Test.YtojbfjfjhfnopaaWEqStruct
import Derived.Test.YtojbfjfjhfnopaaWRepsOne
import Derived.Test.YtojbfjfjhfnopaaWGuard
import Derived.Test.YtojbfjfjhfnopaaWNEv
import Derived.Test.YtojbfjfjhfnopaaWMore
import Derived.RangeFuncNested
import Derived.RangeFuncBound
import Derived.RangeFuncCalls
import Derived.RangeFuncLeaves
import Derived.Shelf.Abstract
import Derived.Shelf.RegionOpen
import Derived.OwnWalkIn
import Derived.TacticsInMore
import Derived.LoopNIn
import Derived.LoopIn
import Derived.BigRegion
import Derived.WalkSpells
import Derived.StillTactics
import Derived.Lib.Hide
import Derived.Deep.RegionLaw
import Derived.Maps.OwnIn
import Derived.Deep.DeepMust
import Derived.Laws.EntriesVeiled
section
-- Written by a program of this session (wip/gprint.py: the kit's print, with contracts proved by hand)
namespace Go.Proofs.Ytojbfjfjhfnopaa.G
open Go.RowKit Go.Proofs.YtojbfjfjhfnopaaW.PrintWords Go.Proofs.YtojbfjfjhfnopaaW.PrintLast Go.Proofs.YtojbfjfjhfnopaaW.PrintMore
attribute [local go_sem] max2_int min2_int max_two min_two max_three min_three max_four min_four   -- for this text's walks alone
set_option linter.unusedVariables false
set_option linter.unusedSimpArgs false



def errW : Option Int → Value
  | none => .nilIface
  | some c => .iface 0 (.int .i64 c)
theorem errW_none : errW none = .nilIface := rfl
theorem errW_some (c : Int) : errW (some c) = .iface 0 (.int .i64 c) := rfl

theorem info3 : (Try.prog.info? 3).map (fun i => (i.zero, i.size, i.bytes)) = some (some (.int .i64 0), 1, 8) := by kernel_rfl
theorem info25 : (Try.prog.info? 25).map (fun i => (i.zero, i.size, i.bytes)) = some (some (.slice none 0 0), 1, 24) := by kernel_rfl
theorem info30 : (Try.prog.info? 30).map (fun i => (i.zero, i.size, i.bytes)) = some (some (.int .u64 0), 1, 8) := by kernel_rfl
theorem info32 : (Try.prog.info? 32).map (fun i => (i.zero, i.size, i.bytes)) = some (some (.agg #[(.int .u64 0), (.int .u64 0), (.bool false)]), 3, 24) := by kernel_rfl
theorem info49 : (Try.prog.info? 49).map (fun i => (i.zero, i.size, i.bytes)) = some (some (.slice none 0 0), 1, 24) := by kernel_rfl
theorem info54 : (Try.prog.info? 54).map (fun i => (i.zero, i.size, i.bytes)) = some (some (.agg #[(.int .i64 0), (.int .i64 0)]), 2, 16) := by kernel_rfl
-- the values' own types
/-! #### struct type 32 -/
structure S32 where
  f0 : Int
  f1 : Int
  f2 : Bool
def z32 : S32 := ⟨(0 : Int), (0 : Int), false⟩
def k32 : Kd S32 := Kd.iso (Kd.pair (Kd.int .u64) (Kd.pair (Kd.int .u64) Kd.bool)) (fun x : S32 => (x.f0, x.f1, x.f2))
theorem k32_open {w : World} {x : S32} {cs : List Value} (h : k32.K w x cs) : cs = [.int .u64 x.f0, .int .u64 x.f1, .bool x.f2] := by
  obtain ⟨_, _, rfl, rfl, ⟨_, _, rfl, rfl, rfl⟩⟩ := h
  exact rfl
theorem k32_openM {w : World} {base : Nat} {ok : Nat → Prop} {x : S32} {cs : List Value} (h : k32.M w base ok x cs) : cs = [.int .u64 x.f0, .int .u64 x.f1, .bool x.f2] := by
  obtain ⟨_, _, rfl, rfl, ⟨_, _, rfl, rfl, rfl⟩⟩ := h
  exact rfl
theorem k32_mk (w : World) (x : S32)  : k32.K w x [.int .u64 x.f0, .int .u64 x.f1, .bool x.f2] := ⟨[.int .u64 x.f0], [.int .u64 x.f1, .bool x.f2], rfl, rfl, ⟨[.int .u64 x.f1], [.bool x.f2], rfl, rfl, rfl⟩⟩
theorem k32_mkM (w : World) (base : Nat) (ok : Nat → Prop) (x : S32)  : k32.M w base ok x [.int .u64 x.f0, .int .u64 x.f1, .bool x.f2] := ⟨[.int .u64 x.f0], [.int .u64 x.f1, .bool x.f2], rfl, rfl, ⟨[.int .u64 x.f1], [.bool x.f2], rfl, rfl, rfl⟩⟩
theorem k32_mkF (W : World) (ok : Nat → Prop) (x : S32) : Kd.FK k32 W ok x [.int .u64 x.f0, .int .u64 x.f1, .bool x.f2] := fun W2 _ => k32_mk W2 x
def rd_T32 (xs : List S32) (i : Int) : S32 := xs.getD i.toNat z32
theorem at_T32 {w : World} {A : Option Addr} {n : Nat} {xs : List S32} (h : Kd.C k32 w A n xs) (i : Int) (h0 : 0 ≤ i) (h1 : i < n) : ∃ ad , A = some ad ∧ w.cell? (ad.add (i.toNat * 3)) = some (.int .u64 (rd_T32 xs i).f0) ∧ w.cell? ⟨(ad.add (i.toNat * 3)).block, (ad.add (i.toNat * 3)).off + 1, none⟩ = some (.int .u64 (rd_T32 xs i).f1) ∧ w.cell? ⟨(ad.add (i.toNat * 3)).block, (ad.add (i.toNat * 3)).off + 2, none⟩ = some (.bool (rd_T32 xs i).f2) := by
  obtain ⟨ad, c, e, _, hK, hc0⟩ := Kd.C_get h z32 i h0 h1
  have hc : ∀ j u, c[j]? = some u → w.cell? (ad.add (i.toNat * 3 + j)) = some u := hc0
  obtain rfl := k32_open hK
  exact ⟨ad, e, hc 0 _ rfl, by rw [← add_field _ _ 1 (by omega)]; exact hc 1 _ rfl, by rw [← add_field _ _ 2 (by omega)]; exact hc 2 _ rfl⟩

def rd_L3 (xs : List (List S32)) (i : Int) : (List S32) := xs.getD i.toNat ([] : List S32)
theorem at_L3 {w : World} {A : Option Addr} {n : Nat} {xs : List (List S32)} (h : Kd.C (Kd.slice 32 k32) w A n xs) (i : Int) (h0 : 0 ≤ i) (h1 : i < n) : ∃ ad A0 c0, A = some ad ∧ w.cell? (ad.add i.toNat) = some (.slice A0 (rd_L3 xs i).length c0) ∧ (rd_L3 xs i).length ≤ c0 ∧ k32.C w A0 (rd_L3 xs i).length (rd_L3 xs i) := by
  obtain ⟨ad, c, e, _, hK, hc0⟩ := Kd.C_get h ([] : List S32) i h0 h1
  have hc : ∀ j u, c[j]? = some u → w.cell? (ad.add (i.toNat * 1 + j)) = some u := hc0
  obtain ⟨A0, c0, rfl, l0, g0⟩ := hK
  exact ⟨ad, A0, c0, e, by have hq := hc 0 _ rfl; rwa [Nat.mul_one, Nat.add_zero] at hq, l0, g0⟩

def rd_L4 (xs : List (List Int)) (i : Int) : (List Int) := xs.getD i.toNat ([] : List Int)
theorem at_L4 {w : World} {A : Option Addr} {n : Nat} {xs : List (List Int)} (h : Kd.C (Kd.slice 30 (Kd.int .u64)) w A n xs) (i : Int) (h0 : 0 ≤ i) (h1 : i < n) : ∃ ad A0 c0, A = some ad ∧ w.cell? (ad.add i.toNat) = some (.slice A0 (rd_L4 xs i).length c0) ∧ (rd_L4 xs i).length ≤ c0 ∧ (Kd.int .u64).C w A0 (rd_L4 xs i).length (rd_L4 xs i) := by
  obtain ⟨ad, c, e, _, hK, hc0⟩ := Kd.C_get h ([] : List Int) i h0 h1
  have hc : ∀ j u, c[j]? = some u → w.cell? (ad.add (i.toNat * 1 + j)) = some u := hc0
  obtain ⟨A0, c0, rfl, l0, g0⟩ := hK
  exact ⟨ad, A0, c0, e, by have hq := hc 0 _ rfl; rwa [Nat.mul_one, Nat.add_zero] at hq, l0, g0⟩

/-! #### struct type 54 -/
structure S54 where
  f0 : Int
  f1 : Int
def z54 : S54 := ⟨(0 : Int), (0 : Int)⟩
def k54 : Kd S54 := Kd.iso (Kd.pair (Kd.int .i64) (Kd.int .i64)) (fun x : S54 => (x.f0, x.f1))
theorem k54_open {w : World} {x : S54} {cs : List Value} (h : k54.K w x cs) : cs = [.int .i64 x.f0, .int .i64 x.f1] := by
  obtain ⟨_, _, rfl, rfl, rfl⟩ := h
  exact rfl
theorem k54_openM {w : World} {base : Nat} {ok : Nat → Prop} {x : S54} {cs : List Value} (h : k54.M w base ok x cs) : cs = [.int .i64 x.f0, .int .i64 x.f1] := by
  obtain ⟨_, _, rfl, rfl, rfl⟩ := h
  exact rfl
theorem k54_mk (w : World) (x : S54)  : k54.K w x [.int .i64 x.f0, .int .i64 x.f1] := ⟨[.int .i64 x.f0], [.int .i64 x.f1], rfl, rfl, rfl⟩
theorem k54_mkM (w : World) (base : Nat) (ok : Nat → Prop) (x : S54)  : k54.M w base ok x [.int .i64 x.f0, .int .i64 x.f1] := ⟨[.int .i64 x.f0], [.int .i64 x.f1], rfl, rfl, rfl⟩
theorem k54_mkF (W : World) (ok : Nat → Prop) (x : S54) : Kd.FK k54 W ok x [.int .i64 x.f0, .int .i64 x.f1] := fun W2 _ => k54_mk W2 x
def rd_T54 (xs : List S54) (i : Int) : S54 := xs.getD i.toNat z54
theorem at_T54 {w : World} {A : Option Addr} {n : Nat} {xs : List S54} (h : Kd.C k54 w A n xs) (i : Int) (h0 : 0 ≤ i) (h1 : i < n) : ∃ ad , A = some ad ∧ w.cell? (ad.add (i.toNat * 2)) = some (.int .i64 (rd_T54 xs i).f0) ∧ w.cell? ⟨(ad.add (i.toNat * 2)).block, (ad.add (i.toNat * 2)).off + 1, none⟩ = some (.int .i64 (rd_T54 xs i).f1) := by
  obtain ⟨ad, c, e, _, hK, hc0⟩ := Kd.C_get h z54 i h0 h1
  have hc : ∀ j u, c[j]? = some u → w.cell? (ad.add (i.toNat * 2 + j)) = some u := hc0
  obtain rfl := k54_open hK
  exact ⟨ad, e, hc 0 _ rfl, by rw [← add_field _ _ 1 (by omega)]; exact hc 1 _ rfl⟩

def rd_L7 (xs : List (List (List S32))) (i : Int) : (List (List S32)) := xs.getD i.toNat ([] : List (List S32))
theorem at_L7 {w : World} {A : Option Addr} {n : Nat} {xs : List (List (List S32))} (h : Kd.C (Kd.slice 25 (Kd.slice 32 k32)) w A n xs) (i : Int) (h0 : 0 ≤ i) (h1 : i < n) : ∃ ad A0 c0, A = some ad ∧ w.cell? (ad.add i.toNat) = some (.slice A0 (rd_L7 xs i).length c0) ∧ (rd_L7 xs i).length ≤ c0 ∧ (Kd.slice 32 k32).C w A0 (rd_L7 xs i).length (rd_L7 xs i) := by
  obtain ⟨ad, c, e, _, hK, hc0⟩ := Kd.C_get h ([] : List (List S32)) i h0 h1
  have hc : ∀ j u, c[j]? = some u → w.cell? (ad.add (i.toNat * 1 + j)) = some u := hc0
  obtain ⟨A0, c0, rfl, l0, g0⟩ := hK
  exact ⟨ad, A0, c0, e, by have hq := hc 0 _ rfl; rwa [Nat.mul_one, Nat.add_zero] at hq, l0, g0⟩

end Go.Proofs.Ytojbfjfjhfnopaa.G
end

section
/- A range over a function: D are blocks that the iterator reads and all leave; T the blocks that it has laid for itself since it was called. Of no program. -/
namespace Go.Proofs.Ytojbfjfjhfnopaa.RangeD
open Go.RowKit Go.Shelf
set_option linter.unusedVariables false
abbrev Blocks := Nat → Prop
/-- What the iterator's own steps turn: its own blocks; it may lay new ones, its own or not. -/
structure Turned (T T' : Blocks) (A A' : World) : Prop where
  os : A'.os = A.os
  tape : A'.tape = A.tape
  output : A'.output = A.output
  size : A.heap.size ≤ A'.heap.size
  sub : ∀ k, T k → T' k
  new : ∀ k, T' k → T k ∨ (A.heap.size ≤ k ∧ k < A'.heap.size)
  same : ∀ k, k < A.heap.size → ¬ T k → A'.heap[k]? = A.heap[k]?
theorem Turned.refl (T : Blocks) (A : World) : Turned T T A A := ⟨rfl, rfl, rfl, Nat.le_refl _, fun _ h => h, fun _ h => .inl h, fun _ _ _ => rfl⟩
theorem Turned.trans {T T' T2 : Blocks} {A A' A2 : World} (h : Turned T T' A A') (k : Turned T' T2 A' A2) : Turned T T2 A A2 :=
  ⟨k.os.trans h.os, k.tape.trans h.tape, k.output.trans h.output, Nat.le_trans h.size k.size, fun j hj => k.sub j (h.sub j hj), fun j hj => (k.new j hj).elim (fun h1 => (h.new j h1).elim .inl (fun h2 => .inr ⟨h2.1, Nat.lt_of_lt_of_le h2.2 k.size⟩)) (fun h1 => .inr ⟨Nat.le_trans h.size h1.1, h1.2⟩),
    fun j hj hn => (k.same j (Nat.lt_of_lt_of_le hj h.size) (fun h2 => (h.new j h2).elim hn (fun h3 => absurd hj (by omega)))).trans (h.same j hj hn)⟩
theorem Turned.of_below {T : Blocks} {A A' : World} (h : Below A.heap.size A A') : Turned T T A A' := ⟨h.os, h.tape, h.output, h.size, fun _ h => h, fun _ h => .inl h, fun k hk _ => h.block k hk⟩
theorem Turned.drewN (T : Blocks) (A : World) (n : Nat) : Turned T T A (A.drewN n) := ⟨rfl, rfl, rfl, Nat.le_refl _, fun _ h => h, fun _ h => .inl h, fun _ _ _ => rfl⟩
theorem Turned.setCell {T : Blocks} {A : World} {p : Addr} (hp : T p.block) (v : Value) : Turned T T A (A.setCell p v) :=
  ⟨rfl, rfl, rfl, by simp [World.setCell], fun _ h => h, fun _ h => .inl h, fun k hk hn => Below.heap_setCell A p v k (by intro e; subst e; exact hn hp)⟩
/-- All that is new is its own. -/
def withNew (T : Blocks) (A A' : World) : Blocks := fun k => T k ∨ (A.heap.size ≤ k ∧ k < A'.heap.size)
theorem Turned.grow {T : Blocks} {A A' : World} (h1 : A'.os = A.os) (h2 : A'.tape = A.tape) (h3 : A'.output = A.output) (h4 : A.heap.size ≤ A'.heap.size) (h5 : ∀ k, k < A.heap.size → ¬ T k → A'.heap[k]? = A.heap[k]?) : Turned T (withNew T A A') A A' :=
  ⟨h1, h2, h3, h4, fun _ h => .inl h, fun _ h => h, h5⟩
def Abide {β : Type} (J : β → Blocks → World → Prop) : Prop := ∀ s T T' A A', J s T A → Turned T T' A A' → J s T' A'
/-- Blocks are as they were. -/
def Same (D : Blocks) (W W' : World) : Prop := ∀ k, D k → k < W.heap.size → W'.heap[k]? = W.heap[k]?
theorem Same.trans {D : Blocks} {A B C : World} (h : Same D A B) (hs : A.heap.size ≤ B.heap.size) (k : Same D B C) : Same D A C := fun j hj hl => (k j hj (Nat.lt_of_lt_of_le hl hs)).trans (h j hj hl)
/-- The contract of an iterator, at a world. -/
def SeqD {α : Type} (P : Program) (g : Nat) (lb : Array Value) (encs : α → Array Value) (D : Blocks) (S Sp : List α → Prop) (Nx : List α → α → Prop) (W : World) : Prop :=
  ∀ (l : Nat) (J Jx : List α → Blocks → World → Prop) (W0 : World), W.heap.size ≤ W0.heap.size → Same D W W0 → Abide J → Abide Jx →
    (∀ pre x T W1, J pre T W1 → Nx pre x → YieldAt Fence.wide 0 P l (encs x) W1 fun e W' =>
      (e = .returned (.bool true) ∧ J (pre ++ [x]) T W' ∧ W1.heap.size ≤ W'.heap.size ∧ Same (fun k => D k ∨ T k) W1 W') ∨ (e = .returned (.bool false) ∧ Jx (pre ++ [x]) T W' ∧ W1.heap.size ≤ W'.heap.size ∧ Same (fun k => D k ∨ T k) W1 W')) →
    J [] (fun _ => False) W0 →
    CallsIn Fence.wide 0 P g (#[.func (.yield l) #[] #[]] ++ lb) W0 fun e W' => (∃ v, e = .returned v) ∧ ((∃ xs T, S xs ∧ J xs T W') ∨ (∃ pre T, Sp pre ∧ Jx pre T W'))
theorem SeqD.same {α : Type} {P : Program} {g : Nat} {lb : Array Value} {encs : α → Array Value} {D : Blocks} {S Sp : List α → Prop} {Nx : List α → α → Prop} {W W2 : World} (h : SeqD P g lb encs D S Sp Nx W) (hs : W.heap.size ≤ W2.heap.size) (hd : Same D W W2) : SeqD P g lb encs D S Sp Nx W2 :=
  fun l J Jx W0 h1 h2 => h l J Jx W0 (Nat.le_trans hs h1) (hd.trans hs h2)
/-- How the body of a round may be left. -/
def postD {α : Type} (B : Nat) (D T : Blocks) (I : List α → Blocks → World → Prop) (Ix : Code → List α → Blocks → World → Prop) (xs : List α) (W : World) : Exit → Act → World → Prop
  | .normal, _, W' => KeepsFrom B W W' ∧ Same (fun k => D k ∨ T k) W W' ∧ I xs T W'
  | .ret, _, W' => KeepsFrom B W W' ∧ Same (fun k => D k ∨ T k) W W' ∧ Ix .ret xs T W'
  | .exit id, _, W' => KeepsFrom B W W' ∧ Same (fun k => D k ∨ T k) W W' ∧ Ix (.exit id) xs T W'
  | .goto t, _, W' => KeepsFrom B W W' ∧ Same (fun k => D k ∨ T k) W W' ∧ Ix (.goto t) xs T W'
  | .panic _, _, _ => False
  | .outgrown, _, _ => False
def OwnT {α : Type} (B : Nat) (I : List α → Blocks → World → Prop) : Prop := ∀ (T : Blocks), OwnFrom B (fun s W => I s T W)
theorem same_put {D : Blocks} {W : World} {l : Nat} {o : Obj} (h : ∀ k, D k → k < W.heap.size → k ≠ l) : Same D W (W.putObj l o) := fun k hk hl => World.putObj_heap_other (h k hk hl)
theorem wpIn_rangeFunc_D {α : Type} {P : Program} {g : Operand} {ps : Array Tmp} {assign body : Code} {Q : Exit → Act → World → Prop} {a : Act} {w : World}
    {gf : Nat} {lb : Array Value} (hg : a.eval g = .func (.func gf) #[] lb) (eg : ∀ args w, (callFunc gf args).run P w = .ok (.enter gf args) w)
    {encs : α → Array Value} {D : Blocks} {S Sp : List α → Prop} {Nx : List α → α → Prop} (hseq : SeqD P gf lb encs D S Sp Nx w) (hD0 : ∀ k, D k → k < w.heap.size) (hps : ∀ x, (encs x).size = ps.size)
    (I : List α → Blocks → World → Prop) (Ix : Code → List α → Blocks → World → Prop) (Ax : List α → α → Blocks → Act → World → Prop) (hA : Abide I) (hAx : ∀ c, Abide (Ix c)) (hI : OwnT w.heap.size I) (hIx : ∀ c, OwnT w.heap.size (Ix c)) (hAo : ∀ pre x T a', OwnFrom w.heap.size (fun (_ : Unit) W => Ax pre x T a' W)) (h0 : I [] (fun _ => False) w)
    (hassign : ∀ (l : Nat) (pre : List α) (x : α) (T : Blocks) (W : World) (K : Act → World → Prop), I pre T W → Nx pre x → (∀ a' W', KeepsFrom w.heap.size W W' → Same (fun k => D k ∨ T k) W W' → I pre T W' → Ax pre x T a' W' → K a' W') →
      assign.wpIn (Fence.wide.inRound l) 0 P (Exit.then K (fun _ _ _ => False)) { tmps := (ps.zip (encs x)).foldl (fun t (p, v) => t.setIfInBounds p v) a.tmps, defers := [] } W)
    (hbody : ∀ (l : Nat) (pre : List α) (x : α) (T : Blocks) (a' : Act) (W : World), w.heap.size ≤ l → (∃ r, W.heap[l]? = some (.loop r)) → ¬ T l → I pre T W → Ax pre x T a' W → Nx pre x → body.wpIn (Fence.wide.inRound l) 0 P (postD w.heap.size D T I Ix (pre ++ [x]) W) a' W)
    (hdone : ∀ (C : Nat) (xs : List α) (T : Blocks) (W : World), w.heap.size ≤ C → S xs → I xs T W → W.heap[C]? = some (.deferred (some [])) → Q .normal { a with defers := { target := .collected C, args := #[] } :: a.defers } W)
    (hstop : ∀ (C : Nat) (c : Code) (pre : List α) (T : Blocks) (W : World), w.heap.size ≤ C → Sp pre → Ix c pre T W → W.heap[C]? = some (.deferred (some [])) → c.wpIn Fence.wide 0 P Q { a with defers := { target := .collected C, args := #[] } :: a.defers } W) :
    (Code.rangeFunc g ps assign body).wpIn Fence.wide 0 P Q a w := by
  refine wpIn_rangeFunc fun fn hfn => ?_
  rw [Fence.wide_round]
  obtain ⟨rec, hrec⟩ : ∃ rec : LoopState → Option Code → Loop, rec = fun st pe => { state := st, pending := pe, fn, tmps := a.tmps, params := ps, assign, body, defers := w.heap.size } := ⟨_, rfl⟩
  obtain ⟨W1, hW1⟩ : ∃ W1, (w.alloc (.deferred (some []))).alloc (.loop (rec .ready none)) = W1 := ⟨_, rfl⟩
  have hL1 : W1.heap[w.heap.size + 1]? = some (.loop (rec .ready none)) := by
    rw [← hW1]; have := World.alloc_heap_new (w.alloc (.deferred (some []))) (.loop (rec .ready none)); rwa [World.size_alloc] at this
  have hD1 : W1.heap[w.heap.size]? = some (.deferred (some [])) := by
    rw [← hW1]; exact (Below.heap_alloc _ _ _ (by simp)).trans (World.alloc_heap_new w _)
  have hI1 : I [] (fun _ => False) W1 := by rw [← hW1]; exact (hI _).alloc _ ((hI _).alloc _ h0)
  have hb1 : Below w.heap.size w W1 := by rw [← hW1]; exact ((Below.refl _ w).alloc (Nat.le_refl _) _).alloc (by simp) _
  refine ⟨w.heap.size + 1, [{ target := .collected w.heap.size, args := #[] }], W1, { target := .fn (.func gf) lb, args := #[.func (.yield (w.heap.size + 1)) #[] #[]] }, W1, gf,
    #[.func (.yield (w.heap.size + 1)) #[] #[]] ++ lb, W1, ?_, ?_, ?_, ?_, fun h => by simp [Fence.wide] at h, ?_⟩
  · rw [← hW1, hrec]; exact run_enterLoop_outer _ _ _ _ _
  · simp only [resolve, hg]
    simp [go_sem]
  · intro f' hf'; trivial
  · simp [invoke, go_sem, eg]
  · have keep : ∀ {T T' : Blocks} {A A' : World} {j : Nat} {o : Obj}, Turned T T' A A' → ¬ T j → A.heap[j]? = some o → A'.heap[j]? = some o ∧ ¬ T' j := fun {T T' A A' j o} ht hn ho => by
      have hlt : j < A.heap.size := (Array.getElem?_eq_some_iff.1 ho).1
      exact ⟨(ht.same j hlt hn).trans ho, fun h => (ht.new j h).elim hn (fun h2 => absurd hlt (by omega))⟩
    refine (hseq (w.heap.size + 1)
      (fun pre T W => I pre T W ∧ (W.heap[w.heap.size + 1]? = some (.loop (rec .ready none)) ∧ ¬ T (w.heap.size + 1)) ∧ W.heap[w.heap.size]? = some (.deferred (some [])) ∧ ¬ T w.heap.size)
      (fun pre T W => ∃ c, Ix c pre T W ∧ (W.heap[w.heap.size + 1]? = some (.loop (rec .done (some c))) ∧ ¬ T (w.heap.size + 1)) ∧ W.heap[w.heap.size]? = some (.deferred (some [])) ∧ ¬ T w.heap.size)
      W1 hb1.size (fun k _ hk => hb1.block k hk)
      (fun s T T' A A' hs ht => ⟨hA _ _ _ _ _ hs.1 ht, keep ht hs.2.1.2 hs.2.1.1, keep ht hs.2.2.2 hs.2.2.1⟩)
      (fun s T T' A A' hs ht => by
        obtain ⟨c, hc, hl, hk⟩ := hs
        exact ⟨c, hAx c _ _ _ _ _ hc ht, keep ht hl.2 hl.1, keep ht hk.2 hk.1⟩)
      ?_ ⟨hI1, ⟨hL1, fun h => h⟩, hD1, fun h => h⟩).mono ?_
    · rintro pre x T W ⟨hi, ⟨hl, hnl⟩, hk, hnk⟩ hnx
      have hy := run_yield (P := P) (args := encs x) hl (by rw [hrec]; exact hps x)
      rw [hrec] at hy
      refine ⟨fn, _, assign, body, hy, roundIn_of_wpIn hfn (hassign _ pre x T W _ hi hnx ?_)⟩
      intro a' Wa hkfa hsa hia hax
      have hla := hkfa.same _ _ (by omega) hl rfl
      have hka := hkfa.same _ _ (Nat.le_refl _) hk rfl
      have hlt : w.heap.size + 1 < Wa.heap.size := (Array.getElem?_eq_some_iff.1 hla).1
      refine ⟨_, run_beginRound hla (by rw [hrec]), ?_⟩
      have hl2 : (Wa.putObj (w.heap.size + 1) (.loop { rec .ready none with state := .busy })).heap[w.heap.size + 1]? = some (.loop { rec .ready none with state := .busy }) := World.putObj_heap_same hlt
      have hk2 : (Wa.putObj (w.heap.size + 1) (.loop { rec .ready none with state := .busy })).heap[w.heap.size]? = some (.deferred (some [])) := (World.putObj_heap_other (by omega)).trans hka
      have hsz2 : (Wa.putObj (w.heap.size + 1) (.loop { rec .ready none with state := .busy })).heap.size = Wa.heap.size := by simp [World.putObj]
      have hnb : ∀ k, D k ∨ T k → k ≠ w.heap.size + 1 := fun k hk e => by
        subst e
        rcases hk with hk | hk
        · have := hD0 _ hk; omega
        · exact hnl hk
      refine wpIn_mono (hbody _ pre x T a' _ (by omega) ⟨_, hl2⟩ hnl ((hI T).putObj _ hia (by omega) hla rfl) ((hAo pre x T a').putObj (s := ()) _ hax (by omega) hla rfl) hnx) ?_
      have fin : ∀ (jump : Option Code) (W3 : World), KeepsFrom w.heap.size (Wa.putObj (w.heap.size + 1) (.loop { rec .ready none with state := .busy })) W3 →
          (Instr.endRound (w.heap.size + 1) jump).run P W3 = .ok (.bool jump.isNone) (W3.putObj (w.heap.size + 1) (.loop (rec (if jump.isNone then .ready else .done) jump))) ∧
          W3.heap[w.heap.size + 1]? = some (.loop { rec .ready none with state := .busy }) ∧
          (W3.putObj (w.heap.size + 1) (.loop (rec (if jump.isNone then .ready else .done) jump))).heap[w.heap.size + 1]? = some (.loop (rec (if jump.isNone then .ready else .done) jump)) ∧
          (W3.putObj (w.heap.size + 1) (.loop (rec (if jump.isNone then .ready else .done) jump))).heap[w.heap.size]? = some (.deferred (some [])) := fun jump W3 hk3 => by
        have hl3 := hk3.same _ _ (by omega) hl2 rfl
        have := run_endRound (P := P) jump hl3
        rw [hrec] at this ⊢
        exact ⟨this, by rw [hrec] at hl3; exact hl3, World.putObj_heap_same (Array.getElem?_eq_some_iff.1 hl3).1, (World.putObj_heap_other (by omega)).trans (hk3.same _ _ (Nat.le_refl _) hk2 rfl)⟩
      rintro e a3 W3 hp
      cases e with
      | normal =>
        obtain ⟨hk3, hT3, hi3⟩ := hp
        obtain ⟨hr, hl3, hl4, hk4⟩ := fin none W3 hk3
        have hsa2 := hkfa.size
        have hs3 : W.heap.size ≤ W3.heap.size := Nat.le_trans hsa2 (Nat.le_trans (Nat.le_of_eq hsz2.symm) hk3.size)
        refine ⟨_, _, hr, .inl ⟨rfl, ⟨(hI T).putObj _ hi3 (by omega) hl3 rfl, ⟨hl4, hnl⟩, hk4, hnk⟩, by simp [World.putObj]; exact hs3, ?_⟩⟩
        exact ((hsa.trans hsa2 (same_put (fun k hk _ => hnb k hk))).trans (by rw [hsz2]; exact hsa2) hT3).trans hs3 (same_put (fun k hk _ => hnb k hk))
      | ret =>
        obtain ⟨hk3, hT3, hi3⟩ := hp
        have hsa2 := hkfa.size
        have hs3 : W.heap.size ≤ W3.heap.size := Nat.le_trans hsa2 (Nat.le_trans (Nat.le_of_eq hsz2.symm) hk3.size)
        obtain ⟨hr, hl3, hl4, hk4⟩ := fin (some .ret) W3 hk3
        exact ⟨_, _, hr, .inr ⟨rfl, ⟨.ret, (hIx _ T).putObj _ hi3 (by omega) hl3 rfl, ⟨hl4, hnl⟩, hk4, hnk⟩, by simp [World.putObj]; exact hs3, ((hsa.trans hsa2 (same_put (fun k hk _ => hnb k hk))).trans (by rw [hsz2]; exact hsa2) hT3).trans hs3 (same_put (fun k hk _ => hnb k hk))⟩⟩
      | exit id =>
        obtain ⟨hk3, hT3, hi3⟩ := hp
        have hsa2 := hkfa.size
        have hs3 : W.heap.size ≤ W3.heap.size := Nat.le_trans hsa2 (Nat.le_trans (Nat.le_of_eq hsz2.symm) hk3.size)
        obtain ⟨hr, hl3, hl4, hk4⟩ := fin (some (.exit id)) W3 hk3
        exact ⟨_, _, hr, .inr ⟨rfl, ⟨.exit id, (hIx _ T).putObj _ hi3 (by omega) hl3 rfl, ⟨hl4, hnl⟩, hk4, hnk⟩, by simp [World.putObj]; exact hs3, ((hsa.trans hsa2 (same_put (fun k hk _ => hnb k hk))).trans (by rw [hsz2]; exact hsa2) hT3).trans hs3 (same_put (fun k hk _ => hnb k hk))⟩⟩
      | goto t =>
        obtain ⟨hk3, hT3, hi3⟩ := hp
        have hsa2 := hkfa.size
        have hs3 : W.heap.size ≤ W3.heap.size := Nat.le_trans hsa2 (Nat.le_trans (Nat.le_of_eq hsz2.symm) hk3.size)
        obtain ⟨hr, hl3, hl4, hk4⟩ := fin (some (.goto t)) W3 hk3
        exact ⟨_, _, hr, .inr ⟨rfl, ⟨.goto t, (hIx _ T).putObj _ hi3 (by omega) hl3 rfl, ⟨hl4, hnl⟩, hk4, hnk⟩, by simp [World.putObj]; exact hs3, ((hsa.trans hsa2 (same_put (fun k hk _ => hnb k hk))).trans (by rw [hsz2]; exact hsa2) hT3).trans hs3 (same_put (fun k hk _ => hnb k hk))⟩⟩
      | panic ch => exact hp.elim
      | outgrown => exact hp.elim
    · rintro e W2 ⟨⟨v, rfl⟩, (⟨xs, T, hS, hi, ⟨hl, _⟩, hk, _⟩ | ⟨pre, T, hSp, c, hi, ⟨hl, _⟩, hk, _⟩)⟩
      · exact ⟨none, _, by have := run_endLoop (P := P) hl (by rw [hrec]; simp); rw [hrec] at this; exact this, hdone _ xs T _ (Nat.le_refl _) hS ((hI T).putObj _ hi (by omega) hl rfl) ((World.putObj_heap_other (by omega)).trans hk)⟩
      · exact ⟨some c, _, by have := run_endLoop (P := P) hl (by rw [hrec]; simp); rw [hrec] at this; exact this, hstop _ c pre T _ (Nat.le_refl _) hSp ((hIx c T).putObj _ hi (by omega) hl rfl) ((World.putObj_heap_other (by omega)).trans hk)⟩
/-- The same within a round. -/
theorem wpIn_rangeFunc_DN {α : Type} {P : Program} {g : Operand} {ps : Array Tmp} {assign body : Code} {Q : Exit → Act → World → Prop} {a : Act} {w : World}
    {l₀ : Nat} {r₀ : Loop} (hl₀ : w.heap[l₀]? = some (.loop r₀)) {gf : Nat} {lb : Array Value} (hg : a.eval g = .func (.func gf) #[] lb) (eg : ∀ args w, (callFunc gf args).run P w = .ok (.enter gf args) w)
    {encs : α → Array Value} {D : Blocks} {S Sp : List α → Prop} {Nx : List α → α → Prop} (hseq : SeqD P gf lb encs D S Sp Nx w) (hD0 : ∀ k, D k → k < w.heap.size) (hps : ∀ x, (encs x).size = ps.size)
    (I : List α → Blocks → World → Prop) (Ix : Code → List α → Blocks → World → Prop) (Ax : List α → α → Blocks → Act → World → Prop) (hA : Abide I) (hAx : ∀ c, Abide (Ix c)) (hI : OwnT w.heap.size I) (hIx : ∀ c, OwnT w.heap.size (Ix c)) (hAo : ∀ pre x T a', OwnFrom w.heap.size (fun (_ : Unit) W => Ax pre x T a' W)) (h0 : I [] (fun _ => False) w)
    (hassign : ∀ (l : Nat) (pre : List α) (x : α) (T : Blocks) (W : World) (K : Act → World → Prop), I pre T W → Nx pre x → (∀ a' W', KeepsFrom w.heap.size W W' → Same (fun k => D k ∨ T k) W W' → I pre T W' → Ax pre x T a' W' → K a' W') →
      assign.wpIn (Fence.wide.inRound l) 0 P (Exit.then K (fun _ _ _ => False)) { tmps := (ps.zip (encs x)).foldl (fun t (p, v) => t.setIfInBounds p v) a.tmps, defers := [] } W)
    (hbody : ∀ (l : Nat) (pre : List α) (x : α) (T : Blocks) (a' : Act) (W : World), w.heap.size ≤ l → (∃ r, W.heap[l]? = some (.loop r)) → ¬ T l → I pre T W → Ax pre x T a' W → Nx pre x → body.wpIn (Fence.wide.inRound l) 0 P (postD w.heap.size D T I Ix (pre ++ [x]) W) a' W)
    (hdone : ∀ (xs : List α) (T : Blocks) (W : World), S xs → I xs T W → Q .normal a W)
    (hstop : ∀ (c : Code) (pre : List α) (T : Blocks) (W : World), Sp pre → Ix c pre T W → c.wpIn (Fence.wide.inRound l₀) 0 P Q a W) :
    (Code.rangeFunc g ps assign body).wpIn (Fence.wide.inRound l₀) 0 P Q a w := by
  refine wpIn_rangeFunc fun fn hfn => ?_
  rw [Fence.inRound_round]
  obtain ⟨rec, hrec⟩ : ∃ rec : LoopState → Option Code → Loop, rec = fun st pe => { state := st, pending := pe, fn, tmps := a.tmps, params := ps, assign, body, defers := r₀.defers } := ⟨_, rfl⟩
  obtain ⟨W1, hW1⟩ : ∃ W1, w.alloc (.loop (rec .ready none)) = W1 := ⟨_, rfl⟩
  have hL1 : W1.heap[w.heap.size]? = some (.loop (rec .ready none)) := by rw [← hW1]; exact World.alloc_heap_new w _
  have hI1 : I [] (fun _ => False) W1 := by rw [← hW1]; exact (hI _).alloc _ h0
  have hb1 : Below w.heap.size w W1 := by rw [← hW1]; exact (Below.refl _ w).alloc (Nat.le_refl _) _
  refine ⟨w.heap.size, [], W1, { target := .fn (.func gf) lb, args := #[.func (.yield w.heap.size) #[] #[]] }, W1, gf,
    #[.func (.yield w.heap.size) #[] #[]] ++ lb, W1, ?_, ?_, ?_, ?_, fun h => by simp [Fence.wide] at h, ?_⟩
  · rw [← hW1, hrec]; exact run_enterLoop_inner hl₀ _ _ _ _ _
  · simp only [resolve, hg]
    simp [go_sem]
  · intro f' hf'; trivial
  · simp [invoke, go_sem, eg]
  · have keep : ∀ {T T' : Blocks} {A A' : World} {j : Nat} {o : Obj}, Turned T T' A A' → ¬ T j → A.heap[j]? = some o → A'.heap[j]? = some o ∧ ¬ T' j := fun {T T' A A' j o} ht hn ho => by
      have hlt : j < A.heap.size := (Array.getElem?_eq_some_iff.1 ho).1
      exact ⟨(ht.same j hlt hn).trans ho, fun h => (ht.new j h).elim hn (fun h2 => absurd hlt (by omega))⟩
    refine CallsIn.inRound l₀ ((hseq w.heap.size
      (fun pre T W => I pre T W ∧ W.heap[w.heap.size]? = some (.loop (rec .ready none)) ∧ ¬ T w.heap.size)
      (fun pre T W => ∃ c, Ix c pre T W ∧ W.heap[w.heap.size]? = some (.loop (rec .done (some c))) ∧ ¬ T w.heap.size)
      W1 hb1.size (fun k _ hk => hb1.block k hk)
      (fun s T T' A A' hs ht => ⟨hA _ _ _ _ _ hs.1 ht, keep ht hs.2.2 hs.2.1⟩)
      (fun s T T' A A' hs ht => by
        obtain ⟨c, hc, hl, hn⟩ := hs
        exact ⟨c, hAx c _ _ _ _ _ hc ht, keep ht hn hl⟩)
      ?_ ⟨hI1, hL1, fun h => h⟩).mono ?_)
    · rintro pre x T W ⟨hi, hl, hnl⟩ hnx
      have hy := run_yield (P := P) (args := encs x) hl (by rw [hrec]; exact hps x)
      rw [hrec] at hy
      refine ⟨fn, _, assign, body, hy, roundIn_of_wpIn hfn (hassign _ pre x T W _ hi hnx ?_)⟩
      intro a' Wa hkfa hsa hia hax
      have hla := hkfa.same _ _ (by omega) hl rfl
      have hlt : w.heap.size < Wa.heap.size := (Array.getElem?_eq_some_iff.1 hla).1
      refine ⟨_, run_beginRound hla (by rw [hrec]), ?_⟩
      have hl2 : (Wa.putObj (w.heap.size) (.loop { rec .ready none with state := .busy })).heap[w.heap.size]? = some (.loop { rec .ready none with state := .busy }) := World.putObj_heap_same hlt
      have hsz2 : (Wa.putObj (w.heap.size) (.loop { rec .ready none with state := .busy })).heap.size = Wa.heap.size := by simp [World.putObj]
      have hnb : ∀ k, D k ∨ T k → k ≠ w.heap.size := fun k hk e => by
        subst e
        rcases hk with hk | hk
        · have := hD0 _ hk; omega
        · exact hnl hk
      refine wpIn_mono (hbody _ pre x T a' _ (by omega) ⟨_, hl2⟩ hnl ((hI T).putObj _ hia (by omega) hla rfl) ((hAo pre x T a').putObj (s := ()) _ hax (by omega) hla rfl) hnx) ?_
      have fin : ∀ (jump : Option Code) (W3 : World), KeepsFrom w.heap.size (Wa.putObj (w.heap.size) (.loop { rec .ready none with state := .busy })) W3 →
          (Instr.endRound (w.heap.size) jump).run P W3 = .ok (.bool jump.isNone) (W3.putObj (w.heap.size) (.loop (rec (if jump.isNone then .ready else .done) jump))) ∧
          W3.heap[w.heap.size]? = some (.loop { rec .ready none with state := .busy }) ∧
          (W3.putObj (w.heap.size) (.loop (rec (if jump.isNone then .ready else .done) jump))).heap[w.heap.size]? = some (.loop (rec (if jump.isNone then .ready else .done) jump)) := fun jump W3 hk3 => by
        have hl3 := hk3.same _ _ (by omega) hl2 rfl
        have := run_endRound (P := P) jump hl3
        rw [hrec] at this ⊢
        exact ⟨this, by rw [hrec] at hl3; exact hl3, World.putObj_heap_same (Array.getElem?_eq_some_iff.1 hl3).1⟩
      rintro e a3 W3 hp
      cases e with
      | normal =>
        obtain ⟨hk3, hT3, hi3⟩ := hp
        obtain ⟨hr, hl3, hl4⟩ := fin none W3 hk3
        have hsa2 := hkfa.size
        have hs3 : W.heap.size ≤ W3.heap.size := Nat.le_trans hsa2 (Nat.le_trans (Nat.le_of_eq hsz2.symm) hk3.size)
        refine ⟨_, _, hr, .inl ⟨rfl, ⟨(hI T).putObj _ hi3 (by omega) hl3 rfl, hl4, hnl⟩, by simp [World.putObj]; exact hs3, ?_⟩⟩
        exact ((hsa.trans hsa2 (same_put (fun k hk _ => hnb k hk))).trans (by rw [hsz2]; exact hsa2) hT3).trans hs3 (same_put (fun k hk _ => hnb k hk))
      | ret =>
        obtain ⟨hk3, hT3, hi3⟩ := hp
        have hsa2 := hkfa.size
        have hs3 : W.heap.size ≤ W3.heap.size := Nat.le_trans hsa2 (Nat.le_trans (Nat.le_of_eq hsz2.symm) hk3.size)
        obtain ⟨hr, hl3, hl4⟩ := fin (some .ret) W3 hk3
        exact ⟨_, _, hr, .inr ⟨rfl, ⟨.ret, (hIx _ T).putObj _ hi3 (by omega) hl3 rfl, hl4, hnl⟩, by simp [World.putObj]; exact hs3, ((hsa.trans hsa2 (same_put (fun k hk _ => hnb k hk))).trans (by rw [hsz2]; exact hsa2) hT3).trans hs3 (same_put (fun k hk _ => hnb k hk))⟩⟩
      | exit id =>
        obtain ⟨hk3, hT3, hi3⟩ := hp
        have hsa2 := hkfa.size
        have hs3 : W.heap.size ≤ W3.heap.size := Nat.le_trans hsa2 (Nat.le_trans (Nat.le_of_eq hsz2.symm) hk3.size)
        obtain ⟨hr, hl3, hl4⟩ := fin (some (.exit id)) W3 hk3
        exact ⟨_, _, hr, .inr ⟨rfl, ⟨.exit id, (hIx _ T).putObj _ hi3 (by omega) hl3 rfl, hl4, hnl⟩, by simp [World.putObj]; exact hs3, ((hsa.trans hsa2 (same_put (fun k hk _ => hnb k hk))).trans (by rw [hsz2]; exact hsa2) hT3).trans hs3 (same_put (fun k hk _ => hnb k hk))⟩⟩
      | goto t =>
        obtain ⟨hk3, hT3, hi3⟩ := hp
        have hsa2 := hkfa.size
        have hs3 : W.heap.size ≤ W3.heap.size := Nat.le_trans hsa2 (Nat.le_trans (Nat.le_of_eq hsz2.symm) hk3.size)
        obtain ⟨hr, hl3, hl4⟩ := fin (some (.goto t)) W3 hk3
        exact ⟨_, _, hr, .inr ⟨rfl, ⟨.goto t, (hIx _ T).putObj _ hi3 (by omega) hl3 rfl, hl4, hnl⟩, by simp [World.putObj]; exact hs3, ((hsa.trans hsa2 (same_put (fun k hk _ => hnb k hk))).trans (by rw [hsz2]; exact hsa2) hT3).trans hs3 (same_put (fun k hk _ => hnb k hk))⟩⟩
      | panic ch => exact hp.elim
      | outgrown => exact hp.elim
    · rintro e W2 ⟨⟨v, rfl⟩, (⟨xs, T, hS, hi, hl, _⟩ | ⟨pre, T, hSp, c, hi, hl, _⟩)⟩
      · exact ⟨none, _, by have := run_endLoop (P := P) hl (by rw [hrec]; simp); rw [hrec] at this; exact this, hdone xs T _ hS ((hI T).putObj _ hi (by omega) hl rfl)⟩
      · exact ⟨some c, _, by have := run_endLoop (P := P) hl (by rw [hrec]; simp); rw [hrec] at this; exact this, hstop c pre T _ hSp ((hIx c T).putObj _ hi (by omega) hl rfl)⟩
end Go.Proofs.Ytojbfjfjhfnopaa.RangeD
end

section
/- Heaps of heads, as lists: what put and take keep. No program in sight. -/
namespace Go.Proofs.Ytojbfjfjhfnopaa.HeapL
set_option linter.unusedVariables false
structure Hd where
  key : Int
  frm : Int
  ad : Option Addr
  len : Nat
  cap : Nat
abbrev Hd.rest (x : Hd) : Value := .slice x.ad x.len x.cap
def Hd.Lt (a b : Hd) : Prop := a.key < b.key ∨ (a.key = b.key ∧ a.frm < b.frm)
instance (a b : Hd) : Decidable (a.Lt b) := by unfold Hd.Lt; infer_instance
def Hd.le (a b : Hd) : Prop := ¬ b.Lt a
def d0 : Hd := ⟨0, 0, none, 0, 0⟩
def at_ (l : List Hd) (i : Nat) : Hd := l.getD i d0
def swap (l : List Hd) (i j : Nat) : List Hd := (l.set i (at_ l j)).set j (at_ l i)
theorem Hd.le_trans {a b c : Hd} (h : a.le b) (k : b.le c) : a.le c := by unfold Hd.le Hd.Lt at *; omega
theorem Hd.le_refl (a : Hd) : a.le a := by unfold Hd.le Hd.Lt; omega
theorem Hd.le_of_lt {a b : Hd} (h : a.Lt b) : a.le b := by unfold Hd.le Hd.Lt at *; omega
theorem at_get (l : List Hd) (i : Nat) (h : i < l.length) : at_ l i = l[i] := by
  unfold at_
  rw [List.getD_eq_getElem?_getD, List.getElem?_eq_getElem h]
  rfl
theorem at_set (l : List Hd) (i : Nat) (x : Hd) (k : Nat) (h : i < l.length) : at_ (l.set i x) k = if k = i then x else at_ l k := by
  unfold at_
  rw [List.getD_eq_getElem?_getD, List.getD_eq_getElem?_getD, List.getElem?_set]
  by_cases e : i = k
  · subst e
    rw [if_pos rfl, if_pos rfl, if_pos h]
    rfl
  · rw [if_neg e, if_neg (fun h => e h.symm)]
theorem swap_length (l : List Hd) (i j : Nat) : (swap l i j).length = l.length := by simp [swap]
theorem at_swap (l : List Hd) (i j k : Nat) (hi : i < l.length) (hj : j < l.length) : at_ (swap l i j) k = if k = j then at_ l i else if k = i then at_ l j else at_ l k := by
  unfold swap
  rw [at_set _ _ _ _ (by simpa using hj), at_set _ _ _ _ hi]
theorem swap_perm (l : List Hd) (i j : Nat) (hi : i < l.length) (hj : j < l.length) : (swap l i j).Perm l := by
  have h := Array.swap_perm (xs := l.toArray) (i := i) (j := j) (by simpa using hi) (by simpa using hj)
  have e : (l.toArray.swap i j (by simpa using hi) (by simpa using hj)).toList = swap l i j := by
    unfold swap
    rw [at_get l i hi, at_get l j hj]
    simp [Array.swap]
  have h2 := Array.perm_iff_toList_perm.1 h
  rw [e] at h2
  simpa using h2
def Heap (l : List Hd) : Prop := ∀ j, 0 < j → j < l.length → (at_ l ((j - 1) / 2)).le (at_ l j)
theorem Heap.root {l : List Hd} (h : Heap l) : ∀ j, j < l.length → (at_ l 0).le (at_ l j) := by
  intro j
  induction j using Nat.strongRecOn with
  | _ j ih =>
    intro hj
    by_cases h0 : j = 0
    · subst h0; exact Hd.le_refl _
    · exact Hd.le_trans (ih ((j - 1) / 2) (by omega) (by omega)) (h j (by omega) hj)
structure Up (l : List Hd) (i : Nat) : Prop where
  a : ∀ j, 0 < j → j < l.length → j ≠ i → (at_ l ((j - 1) / 2)).le (at_ l j)
  b : ∀ j, 0 < j → j < l.length → (j - 1) / 2 = i → 0 < i → (at_ l ((i - 1) / 2)).le (at_ l j)
theorem Up.stop {l : List Hd} {i : Nat} (h : Up l i) (hs : i = 0 ∨ (at_ l ((i - 1) / 2)).le (at_ l i)) : Heap l := by
  intro j h0 hj
  by_cases e : j = i
  · subst e
    rcases hs with hs | hs
    · omega
    · exact hs
  · exact h.a j h0 hj e
theorem Up.step {l : List Hd} {i : Nat} (h : Up l i) (h0 : 0 < i) (hi : i < l.length) (hlt : (at_ l i).Lt (at_ l ((i - 1) / 2))) : Up (swap l i ((i - 1) / 2)) ((i - 1) / 2) := by
  have hp : (i - 1) / 2 < l.length := by omega
  have hat := fun k => at_swap l i ((i - 1) / 2) k hi hp
  refine ⟨fun j j0 jl jne => ?_, fun j j0 jl je p0 => ?_⟩
  · rw [swap_length] at jl
    rw [hat, hat]
    by_cases ej : j = i
    · subst ej
      rw [if_pos rfl, if_neg (by omega), if_pos rfl]
      exact Hd.le_of_lt hlt
    · rw [if_neg jne, if_neg ej]
      by_cases e1 : (j - 1) / 2 = (i - 1) / 2
      · rw [if_pos e1]
        have := h.a j j0 jl ej
        rw [e1] at this
        exact Hd.le_trans (Hd.le_of_lt hlt) this
      · rw [if_neg e1]
        by_cases e2 : (j - 1) / 2 = i
        · rw [if_pos e2]
          exact h.b j j0 jl e2 h0
        · rw [if_neg e2]
          exact h.a j j0 jl ej
  · rw [swap_length] at jl
    rw [hat, hat]
    have hpp : ((i - 1) / 2 - 1) / 2 ≠ (i - 1) / 2 := by omega
    rw [if_neg hpp, if_neg (by omega), if_neg (by omega)]
    have h1 := h.a ((i - 1) / 2) p0 hp (by omega)
    by_cases ej : j = i
    · rw [if_pos ej]; exact h1
    · rw [if_neg ej]
      have := h.a j j0 jl ej
      rw [je] at this
      exact Hd.le_trans h1 this
theorem Up.start {l : List Hd} (h : Heap l) (x : Hd) : Up (l ++ [x]) l.length := by
  have hat : ∀ k, k < l.length → at_ (l ++ [x]) k = at_ l k := fun k hk => by
    unfold at_
    rw [List.getD_eq_getElem?_getD, List.getD_eq_getElem?_getD, List.getElem?_append_left hk]
  refine ⟨fun j j0 jl jne => ?_, fun j j0 jl je p0 => ?_⟩
  · rw [List.length_append] at jl
    simp only [List.length_cons, List.length_nil] at jl
    rw [hat _ (by omega), hat _ (by omega)]
    exact h j j0 (by omega)
  · rw [List.length_append] at jl
    simp only [List.length_cons, List.length_nil] at jl
    omega
structure Down (l : List Hd) (i : Nat) : Prop where
  a : ∀ j, 0 < j → j < l.length → (j - 1) / 2 ≠ i → (at_ l ((j - 1) / 2)).le (at_ l j)
  b : ∀ j, 0 < j → j < l.length → (j - 1) / 2 = i → 0 < i → (at_ l ((i - 1) / 2)).le (at_ l j)
theorem Down.stop {l : List Hd} {i : Nat} (h : Down l i) (hs : ∀ j, 0 < j → j < l.length → (j - 1) / 2 = i → (at_ l i).le (at_ l j)) : Heap l := by
  intro j h0 hj
  by_cases e : (j - 1) / 2 = i
  · rw [e]; exact hs j h0 hj e
  · exact h.a j h0 hj e
theorem Down.step {l : List Hd} {i c : Nat} (h : Down l i) (hc : c < l.length) (hci : (c - 1) / 2 = i) (h0 : 0 < c) (hmin : ∀ j, 0 < j → j < l.length → (j - 1) / 2 = i → (at_ l c).le (at_ l j)) (hlt : (at_ l c).Lt (at_ l i)) : Down (swap l i c) c := by
  have hi : i < l.length := by omega
  have hat := fun k => at_swap l i c k hi hc
  refine ⟨fun j j0 jl jne => ?_, fun j j0 jl je p0 => ?_⟩
  · rw [swap_length] at jl
    rw [hat, hat, if_neg jne]
    by_cases e1 : (j - 1) / 2 = i
    · rw [if_pos e1]
      by_cases ej : j = c
      · rw [if_pos ej]; exact Hd.le_of_lt hlt
      · rw [if_neg ej, if_neg (by omega)]
        exact hmin j j0 jl e1
    · rw [if_neg e1]
      rw [if_neg (by intro e; subst e; exact e1 hci)]
      by_cases ej : j = i
      · rw [if_pos ej]
        subst ej
        exact h.b c h0 hc hci j0
      · rw [if_neg ej]; exact h.a j j0 jl e1
  · rw [swap_length] at jl
    rw [hat, hat, hci, if_neg (by omega), if_pos rfl, if_neg (by omega), if_neg (by omega)]
    have := h.a j j0 jl (by omega)
    rw [je] at this
    exact this
theorem Down.start {l : List Hd} (h : Heap l) (x : Hd) (m : Nat) (hm : m + 1 = l.length) : Down ((l.set 0 x).take m) 0 := by
  have hat : ∀ k, k < m → at_ ((l.set 0 x).take m) k = if k = 0 then x else at_ l k := fun k hk => by
    rw [← at_set l 0 x k (by omega)]
    unfold at_
    rw [List.getD_eq_getElem?_getD, List.getD_eq_getElem?_getD, List.getElem?_take_of_lt hk]
  refine ⟨fun j j0 jl jne => ?_, fun j j0 jl je p0 => by omega⟩
  rw [List.length_take, List.length_set] at jl
  rw [hat _ (by omega), hat _ (by omega), if_neg (by omega), if_neg (by omega)]
  exact h j j0 (by omega)
theorem take_perm (l : List Hd) (m : Nat) (hm : m + 1 = l.length) : (at_ l 0 :: (l.set 0 (at_ l m)).take m).Perm l := by
  by_cases h0 : m = 0
  · subst h0
    match l, hm with
    | [a], _ => simp [at_]
  · have e : l = (l.take m) ++ [at_ l m] := by
      conv => lhs; rw [← List.take_append_drop m l]
      congr 1
      rw [List.drop_eq_getElem_cons (by omega), List.drop_eq_nil_of_le (by omega), at_get l m (by omega)]
    cases l with
    | nil => simp at hm
    | cons a t =>
      have ha : at_ (a :: t) 0 = a := rfl
      rw [ha]
      obtain ⟨k, rfl⟩ : ∃ k, m = k + 1 := ⟨m - 1, by omega⟩
      simp only [List.set_cons_zero, List.take_succ_cons] at e ⊢
      conv => rhs; rw [e]
      have h1 : (at_ (a :: t) (k + 1) :: t.take k).Perm (t.take k ++ [at_ (a :: t) (k + 1)]) := List.perm_append_comm (l₁ := [_])
      exact List.Perm.cons a h1
end Go.Proofs.Ytojbfjfjhfnopaa.HeapL
end

section
/- A row of heads in memory. -/
namespace Go.Proofs.Ytojbfjfjhfnopaa.HeapL
open Go.RowKit
set_option linter.unusedVariables false
/-- What is turned: blocks of T, and what is new. -/
structure Turns (T : Nat → Prop) (w w' : World) : Prop where
  os : w'.os = w.os
  tape : w'.tape = w.tape
  output : w'.output = w.output
  size : w.heap.size ≤ w'.heap.size
  same : ∀ k, k < w.heap.size → ¬ T k → w'.heap[k]? = w.heap[k]?
section
variable {T T' : Nat → Prop} {w w1 w' : World}
theorem Turns.refl (T : Nat → Prop) (w : World) : Turns T w w := ⟨rfl, rfl, rfl, Nat.le_refl _, fun _ _ _ => rfl⟩
theorem Turns.trans (h : Turns T w w1) (k : Turns T' w1 w') (hT : ∀ j, T' j → j < w.heap.size → T j) : Turns T w w' :=
  ⟨k.os.trans h.os, k.tape.trans h.tape, k.output.trans h.output, Nat.le_trans h.size k.size, fun j hj hn => (k.same j (Nat.lt_of_lt_of_le hj h.size) (fun h2 => hn (hT j h2 hj))).trans (h.same j hj hn)⟩
theorem Turns.mono (h : Turns T w w') (hT : ∀ j, T j → j < w.heap.size → T' j) : Turns T' w w' := ⟨h.os, h.tape, h.output, h.size, fun j hj hn => h.same j hj (fun h2 => hn (hT j h2 hj))⟩
theorem Turns.of_below (T : Nat → Prop) (h : Below w.heap.size w w') : Turns T w w' := ⟨h.os, h.tape, h.output, h.size, fun k hk _ => h.block k hk⟩
theorem Turns.of_grown {row : Option Nat} (h : w.grownBy w' row) (hT : ∀ k, row = some k → T k) : Turns T w w' := ⟨h.os, h.tape, h.output, h.size, fun k hk hn => h.block k hk (fun e => hn (hT k e.symm))⟩
theorem Turns.alloc (h : Turns T w w') (o : Obj) : Turns T w (w'.alloc o) := ⟨h.os, h.tape, h.output, by simp; have := h.size; omega, fun k hk hn => (Below.heap_alloc _ _ _ (Nat.lt_of_lt_of_le hk h.size)).trans (h.same k hk hn)⟩
theorem Turns.drew (h : Turns T w w') : Turns T w w'.drew := ⟨h.os, h.tape, h.output, h.size, h.same⟩
theorem Turns.drewN (h : Turns T w w') (m : Nat) : Turns T w (w'.drewN m) := ⟨h.os, h.tape, h.output, h.size, h.same⟩
theorem Turns.set (h : Turns T w w') {p : Addr} (hp : p.block < w.heap.size → T p.block) (v : Value) : Turns T w (w'.setCell p v) :=
  ⟨h.os, h.tape, h.output, by simp [World.setCell]; exact h.size, fun k hk hn => (Below.heap_setCell w' p v k (fun e => hn (by subst e; exact hp hk))).trans (h.same k hk hn)⟩
end
def hcells (x : Hd) : List Value := [.int .u64 x.key, .int .i64 x.frm, .slice x.ad x.len x.cap]
def rowCells (l : List Hd) : List Value := l.flatMap hcells
theorem rowCells_append (a b : List Hd) : rowCells (a ++ b) = rowCells a ++ rowCells b := by simp [rowCells]
theorem rowCells_length (l : List Hd) : (rowCells l).length = l.length * 3 := by
  induction l with
  | nil => rfl
  | cons x l ih =>
    have e : rowCells (x :: l) = hcells x ++ rowCells l := rfl
    rw [e, List.length_append, ih]
    simp [hcells]
    omega
theorem rowCells_get (l : List Hd) : ∀ (i r : Nat), i < l.length → r < 3 → (rowCells l)[i * 3 + r]? = (hcells (at_ l i))[r]? := by
  induction l with
  | nil => intro i r h; simp at h
  | cons x l ih =>
    intro i r h hr
    have e : rowCells (x :: l) = hcells x ++ rowCells l := rfl
    have hl : (hcells x).length = 3 := rfl
    rw [e]
    cases i with
    | zero =>
      rw [List.getElem?_append_left (by omega), Nat.zero_mul, Nat.zero_add]
      rfl
    | succ i =>
      rw [List.getElem?_append_right (by omega), hl, show (i + 1) * 3 + r - 3 = i * 3 + r from by omega, ih i r (by simpa using h) hr]
      rfl
theorem rowCells_take (l : List Hd) (m : Nat) : rowCells (l.take m) = (rowCells l).take (m * 3) := by
  induction l generalizing m with
  | nil => simp [rowCells]
  | cons x l ih =>
    have e : rowCells (x :: l) = hcells x ++ rowCells l := rfl
    have hl : (hcells x).length = 3 := rfl
    cases m with
    | zero => simp [rowCells]
    | succ m =>
      have e2 : rowCells ((x :: l).take (m + 1)) = hcells x ++ rowCells (l.take m) := rfl
      rw [e2, ih, e, show (m + 1) * 3 = 3 + m * 3 from by omega, ← hl, List.take_append_of_le_length_add]
where
  List.take_append_of_le_length_add {α : Type} {a b : List α} {k : Nat} : (a ++ b).take (a.length + k) = a ++ b.take k := by
    rw [List.take_append, List.take_of_length_le (by omega), Nat.add_sub_cancel_left]
/-- v is a row of the call's own (blocks from base on) that holds these heads. -/
def HRow (w : World) (base ty : Nat) (v : Value) (l : List Hd) : Prop := w.ownsRow base ty 3 v l.length (rowCells l) ∧ ∀ x ∈ l, x.rest.oneCell' = true
section
variable {w w' : World} {base ty : Nat} {v : Value} {l : List Hd}
theorem HRow.nil (w : World) (base ty : Nat) : HRow w base ty (.slice none 0 0) [] := ⟨World.ownsRow_nil w base ty 3, fun x hx => by cases hx⟩
theorem HRow.slice (h : HRow w base ty v l) : ∃ A c, v = .slice A l.length c ∧ l.length ≤ c := by
  rcases h.1.2 with ⟨rfl, hx⟩ | ⟨g, cap, cur, rfl, _, _, hc, _⟩
  · have : l.length = 0 := by
      have h2 := rowCells_length l
      rw [hx] at h2
      simp at h2
      omega
    exact ⟨none, 0, by rw [this], by omega⟩
  · exact ⟨_, cap, rfl, hc⟩
theorem HRow.form (h : HRow w base ty v l) (hp : 0 < l.length) : ∃ g cap cur, v = .slice (some ⟨g, 0, none⟩) l.length cap ∧ base ≤ g ∧ w.heap[g]? = some (.cells cur ty (0, 0)) ∧ l.length ≤ cap ∧ cap ≤ maxLen ∧ cur.size = cap * 3 ∧ cur.toList.take (l.length * 3) = rowCells l := by
  rcases h.1.2 with ⟨rfl, hx⟩ | ⟨g, cap, cur, rfl, h1, h2, h3, h4, h5, h6⟩
  · have h2 := rowCells_length l
    rw [hx] at h2
    simp at h2
    omega
  · exact ⟨g, cap, cur, rfl, h1, h2, h3, h4, h5, h6⟩
theorem HRow.blocks (h : HRow w base ty v l) : ∀ k, v.ownBlock = some k → base ≤ k ∧ k < w.heap.size := h.1.lt
theorem HRow.typed (h : HRow w base ty v l) : ∀ k, v.ownBlock = some k → ∃ cur, w.heap[k]? = some (.cells cur ty (0, 0)) := by
  intro k hk
  rcases h.1.2 with ⟨rfl, _⟩ | ⟨g, cap, cur, rfl, h1, h2, _⟩
  · simp [Value.ownBlock] at hk
  · simp [Value.ownBlock] at hk
    subst hk
    exact ⟨cur, h2⟩
/-- It lies on while its block does. -/
theorem HRow.keep (h : HRow w base ty v l) (hk : ∀ k, v.ownBlock = some k → w'.heap[k]? = w.heap[k]?) : HRow w' base ty v l := by
  refine ⟨⟨h.1.1, ?_⟩, h.2⟩
  rcases h.1.2 with hn | ⟨g, cap, cur, rfl, hb, hgg, rest⟩
  · exact .inl hn
  · exact .inr ⟨g, cap, cur, rfl, hb, (hk g (by simp [Value.ownBlock])).trans hgg, rest⟩
theorem HRow.turn {T : Nat → Prop} (h : HRow w base ty v l) (ht : Turns T w w') (hT : ∀ k, v.ownBlock = some k → ¬ T k) : HRow w' base ty v l :=
  h.keep (fun k hk => ht.same k (h.blocks k hk).2 (hT k hk))
theorem HRow.cell {g n cap : Nat} (h : HRow w base ty (.slice (some ⟨g, 0, none⟩) n cap) l) (i : Nat) (hi : i < l.length) :
    w.cell? ⟨g, i * 3, none⟩ = some (.int .u64 (at_ l i).key) ∧ w.cell? ⟨g, i * 3 + 1, none⟩ = some (.int .i64 (at_ l i).frm) ∧ w.cell? ⟨g, i * 3 + 2, none⟩ = some (.slice (at_ l i).ad (at_ l i).len (at_ l i).cap) := by
  have hc := h.1.cells (g := g) (by simp [Value.ownBlock])
  have hadd : ∀ j, (⟨g, 0, none⟩ : Addr).add j = ⟨g, j, none⟩ := fun j => by unfold Addr.add; split <;> simp_all
  refine ⟨?_, ?_, ?_⟩
  · have := hc (i * 3 + 0) _ ((rowCells_get l i 0 hi (by omega)).trans rfl)
    rwa [hadd] at this
  · have := hc (i * 3 + 1) _ ((rowCells_get l i 1 hi (by omega)).trans rfl)
    rwa [hadd] at this
  · have := hc (i * 3 + 2) _ ((rowCells_get l i 2 hi (by omega)).trans rfl)
    rwa [hadd] at this
theorem HRow.frozen {g n cap : Nat} (h : HRow w base ty (.slice (some ⟨g, 0, none⟩) n cap) l) (j : Nat) : w.frozen? ⟨g, j, none⟩ = false := by
  obtain ⟨cur, hc⟩ := h.typed g (by simp [Value.ownBlock])
  simp [World.frozen?, hc]
theorem HRow.one {i : Nat} (h : HRow w base ty v l) (hi : i < l.length) : (at_ l i).rest.oneCell' = true := by
  rw [at_get l i hi]
  exact h.2 _ (List.getElem_mem hi)
theorem setCell_blk {W : World} {g j : Nat} {cs : Array Value} {t : TypeId} {fr : Nat × Nat} (h : W.heap[g]? = some (.cells cs t fr)) (u : Value) : (W.setCell ⟨g, j, none⟩ u).heap[g]? = some (.cells (cs.setIfInBounds j u) t fr) := by
  simp [World.setCell, Array.getElem?_modify, h]
/-- A head is stored. -/
theorem HRow.put {g n cap : Nat} (h : HRow w base ty (.slice (some ⟨g, 0, none⟩) n cap) l) (i : Nat) (hi : i < l.length) (x : Hd) (hx : x.rest.oneCell' = true) :
    HRow (((w.setCell ⟨g, i * 3, none⟩ (.int .u64 x.key)).setCell ⟨g, i * 3 + 1, none⟩ (.int .i64 x.frm)).setCell ⟨g, i * 3 + 2, none⟩ (.slice x.ad x.len x.cap)) base ty (.slice (some ⟨g, 0, none⟩) n cap) (l.set i x) := by
  rcases h.1.2 with ⟨hv, _⟩ | ⟨g', cap', cur, hv, hb, hgg, hn, hm, hs, ht⟩
  · cases hv
  · injection hv with h1 h2 h3
    injection h1 with h1
    injection h1 with h1
    subst h1 h2 h3
    refine ⟨⟨by rw [List.length_set, rowCells_length, List.length_set], .inr ⟨g, cap, ((cur.setIfInBounds (i * 3) (.int .u64 x.key)).setIfInBounds (i * 3 + 1) (.int .i64 x.frm)).setIfInBounds (i * 3 + 2) (.slice x.ad x.len x.cap), by rw [List.length_set], hb, setCell_blk (setCell_blk (setCell_blk hgg _) _) _, by rw [List.length_set]; exact hn, hm, by simp [hs], ?_⟩⟩, fun y hy => ?_⟩
    · have hle : l.length * 3 ≤ cur.size := by omega
      apply List.ext_getElem?
      intro j
      by_cases hj : j < l.length * 3
      · obtain ⟨k, r, hr, rfl⟩ : ∃ k r, r < 3 ∧ j = k * 3 + r := ⟨j / 3, j % 3, by omega, by omega⟩
        have hk : k < l.length := by omega
        rw [List.length_set, List.getElem?_take_of_lt (by omega), rowCells_get _ k r (by rw [List.length_set]; exact hk) hr, at_set l i x k hi, Array.getElem?_toList, Array.getElem?_setIfInBounds, Array.getElem?_setIfInBounds, Array.getElem?_setIfInBounds]
        simp only [Array.size_setIfInBounds]
        by_cases e : k = i
        · subst e
          rw [if_pos rfl]
          rcases (show r = 0 ∨ r = 1 ∨ r = 2 from by omega) with e | e | e <;> subst e
          · rw [if_neg (by omega), if_neg (by omega), if_pos (by omega), if_pos (by omega)]; rfl
          · rw [if_neg (by omega), if_pos (by omega), if_pos (by omega)]; rfl
          · rw [if_pos (by omega), if_pos (by omega)]; rfl
        · rw [if_neg e, if_neg (by omega), if_neg (by omega), if_neg (by omega), ← rowCells_get l k r hk hr, ← ht, List.getElem?_take_of_lt (by omega), Array.getElem?_toList]
      · rw [List.getElem?_eq_none (by rw [List.length_take, List.length_set]; omega), List.getElem?_eq_none (by rw [rowCells_length, List.length_set]; omega)]
    · rcases List.mem_or_eq_of_mem_set hy with hy | hy
      · exact h.2 y hy
      · subst hy; exact hx
/-- A head's store, as a walk writes it. -/
abbrev storeHd (w : World) (g i : Nat) (x : Hd) : World := ((w.setCell ⟨g, i * 3, none⟩ (.int .u64 x.key)).setCell ⟨g, i * 3 + 1, none⟩ (.int .i64 x.frm)).setCell ⟨g, i * 3 + 2, none⟩ (.slice x.ad x.len x.cap)
theorem storeHd_far (w : World) (g i : Nat) (x : Hd) (k : Nat) (h : k ≠ g) : (storeHd w g i x).heap[k]? = w.heap[k]? :=
  (Below.heap_setCell _ ⟨g, i * 3 + 2, none⟩ _ k h).trans ((Below.heap_setCell _ ⟨g, i * 3 + 1, none⟩ _ k h).trans (Below.heap_setCell _ ⟨g, i * 3, none⟩ _ k h))
theorem storeHd_turns {T : Nat → Prop} {w0 : World} (h : Turns T w0 w) (g i : Nat) (x : Hd) (hg : g < w0.heap.size → T g) : Turns T w0 (storeHd w g i x) := ((h.set (p := ⟨g, i * 3, none⟩) hg _).set (p := ⟨g, i * 3 + 1, none⟩) hg _).set (p := ⟨g, i * 3 + 2, none⟩) hg _
theorem HRow.drew (h : HRow w base ty v l) : HRow w.drew base ty v l := h.keep (fun _ _ => rfl)
theorem HRow.swap {g n cap : Nat} (h : HRow w base ty (.slice (some ⟨g, 0, none⟩) n cap) l) (i j : Nat) (hi : i < l.length) (hj : j < l.length) : HRow (storeHd (storeHd w g i (at_ l j)) g j (at_ l i)) base ty (.slice (some ⟨g, 0, none⟩) n cap) (swap l i j) :=
  (h.put i hi (at_ l j) rfl).put j (by rw [List.length_set]; exact hj) (at_ l i) rfl
theorem HRow.shrink {g n cap : Nat} (h : HRow w base ty (.slice (some ⟨g, 0, none⟩) n cap) l) (m : Nat) (hm : m ≤ l.length) : HRow w base ty (.slice (some ⟨g, 0, none⟩) m cap) (l.take m) := by
  rcases h.1.2 with ⟨hv, _⟩ | ⟨g', cap', cur, hv, hb, hgg, hn, hmx, hs, ht⟩
  · cases hv
  · injection hv with h1 h2 h3
    injection h1 with h1
    injection h1 with h1
    subst h1 h2 h3
    have hl : (l.take m).length = m := by rw [List.length_take]; omega
    refine ⟨⟨by rw [rowCells_length], .inr ⟨g, cap, cur, by rw [hl], hb, hgg, by rw [hl]; omega, hmx, hs, ?_⟩⟩, fun y hy => h.2 y (List.mem_of_mem_take hy)⟩
    rw [hl, rowCells_take, ← ht, List.take_take, Nat.min_eq_left (by omega)]
theorem HRow.cap {g n cap : Nat} (h : HRow w base ty (.slice (some ⟨g, 0, none⟩) n cap) l) : n = l.length ∧ l.length ≤ cap ∧ cap ≤ maxLen := by
  rcases h.1.2 with ⟨hv, _⟩ | ⟨g', cap', cur, hv, hb, hgg, hn, hmx, hs, ht⟩
  · cases hv
  · injection hv with h1 h2 h3
    subst h2 h3
    exact ⟨rfl, hn, hmx⟩
/-- A head has been appended. -/
theorem HRow.more {v' : Value} {x : Hd} (hx : x.rest.oneCell' = true) (hl : ∀ y ∈ l, y.rest.oneCell' = true) (h : w.ownsRow base ty 3 v' (l.length + 1) (rowCells l ++ [.int .u64 x.key, .int .i64 x.frm, .slice x.ad x.len x.cap])) : HRow w base ty v' (l ++ [x]) := by
  refine ⟨?_, fun y hy => ?_⟩
  · rw [rowCells_append, List.length_append]
    exact h
  · rcases List.mem_append.1 hy with hy | hy
    · exact hl y hy
    · rw [List.mem_singleton] at hy; subst hy; exact hx
end
end Go.Proofs.Ytojbfjfjhfnopaa.HeapL
end

section
/- listed's and slices.Values' iterators at entries. -/
namespace Go.Proofs.Ytojbfjfjhfnopaa.SeqE
open Go.RowKit Go.Shelf RangeD
attribute [local go_sem] Oper.semAt_some
set_option linter.unusedVariables false
section
variable {α : Type} (ek ev : α → Int) (eb : α → Bool)
abbrev agg (x : α) : Value := .agg #[.int .u64 (ek x), .int .u64 (ev x), .bool (eb x)]
/-- The cells of a row of things from (g, o) on. -/
def CellsAt (W : World) (g o : Nat) (xs : List α) : Prop := ∀ j x, xs[j]? = some x → W.cell? ⟨g, o + j * 3, none⟩ = some (.int .u64 (ek x)) ∧ W.cell? ⟨g, o + j * 3 + 1, none⟩ = some (.int .u64 (ev x)) ∧ W.cell? ⟨g, o + j * 3 + 2, none⟩ = some (.bool (eb x))
theorem CellsAt.keep {W W' : World} {g o : Nat} {xs : List α} (h : CellsAt ek ev eb W g o xs) (hk : W'.heap[g]? = W.heap[g]?) : CellsAt ek ev eb W' g o xs := by
  have hc : ∀ i, W'.cell? ⟨g, i, none⟩ = W.cell? ⟨g, i, none⟩ := fun i => by unfold World.cell?; simp only [hk]
  intro j x hj
  rw [hc, hc, hc]
  exact h j x hj
/-- What lies for an iterator: a cell with a slice, the slice's things. -/
structure Laid (W : World) (b t : Nat) (A : Option Addr) (g o cap : Nat) (xs : List α) : Prop where
  box : W.heap[b]? = some (.cells #[.slice A xs.length cap] t (0, 0))
  at_ : 0 < xs.length → A = some ⟨g, o, none⟩
  cells : CellsAt ek ev eb W g o xs
  lt : g < W.heap.size
  len : xs.length ≤ 140737488355328
theorem Laid.keep {W W' : World} {b t : Nat} {A : Option Addr} {g o cap : Nat} {xs : List α} (h : Laid ek ev eb W b t A g o cap xs) (hs : W.heap.size ≤ W'.heap.size) (hk : Same (fun k => k = b ∨ k = g) W W') : Laid ek ev eb W' b t A g o cap xs :=
  ⟨(hk b (.inl rfl) (Array.getElem?_eq_some_iff.1 h.box).1).trans h.box, h.at_, h.cells.keep _ _ _ (hk g (.inr rfl) h.lt), Nat.lt_of_lt_of_le h.lt hs, h.len⟩
set_option maxRecDepth 100000 in
set_option maxHeartbeats 4000000 in
theorem listed_in (l b : Nat) (A : Option Addr) (g o cap : Nat) (xs : List α) (J Jx : List α → World → Prop)
    (hY : ∀ pre x W, J pre W → (∃ more, pre ++ [x] ++ more = xs) → YieldAt Fence.wide 0 Try.prog l #[agg ek ev eb x] W fun e W' =>
      (e = .returned (.bool true) ∧ J (pre ++ [x]) W' ∧ W.heap.size ≤ W'.heap.size ∧ Same (fun k => k = b ∨ k = g) W W') ∨ (e = .returned (.bool false) ∧ Jx (pre ++ [x]) W'))
    (W : World) (hst : Laid ek ev eb W b 25 A g o cap xs) (h0 : J [] W) :
    CallsIn Fence.wide 0 Try.prog 42 #[.func (.yield l) #[] #[], .pointer (some ⟨b, 0, none⟩)] W fun e W' => (∃ v, e = .returned v) ∧
      ((J xs W') ∨ (∃ pre, (∃ more, pre ++ more = xs) ∧ Jx pre W')) := by
  refine callsIn_of_wp Try.func42 rfl trivial ?_ rfl
  simp only [Try.ntmps42, List.size_toArray, List.length_cons, List.length_nil, Nat.reduceAdd, Nat.reduceSub, Array.replicate_succ, Array.replicate_zero, List.push_toArray, List.append_toArray, List.nil_append, List.cons_append]
  gi_wp2
  gi_loopw [3] (fun v wr => ∃ (i : Nat), v = .int .i64 i ∧ i ≤ xs.length ∧ Laid ek ev eb wr b 25 A g o cap xs ∧ J (xs.take i) wr)
    (fun v _ => match v with | .int _ i => xs.length - i.toNat | _ => 0)
  case atStart => exact ⟨0, rfl, Nat.zero_le _, hst, h0⟩
  case round =>
    obtain ⟨i, rfl, hi, HS, hJs⟩ := hrel
    have hc1 : wr.cell? ⟨b, 0, none⟩ = some (.slice A xs.length cap) := by rw [cell_of_row wr b 0 _ _ _ HS.box]; rfl
    have hln := HS.len
    by_cases hlt : i < xs.length
    · have hd : decide ((i : Int) < (xs.length : Int)) = true := decide_eq_true (by omega)
      obtain ⟨c0, c1, c2⟩ := HS.cells i _ (List.getElem?_eq_getElem hlt)
      have htk : xs.take i ++ [xs[i]] = xs.take (i + 1) := by rw [List.take_succ_eq_append_getElem hlt]
      obtain ⟨fn, tmps, assign, body, hy, hR⟩ := hY (xs.take i) xs[i] wr hJs ⟨xs.drop (i + 1), by rw [htk, List.take_append_drop]⟩
      have hb1 : (0 : Int) ≤ (i : Int) := by omega
      have hb2 : (i : Int) < (xs.length : Int) := by omega
      obtain rfl := HS.at_ (by omega)
      gi_wp2
      rw [htk] at hR
      refine ⟨rfl, hR.mono ?_⟩
      rintro e W3 (⟨rfl, hJ3, hs3, hk3⟩ | ⟨rfl, hJx3⟩)
      · have HS3 := HS.keep _ _ _ hs3 hk3
        clear hk3 hR hy HS hY
        gi_wp2
        go_roundw
        case rel => exact ⟨i + 1, by simp, by omega, HS3, hJ3⟩
        case measure => simp; omega
      · gi_wp2
        refine bodyPost_ret (results_none rfl _ _ _) rfl ?_
        exact ⟨⟨_, rfl⟩, .inr ⟨_, ⟨xs.drop (i + 1), List.take_append_drop _ _⟩, hJx3⟩⟩
    · have hd : decide ((i : Int) < (xs.length : Int)) = false := decide_eq_false (by omega)
      have he : i = xs.length := by omega
      have hJ2 : J xs wr := by rw [he, List.take_length] at hJs; exact hJs
      clear he hJs
      gi_wp2
      go_end0
      exact ⟨⟨_, rfl⟩, .inl hJ2⟩
/-- What listed's iterator owes to whoever ranges over it. -/
theorem listed_seq (b : Nat) (A : Option Addr) (g o cap : Nat) (xs : List α) (W : World) (hst : Laid ek ev eb W b 25 A g o cap xs) :
    SeqD Try.prog 42 #[.pointer (some ⟨b, 0, none⟩)] (fun x : α => #[agg ek ev eb x]) (fun k => k = b ∨ k = g) (fun ys => ys = xs) (fun pre => ∃ more, pre ++ more = xs) (fun pre x => ∃ more, pre ++ [x] ++ more = xs) W := by
  intro l J Jx W0 hs0 hd0 hJ hJx hY h0
  refine (listed_in ek ev eb l b A g o cap xs (fun pre W => J pre (fun _ => False) W) (fun pre W => Jx pre (fun _ => False) W) ?_ W0 (hst.keep _ _ _ hs0 hd0) h0).mono ?_
  · intro pre x W1 h1 hnx
    obtain ⟨fn, tmps, assign, body, hy, hR⟩ := hY pre x _ W1 h1 hnx
    refine ⟨fn, tmps, assign, body, hy, hR.mono ?_⟩
    rintro e W' (⟨he, hj, hs, hk⟩ | h)
    · exact .inl ⟨he, hj, hs, fun k hk2 hl => hk k (.inl hk2) hl⟩
    · exact .inr ⟨h.1, h.2.1⟩
  · rintro e W' ⟨hv, (hj | ⟨pre, hm, hj⟩)⟩
    · exact ⟨hv, .inl ⟨xs, _, rfl, hj⟩⟩
    · exact ⟨hv, .inr ⟨pre, _, hm, hj⟩⟩
set_option maxRecDepth 100000 in
set_option maxHeartbeats 4000000 in
theorem values_in (l b : Nat) (A : Option Addr) (g o cap : Nat) (xs : List α) (J Jx : List α → World → Prop) (hJa : ∀ xs W o, J xs W → J xs (W.alloc o))
    (hY : ∀ pre x W, J pre W → (∃ more, pre ++ [x] ++ more = xs) → YieldAt Fence.wide 0 Try.prog l #[agg ek ev eb x] W fun e W' =>
      (e = .returned (.bool true) ∧ J (pre ++ [x]) W' ∧ W.heap.size ≤ W'.heap.size ∧ Same (fun k => k = b ∨ k = g) W W') ∨ (e = .returned (.bool false) ∧ Jx (pre ++ [x]) W'))
    (W : World) (hst : Laid ek ev eb W b 25 A g o cap xs) (h0 : J [] W) :
    CallsIn Fence.wide 0 Try.prog 57 #[.func (.yield l) #[] #[], .pointer (some ⟨b, 0, none⟩)] W fun e W' => (∃ v, e = .returned v) ∧
      ((J xs W') ∨ (∃ pre, (∃ more, pre ++ more = xs) ∧ Jx pre W')) := by
  refine callsIn_of_wp Try.func57 rfl trivial ?_ rfl
  simp only [Try.ntmps57, List.size_toArray, List.length_cons, List.length_nil, Nat.reduceAdd, Nat.reduceSub, Array.replicate_succ, Array.replicate_zero, List.push_toArray, List.append_toArray, List.nil_append, List.cons_append]
  have hc0 : W.cell? ⟨b, 0, none⟩ = some (.slice A xs.length cap) := by rw [cell_of_row W b 0 _ _ _ hst.box]; rfl
  gi_wp2
  gi_loopw [7] (fun v wr => ∃ (i : Nat), v = .int .i64 i ∧ i ≤ xs.length ∧ Laid ek ev eb wr b 25 A g o cap xs ∧ J (xs.take i) wr)
    (fun v _ => match v with | .int _ i => xs.length - i.toNat | _ => 0)
  case atStart => exact ⟨0, rfl, Nat.zero_le _, hst, h0⟩
  case round =>
    obtain ⟨i, rfl, hi, HS, hJs⟩ := hrel
    have hc1 : wr.cell? ⟨b, 0, none⟩ = some (.slice A xs.length cap) := by rw [cell_of_row wr b 0 _ _ _ HS.box]; rfl
    have hln := HS.len
    by_cases hlt : i < xs.length
    · have hd : decide ((i : Int) < (xs.length : Int)) = true := decide_eq_true (by omega)
      obtain ⟨c0, c1, c2⟩ := HS.cells i _ (List.getElem?_eq_getElem hlt)
      have htk : xs.take i ++ [xs[i]] = xs.take (i + 1) := by rw [List.take_succ_eq_append_getElem hlt]
      obtain ⟨fn, tmps, assign, body, hy, hR⟩ := hY (xs.take i) xs[i] (wr.alloc (.cells #[.int .u64 (ek xs[i]), .int .u64 (ev xs[i]), .bool (eb xs[i])] 32)) (hJa _ _ _ hJs) ⟨xs.drop (i + 1), by rw [htk, List.take_append_drop]⟩
      have hb1 : (0 : Int) ≤ (i : Int) := by omega
      have hb2 : (i : Int) < (xs.length : Int) := by omega
      obtain rfl := HS.at_ (by omega)
      gi_wp2
      rw [htk] at hR
      refine ⟨rfl, hR.mono ?_⟩
      rintro e W3 (⟨rfl, hJ3, hs3, hk3⟩ | ⟨rfl, hJx3⟩)
      · have HSa : Laid ek ev eb (wr.alloc (.cells #[.int .u64 (ek xs[i]), .int .u64 (ev xs[i]), .bool (eb xs[i])] 32)) b 25 (some ⟨g, o, none⟩) g o cap xs := HS.keep _ _ _ (by simp) (fun k _ hl => Below.heap_alloc _ _ _ hl)
        have HS3 := HSa.keep _ _ _ hs3 hk3
        clear HSa
        clear hk3 hR hy HS hY
        gi_wp2
        go_roundw
        case rel => exact ⟨i + 1, by simp, by omega, HS3, hJ3⟩
        case measure => simp; omega
      · gi_wp2
        refine bodyPost_ret (results_none rfl _ _ _) rfl ?_
        exact ⟨⟨_, rfl⟩, .inr ⟨_, ⟨xs.drop (i + 1), List.take_append_drop _ _⟩, hJx3⟩⟩
    · have hd : decide ((i : Int) < (xs.length : Int)) = false := decide_eq_false (by omega)
      have he : i = xs.length := by omega
      have hJ2 : J xs wr := by rw [he, List.take_length] at hJs; exact hJs
      clear he hJs
      gi_wp2
      go_end0
      exact ⟨⟨_, rfl⟩, .inl hJ2⟩
/-- What slices.Values' iterator owes to whoever ranges over it. -/
theorem values_seq (b : Nat) (A : Option Addr) (g o cap : Nat) (xs : List α) (W : World) (hst : Laid ek ev eb W b 25 A g o cap xs) :
    SeqD Try.prog 57 #[.pointer (some ⟨b, 0, none⟩)] (fun x : α => #[agg ek ev eb x]) (fun k => k = b ∨ k = g) (fun ys => ys = xs) (fun pre => ∃ more, pre ++ more = xs) (fun pre x => ∃ more, pre ++ [x] ++ more = xs) W := by
  intro l J Jx W0 hs0 hd0 hJ hJx hY h0
  refine (values_in ek ev eb l b A g o cap xs (fun pre W => J pre (fun _ => False) W) (fun pre W => Jx pre (fun _ => False) W) (fun _ W o h => hJ _ _ _ _ _ h (Turned.of_below ((Below.refl _ W).alloc (Nat.le_refl _) o))) ?_ W0 (hst.keep _ _ _ hs0 hd0) h0).mono ?_
  · intro pre x W1 h1 hnx
    obtain ⟨fn, tmps, assign, body, hy, hR⟩ := hY pre x _ W1 h1 hnx
    refine ⟨fn, tmps, assign, body, hy, hR.mono ?_⟩
    rintro e W' (⟨he, hj, hs, hk⟩ | h)
    · exact .inl ⟨he, hj, hs, fun k hk2 hl => hk k (.inl hk2) hl⟩
    · exact .inr ⟨h.1, h.2.1⟩
  · rintro e W' ⟨hv, (hj | ⟨pre, hm, hj⟩)⟩
    · exact ⟨hv, .inl ⟨xs, _, rfl, hj⟩⟩
    · exact ⟨hv, .inr ⟨pre, _, hm, hj⟩⟩
end
end Go.Proofs.Ytojbfjfjhfnopaa.SeqE
end

section
/- What a merge tells, on lists; the heads of the lists that are left. No program in sight. -/
namespace Go.Proofs.Ytojbfjfjhfnopaa.MergeL
open HeapL
set_option linter.unusedVariables false
section
variable {α : Type} (key : α → Int)
/-- The first head with the least key. -/
def pick : List (List α) → Option α
  | [] => none
  | [] :: r => pick r
  | (x :: _) :: r => match pick r with
    | none => some x
    | some y => if key y < key x then some y else some x
/-- A list whose head has key k goes on by one. -/
def drop1 (k : Int) : List α → List α
  | [] => []
  | x :: xs => if key x = k then xs else x :: xs
def step (k : Int) (rem : List (List α)) : List (List α) := rem.map (drop1 key k)
def total (rem : List (List α)) : Nat := (rem.map List.length).sum
def mergeF : Nat → List (List α) → List α
  | 0, _ => []
  | f + 1, rem => match pick key rem with
    | none => []
    | some x => x :: mergeF f (step key (key x) rem)
def mergeL (rem : List (List α)) : List α := mergeF key (total rem) rem
theorem pick_none {rem : List (List α)} : pick key rem = none ↔ ∀ xs ∈ rem, xs = [] := by
  induction rem with
  | nil => simp [pick]
  | cons xs r ih =>
    cases xs with
    | nil => simp [pick, ih]
    | cons x t =>
      simp only [pick]
      constructor
      · intro h
        split at h
        · cases h
        · split at h <;> cases h
      · intro h
        have := h (x :: t) List.mem_cons_self
        cases this
/-- The first of the least: what pick finds. -/
theorem pick_at {rem : List (List α)} {i : Nat} {y : α} {xs : List α} (h : rem[i]? = some (y :: xs)) (hmin : ∀ j z zs, rem[j]? = some (z :: zs) → key y < key z ∨ (key y = key z ∧ i ≤ j)) : pick key rem = some y := by
  induction rem generalizing i with
  | nil => simp at h
  | cons l r ih =>
    cases i with
    | zero =>
      simp only [List.getElem?_cons_zero, Option.some.injEq] at h
      subst h
      simp only [pick]
      cases hp : pick key r with
      | none => rfl
      | some z =>
        simp only
        rw [if_neg]
        intro hlt
        -- z is some head of r
        have hz : ∃ (j : Nat) (zs : List α), r[j]? = some (z :: zs) := by
          clear ih hmin
          induction r with
          | nil => simp [pick] at hp
          | cons a r ih2 =>
            cases a with
            | nil =>
              obtain ⟨j, zs, hj⟩ := ih2 (by simpa [pick] using hp)
              exact ⟨j + 1, zs, by simpa using hj⟩
            | cons b t =>
              simp only [pick] at hp
              split at hp
              · injection hp with hp
                subst hp
                exact ⟨0, t, rfl⟩
              · rename_i q hq
                split at hp
                · injection hp with hp
                  subst hp
                  obtain ⟨j, zs, hj⟩ := ih2 hq
                  exact ⟨j + 1, zs, by simpa using hj⟩
                · injection hp with hp
                  subst hp
                  exact ⟨0, t, rfl⟩
        obtain ⟨j, zs, hj⟩ := hz
        have := hmin (j + 1) z zs (by simpa using hj)
        omega
    | succ i =>
      have h2 : r[i]? = some (y :: xs) := by simpa using h
      have hr := ih h2 (fun j z zs hj => by
        have := hmin (j + 1) z zs (by simpa using hj)
        omega)
      cases l with
      | nil => simpa [pick] using hr
      | cons b t =>
        simp only [pick, hr]
        rw [if_pos]
        have := hmin 0 b t rfl
        omega
theorem total_step {rem : List (List α)} {i : Nat} {y : α} {xs : List α} (h : rem[i]? = some (y :: xs)) : total (step key (key y) rem) < total rem := by
  have hle : ∀ (r : List (List α)), total (step key (key y) r) ≤ total r := by
    intro r
    induction r with
    | nil => simp [total, step]
    | cons l r ih =>
      have h1 : (drop1 key (key y) l).length ≤ l.length := by
        cases l with
        | nil => simp [drop1]
        | cons b t => simp only [drop1]; split <;> simp
      simp only [total, step, List.map_cons, List.sum_cons] at ih ⊢
      omega
  induction rem generalizing i with
  | nil => simp at h
  | cons l r ih =>
    cases i with
    | zero =>
      simp only [List.getElem?_cons_zero, Option.some.injEq] at h
      subst h
      have := hle r
      simp only [total, step, List.map_cons, List.sum_cons, drop1, if_pos, List.length_cons] at this ⊢
      omega
    | succ i =>
      have := ih (i := i) (by simpa using h)
      have h1 : (drop1 key (key y) l).length ≤ l.length := by
        cases l with
        | nil => simp [drop1]
        | cons b t => simp only [drop1]; split <;> simp
      simp only [total, step, List.map_cons, List.sum_cons] at this ⊢
      omega
/-- The heads l are those of the lists that are left. -/
structure Heads (R : Hd → List α → Prop) (l : List Hd) (rem : List (List α)) : Prop where
  one : (l.map Hd.frm).Nodup
  each : ∀ x ∈ l, ∃ (i : Nat) (y : α) (xs : List α), x.frm = (i : Int) ∧ rem[i]? = some (y :: xs) ∧ x.key = key y ∧ R x (y :: xs)
  all : ∀ (i : Nat) (y : α) (xs : List α), rem[i]? = some (y :: xs) → ∃ x ∈ l, x.frm = (i : Int)
variable {key} {R R' : Hd → List α → Prop} {l l' : List Hd} {rem : List (List α)}
theorem Heads.mono (h : Heads key R l rem) (hR : ∀ x xs, x ∈ l → R x xs → R' x xs) : Heads key R' l rem :=
  ⟨h.one, fun x hx => by obtain ⟨i, y, xs, h1, h2, h3, h4⟩ := h.each x hx; exact ⟨i, y, xs, h1, h2, h3, hR _ _ hx h4⟩, h.all⟩
theorem Heads.perm (h : Heads key R l rem) (hp : l'.Perm l) : Heads key R l' rem :=
  ⟨((hp.map Hd.frm).nodup_iff).2 h.one, fun x hx => h.each x (hp.mem_iff.1 hx), fun i y xs hi => by obtain ⟨x, hx, e⟩ := h.all i y xs hi; exact ⟨x, hp.mem_iff.2 hx, e⟩⟩
theorem Heads.nil (R : Hd → List α → Prop) : Heads key R [] [] := ⟨List.nodup_nil, fun x hx => (by cases hx), fun i y xs h => (by simp at h)⟩
/-- A list is gone through for the first time. -/
theorem Heads.more (h : Heads key R l rem) (y : α) (xs : List α) (x : Hd) (h1 : x.frm = (rem.length : Int)) (h2 : x.key = key y) (h3 : R x (y :: xs)) : Heads key R (x :: l) (rem ++ [y :: xs]) := by
  refine ⟨List.nodup_cons.2 ⟨fun hm => ?_, h.one⟩, fun z hz => ?_, fun i z zs hi => ?_⟩
  · obtain ⟨z, hz, e⟩ := List.mem_map.1 hm
    obtain ⟨i, y2, xs2, e1, e2, _⟩ := h.each z hz
    have := (List.getElem?_eq_some_iff.1 e2).1
    omega
  · rcases List.mem_cons.1 hz with rfl | hz
    · exact ⟨rem.length, y, xs, h1, by simp, h2, h3⟩
    · obtain ⟨i, y2, xs2, e1, e2, e3⟩ := h.each z hz
      exact ⟨i, y2, xs2, e1, by rw [List.getElem?_append_left (List.getElem?_eq_some_iff.1 e2).1]; exact e2, e3⟩
  · by_cases hlt : i < rem.length
    · rw [List.getElem?_append_left hlt] at hi
      obtain ⟨w, hw, e⟩ := h.all i z zs hi
      exact ⟨w, List.mem_cons_of_mem _ hw, e⟩
    · have : i < (rem ++ [y :: xs]).length := (List.getElem?_eq_some_iff.1 hi).1
      simp at this
      exact ⟨x, List.mem_cons_self, by rw [h1]; congr 1; omega⟩
theorem Heads.empty (h : Heads key R l rem) : Heads key R l (rem ++ [[]]) := by
  refine ⟨h.one, fun z hz => ?_, fun i z zs hi => ?_⟩
  · obtain ⟨i, y2, xs2, e1, e2, e3⟩ := h.each z hz
    exact ⟨i, y2, xs2, e1, by rw [List.getElem?_append_left (List.getElem?_eq_some_iff.1 e2).1]; exact e2, e3⟩
  · by_cases hlt : i < rem.length
    · rw [List.getElem?_append_left hlt] at hi
      exact h.all i z zs hi
    · have : i < (rem ++ [([] : List α)]).length := (List.getElem?_eq_some_iff.1 hi).1
      simp at this
      have : i = rem.length := by omega
      subst this
      simp at hi
/-- Nothing is left: nothing is told. -/
theorem Heads.done (h : Heads key R [] rem) (f : Nat) : mergeF key f rem = [] := by
  cases f with
  | zero => rfl
  | succ f =>
    have : pick key rem = none := (pick_none key).2 fun xs hx => by
      cases xs with
      | nil => rfl
      | cons y t =>
        obtain ⟨i, hi, e⟩ := List.getElem_of_mem hx
        obtain ⟨z, hz, _⟩ := h.all i y t (by rw [List.getElem?_eq_getElem hi, e])
        cases hz
    simp [mergeF, this]
/-- The root is what is told. -/
theorem Heads.told (h : Heads key R l rem) {x : Hd} (hx : x ∈ l) (hmin : ∀ y ∈ l, x.le y) : ∃ (i : Nat) (y : α) (xs : List α), x.frm = (i : Int) ∧ rem[i]? = some (y :: xs) ∧ x.key = key y ∧ R x (y :: xs) ∧ pick key rem = some y := by
  obtain ⟨i, y, xs, e1, e2, e3, e4⟩ := h.each x hx
  refine ⟨i, y, xs, e1, e2, e3, e4, pick_at key e2 (fun j z zs hj => ?_)⟩
  obtain ⟨w, hw, ew⟩ := h.all j z zs hj
  obtain ⟨i2, y2, xs2, d1, d2, d3, _⟩ := h.each w hw
  have : i2 = j := by omega
  subst this
  rw [hj] at d2
  injection d2 with d2
  injection d2 with d2 d4
  subst d2
  have := hmin w hw
  unfold Hd.le Hd.Lt at this
  omega
/-- Half way: l are heads that are in place, pas heads that have been passed and not gone on. -/
structure Mid (key : α → Int) (R : Hd → List α → Prop) (k : Int) (rem0 : List (List α)) (l pas : List Hd) (rem : List (List α)) : Prop where
  heads : Heads key R (l ++ pas) rem
  keys : ∀ x ∈ pas, x.key = k
  len : rem.length = rem0.length
  old : ∀ i : Nat, (∃ x ∈ pas, x.frm = (i : Int)) → rem[i]? = rem0[i]?
  new : ∀ i : Nat, (¬ ∃ x ∈ pas, x.frm = (i : Int)) → rem[i]? = (step key k rem0)[i]?
theorem Mid.start {pas : List Hd} {k : Int} (h : Heads key R (l ++ pas) rem) (hp : ∀ x ∈ pas, x.key = k) (hl : ∀ x ∈ l, x.key ≠ k) : Mid key R k rem l pas rem := by
  refine ⟨h, hp, rfl, fun _ _ => rfl, fun i hn => ?_⟩
  unfold step
  rw [List.getElem?_map]
  cases hr : rem[i]? with
  | none => rfl
  | some zs =>
    cases zs with
    | nil => rfl
    | cons z zs =>
      obtain ⟨x, hx, e⟩ := h.all i z zs hr
      rcases List.mem_append.1 hx with hx2 | hx2
      · obtain ⟨i2, y2, xs2, d1, d2, d3, _⟩ := h.each x hx
        have : i2 = i := by omega
        subst this
        rw [hr] at d2
        injection d2 with d2
        injection d2 with d2 d4
        subst d2
        have := hl x hx2
        simp only [Option.map_some, drop1]
        rw [if_neg (by omega)]
      · exact absurd ⟨x, hx2, e⟩ hn
theorem Mid.done {k : Int} {rem0 : List (List α)} (h : Mid key R k rem0 l [] rem) : rem = step key k rem0 ∧ Heads key R l rem := by
  refine ⟨List.ext_getElem? fun i => h.new i (fun ⟨x, hx, _⟩ => by cases hx), ?_⟩
  have := h.heads
  rwa [List.append_nil] at this
theorem Mid.next {k : Int} {rem0 : List (List α)} {p : Hd} {pas : List Hd} (h : Mid key R k rem0 l (p :: pas) rem) : ∃ (i : Nat) (y : α) (xs : List α), p.frm = (i : Int) ∧ rem[i]? = some (y :: xs) ∧ R p (y :: xs) ∧
    (xs = [] → Mid key R k rem0 l pas (rem.set i xs)) ∧ (∀ z zs p', xs = z :: zs → p'.frm = (i : Int) → p'.key = key z → R p' xs → Mid key R k rem0 (p' :: l) pas (rem.set i xs)) := by
  obtain ⟨i, y, xs, e1, e2, e3, e4⟩ := h.heads.each p (by simp)
  have hil : i < rem.length := (List.getElem?_eq_some_iff.1 e2).1
  have hnd := h.heads.one
  have hperm : (l ++ p :: pas).Perm (p :: (l ++ pas)) := List.perm_middle
  have hnd2 : ((p :: (l ++ pas)).map Hd.frm).Nodup := ((hperm.map Hd.frm).nodup_iff).1 hnd
  have hnot : ∀ x ∈ l ++ pas, x.frm ≠ (i : Int) := fun x hx e => by
    have := (List.nodup_cons.1 hnd2).1
    exact this (List.mem_map.2 ⟨x, hx, by rw [e, e1]⟩)
  have hk : key y = k := by rw [← e3]; exact h.keys p (by simp)
  have hstep : (step key k rem0)[i]? = some xs := by
    have := h.old i ⟨p, by simp, e1⟩
    unfold step
    rw [List.getElem?_map, ← this, e2]
    simp [drop1, hk]
  have hold : ∀ x ∈ l ++ pas, ∃ (j : Nat) (z : α) (zs : List α), x.frm = (j : Int) ∧ (rem.set i xs)[j]? = some (z :: zs) ∧ x.key = key z ∧ R x (z :: zs) := fun x hx => by
    obtain ⟨j, z, zs, d1, d2, d3, d4⟩ := h.heads.each x (hperm.mem_iff.2 (List.mem_cons_of_mem _ hx))
    have : i ≠ j := fun e => hnot x hx (by rw [d1, e])
    exact ⟨j, z, zs, d1, by rw [List.getElem?_set_ne this]; exact d2, d3, d4⟩
  have hall : ∀ (j : Nat) (z : α) (zs : List α), j ≠ i → (rem.set i xs)[j]? = some (z :: zs) → ∃ x ∈ l ++ pas, x.frm = (j : Int) := fun j z zs hj hz => by
    rw [List.getElem?_set_ne (Ne.symm hj)] at hz
    obtain ⟨x, hx, e⟩ := h.heads.all j z zs hz
    rcases List.mem_cons.1 (hperm.mem_iff.1 hx) with rfl | hx
    · omega
    · exact ⟨x, hx, e⟩
  have holdI : ∀ j : Nat, (∃ x ∈ pas, x.frm = (j : Int)) → (rem.set i xs)[j]? = rem0[j]? := fun j ⟨x, hx, e⟩ => by
    have : i ≠ j := fun e2 => hnot x (List.mem_append_right _ hx) (by rw [e, e2])
    rw [List.getElem?_set_ne this]
    exact h.old j ⟨x, List.mem_cons_of_mem _ hx, e⟩
  have hnewI : ∀ j : Nat, (¬ ∃ x ∈ pas, x.frm = (j : Int)) → (rem.set i xs)[j]? = (step key k rem0)[j]? := fun j hn => by
    by_cases e : i = j
    · subst e
      rw [List.getElem?_set_self hil, hstep]
    · rw [List.getElem?_set_ne e]
      refine h.new j (fun ⟨x, hx, ex⟩ => ?_)
      rcases List.mem_cons.1 hx with rfl | hx
      · omega
      · exact hn ⟨x, hx, ex⟩
  refine ⟨i, y, xs, e1, e2, e4, fun hx => ?_, fun z zs p' hx f1 f2 f3 => ?_⟩
  · refine ⟨⟨(List.nodup_cons.1 hnd2).2, hold, fun j z zs hz => ?_⟩, fun x hx => h.keys x (List.mem_cons_of_mem _ hx), by rw [List.length_set]; exact h.len, holdI, hnewI⟩
    by_cases e : j = i
    · subst e
      rw [List.getElem?_set_self hil, hx] at hz
      cases hz
    · exact hall j z zs e hz
  · refine ⟨⟨?_, fun x hx2 => ?_, fun j z2 zs2 hz => ?_⟩, fun x hx => h.keys x (List.mem_cons_of_mem _ hx), by rw [List.length_set]; exact h.len, holdI, hnewI⟩
    · refine List.nodup_cons.2 ⟨fun hm => ?_, (List.nodup_cons.1 hnd2).2⟩
      obtain ⟨x, hx3, ex⟩ := List.mem_map.1 hm
      exact hnot x hx3 (by rw [ex, f1])
    · rcases List.mem_cons.1 hx2 with rfl | hx2
      · exact ⟨i, z, zs, f1, by rw [List.getElem?_set_self hil, hx], f2, by rw [← hx]; exact f3⟩
      · exact hold x hx2
    · by_cases e : j = i
      · subst e
        exact ⟨p', List.mem_cons_self, f1⟩
      · obtain ⟨x, hx4, ex⟩ := hall j z2 zs2 e hz
        exact ⟨x, List.mem_cons_of_mem _ hx4, ex⟩
/-- One round. -/
theorem merge_round {rem : List (List α)} {y : α} {i : Nat} {xs : List α} (f : Nat) (hf : total rem ≤ f) (hi : rem[i]? = some (y :: xs)) (hp : pick key rem = some y) : ∃ g, f = g + 1 ∧ mergeF key f rem = y :: mergeF key g (step key (key y) rem) ∧ total (step key (key y) rem) ≤ g := by
  have h1 := total_step key hi
  obtain ⟨g, rfl⟩ : ∃ g, f = g + 1 := ⟨f - 1, by omega⟩
  exact ⟨g, rfl, by simp [mergeF, hp], by omega⟩
end
end Go.Proofs.Ytojbfjfjhfnopaa.MergeL
end

section
/- What is kept while a list is gathered ('all = append(all, x)' in a range over a function), at entries. -/
namespace Go.Proofs.Ytojbfjfjhfnopaa.MergeE
open Go.RowKit Go.Shelf RangeD SeqE HeapL
set_option linter.unusedVariables false
section
variable {α : Type} (ek ev : α → Int) (eb : α → Bool)
def ecells (x : α) : List Value := [.int .u64 (ek x), .int .u64 (ev x), .bool (eb x)]
def erow (xs : List α) : List Value := xs.flatMap (ecells ek ev eb)
theorem erow_snoc (xs : List α) (x : α) : erow ek ev eb (xs ++ [x]) = erow ek ev eb xs ++ ecells ek ev eb x := by simp [erow]
theorem erow_length (xs : List α) : (erow ek ev eb xs).length = xs.length * 3 := by
  induction xs with
  | nil => rfl
  | cons x l ih =>
    have e : erow ek ev eb (x :: l) = ecells ek ev eb x ++ erow ek ev eb l := rfl
    rw [e, List.length_append, ih]
    simp [ecells]
    omega
theorem erow_get (xs : List α) : ∀ (j r : Nat) (x : α), xs[j]? = some x → r < 3 → (erow ek ev eb xs)[j * 3 + r]? = (ecells ek ev eb x)[r]? := by
  induction xs with
  | nil => intro j r x h; simp at h
  | cons y l ih =>
    intro j r x h hr
    have e : erow ek ev eb (y :: l) = ecells ek ev eb y ++ erow ek ev eb l := rfl
    have hl : (ecells ek ev eb y).length = 3 := rfl
    rw [e]
    cases j with
    | zero =>
      simp only [List.getElem?_cons_zero, Option.some.injEq] at h
      subst h
      rw [List.getElem?_append_left (by omega), Nat.zero_mul, Nat.zero_add]
    | succ j =>
      rw [List.getElem?_append_right (by omega), hl, show (j + 1) * 3 + r - 3 = j * 3 + r from by omega]
      exact ih j r x (by simpa using h) hr
theorem ownsRow_keep {w w' : World} {base e size n : Nat} {v : Value} {xs : List Value} (h : w.ownsRow base e size v n xs) (hk : ∀ k, v.ownBlock = some k → w'.heap[k]? = w.heap[k]?) : w'.ownsRow base e size v n xs := by
  refine ⟨h.1, ?_⟩
  rcases h.2 with hn | ⟨g, cap, cur, rfl, hb, hgg, rest⟩
  · exact .inl hn
  · exact .inr ⟨g, cap, cur, rfl, hb, (hk g (by simp [Value.ownBlock])).trans hgg, rest⟩
/-- A row of one's own, read. -/
theorem cellsAt_of_own {w : World} {base g cap : Nat} {xs : List α} {n : Nat} (h : w.ownsRow base 32 3 (.slice (some ⟨g, 0, none⟩) n cap) n (erow ek ev eb xs)) : CellsAt ek ev eb w g 0 xs := by
  have hc := h.cells (g := g) (by simp [Value.ownBlock])
  have hadd : ∀ j, (⟨g, 0, none⟩ : Addr).add j = ⟨g, j, none⟩ := fun j => by unfold Addr.add; split <;> simp_all
  intro j x hj
  rw [Nat.zero_add]
  refine ⟨?_, ?_, ?_⟩
  · have := hc (j * 3 + 0) _ ((erow_get ek ev eb xs j 0 x hj (by omega)).trans rfl)
    rwa [hadd] at this
  · have := hc (j * 3 + 1) _ ((erow_get ek ev eb xs j 1 x hj (by omega)).trans rfl)
    rwa [hadd] at this
  · have := hc (j * 3 + 2) _ ((erow_get ek ev eb xs j 2 x hj (by omega)).trans rfl)
    rwa [hadd] at this
/-- While the list is gathered: X is the world at the range's begin, a7 the cell of 'all'. -/
structure GI (X : World) (a7 : Nat) (pre : List α) (T : Blocks) (Y : World) : Prop where
  os : Y.os = X.os
  tape : Y.tape = X.tape
  output : Y.output = X.output
  size : X.heap.size ≤ Y.heap.size
  same : ∀ k, k < X.heap.size → k ≠ a7 → Y.heap[k]? = X.heap[k]?
  own : ∀ k, T k → X.heap.size ≤ k ∧ k < Y.heap.size
  row : ∃ v, Y.heap[a7]? = some (.cells #[v] 25 (0, 0)) ∧ Y.ownsRow X.heap.size 32 3 v pre.length (erow ek ev eb pre) ∧ ∀ k, v.ownBlock = some k → ¬ T k
variable {ek ev eb}
theorem GI.start {X : World} {a7 : Nat} (h : X.heap[a7]? = some (.cells #[.slice none 0 0] 25 (0, 0))) : GI ek ev eb X a7 [] (fun _ => False) X :=
  ⟨rfl, rfl, rfl, Nat.le_refl _, fun _ _ _ => rfl, fun _ h => h.elim, _, h, World.ownsRow_nil X _ 32 3, fun _ _ h => h⟩
theorem GI.lt {X : World} {a7 : Nat} {pre : List α} {T : Blocks} {Y : World} (h : GI ek ev eb X a7 pre T Y) : a7 < Y.heap.size := by
  obtain ⟨v, hb, _⟩ := h.row
  exact (Array.getElem?_eq_some_iff.1 hb).1
theorem GI.abide {X : World} {a7 : Nat} (ha : a7 < X.heap.size) : Abide (GI ek ev eb X a7) := by
  intro pre T T' A A' h ht
  have hsz := ht.size
  obtain ⟨v, h1, h2, h3⟩ := h.row
  refine ⟨ht.os.trans h.os, ht.tape.trans h.tape, ht.output.trans h.output, Nat.le_trans h.size ht.size, fun k hk hn => ?_, fun k hk => ?_, v, ?_, ?_, fun k hk hT => ?_⟩
  · have hs := h.size
    exact (ht.same k (by omega) (fun hT => by have := (h.own k hT).1; omega)).trans (h.same k hk hn)
  · rcases ht.new k hk with hk | hk
    · have := h.own k hk; omega
    · have hs := h.size; omega
  · exact (ht.same a7 (Array.getElem?_eq_some_iff.1 h1).1 (fun hT => by have := (h.own a7 hT).1; omega)).trans h1
  · exact ownsRow_keep h2 (fun k hk => ht.same k (h2.lt k hk).2 (h3 k hk))
  · rcases ht.new k hT with hT | hT
    · exact h3 k hk hT
    · have := (h2.lt k hk).2; omega
theorem GI.ownT {X : World} {a7 : Nat} (ha : a7 < X.heap.size) : OwnT X.heap.size (GI ek ev eb X a7) := by
  intro T pre Y Y' row h hg hr
  obtain ⟨v, h1, h2, h3⟩ := h.row
  refine ⟨hg.os.trans h.os, hg.tape.trans h.tape, hg.output.trans h.output, Nat.le_trans h.size hg.size, fun k hk hn => ?_, fun k hk => ⟨(h.own k hk).1, Nat.lt_of_lt_of_le (h.own k hk).2 hg.size⟩, v, ?_, ?_, h3⟩
  · have hs := h.size
    exact (hg.block k (by omega) (fun e => by have := (hr k e.symm).1; omega)).trans (h.same k hk hn)
  · exact (hg.block a7 (Array.getElem?_eq_some_iff.1 h1).1 (fun e => by have := (hr a7 e.symm).1; omega)).trans h1
  · refine ownsRow_keep h2 (fun k hk => hg.block k (h2.lt k hk).2 (fun e => ?_))
    obtain ⟨_, o, ho, hc⟩ := hr k e.symm
    rcases h2.2 with ⟨rfl, _⟩ | ⟨g, cap, cur, rfl, hb, hgg, rest⟩
    · simp [Value.ownBlock] at hk
    · have : g = k := by simpa [Value.ownBlock] using hk
      subst this
      rw [ho] at hgg
      injection hgg with hgg
      subst hgg
      cases hc
/-- The thing is appended: W1 is what append leaves, its new thing having lain in a block of its own. -/
theorem GI.next {X : World} {a7 : Nat} (ha : a7 < X.heap.size) {pre : List α} {T : Blocks} {Y W1 : World} {v v' : Value} {x : α} {o : Obj} (h : GI ek ev eb X a7 pre T Y)
    (hv : Y.heap[a7]? = some (.cells #[v] 25 (0, 0))) (ht : ∀ k, v.ownBlock = some k → ¬ T k ∧ X.heap.size ≤ k) (h1 : W1.ownsRow X.heap.size 32 3 v' (pre.length + 1) (erow ek ev eb pre ++ [.int .u64 (ek x), .int .u64 (ev x), .bool (eb x)])) (h2 : (Y.alloc o).grownBy W1 v.ownBlock) (h3 : v'.ownBlock = v.ownBlock ∨ v'.ownBlock = some (Y.alloc o).heap.size) :
    GI ek ev eb X a7 (pre ++ [x]) T (W1.setCell ⟨a7, 0, none⟩ v') ∧ KeepsFrom X.heap.size Y (W1.setCell ⟨a7, 0, none⟩ v') ∧ ∀ D : Blocks, (∀ k, D k → k < X.heap.size ∧ k ≠ a7) → Same (fun k => D k ∨ T k) Y (W1.setCell ⟨a7, 0, none⟩ v') := by
  have hs := h.size
  have hs1 : Y.heap.size + 1 ≤ W1.heap.size := by have := h2.size; simpa using this
  have hb : ∀ k, k < Y.heap.size → v.ownBlock ≠ some k → k ≠ a7 → (W1.setCell ⟨a7, 0, none⟩ v').heap[k]? = Y.heap[k]? := fun k hk hn hn2 =>
    (Below.heap_setCell W1 ⟨a7, 0, none⟩ v' k hn2).trans ((h2.block k (by simp; omega) (fun e => hn e.symm)).trans (Below.heap_alloc Y o k hk))
  have hsz : (W1.setCell ⟨a7, 0, none⟩ v').heap.size = W1.heap.size := by simp [World.setCell]
  have ha7 : v.ownBlock ≠ some a7 := fun e => by have := (ht a7 e).2; omega
  have hlt7 := h.lt
  have hW7 : W1.heap[a7]? = some (.cells #[v] 25 (0, 0)) := ((h2.block a7 (by simp; omega) (fun e => ha7 e.symm)).trans (Below.heap_alloc Y o a7 hlt7)).trans hv
  refine ⟨⟨h2.os.trans h.os, h2.tape.trans h.tape, h2.output.trans h.output, by omega, fun k hk hn => ?_, fun k hk => ⟨(h.own k hk).1, by have := (h.own k hk).2; omega⟩, v', ?_, ?_, fun k hk => ?_⟩, ⟨by omega, fun k ob hk ho hc => ?_⟩, fun D hD k hk hl => ?_⟩
  · exact (hb k (by omega) (fun e => by have := (ht k e).2; omega) hn).trans (h.same k hk hn)
  · exact (setCell_blk hW7 v').trans rfl
  · rw [erow_snoc, List.length_append]
    refine ownsRow_keep h1 (fun k hk => Below.heap_setCell W1 ⟨a7, 0, none⟩ v' k (fun e => ?_))
    have := (h1.lt k hk).1
    simp at e
    omega
  · rcases h3 with h3 | h3
    · exact (ht k (by rw [← h3]; exact hk)).1
    · intro hT
      rw [h3] at hk
      injection hk with hk
      have := (h.own k hT).2
      rw [World.size_alloc] at hk
      omega
  · have hkl : k < Y.heap.size := (Array.getElem?_eq_some_iff.1 ho).1
    refine (hb k hkl (fun e => ?_) (by omega)).trans ho
    obtain ⟨v2, q1, q2, q3⟩ := h.row
    rw [hv] at q1
    injection q1 with q1
    injection q1 with q1
    have : v = v2 := by simpa using q1
    subst this
    rcases q2.2 with ⟨rfl, _⟩ | ⟨g, cap, cur, rfl, hb2, hgg, rest⟩
    · simp [Value.ownBlock] at e
    · have : g = k := by simpa [Value.ownBlock] using e
      subst this
      rw [ho] at hgg
      injection hgg with hgg
      subst hgg
      cases hc
  · rcases hk with hk | hk
    · have := hD k hk
      exact hb k hl (fun e => by have := (ht k e).2; omega) this.2
    · have := h.own k hk
      exact hb k hl (fun e => (ht k e).1 hk) (by omega)
end
end Go.Proofs.Ytojbfjfjhfnopaa.MergeE
end

section
/- merge.heap at entries: less, put, take. -/
namespace Go.Proofs.Ytojbfjfjhfnopaa.HeapE
open Go.RowKit HeapL
set_option linter.unusedVariables false
theorem box2 (w : World) (o : Obj) (cs : Array Value) (t : TypeId) : ((w.alloc o).alloc (.cells cs t)).drew.heap[w.heap.size + 1]? = some (.cells cs t (0, 0)) := by
  have := heap_alloc_new (w.alloc o) (.cells cs t)
  rw [World.size_alloc] at this
  exact this
theorem box_frozen {w : World} {hb : Nat} {cs : Array Value} {t : TypeId} (h : w.heap[hb]? = some (.cells cs t (0, 0))) (o o2 : Obj) : ((w.alloc o).alloc o2).drew.frozen? ⟨hb, 0, none⟩ = false := by
  have hlt : hb < w.heap.size := (Array.getElem?_eq_some_iff.1 h).1
  have : ((w.alloc o).alloc o2).drew.heap[hb]? = some (.cells cs t (0, 0)) := (Below.heap_alloc (w.alloc o) o2 hb (by simp; omega)).trans ((Below.heap_alloc w o hb hlt).trans h)
  simp [World.frozen?, this]
theorem drew_heap {w : World} {k : Nat} {o : Option Obj} (h : w.heap[k]? = o) : w.drew.heap[k]? = o := h
theorem info82 : (Try.prog.info? 82).map (fun i => (i.zero, i.size, i.bytes)) = some (some (.agg #[.int .u64 0, .int .i64 0, .slice none 0 0]), 3, 40) := by kernel_rfl
theorem box_cell {w : World} {hb : Nat} {a : Value} {t : TypeId} (h : w.heap[hb]? = some (.cells #[a] t (0, 0))) (o o2 : Obj) : ((w.alloc o).alloc o2).drew.cell? ⟨hb, 0, none⟩ = some a := by
  have hlt : hb < w.heap.size := (Array.getElem?_eq_some_iff.1 h).1
  have : ((w.alloc o).alloc o2).drew.heap[hb]? = some (.cells #[a] t (0, 0)) := (Below.heap_alloc (w.alloc o) o2 hb (by simp; omega)).trans ((Below.heap_alloc w o hb hlt).trans h)
  rw [cell_of_row _ hb 0 _ _ _ this]
  rfl
/-- What the append into the heap's field leaves. -/
def Put0 (w : World) (hb base : Nat) (v : Value) (l : List Hd) (v' : Value) (W : World) : Prop :=
  W.heap[hb]? = some (.cells #[v'] 79 (0, 0)) ∧ HRow W base 82 v' l ∧ (v'.ownBlock = v.ownBlock ∨ ∃ b, v'.ownBlock = some b ∧ w.heap.size ≤ b) ∧ v'.ownBlock ≠ some hb ∧ Turns (fun k => k = hb ∨ v.ownBlock = some k) w W
theorem put0 {w w1 : World} {hb base gg cap : Nat} {v : Value} {l : List Hd} {x : Hd} {o o2 : Obj} (hx : x.rest.oneCell' = true) (hh : w.heap[hb]? = some (.cells #[v] 79 (0, 0))) (hr : HRow w base 82 v l) (hne : v.ownBlock ≠ some hb)
    (hown1 : w1.ownsRow base 82 3 (.slice (some ⟨gg, 0, none⟩) (l.length + 1) cap) (l.length + 1) (rowCells l ++ [.int .u64 x.key, .int .i64 x.frm, .slice x.ad x.len x.cap])) (hgrow : ((w.alloc o).alloc o2).drew.grownBy w1 v.ownBlock) (hat : v.ownBlock = some gg ∨ gg = w.heap.size + 2) :
    Put0 w hb base v (l ++ [x]) (.slice (some ⟨gg, 0, none⟩) (l.length + 1) cap) (w1.setCell ⟨hb, 0, none⟩ (.slice (some ⟨gg, 0, none⟩) (l.length + 1) cap)) := by
  have hlt : hb < w.heap.size := (Array.getElem?_eq_some_iff.1 hh).1
  have hb1 : w1.heap[hb]? = some (.cells #[v] 79 (0, 0)) := (hgrow.block hb (by show hb < ((w.alloc o).alloc o2).heap.size; simp; omega) (Ne.symm hne)).trans ((Below.heap_alloc (w.alloc o) o2 hb (by simp; omega)).trans ((Below.heap_alloc w o hb hlt).trans hh))
  have hgg : gg ≠ hb := by
    rcases hat with h | h
    · intro e; subst e; exact hne h
    · omega
  refine ⟨(setCell_blk hb1 _).trans rfl, (HRow.more hx hr.2 hown1).keep (fun k hk => ?_), ?_, ?_, ?_⟩
  · simp [Value.ownBlock] at hk
    subst hk
    exact Below.heap_setCell w1 ⟨hb, 0, none⟩ _ gg hgg
  · rcases hat with h | h
    · exact .inl (by rw [h]; rfl)
    · exact .inr ⟨gg, rfl, by omega⟩
  · simp [Value.ownBlock]; exact hgg
  · refine Turns.set ?_ (fun _ => .inl rfl) _
    have h1 : Turns (fun k => k = hb ∨ v.ownBlock = some k) w ((w.alloc o).alloc o2).drew := (((Turns.refl _ w).alloc o).alloc o2).drew
    exact h1.trans (Turns.of_grown (T := fun k => v.ownBlock = some k) hgrow (fun k hk => hk)) (fun j hj _ => .inr hj)
set_option maxRecDepth 100000 in
theorem less_calls (a b : Hd) (w : World) : Calls Try.prog 59 #[.agg #[.int .u64 a.key, .int .i64 a.frm, .slice a.ad a.len a.cap], .agg #[.int .u64 b.key, .int .i64 b.frm, .slice b.ad b.len b.cap]] w fun e w' => e = .returned (.bool (decide (a.Lt b))) ∧ Below w.heap.size w w' := by
  obtain ⟨ak, af, aa, an, ac⟩ := a
  obtain ⟨bk, bf, ba, bn, bc⟩ := b
  by_cases h1 : ak < bk
  · have hd1 : decide (ak < bk) = true := decide_eq_true h1
    rw [show decide (Hd.Lt ⟨ak, af, aa, an, ac⟩ ⟨bk, bf, ba, bn, bc⟩) = true from decide_eq_true (.inl h1)]
    go_enter Try.func59, Try.ntmps59
    go_wp2
    go_ret
    exact ⟨rfl, ((Below.refl _ _).alloc (Nat.le_refl _) _).alloc (by simp) _⟩
  · have hd1 : decide (ak < bk) = false := decide_eq_false h1
    by_cases h2 : ak = bk
    · have hd2 : (ak == bk) = true := beq_iff_eq.2 h2
      rw [show decide (Hd.Lt ⟨ak, af, aa, an, ac⟩ ⟨bk, bf, ba, bn, bc⟩) = decide (af < bf) from by
        have : (Hd.Lt ⟨ak, af, aa, an, ac⟩ ⟨bk, bf, ba, bn, bc⟩) ↔ af < bf := by unfold Hd.Lt; simp only []; omega
        simp only [this]]
      clear h2 h1
      go_enter Try.func59, Try.ntmps59
      go_wp2
      go_ret
      exact ⟨rfl, ((Below.refl _ _).alloc (Nat.le_refl _) _).alloc (by simp) _⟩
    · have hd2 : (ak == bk) = false := beq_eq_false_iff_ne.2 h2
      rw [show decide (Hd.Lt ⟨ak, af, aa, an, ac⟩ ⟨bk, bf, ba, bn, bc⟩) = false from decide_eq_false (by unfold Hd.Lt; simp only []; omega)]
      clear h2 h1
      go_enter Try.func59, Try.ntmps59
      go_wp2
      go_ret
      exact ⟨rfl, ((Below.refl _ _).alloc (Nat.le_refl _) _).alloc (by simp) _⟩
set_option maxHeartbeats 4000000 in
set_option maxRecDepth 1000000 in
theorem put_calls (x : Hd) (l : List Hd) (hp : Heap l) (hb base : Nat) (v : Value) (w : World) (hh : w.heap[hb]? = some (.cells #[v] 79 (0, 0))) (hr : HRow w base 82 v l) (hbase : base ≤ w.heap.size) (hl : (l.length + 1) * 40 ≤ 140737488355328) :
    Calls Try.prog 45 #[.pointer (some ⟨hb, 0, none⟩), .agg #[.int .u64 x.key, .int .i64 x.frm, .slice x.ad x.len x.cap]] w fun e w' => e = .returned (.tuple #[]) ∧
      ∃ v' l', w'.heap[hb]? = some (.cells #[v'] 79 (0, 0)) ∧ HRow w' base 82 v' l' ∧ Heap l' ∧ l'.Perm (x :: l) ∧ (v'.ownBlock = v.ownBlock ∨ ∃ b, v'.ownBlock = some b ∧ w.heap.size ≤ b) ∧ Turns (fun k => k = hb ∨ v.ownBlock = some k) w w' := by
  obtain ⟨i0, hi0, hz0, hz1, hz2⟩ := info_parts info82
  obtain ⟨A, c, rfl, hlc⟩ := hr.slice
  have hc0 : w.cell? ⟨hb, 0, none⟩ = some (.slice A l.length c) := by rw [cell_of_row w hb 0 _ _ _ hh]; rfl
  have hf0 : w.frozen? ⟨hb, 0, none⟩ = false := by simp [World.frozen?, hh]
  have hblt : hb < w.heap.size := (Array.getElem?_eq_some_iff.1 hh).1
  have hne : (Value.slice A l.length c).ownBlock ≠ some hb := fun e => by
    obtain ⟨cur, hcur⟩ := hr.typed hb e
    rw [hcur] at hh
    injection hh with hh
    injection hh with _ hh _
    cases hh
  have hnb : (Value.slice A l.length c).ownBlock ≠ some w.heap.size := fun e => by have := (hr.blocks _ e).2; omega
  have hnl : l.length + 1 ≤ maxLen := by unfold maxLen; omega
  have hx3 : ∀ u ∈ [Value.int .u64 x.key, .int .i64 x.frm, .slice x.ad x.len x.cap], u.oneCell' = true := by
    intro u hu
    simp only [List.mem_cons, List.not_mem_nil, or_false] at hu
    rcases hu with hu | hu | hu <;> subst hu
    · rfl
    · rfl
    · rfl
  have HX3 := Lib.hid hx3
  have HOWN := Lib.hid hr.1
  have HL0 : Hid (l.length ≤ 3518437208882) := Lib.hid (by omega)
  go_enter Try.func45, Try.ntmps45
  go_wp2_with fail
  go_upto_region 1 with (fail)
  go_cut [13] (fun v13 wc => ∃ v', v13 = v' ∧ Hid (Put0 w hb base (.slice A l.length c) (l ++ [x]) v' wc))
  case first =>
    go_region_law
      ((refine step_append_lies _ (by rfl) _ _ _ (by rfl) base 82 i0 _ 3 40 Try.underlying77 hi0 hz0 hz1 hz2 rfl (by omega) (.slice A l.length c) l.length (rowCells l) (by rfl) (((HOWN.out.alloc _).alloc _).drew) ⟨w.heap.size + 1, 0, none⟩ 1 1 [.int .u64 x.key, .int .i64 x.frm, .slice x.ad x.len x.cap] (by rfl) (by rfl) (World.news_of_block (cs := #[.int .u64 x.key, .int .i64 x.frm, .slice x.ad x.len x.cap]) (t := 82) (fr := (0, 0)) (box2 w _ _ 82)) HX3.out (by omega) hnl hl (by simp; omega) (w.heap.size + 2) (by simp) ?_; intro gg cap w1 hown1 hgrow hat hlt; have hfz : w1.frozen? ⟨hb, 0, none⟩ = false := (hgrow.frozen_far _ (by simp; omega) (Ne.symm hne)).trans (box_frozen hh _ _); have hcz : w1.cell? ⟨hb, 0, none⟩ = some (.slice A l.length c) := (hgrow.cell_far _ (by simp; omega) (Ne.symm hne)).trans (box_cell hh _ _)))
    all_goals
      (try go_wp2)
      go_meet
      case rel => exact ⟨_, rfl, Lib.hid (put0 (x := x) rfl hh hr hne hown1 hgrow hat)⟩
  case rest =>
    obtain ⟨v', rfl, HP⟩ := hcut
    obtain ⟨q1, q2, q3, q4, q5⟩ := HP.out
    obtain ⟨g, cap, cur, ev, hgb, hgg, hlc2, hcm, hcs, hct⟩ := q2.form (by simp)
    have hlen : (l ++ [x]).length = l.length + 1 := by simp
    rw [hlen] at ev hlc2
    subst ev
    have hcw : wc.cell? ⟨hb, 0, none⟩ = some (.slice (some ⟨g, 0, none⟩) (l.length + 1) cap) := by rw [cell_of_row wc hb 0 _ _ _ q1]; rfl
    have hg0 : g ≠ hb := fun e => q4 (by rw [e]; rfl)
    have Q1 := Lib.hid q1
    have Q2 := Lib.hid q2
    have Q3 := Lib.hid q3
    have Q5 := Lib.hid q5
    clear HP q1 q2 q3 q4 q5 hgg hct hcs hc0 hf0 hne hnb hx3 HX3 HOWN hr hh
    have hup0 := Lib.hid (Up.start hp x)
    have hnn := HL0.out
    go_wp2_with (fail)
    clear hcw
    obtain ⟨n, hn⟩ : ∃ n, l.length + 1 = n := ⟨_, rfl⟩
    rw [hn] at Q1 Q2 Q3
    have HNN : Hid (n ≤ 3518437208883) := Lib.hid (by omega)
    go_loopg [4] n (fun kq v4 w' => ∃ (i : Nat) (lk : List Hd), v4 = .int .i64 i ∧ i < n ∧ i ≤ kq ∧ Hid (lk.length = n) ∧ Hid (Up lk i) ∧ Hid (lk.Perm (l ++ [x])) ∧ Hid (HRow w' base 82 (.slice (some ⟨g, 0, none⟩) n cap) lk) ∧ Hid (w'.heap[hb]? = some (.cells #[.slice (some ⟨g, 0, none⟩) n cap] 79 (0, 0))) ∧ Hid (Turns (fun k => k = hb ∨ k = g) wc w'))
    case atStart => exact ⟨l.length, l ++ [x], rfl, by omega, by omega, Lib.hid (by rw [hlen, hn]), hup0, Lib.hid (List.Perm.refl _), Q2, Q1, Lib.hid (Turns.refl _ _)⟩
    case round =>
      obtain ⟨i, lk, rfl, hin, hik, HL, HU, HPM, HR, HB, HT⟩ := hrel
      have hn1 := HNN.out
      have hTT : ∀ W, Turns (fun k => k = hb ∨ k = g) wr W → Turns (fun k => k = hb ∨ (Value.slice A l.length c).ownBlock = some k) w W := fun W hW => by
        have h1 := HT.out.trans hW (fun j hj _ => hj)
        refine Q5.out.trans h1 (fun j hj hlt => ?_)
        rcases hj with hj | hj
        · exact .inl hj
        · rcases Q3.out with h2 | ⟨b, h2, h3⟩
          · right; rw [← h2, hj]; rfl
          · have : b = g := by simpa [Value.ownBlock] using h2.symm
            omega
      have HTT := Lib.hid hTT
      have hat1 : (Value.slice (some ⟨g, 0, none⟩) n cap).ownBlock = (Value.slice A l.length c).ownBlock ∨ ∃ b, (Value.slice (some ⟨g, 0, none⟩) n cap).ownBlock = some b ∧ w.heap.size ≤ b := Q3.out
      have HAT := Lib.hid hat1
      have HPX : Hid (∀ lk2 : List Hd, lk2.Perm lk → lk2.Perm (x :: l)) := Lib.hid (fun lk2 h => (h.trans HPM.out).trans (List.perm_append_comm (l₁ := l)))
      clear hTT hat1 hup0 hn
      by_cases h00 : i = 0
      · subst h00
        go_wp2_with (fail)
        go_end0
        exact ⟨rfl, _, lk, HB.out, HR.out, HU.out.stop (.inl rfl), HPX.out _ (List.Perm.refl _), HAT.out, HTT.out _ (Turns.refl _ _)⟩
      · obtain ⟨p, hp2⟩ : ∃ p, (i - 1) / 2 = p := ⟨_, rfl⟩
        have hp3 : ((i : Int) - 1) / 2 = (p : Int) := by omega
        have hl1 := HL.out
        obtain ⟨ci0, ci1, ci2⟩ := HR.out.cell i (by omega)
        obtain ⟨cp0, cp1, cp2⟩ := HR.out.cell p (by omega)
        have hcw : wr.cell? ⟨hb, 0, none⟩ = some (.slice (some ⟨g, 0, none⟩) n cap) := by rw [cell_of_row wr hb 0 _ _ _ HB.out]; rfl
        have hdi : decide ((i : Int) > 0) = true := decide_eq_true (by omega)
        have b0 : (0 : Int) ≤ (i : Int) - 1 := by omega
        have b1 : (p : Int) < (n : Int) := by omega
        have b2 : p < n := by omega
        have b3 : (i : Int) < (n : Int) := by omega
        have hpi := Lib.hid (show (i - 1) / 2 = p from hp2)
        have hi0 : 0 < i := by omega
        clear hl1 hp2 h00
        by_cases hlt : (at_ lk i).Lt (at_ lk p)
        · have hd : decide ((at_ lk i).Lt (at_ lk p)) = true := decide_eq_true hlt
          have HLT := Lib.hid hlt
          clear hlt
          go_wp2_with (fail)
          go_region_held3 (fun w' => w'.cell? ⟨hb, 0, none⟩ = some (.slice (some ⟨g, 0, none⟩) n cap) ∧ w'.cell? ⟨g, i * 3, none⟩ = some (.int .u64 (at_ lk i).key) ∧ w'.cell? ⟨g, i * 3 + 1, none⟩ = some (.int .i64 (at_ lk i).frm) ∧ w'.cell? ⟨g, i * 3 + 2, none⟩ = some (.slice (at_ lk i).ad (at_ lk i).len (at_ lk i).cap) ∧ w'.cell? ⟨g, p * 3, none⟩ = some (.int .u64 (at_ lk p).key) ∧ w'.cell? ⟨g, p * 3 + 1, none⟩ = some (.int .i64 (at_ lk p).frm) ∧ w'.cell? ⟨g, p * 3 + 2, none⟩ = some (.slice (at_ lk p).ad (at_ lk p).len (at_ lk p).cap))
            (first
              | go_keep
              | (go_split_ands
                 refine ⟨?_, ?_, ?_, ?_, ?_, ?_, ?_⟩ <;> (refine (hbl.cell (World.block_lt_of_cell? _ _ (by assumption))).trans ?_; assumption)))
            ((go_at_call 59; refine (less_calls (at_ lk i) (at_ lk p) _).mono ?_; rintro e w1 ⟨rfl, hbl⟩))
          go_wp2_with (fail)
          obtain ⟨e0, ei0, ei1, ei2, ep0, ep1, ep2⟩ := ‹(_ ∧ _ ∧ _ ∧ _ ∧ _ ∧ _ ∧ _)›
          have HR1 : Hid (HRow w1 base 82 (.slice (some ⟨g, 0, none⟩) n cap) lk) := Lib.hid (HRow.turn (w := wr.drew) HR.out (Turns.of_below (fun _ => False) hbl) (fun _ _ h => h))
          have HB1 : Hid (w1.heap[hb]? = some (.cells #[.slice (some ⟨g, 0, none⟩) n cap] 79 (0, 0))) := Lib.hid ((hbl.block hb (Array.getElem?_eq_some_iff.1 HB.out).1).trans HB.out)
          have HT1 : Hid (Turns (fun k => k = hb ∨ k = g) wc w1) := Lib.hid ((HT.out.drew).trans (Turns.of_below (fun _ => False) hbl) (fun _ h _ => h.elim))
          have z0 := HR1.out.frozen (i * 3)
          have z1 := HR1.out.frozen (i * 3 + 1)
          have z2 := HR1.out.frozen (i * 3 + 2)
          have z3 := HR1.out.frozen (p * 3)
          have z4 := HR1.out.frozen (p * 3 + 1)
          have z5 := HR1.out.frozen (p * 3 + 2)
          have hpi2 := hpi.out
          have n0 : ¬ (i * 3 = p * 3) := by omega
          have n1 : ¬ (i * 3 = p * 3 + 1) := by omega
          have n2 : ¬ (i * 3 = p * 3 + 2) := by omega
          have n3 : ¬ (i * 3 + 1 = p * 3) := by omega
          have n4 : ¬ (i * 3 + 2 = p * 3) := by omega
          have m0 : ¬ (p * 3 = i * 3) := by omega
          have m1 : ¬ (p * 3 = i * 3 + 1) := by omega
          have m2 : ¬ (p * 3 = i * 3 + 2) := by omega
          have m3 : ¬ (p * 3 + 1 = i * 3) := by omega
          have m4 : ¬ (p * 3 + 2 = i * 3) := by omega
          have n5 : ¬ (i = p) := by omega
          have m5 : ¬ (p = i) := by omega
          clear hpi2 hbl ci0 ci1 ci2 cp0 cp1 cp2 hcw
          go_region
          go_wp2_with (fail)
          have hil : i < lk.length := by rw [HL.out]; omega
          have hpl : p < lk.length := by rw [HL.out]; omega
          have hup : Up (swap lk i p) p := by
            have := Up.step HU.out hi0 hil (by rw [hpi.out]; exact HLT.out)
            rwa [hpi.out] at this
          have F1 := Lib.hid (HR1.out.swap i p hil hpl).drew
          have F2 : Hid ((storeHd (storeHd w1 g i (at_ lk p)) g p (at_ lk i)).drew.heap[hb]? = some (.cells #[.slice (some ⟨g, 0, none⟩) n cap] 79 (0, 0))) := Lib.hid (drew_heap ((storeHd_far (storeHd w1 g i (at_ lk p)) g p (at_ lk i) hb (Ne.symm hg0)).trans ((storeHd_far w1 g i (at_ lk p) hb (Ne.symm hg0)).trans HB1.out)))
          have F3 := Lib.hid (storeHd_turns (storeHd_turns HT1.out g i (at_ lk p) (fun _ => .inr rfl)) g p (at_ lk i) (fun _ => .inr rfl)).drew
          have F4 := Lib.hid ((swap_perm lk i p hil hpl).trans HPM.out)
          have F5 : Hid ((swap lk i p).length = n) := Lib.hid (by rw [swap_length]; exact HL.out)
          have F6 := Lib.hid hup
          simp only [storeHd] at F1 F2 F3
          clear n0 n1 n2 n3 n4 n5 m0 m1 m2 m3 m4 m5 z0 z1 z2 z3 z4 z5 e0 ei0 ei1 ei2 ep0 ep1 ep2 hup HR1 HB1 HT1
          go_roundg p
          case measure => omega
          case rel => exact ⟨p, swap lk i p, rfl, b2, Nat.le_refl _, F5, F6, F4, F1, F2, F3⟩
        · have hd : decide ((at_ lk i).Lt (at_ lk p)) = false := decide_eq_false hlt
          have HLT := Lib.hid hlt
          clear hlt
          go_wp2_with (fail)
          go_region_held3 (fun w' => w'.cell? ⟨hb, 0, none⟩ = some (.slice (some ⟨g, 0, none⟩) n cap) ∧ w'.cell? ⟨g, i * 3, none⟩ = some (.int .u64 (at_ lk i).key) ∧ w'.cell? ⟨g, i * 3 + 1, none⟩ = some (.int .i64 (at_ lk i).frm) ∧ w'.cell? ⟨g, i * 3 + 2, none⟩ = some (.slice (at_ lk i).ad (at_ lk i).len (at_ lk i).cap) ∧ w'.cell? ⟨g, p * 3, none⟩ = some (.int .u64 (at_ lk p).key) ∧ w'.cell? ⟨g, p * 3 + 1, none⟩ = some (.int .i64 (at_ lk p).frm) ∧ w'.cell? ⟨g, p * 3 + 2, none⟩ = some (.slice (at_ lk p).ad (at_ lk p).len (at_ lk p).cap))
            (first
              | go_keep
              | (go_split_ands
                 refine ⟨?_, ?_, ?_, ?_, ?_, ?_, ?_⟩ <;> (refine (hbl.cell (World.block_lt_of_cell? _ _ (by assumption))).trans ?_; assumption)))
            ((go_at_call 59; refine (less_calls (at_ lk i) (at_ lk p) _).mono ?_; rintro e w1 ⟨rfl, hbl⟩))
          go_wp2_with (fail)
          refine bodyPost_ret (results_none rfl _ _ _) rfl ?_
          exact ⟨rfl, _, lk, (hbl.block hb (Array.getElem?_eq_some_iff.1 HB.out).1).trans HB.out, HRow.turn (w := wr.drew) HR.out.drew (Turns.of_below (fun _ => False) hbl) (fun _ _ h => h), HU.out.stop (.inr (by rw [hpi.out]; exact HLT.out)), HPX.out _ (List.Perm.refl _), HAT.out,
            HTT.out _ ((Turns.refl _ wr).drew.trans (Turns.of_below (fun _ => False) hbl) (fun _ h _ => h.elim))⟩
end Go.Proofs.Ytojbfjfjhfnopaa.HeapE
end

section
/- merge.heap at entries: take. -/
namespace Go.Proofs.Ytojbfjfjhfnopaa.HeapE
open Go.RowKit HeapL
set_option linter.unusedVariables false
/-- What take keeps while it goes down. -/
structure TakeW (w : World) (base hb g m cap : Nat) (x : Hd) (lk : List Hd) (W : World) : Prop where
  row : HRow W base 82 (.slice (some ⟨g, 0, none⟩) m cap) lk
  box : W.heap[hb]? = some (.cells #[.slice (some ⟨g, 0, none⟩) m cap] 79 (0, 0))
  got : W.heap[w.heap.size + 1]? = some (.cells #[.int .u64 x.key, .int .i64 x.frm, .slice x.ad x.len x.cap] 82 (0, 0))
  res : W.heap[w.heap.size]? = some (.cells #[.int .u64 0, .int .i64 0, .slice none 0 0] 82 (0, 0))
  turns : Turns (fun k => k = hb ∨ k = g) w W
  far : g ≠ hb
  old : g < w.heap.size
  old2 : hb < w.heap.size
theorem TakeW.below {w : World} {base hb g m cap : Nat} {x : Hd} {lk : List Hd} {W W' : World} (h : TakeW w base hb g m cap x lk W) (hb2 : Below W.heap.size W W') : TakeW w base hb g m cap x lk W' := by
  have hs := h.turns.size
  have h1 := (Array.getElem?_eq_some_iff.1 h.got).1
  exact ⟨h.row.turn (Turns.of_below (fun _ => False) hb2) (fun _ _ h => h), (hb2.block hb (by have := h.old2; omega)).trans h.box, (hb2.block _ h1).trans h.got, (hb2.block _ (by omega)).trans h.res, h.turns.trans (Turns.of_below (fun _ => False) hb2) (fun _ h _ => h.elim), h.far, h.old, h.old2⟩
theorem TakeW.drew {w : World} {base hb g m cap : Nat} {x : Hd} {lk : List Hd} {W : World} (h : TakeW w base hb g m cap x lk W) : TakeW w base hb g m cap x lk W.drew :=
  ⟨h.row.drew, h.box, h.got, h.res, h.turns.drew, h.far, h.old, h.old2⟩
theorem TakeW.drewN {w : World} {base hb g m cap : Nat} {x : Hd} {lk : List Hd} {W : World} (h : TakeW w base hb g m cap x lk W) (n : Nat) : TakeW w base hb g m cap x lk (W.drewN n) :=
  ⟨h.row.keep (fun _ _ => rfl), h.box, h.got, h.res, h.turns.drewN n, h.far, h.old, h.old2⟩
theorem TakeW.swap {w : World} {base hb g m cap : Nat} {x : Hd} {lk : List Hd} {W : World} (h : TakeW w base hb g m cap x lk W) (i j : Nat) (hi : i < lk.length) (hj : j < lk.length) :
    TakeW w base hb g m cap x (swap lk i j) (storeHd (storeHd W g i (at_ lk j)) g j (at_ lk i)) := by
  have hold := h.old
  have hf : ∀ k, k ≠ g → (storeHd (storeHd W g i (at_ lk j)) g j (at_ lk i)).heap[k]? = W.heap[k]? := fun k hk => (storeHd_far _ g j (at_ lk i) k hk).trans (storeHd_far W g i (at_ lk j) k hk)
  exact ⟨h.row.swap i j hi hj, (hf hb (Ne.symm h.far)).trans h.box, (hf _ (by omega)).trans h.got, (hf _ (by omega)).trans h.res, storeHd_turns (storeHd_turns h.turns g i (at_ lk j) (fun _ => .inr rfl)) g j (at_ lk i) (fun _ => .inr rfl), h.far, h.old, h.old2⟩
theorem take0 {w : World} {hb base g m cap : Nat} {l : List Hd} (hh : w.heap[hb]? = some (.cells #[.slice (some ⟨g, 0, none⟩) l.length cap] 79 (0, 0))) (hr : HRow w base 82 (.slice (some ⟨g, 0, none⟩) l.length cap) l) (hm : l.length = m + 1) (hg0 : g ≠ hb) (hglt : g < w.heap.size) (c : Nat) (W : World)
    (hc : c = m)
    (hW : W = ((((((w.setCell ⟨g, 0, none⟩ (.int .u64 (at_ l m).key)).setCell ⟨g, 1, none⟩ (.int .i64 (at_ l m).frm)).setCell ⟨g, 2, none⟩ (.slice (at_ l m).ad (at_ l m).len (at_ l m).cap)).setCell ⟨hb, 0, none⟩ (.slice (some ⟨g, 0, none⟩) c cap)).alloc (.cells #[.int .u64 0, .int .i64 0, .slice none 0 0] 82)).alloc (.cells #[.int .u64 (at_ l 0).key, .int .i64 (at_ l 0).frm, .slice (at_ l 0).ad (at_ l 0).len (at_ l 0).cap] 82)).drew) :
    TakeW w base hb g m cap (at_ l 0) ((l.set 0 (at_ l m)).take m) W := by
  subst hc
  have hblt : hb < w.heap.size := (Array.getElem?_eq_some_iff.1 hh).1
  have hs0 : storeHd w g 0 (at_ l c) = ((w.setCell ⟨g, 0, none⟩ (.int .u64 (at_ l c).key)).setCell ⟨g, 1, none⟩ (.int .i64 (at_ l c).frm)).setCell ⟨g, 2, none⟩ (.slice (at_ l c).ad (at_ l c).len (at_ l c).cap) := by
    unfold storeHd
    rw [Nat.zero_mul, Nat.zero_add, Nat.zero_add]
  rw [← hs0] at hW
  have r0 : HRow (storeHd w g 0 (at_ l c)) base 82 (.slice (some ⟨g, 0, none⟩) l.length cap) (l.set 0 (at_ l c)) := hr.put 0 (by omega) (at_ l c) rfl
  have r1 := r0.shrink c (by rw [List.length_set]; omega)
  have b0 : (storeHd w g 0 (at_ l c)).heap[hb]? = some (.cells #[.slice (some ⟨g, 0, none⟩) l.length cap] 79 (0, 0)) := (storeHd_far w g 0 (at_ l c) hb (Ne.symm hg0)).trans hh
  have t0 : Turns (fun k => k = hb ∨ k = g) w (storeHd w g 0 (at_ l c)) := storeHd_turns (Turns.refl _ w) g 0 (at_ l c) (fun _ => .inr rfl)
  have hsz : (storeHd w g 0 (at_ l c)).heap.size = w.heap.size := by simp [storeHd, World.setCell]
  generalize storeHd w g 0 (at_ l c) = w0 at hW r1 b0 t0 hsz
  have hsz1 : (w0.setCell ⟨hb, 0, none⟩ (.slice (some ⟨g, 0, none⟩) c cap)).heap.size = w.heap.size := by simp [World.setCell, hsz]
  have r2 : HRow (w0.setCell ⟨hb, 0, none⟩ (.slice (some ⟨g, 0, none⟩) c cap)) base 82 (.slice (some ⟨g, 0, none⟩) c cap) ((l.set 0 (at_ l c)).take c) := r1.keep (fun k hk => by
    have : k = g := by simpa [Value.ownBlock] using hk.symm
    subst this
    exact Below.heap_setCell w0 ⟨hb, 0, none⟩ _ k hg0)
  have b1 := setCell_blk (j := 0) b0 (.slice (some ⟨g, 0, none⟩) c cap)
  have t1 := t0.set (p := ⟨hb, 0, none⟩) (fun _ => .inl rfl) (.slice (some ⟨g, 0, none⟩) c cap)
  generalize w0.setCell ⟨hb, 0, none⟩ (.slice (some ⟨g, 0, none⟩) c cap) = w1 at hW r2 b1 t1 hsz1
  subst hW
  refine ⟨?_, ?_, ?_, ?_, ?_, hg0, hglt, hblt⟩
  · exact (r2.turn (((Turns.refl (fun _ => False) w1).alloc _).alloc _) (fun _ _ h => h)).drew
  · exact (Below.heap_alloc _ _ hb (by simp; omega)).trans ((Below.heap_alloc _ _ hb (by omega)).trans b1)
  · have := heap_alloc_new (w1.alloc (.cells #[.int .u64 0, .int .i64 0, .slice none 0 0] 82)) (.cells #[.int .u64 (at_ l 0).key, .int .i64 (at_ l 0).frm, .slice (at_ l 0).ad (at_ l 0).len (at_ l 0).cap] 82)
    rw [World.size_alloc, hsz1] at this
    exact this
  · have := heap_alloc_new w1 (.cells #[.int .u64 0, .int .i64 0, .slice none 0 0] 82)
    rw [hsz1] at this
    exact (Below.heap_alloc _ _ w.heap.size (by simp; omega)).trans this
  · exact ((t1.alloc _).alloc _).drew
/-- What take hands back. -/
theorem takeEnd {w : World} {base hb g m cap : Nat} {x : Hd} {lk : List Hd} {W : World} (h : TakeW w base hb g m cap x lk W) (W' : World)
    (hW : W' = ((W.setCell ⟨w.heap.size, 0, none⟩ (.int .u64 x.key)).setCell ⟨w.heap.size, 1, none⟩ (.int .i64 x.frm)).setCell ⟨w.heap.size, 2, none⟩ (.slice x.ad x.len x.cap)) :
    W'.heap[w.heap.size]? = some (.cells #[.int .u64 x.key, .int .i64 x.frm, .slice x.ad x.len x.cap] 82 (0, 0)) ∧ W'.heap[hb]? = some (.cells #[.slice (some ⟨g, 0, none⟩) m cap] 79 (0, 0)) ∧ HRow W' base 82 (.slice (some ⟨g, 0, none⟩) m cap) lk ∧ Turns (fun k => k = hb ∨ k = g) w W' := by
  have h1 := h.old
  have h2 := h.old2
  have hf : ∀ k, k ≠ w.heap.size → W'.heap[k]? = W.heap[k]? := fun k hk => by
    subst hW
    exact (Below.heap_setCell _ ⟨w.heap.size, 2, none⟩ _ k hk).trans ((Below.heap_setCell _ ⟨w.heap.size, 1, none⟩ _ k hk).trans (Below.heap_setCell W ⟨w.heap.size, 0, none⟩ _ k hk))
  refine ⟨?_, (hf hb (by omega)).trans h.box, h.row.keep (fun k hk => hf k ?_), ?_⟩
  · subst hW
    exact (setCell_blk (setCell_blk (setCell_blk h.res _) _) _).trans rfl
  · have : k = g := by simpa [Value.ownBlock] using hk.symm
    omega
  · subst hW
    exact ((h.turns.set (p := ⟨w.heap.size, 0, none⟩) (fun h => absurd h (Nat.lt_irrefl _)) _).set (p := ⟨w.heap.size, 1, none⟩) (fun h => absurd h (Nat.lt_irrefl _)) _).set (p := ⟨w.heap.size, 2, none⟩) (fun h => absurd h (Nat.lt_irrefl _)) _
theorem size82 : (Try.prog.info? 82).map (·.size) = some 3 := by kernel_rfl
set_option maxHeartbeats 4000000 in
set_option maxRecDepth 1000000 in
theorem take_calls (l : List Hd) (hp : Heap l) (h1 : 0 < l.length) (hb base : Nat) (v : Value) (w : World) (hh : w.heap[hb]? = some (.cells #[v] 79 (0, 0))) (hr : HRow w base 82 v l) (hbase : base ≤ w.heap.size) (hl : (l.length + 1) * 40 ≤ 140737488355328) :
    Calls Try.prog 46 #[.pointer (some ⟨hb, 0, none⟩)] w fun e w' => ∃ x : Hd, e = .returned (.agg #[.int .u64 x.key, .int .i64 x.frm, .slice x.ad x.len x.cap]) ∧
      ∃ v' l', w'.heap[hb]? = some (.cells #[v'] 79 (0, 0)) ∧ HRow w' base 82 v' l' ∧ Heap l' ∧ l.Perm (x :: l') ∧ (∀ y ∈ l', x.le y) ∧ v'.ownBlock = v.ownBlock ∧ Turns (fun k => k = hb ∨ v.ownBlock = some k) w w' := by
  obtain ⟨g, cap, cur, rfl, hgg, hg1, hlc, hcm, hcs, hct⟩ := hr.form h1
  have hc0 : w.cell? ⟨hb, 0, none⟩ = some (.slice (some ⟨g, 0, none⟩) l.length cap) := by rw [cell_of_row w hb 0 _ _ _ hh]; rfl
  have hf0 : w.frozen? ⟨hb, 0, none⟩ = false := by simp [World.frozen?, hh]
  have hblt : hb < w.heap.size := (Array.getElem?_eq_some_iff.1 hh).1
  have hglt : g < w.heap.size := (Array.getElem?_eq_some_iff.1 hg1).1
  have hg0 : g ≠ hb := fun e => by
    rw [e] at hg1
    rw [hg1] at hh
    injection hh with hh
    injection hh with _ hh _
    cases hh
  obtain ⟨m, hm⟩ : ∃ m, l.length = m + 1 := ⟨l.length - 1, by omega⟩
  obtain ⟨cr0, cr1, cr2⟩ := hr.cell 0 (by omega)
  obtain ⟨cm0, cm1, cm2⟩ := hr.cell m (by omega)
  rw [Nat.zero_mul] at cr0 cr1 cr2
  have z0 := hr.frozen 0
  have z1 := hr.frozen 1
  have z2 := hr.frozen 2
  rw [hm] at hc0
  have hmm : m ≤ 3518437208882 := by omega
  have b5 : m ≤ cap := by omega
  have b1 : (m : Int) < ((m + 1 : Nat) : Int) := by omega
  have b2 : (0 : Int) < ((m + 1 : Nat) : Int) := by omega
  have b3 : m ≤ m + 1 := by omega
  have b4 : ((m + 1 : Nat) : Int) - 1 = (m : Int) := by omega
  have HR := Lib.hid hr
  have HH := Lib.hid hh
  have HM := Lib.hid hm
  have HL := Lib.hid hl
  clear hr hh hg1 hgg hcs hct hm hl hlc hcm h1 hbase
  go_enter Try.func46, Try.ntmps46
  go_wp2_with fail
  go_region
  go_upto_region 4 with (fail)
  go_cut [] (fun wc => Hid (TakeW w base hb g m cap (at_ l 0) ((l.set 0 (at_ l m)).take m) wc))
  case first =>
    go_wp2_with fail
    go_meet
    case rel => exact Lib.hid (take0 HH.out HR.out HM.out hg0 hglt _ _ rfl rfl)
  case rest =>
    have HN : Hid (m ≤ 3518437208882) := Lib.hid (by have := HL.out; have := HM.out; omega)
    have HD0 := Lib.hid (Down.start hp (at_ l m) m HM.out.symm)
    have HL0 : Hid (((l.set 0 (at_ l m)).take m).length = m) := Lib.hid (by rw [List.length_take, List.length_set, HM.out]; omega)
    clear b1 b2 b3 b4 z0 z1 z2 cr0 cr1 cr2 cm0 cm1 cm2 hf0 hc0
    have hmm2 := HN.out
    go_wp2_with fail
    go_loopg [5, 6] m (fun kq v5 v6 w' => ∃ (i : Nat) (lk : List Hd), v5 = .int .i64 i ∧ i ≤ m ∧ m ≤ kq + i ∧ Hid (lk.length = m) ∧ Hid (Down lk i) ∧ Hid (lk.Perm ((l.set 0 (at_ l m)).take m)) ∧ Hid (TakeW w base hb g m cap (at_ l 0) lk w'))
    case atStart => exact ⟨0, _, rfl, by omega, by omega, HL0, HD0, Lib.hid (List.Perm.refl _), hcut⟩
    case round =>
      obtain ⟨i, lk, rfl, him, hik, HLK, HD, HP, HW⟩ := hrel
      obtain ⟨d, hd⟩ : ∃ d, 2 * i + 1 = d := ⟨_, rfl⟩
      obtain ⟨e, he⟩ : ∃ e, d + 1 = e := ⟨_, rfl⟩
      have hmm3 := HN.out
      have hd1 : 2 * (i : Int) + 1 = (d : Int) := by omega
      have he1 : (d : Int) + 1 = (e : Int) := by omega
      have HDD := Lib.hid hd
      have HEE := Lib.hid he
      clear hd he
      have HIK := Lib.hid hik
      have HIM := Lib.hid him
      have hnb0 : (d : Int) ≤ 7036874417767 := by omega
      have hnb1 : (e : Int) ≤ 7036874417768 := by omega
      have hwe : IntKind.i64.wrap (e : Int) = (e : Int) := IntWalk.i64_in _ ⟨by omega, by omega⟩
      clear hik
      go_upto_region 7 with (fail)
      go_cut [64] (fun v64 wb => ∃ b : Bool, v64 = .bool b ∧ Hid (b = true → e < m ∧ (at_ lk e).Lt (at_ lk d)) ∧ Hid (b = false → e < m → (at_ lk d).le (at_ lk e)) ∧ Hid (TakeW w base hb g m cap (at_ l 0) lk wb))
      case first =>
        have hcw : wr.cell? ⟨hb, 0, none⟩ = some (.slice (some ⟨g, 0, none⟩) m cap) := by rw [cell_of_row wr hb 0 _ _ _ HW.out.box]; rfl
        by_cases hem : e < m
        · have hg7 : decide ((e : Int) < (m : Int)) = true := decide_eq_true (by omega)
          have hb1 : (e : Int) < (m : Int) := by omega
          have hb2 : (d : Int) < (m : Int) := by omega
          obtain ⟨ci0, ci1, ci2⟩ := HW.out.row.cell e (by rw [HLK.out]; exact hem)
          obtain ⟨cp0, cp1, cp2⟩ := HW.out.row.cell d (by rw [HLK.out]; omega)
          have HEM := Lib.hid hem
          clear hem
          have hdec : Hid (decide ((at_ lk e).Lt (at_ lk d)) = true → (at_ lk e).Lt (at_ lk d)) := Lib.hid of_decide_eq_true
          have hdec2 : Hid (decide ((at_ lk e).Lt (at_ lk d)) = false → (at_ lk d).le (at_ lk e)) := Lib.hid of_decide_eq_false
          generalize hbb : decide ((at_ lk e).Lt (at_ lk d)) = bb at hdec hdec2
          go_region_held3 (fun w' => w'.cell? ⟨hb, 0, none⟩ = some (.slice (some ⟨g, 0, none⟩) m cap) ∧ w'.cell? ⟨g, e * 3, none⟩ = some (.int .u64 (at_ lk e).key) ∧ w'.cell? ⟨g, e * 3 + 1, none⟩ = some (.int .i64 (at_ lk e).frm) ∧ w'.cell? ⟨g, e * 3 + 2, none⟩ = some (.slice (at_ lk e).ad (at_ lk e).len (at_ lk e).cap) ∧ w'.cell? ⟨g, d * 3, none⟩ = some (.int .u64 (at_ lk d).key) ∧ w'.cell? ⟨g, d * 3 + 1, none⟩ = some (.int .i64 (at_ lk d).frm) ∧ w'.cell? ⟨g, d * 3 + 2, none⟩ = some (.slice (at_ lk d).ad (at_ lk d).len (at_ lk d).cap))
            (first
              | go_keep
              | (go_split_ands
                 refine ⟨?_, ?_, ?_, ?_, ?_, ?_, ?_⟩ <;> (refine (hbl.cell (World.block_lt_of_cell? _ _ (by assumption))).trans ?_; assumption)))
            ((go_at_call 59; refine (less_calls (at_ lk e) (at_ lk d) _).mono ?_; rw [hbb]; rintro e w1 ⟨rfl, hbl⟩))
          go_wp2_with (fail)
          go_meet
          case rel => exact ⟨bb, rfl, Lib.hid (fun h => ⟨HEM.out, hdec.out h⟩), Lib.hid (fun h _ => hdec2.out h), Lib.hid (HW.out.drew.below hbl)⟩
        · have hg7 : decide ((e : Int) < (m : Int)) = false := decide_eq_false (by omega)
          have hg8 : decide (e < m) = false := decide_eq_false hem
          have HEM := Lib.hid hem
          clear hem
          go_quiet (fail)
          go_wp2_with (fail)
          go_meet
          case rel => exact ⟨false, rfl, Lib.hid (fun h => nomatch h), Lib.hid (fun _ h => absurd h HEM.out), Lib.hid (HW.out.drewN _)⟩
      case rest =>
        obtain ⟨b, rfl, HB1, HB2, HW1⟩ := hcut
        clear HW
        go_upto_if 64 with (fail)
        go_cut [6] (fun v6 wd => ∃ c : Nat, v6 = .int .i64 c ∧ Hid (c ≤ e) ∧ Hid (c < m → 0 < c ∧ (c - 1) / 2 = i ∧ ∀ j, 0 < j → j < m → (j - 1) / 2 = i → (at_ lk c).le (at_ lk j)) ∧ Hid (m ≤ c → ∀ j, 0 < j → j < m → (j - 1) / 2 ≠ i) ∧ Hid (TakeW w base hb g m cap (at_ l 0) lk wd))
        case first =>
          cases b
          · go_wp2_with fail
            go_meet
            case rel =>
              have q1 := HDD.out
              have q2 := HEE.out
              have q3 := HB2.out (by simp)
              refine ⟨d, rfl, Lib.hid (by omega), Lib.hid (fun h => ⟨by omega, by omega, fun j j0 jm je => ?_⟩), Lib.hid (fun h j j0 jm je => by omega), HW1⟩
              rcases (show j = d ∨ j = e from by omega) with q | q <;> subst q
              · exact Hd.le_refl _
              · exact q3 jm
          · go_wp2_with fail
            go_meet
            case rel =>
              have q1 := HDD.out
              have q2 := HEE.out
              obtain ⟨q3, q4⟩ := HB1.out (by simp)
              refine ⟨e, rfl, Lib.hid (by omega), Lib.hid (fun h => ⟨by omega, by omega, fun j j0 jm je => ?_⟩), Lib.hid (fun h j j0 jm je => by omega), HW1⟩
              rcases (show j = d ∨ j = e from by omega) with q | q <;> subst q
              · exact Hd.le_of_lt q4
              · exact Hd.le_refl _
        case rest =>
          obtain ⟨c, rfl, HCE, HC1, HC2, HW2⟩ := hcut
          clear HW1 HB1 HB2
          have hmm4 := HN.out
          go_upto_region 9 with (fail)
          go_cut [87] (fun v87 we => ∃ b : Bool, v87 = .bool b ∧ Hid (b = true → Heap lk) ∧ Hid (b = false → c < m ∧ (at_ lk c).Lt (at_ lk i)) ∧ Hid (TakeW w base hb g m cap (at_ l 0) lk we))
          case first =>
            by_cases hcm : c < m
            · obtain ⟨hc0, hcp, hcmin⟩ := HC1.out hcm
              have hcw : wc.cell? ⟨hb, 0, none⟩ = some (.slice (some ⟨g, 0, none⟩) m cap) := by rw [cell_of_row wc hb 0 _ _ _ HW2.out.box]; rfl
              have hg9 : decide ((m : Int) ≤ (c : Int)) = false := decide_eq_false (by omega)
              have hg10 : decide (m ≤ c) = false := decide_eq_false (by omega)
              have hb1 : (c : Int) < (m : Int) := by omega
              have hb2 : (i : Int) < (m : Int) := by omega
              obtain ⟨ci0, ci1, ci2⟩ := HW2.out.row.cell c (by rw [HLK.out]; exact hcm)
              obtain ⟨cp0, cp1, cp2⟩ := HW2.out.row.cell i (by rw [HLK.out]; omega)
              have hdec : Hid (decide ((at_ lk c).Lt (at_ lk i)) = true → c < m ∧ (at_ lk c).Lt (at_ lk i)) := Lib.hid (fun h => ⟨hcm, of_decide_eq_true h⟩)
              have hdec2 : Hid (decide ((at_ lk c).Lt (at_ lk i)) = false → Heap lk) := Lib.hid (fun h => HD.out.stop (fun j j0 jm je => Hd.le_trans (of_decide_eq_false h) (hcmin j j0 (by rw [← HLK.out]; exact jm) je)))
              generalize hbb : decide ((at_ lk c).Lt (at_ lk i)) = bb at hdec hdec2
              clear hcm hc0 hcp hcmin
              go_region_held3 (fun w' => w'.cell? ⟨hb, 0, none⟩ = some (.slice (some ⟨g, 0, none⟩) m cap) ∧ w'.cell? ⟨g, c * 3, none⟩ = some (.int .u64 (at_ lk c).key) ∧ w'.cell? ⟨g, c * 3 + 1, none⟩ = some (.int .i64 (at_ lk c).frm) ∧ w'.cell? ⟨g, c * 3 + 2, none⟩ = some (.slice (at_ lk c).ad (at_ lk c).len (at_ lk c).cap) ∧ w'.cell? ⟨g, i * 3, none⟩ = some (.int .u64 (at_ lk i).key) ∧ w'.cell? ⟨g, i * 3 + 1, none⟩ = some (.int .i64 (at_ lk i).frm) ∧ w'.cell? ⟨g, i * 3 + 2, none⟩ = some (.slice (at_ lk i).ad (at_ lk i).len (at_ lk i).cap))
                (first
                  | go_keep
                  | (go_split_ands
                     refine ⟨?_, ?_, ?_, ?_, ?_, ?_, ?_⟩ <;> (refine (hbl.cell (World.block_lt_of_cell? _ _ (by assumption))).trans ?_; assumption)))
                ((go_at_call 59; refine (less_calls (at_ lk c) (at_ lk i) _).mono ?_; rw [hbb]; rintro e w1 ⟨rfl, hbl⟩))
              go_wp2_with (fail)
              go_meet
              case rel => exact ⟨!bb, rfl, Lib.hid (fun h => hdec2.out (by simpa using h)), Lib.hid (fun h => hdec.out (by simpa using h)), Lib.hid (HW2.out.drew.below hbl)⟩
            · have hg9 : decide ((m : Int) ≤ (c : Int)) = true := decide_eq_true (by omega)
              have hg10 : decide (m ≤ c) = true := decide_eq_true (by omega)
              have HCM : Hid (m ≤ c) := Lib.hid (by omega)
              clear hcm
              go_quiet (fail)
              go_wp2_with (fail)
              go_meet
              case rel => exact ⟨true, rfl, Lib.hid (fun _ => HD.out.stop (fun j j0 jm je => absurd je (HC2.out HCM.out j j0 (by rw [← HLK.out]; exact jm)))), Lib.hid (fun h => nomatch h), Lib.hid (HW2.out.drewN _)⟩
          case rest =>
            obtain ⟨b, rfl, HS1, HS2, HW3⟩ := hcut
            clear HW2
            have hmm5 := HN.out
            cases b with
            | true =>
              have hgot := HW3.out.got
              have hres := HW3.out.res
              have gx0 : wc.cell? ⟨w.heap.size + 1, 0, none⟩ = some (.int .u64 (at_ l 0).key) := by rw [cell_of_row wc _ 0 _ _ _ hgot]; rfl
              have gx1 : wc.cell? ⟨w.heap.size + 1, 1, none⟩ = some (.int .i64 (at_ l 0).frm) := by rw [cell_of_row wc _ 1 _ _ _ hgot]; rfl
              have gx2 : wc.cell? ⟨w.heap.size + 1, 2, none⟩ = some (.slice (at_ l 0).ad (at_ l 0).len (at_ l 0).cap) := by rw [cell_of_row wc _ 2 _ _ _ hgot]; rfl
              have gy0 : wc.cell? ⟨w.heap.size, 0, none⟩ = some (.int .u64 0) := by rw [cell_of_row wc _ 0 _ _ _ hres]; rfl
              have gy1 : wc.cell? ⟨w.heap.size, 1, none⟩ = some (.int .i64 0) := by rw [cell_of_row wc _ 1 _ _ _ hres]; rfl
              have gy2 : wc.cell? ⟨w.heap.size, 2, none⟩ = some (.slice none 0 0) := by rw [cell_of_row wc _ 2 _ _ _ hres]; rfl
              have gf : ∀ k, wc.frozen? ⟨w.heap.size, k, none⟩ = false := fun k => by simp [World.frozen?, hres]
              have gf0 := gf 0
              have gf1 := gf 1
              have gf2 := gf 2
              clear gf hgot hres
              have HQ := Lib.hid (HS1.out rfl)
              clear HS1 HS2
              clear hmm5
              have HFN := Lib.hid (takeEnd HW3.out _ rfl)
              go_wp2_with fail
              obtain ⟨f1, f2, f3, f4⟩ := HFN.out
              refine bodyPost_ret (results_cell_row rfl _ _ w.heap.size 82 _ (0, 0) _ rfl f1 Try.underlying82 rfl size82) rfl ?_
              refine ⟨at_ l 0, rfl, _, lk, f2, f3, HQ.out, ?_, ?_, rfl, f4.mono (fun j hj _ => ?_)⟩
              · exact ((HP.out.cons _).trans (take_perm l m HM.out.symm)).symm
              · intro y hy
                have hy2 := ((HP.out.cons (at_ l 0)).trans (take_perm l m HM.out.symm)).mem_iff.1 (List.mem_cons_of_mem _ hy)
                obtain ⟨q, hq, rfl⟩ := List.getElem_of_mem hy2
                rw [← at_get l q hq]
                exact hp.root q hq
              · rcases hj with hj | hj
                · exact .inl hj
                · exact .inr (by rw [hj]; rfl)
            | false =>
              obtain ⟨hcm, hlt⟩ := HS2.out rfl
              have HLT := Lib.hid hlt
              clear HS1 HS2 hlt
              obtain ⟨hc0, hcp, hcmin⟩ := HC1.out hcm
              have HCP := Lib.hid hcp
              have hcw : wc.cell? ⟨hb, 0, none⟩ = some (.slice (some ⟨g, 0, none⟩) m cap) := by rw [cell_of_row wc hb 0 _ _ _ HW3.out.box]; rfl
              have b1 : (c : Int) < (m : Int) := by omega
              have b2 : (i : Int) < (m : Int) := by omega
              obtain ⟨ci0, ci1, ci2⟩ := HW3.out.row.cell c (by rw [HLK.out]; exact hcm)
              obtain ⟨cp0, cp1, cp2⟩ := HW3.out.row.cell i (by rw [HLK.out]; omega)
              have z0 := HW3.out.row.frozen (c * 3)
              have z1 := HW3.out.row.frozen (c * 3 + 1)
              have z2 := HW3.out.row.frozen (c * 3 + 2)
              have z3 := HW3.out.row.frozen (i * 3)
              have z4 := HW3.out.row.frozen (i * 3 + 1)
              have z5 := HW3.out.row.frozen (i * 3 + 2)
              have n0 : ¬ (i * 3 = c * 3) := by omega
              have n1 : ¬ (i * 3 = c * 3 + 1) := by omega
              have n2 : ¬ (i * 3 = c * 3 + 2) := by omega
              have n3 : ¬ (i * 3 + 1 = c * 3) := by omega
              have n4 : ¬ (i * 3 + 2 = c * 3) := by omega
              have m0 : ¬ (c * 3 = i * 3) := by omega
              have m1 : ¬ (c * 3 = i * 3 + 1) := by omega
              have m2 : ¬ (c * 3 = i * 3 + 2) := by omega
              have m3 : ¬ (c * 3 + 1 = i * 3) := by omega
              have m4 : ¬ (c * 3 + 2 = i * 3) := by omega
              have n5 : ¬ (i = c) := by omega
              have m5 : ¬ (c = i) := by omega
              have hic : i < c := by omega
              have HIC := Lib.hid hic
              have HMIN := Lib.hid hcmin
              clear hcp hcmin hic
              go_upto_region 11 with (fail)
              go_region
              go_wp2_with (fail)
              have hil : i < lk.length := by rw [HLK.out]; omega
              have hcl : c < lk.length := by rw [HLK.out]; exact hcm
              have F1 := Lib.hid (HD.out.step hcl HCP.out hc0 (fun j j0 jm je => HMIN.out j j0 (by rw [← HLK.out]; exact jm) je) HLT.out)
              have F2 : Hid ((swap lk i c).length = m) := Lib.hid (by rw [swap_length]; exact HLK.out)
              have F3 := Lib.hid ((swap_perm lk i c hil hcl).trans HP.out)
              have F4 := Lib.hid (HW3.out.swap i c hil hcl).drew
              have F5 : m ≤ m - c + c := by omega
              have F6 : m - c < gk := by have := HIK.out; have := HIC.out; omega
              have F7 : c ≤ m := by omega
              simp only [storeHd] at F4
              clear n0 n1 n2 n3 n4 n5 m0 m1 m2 m3 m4 m5 z0 z1 z2 z3 z4 z5 ci0 ci1 ci2 cp0 cp1 cp2 hcw
              go_roundg (m - c)
              case measure => exact F6
              case rel => exact ⟨c, swap lk i c, rfl, F7, F5, F2, F1, F3, F4⟩
end Go.Proofs.Ytojbfjfjhfnopaa.HeapE
end

section
/- What lies while merge.Merge's iterator goes, at entries. -/
namespace Go.Proofs.Ytojbfjfjhfnopaa.MergeE
open Go.RowKit Go.Shelf RangeD SeqE MergeL HeapL HeapE
attribute [local go_sem] Oper.semAt_some
set_option linter.unusedVariables false
theorem info32e : (Try.prog.info? 32).map (fun i => (i.zero, i.size, i.bytes)) = some (some (.agg #[.int .u64 0, .int .u64 0, .bool false]), 3, 24) := by kernel_rfl
theorem loop_nums {i i2 n k : Nat} (h : i + 1 = i2) (hl : i < n) (hk : n ≤ k + i) : i2 ≤ n ∧ n ≤ n - i2 + i2 ∧ n - i2 < k := by omega
theorem loop_fits {n i : Nat} (h : (n + 1) * 40 ≤ 140737488355328) (hi : i ≤ n) : -9223372036854775808 ≤ (i : Int) ∧ (i : Int) ≤ 9223372036854775807 := by omega
theorem len_max {n : Nat} (h : (n + 1) * 24 ≤ 140737488355328) : n + 1 ≤ maxLen := by unfold maxLen; omega
theorem len_bound {α : Type} {pre more xs : List α} {x : α} (h : pre ++ [x] ++ more = xs) (h1 : (xs.length + 1) * 24 ≤ 140737488355328) : (pre.length + 1) * 24 ≤ 140737488355328 := by
  have h2 := congrArg List.length h
  simp only [List.length_append, List.length_cons, List.length_nil] at h2
  omega
section
variable {α : Type} (ek ev : α → Int) (eb : α → Bool)
/-- An iterator: its function, what it has captured, the blocks that it reads, its list. -/
structure It (α : Type) where
  gf : Nat
  lb : Array Value
  D : Blocks
  xs : List α
structure ItOk (it : It α) (W : World) : Prop where
  seq : SeqD Try.prog it.gf it.lb (fun x : α => #[agg ek ev eb x]) it.D (fun ys => ys = it.xs) (fun pre => ∃ more, pre ++ more = it.xs) (fun pre x => ∃ more, pre ++ [x] ++ more = it.xs) W
  goes : ∀ args w, (callFunc it.gf args).run Try.prog w = .ok (.enter it.gf args) w
  lt : ∀ k, it.D k → k < W.heap.size
  len : (it.xs.length + 1) * 24 ≤ 140737488355328
/-- What lies for Merge's iterator. -/
structure MLaid (W : World) (bL bK : Nat) (A : Option Addr) (gL cap kf : Nat) (its : List (It α)) : Prop where
  lists : W.heap[bL]? = some (.cells #[.slice A its.length cap] 34 (0, 0))
  at_ : 0 < its.length → A = some ⟨gL, 0, none⟩
  lt : gL < W.heap.size
  fns : ∀ (i : Nat) it, its[i]? = some it → W.cell? ⟨gL, i, none⟩ = some (.func (.func it.gf) #[] it.lb)
  key : W.heap[bK]? = some (.cells #[.func (.func kf) #[] #[]] 39 (0, 0))
  oks : ∀ it ∈ its, ItOk ek ev eb it W
  len : (its.length + 1) * 40 ≤ 140737488355328
def MDeps (bL bK gL : Nat) (its : List (It α)) : Blocks := fun k => k = bL ∨ k = bK ∨ k = gL ∨ ∃ it ∈ its, it.D k
theorem MLaid.keep {W W' : World} {bL bK : Nat} {A : Option Addr} {gL cap kf : Nat} {its : List (It α)} (h : MLaid ek ev eb W bL bK A gL cap kf its) (hs : W.heap.size ≤ W'.heap.size) (hk : Same (MDeps bL bK gL its) W W') : MLaid ek ev eb W' bL bK A gL cap kf its :=
  ⟨(hk bL (.inl rfl) (Array.getElem?_eq_some_iff.1 h.lists).1).trans h.lists, h.at_, Nat.lt_of_lt_of_le h.lt hs,
    fun i it hi => by
      have hc : W'.cell? ⟨gL, i, none⟩ = W.cell? ⟨gL, i, none⟩ := by unfold World.cell?; simp only [hk gL (.inr (.inr (.inl rfl))) h.lt]
      rw [hc]
      exact h.fns i it hi,
    (hk bK (.inr (.inl rfl)) (Array.getElem?_eq_some_iff.1 h.key).1).trans h.key,
    fun it hi => ⟨(h.oks it hi).seq.same hs (fun k hk2 hl => hk k (.inr (.inr (.inr ⟨it, hi, hk2⟩))) hl), (h.oks it hi).goes, fun k hk2 => Nat.lt_of_lt_of_le ((h.oks it hi).lt k hk2) hs, (h.oks it hi).len⟩, h.len⟩
theorem MLaid.deps {W : World} {bL bK : Nat} {A : Option Addr} {gL cap kf : Nat} {its : List (It α)} (h : MLaid ek ev eb W bL bK A gL cap kf its) (k : Nat) (hk : MDeps bL bK gL its k) : k < W.heap.size := by
  rcases hk with e | e | e | ⟨it, hi, hk⟩
  · subst e; exact (Array.getElem?_eq_some_iff.1 h.lists).1
  · subst e; exact (Array.getElem?_eq_some_iff.1 h.key).1
  · subst e; exact h.lt
  · exact (h.oks it hi).lt k hk
/-- What a head's rest is. -/
def RestAt (W : World) (base : Nat) (T : Blocks) (x : Hd) (zs : List α) : Prop :=
  ∃ g o cs, x.ad = some ⟨g, o, none⟩ ∧ x.len = zs.length ∧ x.len ≤ x.cap ∧ x.cap ≤ maxLen ∧ base ≤ g ∧ T g ∧ W.heap[g]? = some (.cells cs 32 (0, 0)) ∧ CellsAt ek ev eb W g o zs
theorem RestAt.keep {W W' : World} {base : Nat} {T T' : Blocks} {x : Hd} {zs : List α} (h : RestAt ek ev eb W base T x zs) (hT : ∀ k, T k → T' k) (hk : ∀ g cs, T g → W.heap[g]? = some (.cells cs 32 (0, 0)) → W'.heap[g]? = W.heap[g]?) : RestAt ek ev eb W' base T' x zs := by
  obtain ⟨g, o, cs, h1, h2, h3, h4, h5, h6, h7, h8⟩ := h
  have := hk g cs h6 h7
  exact ⟨g, o, cs, h1, h2, h3, h4, h5, hT _ h6, this.trans h7, h8.keep _ _ _ this⟩
/-- The marks that the ranges have left. -/
def Marks (ds : List Deferred) (T : Blocks) (W : World) : Prop := ∃ cs : List Nat, cs.Nodup ∧ ds = cs.map (fun C => ({ target := .collected C, args := #[] } : Deferred)) ∧ ∀ C ∈ cs, T C ∧ W.heap[C]? = some (.deferred (some []))
theorem Marks.nil (T : Blocks) (W : World) : Marks [] T W := ⟨[], List.nodup_nil, rfl, fun C h => by cases h⟩
theorem Marks.keep {ds : List Deferred} {T T' : Blocks} {W W' : World} (h : Marks ds T W) (hT : ∀ k, T k → T' k) (hk : ∀ k, T k → W.heap[k]? = some (.deferred (some [])) → W'.heap[k]? = W.heap[k]?) : Marks ds T' W' := by
  obtain ⟨cs, h1, h2, h3⟩ := h
  exact ⟨cs, h1, h2, fun C hC => ⟨hT C (h3 C hC).1, (hk C (h3 C hC).1 (h3 C hC).2).trans (h3 C hC).2⟩⟩
theorem Marks.more {ds : List Deferred} {T : Blocks} {W : World} (h : Marks ds T W) (C : Nat) (hT : T C) (hC : W.heap[C]? = some (.deferred (some []))) (hn : ∀ k, T k → W.heap[k]? = some (.deferred (some [])) → ({ target := .collected k, args := #[] } : Deferred) ∈ ds → k ≠ C) : Marks ({ target := .collected C, args := #[] } :: ds) T W := by
  obtain ⟨cs, h1, h2, h3⟩ := h
  refine ⟨C :: cs, List.nodup_cons.2 ⟨fun hm => ?_, h1⟩, by rw [h2]; rfl, fun k hk => ?_⟩
  · exact hn C (h3 C hm).1 (h3 C hm).2 (by rw [h2]; exact List.mem_map.2 ⟨C, hm, rfl⟩) rfl
  · rcases List.mem_cons.1 hk with rfl | hk
    · exact ⟨hT, hC⟩
    · exact h3 k hk
theorem Marks.mem {ds : List Deferred} {T : Blocks} {W : World} (h : Marks ds T W) {k : Nat} (hm : ({ target := .collected k, args := #[] } : Deferred) ∈ ds) : T k := by
  obtain ⟨cs, h1, h2, h3⟩ := h
  rw [h2] at hm
  obtain ⟨C, hC, e⟩ := List.mem_map.1 hm
  injection e with e
  injection e with e
  subst e
  exact (h3 C hC).1
/-- The activation is left: the marks are taken. -/
theorem Marks.leave {fn : Func} (hfn : fn.results = #[]) {tmps : Array Value} {R : Ending → World → Prop} {ds : List Deferred} {T : Blocks} {W : World} (h : Marks ds T W) (hR : ∀ W', Turned T T W W' → R (.returned (.tuple #[])) W') : LeavesInM Fence.wide 0 Try.prog fn tmps R ds .returning W := by
  obtain ⟨cs, h1, h2, h3⟩ := h
  subst h2
  induction cs generalizing W with
  | nil => exact ⟨_, results_none hfn _ _ _, hR W (Turned.refl T W)⟩
  | cons C cs ih =>
    obtain ⟨hTC, hC⟩ := h3 C List.mem_cons_self
    have ht : Turned T T W (W.putObj C (.deferred none)) := ⟨rfl, rfl, rfl, by simp [World.putObj], fun _ h => h, fun _ h => .inl h, fun k _ hn => World.putObj_heap_other (fun e => hn (by subst e; exact hTC))⟩
    refine ⟨by simp, .inl ⟨C, _, rfl, run_takeDeferred hC, ih (fun W' hW' => hR W' (ht.trans hW')) (List.nodup_cons.1 h1).2 (fun k hk => ?_)⟩⟩
    obtain ⟨q1, q2⟩ := h3 k (List.mem_cons_of_mem _ hk)
    exact ⟨q1, (World.putObj_heap_other (fun e => (List.nodup_cons.1 h1).1 (by subst e; exact hk))).trans q2⟩
/-- The heap while Merge's iterator goes: W is the world at its call; T are its own blocks. -/
structure MState (W : World) (T : Blocks) (X : World) (v : Value) (l : List Hd) (rem : List (List α)) : Prop where
  size : W.heap.size ≤ X.heap.size
  lo : ∀ k, T k → W.heap.size ≤ k ∧ k < X.heap.size
  th : T W.heap.size
  box : X.heap[W.heap.size]? = some (.cells #[v] 79 (0, 0))
  row : HRow X W.heap.size 82 v l
  tv : ∀ k, v.ownBlock = some k → T k
  heap : Heap l
  heads : Heads ek (RestAt ek ev eb X W.heap.size T) l rem
  short : l.length ≤ rem.length
theorem MState.keep {W X X' : World} {T T' : Blocks} {v : Value} {l : List Hd} {rem : List (List α)} (h : MState ek ev eb W T X v l rem) (hs : X.heap.size ≤ X'.heap.size) (hT : ∀ k, T k → T' k) (hlo : ∀ k, T' k → W.heap.size ≤ k ∧ k < X'.heap.size) (hk : Same T X X') : MState ek ev eb W T' X' v l rem :=
  ⟨Nat.le_trans h.size hs, hlo, hT _ h.th, (hk _ h.th (h.lo _ h.th).2).trans h.box, h.row.keep (fun k hk2 => hk k (h.tv k hk2) (h.lo _ (h.tv k hk2)).2), fun k hk2 => hT _ (h.tv k hk2), h.heap,
    h.heads.mono (fun x xs _ hr => hr.keep _ _ _ hT (fun g cs hg _ => hk g hg (h.lo g hg).2)), h.short⟩
theorem after_gather {X1 wr Y : World} {T T' : Blocks} {xs : List α} (hX1 : wr.alloc (.cells #[.slice none 0 0] 25) = X1) (hG : GI ek ev eb X1 wr.heap.size xs T' Y) : wr.heap.size ≤ Y.heap.size ∧ (∀ k, k < wr.heap.size → Y.heap[k]? = wr.heap[k]?) ∧ Turned T (withNew T wr Y) wr Y := by
  subst hX1
  have hs := hG.size
  rw [World.size_alloc] at hs
  have h1 : ∀ k, k < wr.heap.size → Y.heap[k]? = wr.heap[k]? := fun k hk => (hG.same k (by rw [World.size_alloc]; omega) (by omega)).trans (Below.heap_alloc wr _ k hk)
  exact ⟨by omega, h1, Turned.grow hG.os hG.tape hG.output (by omega) (fun k hk _ => h1 k hk)⟩
theorem MState.old {W wr Y : World} {T : Blocks} {v : Value} {l : List Hd} {rem : List (List α)} (h : MState ek ev eb W T wr v l rem) (hs : wr.heap.size ≤ Y.heap.size) (ho : ∀ k, k < wr.heap.size → Y.heap[k]? = wr.heap[k]?) : MState ek ev eb W (withNew T wr Y) Y v l rem :=
  h.keep _ _ _ hs (fun _ h => .inl h) (fun k hk => by
    have := h.size
    rcases hk with hk | hk
    · have := h.lo k hk; omega
    · omega) (fun k _ hk => ho k hk)
/-- A head is put in. -/
theorem MState.put {W Y Z : World} {T : Blocks} {v v' : Value} {l l' : List Hd} {rem rem' : List (List α)} {x : Hd} (h : MState ek ev eb W T Y v l rem) (ht : Turns (fun k => k = W.heap.size ∨ v.ownBlock = some k) Y Z)
    (h1 : Z.heap[W.heap.size]? = some (.cells #[v'] 79 (0, 0))) (h2 : HRow Z W.heap.size 82 v' l') (h3 : Heap l') (h4 : l'.Perm (x :: l)) (h5 : v'.ownBlock = v.ownBlock ∨ ∃ b, v'.ownBlock = some b ∧ Y.heap.size ≤ b)
    (hh : Heads ek (RestAt ek ev eb Y W.heap.size T) (x :: l) rem') (hr : l.length + 1 ≤ rem'.length) : MState ek ev eb W (withNew T Y Z) Z v' l' rem' ∧ Turned T (withNew T Y Z) Y Z := by
  have hs := ht.size
  have hsz := h.size
  refine ⟨⟨by omega, fun k hk => ?_, .inl h.th, h1, h2, fun k hk => ?_, h3, ?_, ?_⟩, Turned.grow ht.os ht.tape ht.output hs (fun k hk hn => ht.same k hk (fun e => hn ?_))⟩
  · rcases hk with hk | hk
    · have := h.lo k hk; omega
    · omega
  · rcases h5 with h5 | ⟨b, h5, h6⟩
    · exact .inl (h.tv k (by rw [← h5]; exact hk))
    · rw [h5] at hk
      injection hk with hk
      subst hk
      exact .inr ⟨h6, (h2.blocks _ h5).2⟩
  · refine (hh.perm h4).mono (fun y ys hy hR => hR.keep _ _ _ (fun k hk => .inl hk) (fun g cs hg hc => ht.same g (h.lo g hg).2 (fun e => ?_)))
    rcases e with e | e
    · have := h.box
      rw [← e, hc] at this
      injection this with this
      injection this with _ this _
      cases this
    · obtain ⟨cur, hcur⟩ := h.row.typed g e
      rw [hc] at hcur
      injection hcur with hcur
      injection hcur with _ hcur _
      cases hcur
  · rw [h4.length_eq]
    exact hr
  · rcases e with e | e
    · subst e; exact h.th
    · exact h.tv k e
theorem MState.apart {W Y : World} {T : Blocks} {v : Value} {l : List Hd} {rem : List (List α)} (h : MState ek ev eb W T Y v l rem) {b : Nat} {o : Obj} (hb : Y.heap[b]? = some o) (h1 : ∀ cs, o ≠ .cells cs 79 (0, 0)) (h2 : ∀ cs, o ≠ .cells cs 82 (0, 0)) : ¬ (b = W.heap.size ∨ v.ownBlock = some b) := by
  rintro (e | e)
  · subst e
    rw [h.box] at hb
    injection hb with hb
    exact h1 _ hb.symm
  · obtain ⟨cur, hc⟩ := h.row.typed b e
    rw [hc] at hb
    injection hb with hb
    exact h2 _ hb.symm
/-- The key has been asked, and the head is put in. -/
theorem MState.more {W Y w1 w2 : World} {T : Blocks} {v v' : Value} {l l' : List Hd} {rem rem' : List (List α)} {x : Hd} (h : MState ek ev eb W T Y v l rem) (hbl : Below Y.heap.size Y w1) (ht : Turns (fun k => k = W.heap.size ∨ v.ownBlock = some k) w1 w2)
    (h1 : w2.heap[W.heap.size]? = some (.cells #[v'] 79 (0, 0))) (h2 : HRow w2 W.heap.size 82 v' l') (h3 : Heap l') (h4 : l'.Perm (x :: l)) (h5 : v'.ownBlock = v.ownBlock ∨ ∃ b, v'.ownBlock = some b ∧ w1.heap.size ≤ b)
    (hh : Heads ek (RestAt ek ev eb Y W.heap.size T) (x :: l) rem') (hr : l.length + 1 ≤ rem'.length) :
    ∃ T3 : Blocks, MState ek ev eb W T3 w2 v' l' rem' ∧ Turned T T3 Y w2 ∧ (∀ k, T k → T3 k) ∧ (∀ ds, Marks ds T Y → Marks ds T3 w2) ∧ (∀ D : Blocks, (∀ k, D k → k < W.heap.size) → Same D Y w2) := by
  have hw := h.old _ _ _ hbl.size (fun k hk => hbl.block k hk)
  have hh1 := hh.mono (R' := RestAt ek ev eb w1 W.heap.size (withNew T Y w1)) (fun y ys _ hR => hR.keep _ _ _ (fun _ h => .inl h) (fun g cs hg _ => hbl.block g (h.lo g hg).2))
  obtain ⟨q1, q2⟩ := hw.put _ _ _ ht h1 h2 h3 h4 h5 hh1 hr
  have q3 : Turned T (withNew T Y w1) Y w1 := Turned.grow hbl.os hbl.tape hbl.output hbl.size (fun k hk _ => hbl.block k hk)
  refine ⟨_, q1, q3.trans q2, fun k hk => .inl (.inl hk), fun ds hm => hm.keep (fun k hk => .inl (.inl hk)) (fun k hk hd => ?_), fun D hD k hk hl => ?_⟩
  · have hk1 := (h.lo k hk).2
    have hk2 := hbl.block k hk1
    exact (ht.same k (Nat.lt_of_lt_of_le hk1 hbl.size) (hw.apart _ _ _ (hk2.trans hd) (fun _ e => (by cases e)) (fun _ e => (by cases e)))).trans hk2
  · refine (ht.same k (Nat.lt_of_lt_of_le hl hbl.size) (fun e => ?_)).trans (hbl.block k hl)
    have := hD k hk
    rcases e with e | e
    · omega
    · have := (h.row.blocks k e).1; omega
theorem heap_fits2 {l n : Nat} (h : (n + 1) * 40 ≤ 140737488355328) (hl : l ≤ n) : (l + 1) * 40 ≤ 140737488355328 := by omega
theorem heap_fits {l i n : Nat} (h : (n + 1) * 40 ≤ 140737488355328) (hi : i < n) (hl : l ≤ i) : (l + 1) * 40 ≤ 140737488355328 := by omega
theorem heads_more {R : Hd → List α → Prop} {l : List Hd} {rem : List (List α)} {key : α → Int} (h : Heads key R l rem) {zs : List α} {y : α} {ys : List α} (hz : zs = y :: ys) (x : Hd) (h1 : x.frm = (rem.length : Int)) (h2 : x.key = key y) (h3 : R x zs) : Heads key R (x :: l) (rem ++ [zs]) := by
  subst hz
  exact h.more y ys x h1 h2 h3
/-- A list that has been gathered gives a head. -/
theorem RestAt.fresh {W wr X1 Y : World} {T T' : Blocks} {xs : List α} {A7 : Option Addr} {c7 : Nat} (hW : W.heap.size ≤ wr.heap.size) (hX1 : wr.alloc (.cells #[.slice none 0 0] 25) = X1) (hG : GI ek ev eb X1 wr.heap.size xs T' Y) (hv : Y.heap[wr.heap.size]? = some (.cells #[.slice A7 xs.length c7] 25 (0, 0))) (hp : 0 < xs.length) (i : Int) :
    ∃ g, A7 = some ⟨g, 0, none⟩ ∧ ∀ k, RestAt ek ev eb Y W.heap.size (withNew T wr Y) ⟨k, i, A7, xs.length, c7⟩ xs := by
  obtain ⟨v, q1, q2, q3⟩ := hG.row
  rw [hv] at q1
  injection q1 with q1
  injection q1 with q1
  have : Value.slice A7 xs.length c7 = v := by simpa using q1
  subst this
  rcases q2.2 with ⟨e, hn⟩ | ⟨g, cap, cur, e, hb, hgg, hn, hm, _, _⟩
  · omega
  · injection e with e1 e2 e3
    subst e1 e3
    refine ⟨g, rfl, fun k => ⟨g, 0, cur, rfl, rfl, hn, hm, ?_, .inr ⟨?_, (Array.getElem?_eq_some_iff.1 hgg).1⟩, hgg, cellsAt_of_own ek ev eb q2⟩⟩
    · rw [← hX1, World.size_alloc] at hb; omega
    · rw [← hX1, World.size_alloc] at hb; omega
end
end Go.Proofs.Ytojbfjfjhfnopaa.MergeE
end

section
/- The heap while heads are taken and put back. -/
namespace Go.Proofs.Ytojbfjfjhfnopaa.MergeE
open Go.RowKit Go.Shelf RangeD SeqE MergeL HeapL
set_option linter.unusedVariables false
/-- The heap's own blocks: W is the world at the call, T what is the iterator's own. -/
structure HState (W : World) (T : Blocks) (X : World) (v : Value) (l : List Hd) : Prop where
  size : W.heap.size ≤ X.heap.size
  lo : ∀ k, T k → W.heap.size ≤ k ∧ k < X.heap.size
  th : T W.heap.size
  box : X.heap[W.heap.size]? = some (.cells #[v] 79 (0, 0))
  row : HRow X W.heap.size 82 v l
  tv : ∀ k, v.ownBlock = some k → T k
  heap : Heap l
/-- One head, in a row of its own. -/
theorem one_row (w : World) (base : Nat) (hb : base ≤ w.heap.size) (x : Hd) : HRow (w.alloc (.cells #[.int .u64 x.key, .int .i64 x.frm, .slice x.ad x.len x.cap] 82)) base 82 (.slice (some ⟨w.heap.size, 0, none⟩) 1 1) [x] := by
  refine ⟨⟨rfl, .inr ⟨w.heap.size, 1, _, rfl, hb, World.alloc_heap_new w _, Nat.le_refl _, by unfold maxLen; omega, rfl, rfl⟩⟩, fun y hy => ?_⟩
  rw [List.mem_singleton] at hy
  subst hy
  rfl
section
variable {W X Y Z : World} {T T' : Blocks} {v v' : Value} {l l' : List Hd}
theorem HState.keep (h : HState W T X v l) (hs : X.heap.size ≤ Y.heap.size) (hT : ∀ k, T k → T' k) (hlo : ∀ k, T' k → W.heap.size ≤ k ∧ k < Y.heap.size) (hk : Same T X Y) : HState W T' Y v l :=
  ⟨Nat.le_trans h.size hs, hlo, hT _ h.th, (hk _ h.th (h.lo _ h.th).2).trans h.box, h.row.keep (fun k hk2 => hk k (h.tv k hk2) (h.lo _ (h.tv k hk2)).2), fun k hk2 => hT _ (h.tv k hk2), h.heap⟩
theorem HState.same (h : HState W T X v l) (hs : X.heap.size ≤ Y.heap.size) (hk : Same T X Y) : HState W T Y v l :=
  h.keep hs (fun _ h => h) (fun k hk => ⟨(h.lo k hk).1, Nat.lt_of_lt_of_le (h.lo k hk).2 hs⟩) hk
theorem HState.old (h : HState W T X v l) (hs : X.heap.size ≤ Y.heap.size) (ho : ∀ k, k < X.heap.size → Y.heap[k]? = X.heap[k]?) : HState W (withNew T X Y) Y v l :=
  h.keep hs (fun _ h => .inl h) (fun k hk => by
    have := h.size
    rcases hk with hk | hk
    · have := h.lo k hk; omega
    · omega) (fun k _ hk => ho k hk)
theorem HState.apart (h : HState W T Y v l) {b : Nat} {o : Obj} (hb : Y.heap[b]? = some o) (h1 : ∀ cs, o ≠ .cells cs 79 (0, 0)) (h2 : ∀ cs, o ≠ .cells cs 82 (0, 0)) : ¬ (b = W.heap.size ∨ v.ownBlock = some b) := by
  rintro (e | e)
  · subst e
    rw [h.box] at hb
    injection hb with hb
    exact h1 _ hb.symm
  · obtain ⟨cur, hc⟩ := h.row.typed b e
    rw [hc] at hb
    injection hb with hb
    exact h2 _ hb.symm
/-- put, or take, has been called. -/
theorem HState.turn (h : HState W T Y v l) (ht : Turns (fun k => k = W.heap.size ∨ v.ownBlock = some k) Y Z) (h1 : Z.heap[W.heap.size]? = some (.cells #[v'] 79 (0, 0))) (h2 : HRow Z W.heap.size 82 v' l') (h3 : Heap l')
    (h5 : v'.ownBlock = v.ownBlock ∨ ∃ b, v'.ownBlock = some b ∧ Y.heap.size ≤ b) : HState W (withNew T Y Z) Z v' l' ∧ Turned T (withNew T Y Z) Y Z := by
  have hs := ht.size
  have hsz := h.size
  refine ⟨⟨by omega, fun k hk => ?_, .inl h.th, h1, h2, fun k hk => ?_, h3⟩, Turned.grow ht.os ht.tape ht.output hs (fun k hk hn => ht.same k hk (fun e => hn ?_))⟩
  · rcases hk with hk | hk
    · have := h.lo k hk; omega
    · omega
  · rcases h5 with h5 | ⟨b, h5, h6⟩
    · exact .inl (h.tv k (by rw [← h5]; exact hk))
    · rw [h5] at hk
      injection hk with hk
      subst hk
      exact .inr ⟨h6, (h2.blocks _ h5).2⟩
  · rcases e with e | e
    · subst e; exact h.th
    · exact h.tv k e
/-- What lies elsewhere, of another type, is left. -/
theorem HState.turn_same (h : HState W T Y v l) (ht : Turns (fun k => k = W.heap.size ∨ v.ownBlock = some k) Y Z) {b : Nat} {o : Obj} (hb : Y.heap[b]? = some o) (h1 : ∀ cs, o ≠ .cells cs 79 (0, 0)) (h2 : ∀ cs, o ≠ .cells cs 82 (0, 0)) : Z.heap[b]? = Y.heap[b]? :=
  ht.same b (Array.getElem?_eq_some_iff.1 hb).1 (h.apart hb h1 h2)
theorem HState.turn_low (h : HState W T Y v l) (ht : Turns (fun k => k = W.heap.size ∨ v.ownBlock = some k) Y Z) {D : Blocks} (hD : ∀ k, D k → k < W.heap.size) : Same D Y Z := fun k hk hl => ht.same k hl (fun e => by
  have := hD k hk
  rcases e with e | e
  · omega
  · have := (h.row.blocks k e).1; omega)
theorem Marks.turned {ds : List Deferred} (hm : Marks ds T Y) (hT : ∀ k, T k → T' k) (h : ∀ k, T k → Y.heap[k]? = some (.deferred (some [])) → Z.heap[k]? = Y.heap[k]?) : Marks ds T' Z := hm.keep hT h
section
variable {α : Type} {ek ev : α → Int} {eb : α → Bool} {rem : List (List α)}
theorem MState.state (h : MState ek ev eb W T X v l rem) : HState W T X v l := ⟨h.size, h.lo, h.th, h.box, h.row, h.tv, h.heap⟩
theorem HState.full (h : HState W T X v l) (hh : Heads ek (RestAt ek ev eb X W.heap.size T) l rem) (hr : l.length ≤ rem.length) : MState ek ev eb W T X v l rem := ⟨h.size, h.lo, h.th, h.box, h.row, h.tv, h.heap, hh, hr⟩
/-- The heads' rests lie on through put and take. -/
theorem HState.rests (h : HState W T Y v l) (ht : Turns (fun k => k = W.heap.size ∨ v.ownBlock = some k) Y Z) {x : Hd} {zs : List α} (hR : RestAt ek ev eb Y W.heap.size T x zs) : RestAt ek ev eb Z W.heap.size (withNew T Y Z) x zs :=
  hR.keep _ _ _ (fun _ h => .inl h) (fun g cs _ hc => h.turn_same ht hc (fun _ e => (by cases e)) (fun _ e => (by cases e)))
theorem HState.marks {ds : List Deferred} (h : HState W T Y v l) (ht : Turns (fun k => k = W.heap.size ∨ v.ownBlock = some k) Y Z) (hm : Marks ds T Y) : Marks ds (withNew T Y Z) Z :=
  hm.keep (fun _ h => .inl h) (fun k _ hd => h.turn_same ht hd (fun _ e => (by cases e)) (fun _ e => (by cases e)))
/-- A head has been taken, and laid in a cell of its own. -/
theorem MState.taken {w1 : World} {x : Hd} (h : MState ek ev eb W T Y v l rem) (ht : Turns (fun k => k = W.heap.size ∨ v.ownBlock = some k) Y w1) (h1 : w1.heap[W.heap.size]? = some (.cells #[v'] 79 (0, 0))) (h2 : HRow w1 W.heap.size 82 v' l') (h3 : Heap l') (h5 : v'.ownBlock = v.ownBlock) (h4 : l.Perm (x :: l')) (o : Obj) :
    ∃ T3 : Blocks, HState W T3 (w1.alloc o) v' l' ∧ Heads ek (RestAt ek ev eb (w1.alloc o) W.heap.size T3) (l' ++ [x]) rem ∧ Turned T T3 Y (w1.alloc o) ∧ (∀ ds, Marks ds T Y → Marks ds T3 (w1.alloc o)) ∧ (∀ D : Blocks, (∀ k, D k → k < W.heap.size) → Same D Y (w1.alloc o)) ∧ T3 w1.heap.size ∧ (w1.alloc o).heap[w1.heap.size]? = some o := by
  obtain ⟨q1, q2⟩ := h.state.turn ht h1 h2 h3 (.inl h5)
  have ho : ∀ k, k < w1.heap.size → (w1.alloc o).heap[k]? = w1.heap[k]? := fun k hk => Below.heap_alloc w1 o k hk
  have hs : w1.heap.size ≤ (w1.alloc o).heap.size := by simp
  have q3 := q1.old hs ho
  have q4 : Turned (withNew T Y w1) (withNew (withNew T Y w1) w1 (w1.alloc o)) w1 (w1.alloc o) := Turned.grow rfl rfl rfl hs (fun k hk _ => ho k hk)
  refine ⟨_, q3, ?_, q2.trans q4, fun ds hm => (h.state.marks ht hm).keep (fun _ h => .inl h) (fun k hk _ => ho k (q1.lo k hk).2), fun D hD => (h.state.turn_low ht hD).trans ht.size (fun k hk hl => ho k hl), .inr ⟨Nat.le_refl _, by simp⟩, World.alloc_heap_new w1 o⟩
  refine (h.heads.perm (((List.perm_append_comm (l₁ := l') (l₂ := [x])).trans h4.symm))).mono (fun y ys _ hR => (h.state.rests ht hR).keep _ _ _ (fun _ h => .inl h) (fun g cs hg _ => ho g (q1.lo g hg).2))
theorem HState.rested {hs : List Hd} (h : HState W T X v l) (hh : Heads ek (RestAt ek ev eb X W.heap.size T) hs rem) (hk : Same T X Y) : Heads ek (RestAt ek ev eb Y W.heap.size T) hs rem :=
  hh.mono (fun y ys _ hR => hR.keep _ _ _ (fun _ h => h) (fun g cs hg _ => hk g hg (h.lo g hg).2))
end
end
end Go.Proofs.Ytojbfjfjhfnopaa.MergeE
end

section
/- The rounds of the two inner loops of the iterator: a head is passed; a head goes on. -/
namespace Go.Proofs.Ytojbfjfjhfnopaa.MergeE
open Go.RowKit Go.Shelf RangeD SeqE MergeL HeapL
set_option linter.unusedVariables false
theorem fits_l {lr pas : List Hd} {m n : Nat} (h : (lr ++ pas).length ≤ m) (hm : m = n) (hn : (n + 1) * 40 ≤ 140737488355328) : (lr.length + 1) * 40 ≤ 140737488355328 := by
  rw [List.length_append] at h
  omega
theorem fits_r {lr pas : List Hd} {m n : Nat} (h : (lr ++ pas).length ≤ m) (hm : m = n) (hn : (n + 1) * 40 ≤ 140737488355328) : (pas.length + 1) * 40 ≤ 140737488355328 := by
  rw [List.length_append] at h
  omega
theorem max40 {n : Nat} (h : (n + 1) * 40 ≤ 140737488355328) : n + 1 ≤ maxLen := by unfold maxLen; omega
theorem sep_types {w : World} {base hb gp np cp : Nat} {pas : List Hd} {v : Value} (h : HRow w base 82 (.slice (some ⟨gp, 0, none⟩) np cp) pas) (hb2 : w.heap[hb]? = some (.cells #[v] 79 (0, 0))) : gp ≠ hb := fun e => by
  obtain ⟨cur, hgt⟩ := h.typed gp (by simp [Value.ownBlock])
  rw [e, hb2] at hgt
  injection hgt with hgt
  injection hgt with _ hgt _
  cases hgt
theorem taken_key {lr l' : List Hd} {x : Hd} (h : Heap lr) (hl : 0 < lr.length) (hp : lr.Perm (x :: l')) (hm : ∀ z ∈ l', x.le z) : x.key = (at_ lr 0).key := by
  have h1 : at_ lr 0 ∈ lr := by rw [at_get lr 0 hl]; exact List.getElem_mem hl
  have h2 : x.le (at_ lr 0) := by
    rcases List.mem_cons.1 (hp.mem_iff.1 h1) with e | e
    · rw [e]; exact Hd.le_refl _
    · exact hm _ e
  obtain ⟨j, hj, e⟩ := List.getElem_of_mem (hp.mem_iff.2 (List.mem_cons_self (a := x)))
  have h3 := h.root j hj
  rw [at_get lr j hj, e] at h3
  unfold Hd.le Hd.Lt at h2 h3
  omega
theorem len_pass {lr l' pas : List Hd} {x : Hd} {n : Nat} (hp : lr.Perm (x :: l')) (h : (lr ++ pas).length ≤ n) : (l' ++ (pas ++ [x])).length ≤ n := by
  have h1 := hp.length_eq
  simp only [List.length_append, List.length_cons, List.length_nil] at h h1 ⊢
  omega
theorem len_less {lr l' : List Hd} {x : Hd} {n : Nat} (hp : lr.Perm (x :: l')) (h : lr.length ≤ n) : l'.length < n := by
  have h1 := hp.length_eq
  simp only [List.length_cons] at h1
  omega
theorem len_start {lr pas : List Hd} {n : Nat} (h : (lr ++ pas).length ≤ n) : lr.length + (pas.length - 0) ≤ n := by
  rw [List.length_append] at h
  omega
theorem drop_at {l : List Hd} {j : Nat} (h : j < l.length) : l.drop j = at_ l j :: l.drop (j + 1) := by rw [at_get l j h]; exact List.drop_eq_getElem_cons h
section
variable {W X Y Z : World} {T T' : Blocks} {v v' : Value} {l l' : List Hd}
theorem HState.pass (h : HState W T Y v l) {gp : Nat} (hs : Y.heap.size ≤ Z.heap.size) (hk : ∀ k, k < Y.heap.size → k ≠ gp → Z.heap[k]? = Y.heap[k]?) (hg : gp ≠ W.heap.size) (hv : v.ownBlock ≠ some gp) : HState W (withNew T Y Z) Z v l :=
  ⟨Nat.le_trans h.size hs, fun k hk2 => by
    have := h.size
    rcases hk2 with hk2 | hk2
    · have := h.lo k hk2; omega
    · omega, .inl h.th, (hk _ (h.lo _ h.th).2 (Ne.symm hg)).trans h.box, h.row.keep (fun k hk2 => hk k (h.row.blocks k hk2).2 (fun e => hv (e ▸ hk2))), fun k h2 => .inl (h.tv k h2), h.heap⟩
section
variable {α : Type} {ek ev : α → Int} {eb : α → Bool} {rem : List (List α)}
theorem pass_round {w1 w2 : World} {lr pas : List Hd} {gp np cp : Nat} {x : Hd} {o : Obj} {vp' : Value} (K2 : HState W T X v lr) (K4 : HRow X W.heap.size 82 (.slice (some ⟨gp, 0, none⟩) np cp) pas) (KT : T gp) (hne : v.ownBlock ≠ some gp)
    (K6 : Heads ek (RestAt ek ev eb X W.heap.size T) (lr ++ pas) rem)
    (p1 : w1.heap[W.heap.size]? = some (.cells #[v'] 79 (0, 0))) (p2 : HRow w1 W.heap.size 82 v' l') (p3 : Heap l') (p4 : lr.Perm (x :: l')) (p6 : v'.ownBlock = v.ownBlock) (p7 : Turns (fun k => k = W.heap.size ∨ v.ownBlock = some k) X w1)
    (q1 : w2.ownsRow W.heap.size 82 3 vp' (pas.length + 1) (rowCells pas ++ [.int .u64 x.key, .int .i64 x.frm, .slice x.ad x.len x.cap])) (q2 : (w1.alloc o).grownBy w2 (some gp)) (q3 : vp'.ownBlock = some gp ∨ vp'.ownBlock = some (w1.alloc o).heap.size) :
    ∃ T' gp' cp', vp' = .slice (some ⟨gp', 0, none⟩) (pas.length + 1) cp' ∧ HState W T' w2 v' l' ∧ HRow w2 W.heap.size 82 vp' (pas ++ [x]) ∧ T' gp' ∧ gp ≤ gp' ∧ Heads ek (RestAt ek ev eb w2 W.heap.size T') (l' ++ (pas ++ [x])) rem ∧ Turned T T' X w2 ∧ (∀ ds, Marks ds T X → Marks ds T' w2) ∧ (∀ D : Blocks, (∀ k, D k → k < W.heap.size) → Same D X w2) ∧
      (∀ k, k < X.heap.size → k ≠ W.heap.size → v.ownBlock ≠ some k → k ≠ gp → w2.heap[k]? = X.heap[k]?) := by
  obtain ⟨cur, hgt⟩ := K4.typed gp (by simp [Value.ownBlock])
  have hgX := (Array.getElem?_eq_some_iff.1 hgt).1
  have hgW : gp ≠ W.heap.size := fun e => by
    have hb := K2.box
    rw [← e, hgt] at hb
    injection hb with hb
    injection hb with _ hb _
    cases hb
  have hgb : W.heap.size ≤ gp := (K4.blocks gp (by simp [Value.ownBlock])).1
  obtain ⟨s1, s2⟩ := K2.turn p7 p1 p2 p3 (.inl p6)
  have hgt1 : w1.heap[gp]? = some (.cells cur 82 (0, 0)) := (p7.same gp hgX (fun e => e.elim hgW hne)).trans hgt
  have hs12 : w1.heap.size ≤ w2.heap.size := by
    have h1 := q2.size
    rw [World.size_alloc] at h1
    omega
  have hk12 : ∀ k, k < w1.heap.size → k ≠ gp → w2.heap[k]? = w1.heap[k]? := fun k hk hn =>
    (q2.block k (by rw [World.size_alloc]; omega) (fun e => by injection e with e; exact hn e)).trans (Below.heap_alloc w1 o k hk)
  have s3 := s1.pass hs12 hk12 hgW (by rw [p6]; exact hne)
  have s4 : Turned (withNew T X w1) (withNew (withNew T X w1) w1 w2) w1 w2 := Turned.grow q2.os q2.tape q2.output hs12 (fun k hk hn => hk12 k hk (fun e => hn (by subst e; exact .inl KT)))
  have hlen : pas.length + 1 = (pas ++ [x]).length := by simp
  obtain ⟨gp', cp', e1, e2⟩ : ∃ gp' cp', vp' = .slice (some ⟨gp', 0, none⟩) (pas.length + 1) cp' ∧ (gp' = gp ∨ gp' = (w1.alloc o).heap.size) := by
    obtain ⟨gg, cg, ev', _, _⟩ := q1.form (Nat.succ_pos _)
    refine ⟨gg, cg, ev', ?_⟩
    subst ev'
    simp only [Value.ownBlock, Option.some.injEq] at q3
    exact q3
  refine ⟨_, gp', cp', e1, s3, HRow.more rfl K4.2 q1, ?_, ?_, ?_, s2.trans s4, fun ds hm => ((K2.marks p7 hm).keep (fun _ h => .inl h) (fun k hk hd => hk12 k (s1.lo k hk).2 (fun e => by subst e; rw [hgt1] at hd; cases hd))), fun D hD k hk hl => (hk12 k (Nat.lt_of_lt_of_le hl p7.size) (fun e => by have := hD k hk; omega)).trans (K2.turn_low p7 hD k hk hl), fun k hk h1 h2 h3 => (hk12 k (Nat.lt_of_lt_of_le hk p7.size) h3).trans (p7.same k hk (fun e => e.elim h1 h2))⟩
  · rcases e2 with e2 | e2
    · subst e2; exact .inl (.inl KT)
    · have := q1.lt gp' (by rw [e1]; rfl)
      rw [World.size_alloc] at e2
      exact .inr ⟨by omega, this.2⟩
  · rcases e2 with e2 | e2
    · omega
    · rw [World.size_alloc] at e2
      have := p7.size
      omega
  · have hp : (l' ++ (pas ++ [x])).Perm (lr ++ pas) := by
      have a1 : (l' ++ (pas ++ [x])).Perm ((x :: l') ++ pas) := by
        rw [← List.append_assoc]
        exact List.perm_append_comm (l₁ := l' ++ pas) (l₂ := [x])
      exact a1.trans (List.Perm.append_right pas p4.symm)
    refine (K6.perm hp).mono (fun y ys _ hR => (K2.rests p7 hR).keep _ _ _ (fun _ h => .inl h) (fun g cs hg hc => hk12 g (s1.lo g hg).2 (fun e => by subst e; rw [hgt1] at hc; injection hc with hc; injection hc with _ hc _; cases hc)))
theorem pick_min {y : α} (h : pick ek rem = some y) : ∀ (i : Nat) (z : α) (zs : List α), rem[i]? = some (z :: zs) → ek y ≤ ek z := by
  induction rem generalizing y with
  | nil => simp [pick] at h
  | cons l r ih =>
    intro i z zs hi
    cases l with
    | nil =>
      cases i with
      | zero => simp at hi
      | succ i => exact ih (by simpa [pick] using h) i z zs (by simpa using hi)
    | cons a t =>
      simp only [pick] at h
      cases hp : pick ek r with
      | none =>
        rw [hp] at h
        simp only [Option.some.injEq] at h
        subst h
        cases i with
        | zero => simp at hi; rw [hi.1]; exact Int.le_refl _
        | succ i =>
          have := (pick_none ek).1 hp (z :: zs) (List.mem_of_getElem? (by simpa using hi))
          cases this
      | some b =>
        rw [hp] at h
        simp only at h
        cases i with
        | zero =>
          simp only [List.getElem?_cons_zero, Option.some.injEq, List.cons.injEq] at hi
          obtain ⟨rfl, _⟩ := hi
          split at h <;> (injection h with h; subst h; omega)
        | succ i =>
          have := ih hp i z zs (by simpa using hi)
          split at h <;> (injection h with h; subst h; omega)
theorem no_more {R : Hd → List α → Prop} {lr pas : List Hd} {f : Nat} {y : α} {q : List α} (hp : Heap lr) (hh : Heads ek R (lr ++ pas) rem) (hm : mergeF ek (f + 1) rem = y :: q) (h0 : 0 < lr.length → (at_ lr 0).key ≠ ek y) : ∀ x ∈ lr, x.key ≠ ek y := by
  have hpk : pick ek rem = some y := by
    unfold mergeF at hm
    cases h : pick ek rem with
    | none => rw [h] at hm; cases hm
    | some b => rw [h] at hm; simp only [List.cons.injEq] at hm; rw [hm.1]
  have hge : ∀ x ∈ lr, ek y ≤ x.key := fun x hx => by
    obtain ⟨i, z, zs, _, e2, e3, _⟩ := hh.each x (List.mem_append_left _ hx)
    rw [e3]
    exact pick_min hpk i z zs e2
  intro x hx e
  obtain ⟨j, hj, rfl⟩ := List.getElem_of_mem hx
  have hl : 0 < lr.length := by omega
  have h1 := hp.root j hj
  rw [at_get lr j hj] at h1
  have h2 := hge (at_ lr 0) (by rw [at_get lr 0 hl]; exact List.getElem_mem hl)
  have h3 := h0 hl
  unfold Hd.le Hd.Lt at h1
  omega
theorem Mid.mono {R R' : Hd → List α → Prop} {k : Int} {rem0 : List (List α)} {lr ps : List Hd} (h : Mid ek R k rem0 lr ps rem) (hR : ∀ x xs, x ∈ lr ++ ps → R x xs → R' x xs) : Mid ek R' k rem0 lr ps rem := ⟨h.heads.mono hR, h.keys, h.len, h.old, h.new⟩
theorem Mid.perm {R : Hd → List α → Prop} {k : Int} {rem0 : List (List α)} {lr lr' ps : List Hd} (h : Mid ek R k rem0 lr ps rem) (hp : lr'.Perm lr) : Mid ek R k rem0 lr' ps rem := ⟨h.heads.perm (List.Perm.append_right ps hp), h.keys, h.len, h.old, h.new⟩
theorem gone_round {gp np cp : Nat} {pas lr ps : List Hd} {k : Int} {rem0 : List (List α)} (L2 : HState W T X v l) (L3 : HRow X W.heap.size 82 (.slice (some ⟨gp, 0, none⟩) np cp) pas) (L5 : Mid ek (RestAt ek ev eb X W.heap.size T) k rem0 lr ps rem) (o : Obj) :
    ∃ T', HState W T' (X.alloc o) v l ∧ HRow (X.alloc o) W.heap.size 82 (.slice (some ⟨gp, 0, none⟩) np cp) pas ∧ (∀ k, T k → T' k) ∧ Mid ek (RestAt ek ev eb (X.alloc o) W.heap.size T') k rem0 lr ps rem ∧ Turned T T' X (X.alloc o) ∧ (∀ ds, Marks ds T X → Marks ds T' (X.alloc o)) ∧ (∀ D : Blocks, Same D X (X.alloc o)) := by
  have ho : ∀ k, k < X.heap.size → (X.alloc o).heap[k]? = X.heap[k]? := fun k hk => Below.heap_alloc X o k hk
  have hs : X.heap.size ≤ (X.alloc o).heap.size := by simp
  refine ⟨_, L2.old hs ho, L3.keep (fun k hk => ho k (L3.blocks k hk).2), fun _ h => .inl h, Mid.mono L5 (fun x xs _ hR => hR.keep _ _ _ (fun _ h => .inl h) (fun g cs hg _ => ho g (L2.lo g hg).2)), Turned.grow rfl rfl rfl hs (fun k hk _ => ho k hk), fun ds hm => hm.keep (fun _ h => .inl h) (fun k hk _ => ho k (L2.lo k hk).2), fun D k _ hl => ho k hl⟩
theorem more_round {w1 w2 : World} {gp np cp : Nat} {pas ps : List Hd} {k : Int} {rem0 : List (List α)} {x : Hd} (L2 : HState W T X v l) (L3 : HRow X W.heap.size 82 (.slice (some ⟨gp, 0, none⟩) np cp) pas) (hne : v.ownBlock ≠ some gp) (L5 : Mid ek (RestAt ek ev eb X W.heap.size T) k rem0 (x :: l) ps rem)
    (hbl : Below X.heap.size X w1) (p6 : Turns (fun k => k = W.heap.size ∨ v.ownBlock = some k) w1 w2) (p1 : w2.heap[W.heap.size]? = some (.cells #[v'] 79 (0, 0))) (p2 : HRow w2 W.heap.size 82 v' l') (p3 : Heap l') (p4 : l'.Perm (x :: l)) (p5 : v'.ownBlock = v.ownBlock ∨ ∃ b, v'.ownBlock = some b ∧ w1.heap.size ≤ b) :
    ∃ T', HState W T' w2 v' l' ∧ HRow w2 W.heap.size 82 (.slice (some ⟨gp, 0, none⟩) np cp) pas ∧ (∀ k, T k → T' k) ∧ v'.ownBlock ≠ some gp ∧ Mid ek (RestAt ek ev eb w2 W.heap.size T') k rem0 l' ps rem ∧ Turned T T' X w2 ∧ (∀ ds, Marks ds T X → Marks ds T' w2) ∧ (∀ D : Blocks, (∀ k, D k → k < W.heap.size) → Same D X w2) := by
  have hgX : gp < X.heap.size := (L3.blocks gp (by simp [Value.ownBlock])).2
  have hgW := sep_types L3 L2.box
  have s1 := L2.old hbl.size (fun k hk => hbl.block k hk)
  have s2 : Turned T (withNew T X w1) X w1 := Turned.grow hbl.os hbl.tape hbl.output hbl.size (fun k hk _ => hbl.block k hk)
  obtain ⟨q1, q2⟩ := s1.turn p6 p1 p2 p3 p5
  have r1 : HRow w1 W.heap.size 82 (.slice (some ⟨gp, 0, none⟩) np cp) pas := L3.keep (fun k hk => hbl.block k (L3.blocks k hk).2)
  refine ⟨_, q1, r1.turn p6 (fun k hk e => ?_), fun k hk => .inl (.inl hk), ?_, ?_, s2.trans q2, fun ds hm => s1.marks p6 (hm.keep (fun _ h => .inl h) (fun k hk _ => hbl.block k (L2.lo k hk).2)), fun D hD k hk hl => (s1.turn_low p6 hD k hk (Nat.lt_of_lt_of_le hl hbl.size)).trans (hbl.block k hl)⟩
  · simp only [Value.ownBlock, Option.some.injEq] at hk
    subst hk
    exact e.elim hgW hne
  · intro e
    rcases p5 with p5 | ⟨b, p5, p7⟩
    · rw [p5] at e; exact hne e
    · rw [p5] at e
      injection e with e
      have := hbl.size
      omega
  · exact Mid.mono (Mid.perm L5 p4) (fun y ys _ hR => s1.rests p6 (hR.keep _ _ _ (fun _ h => .inl h) (fun g cs hg _ => hbl.block g (L2.lo g hg).2)))
theorem rest_next {g5 o5 pc : Nat} {cs5 : Array Value} {base : Nat} {z a : α} {t : List α} {i5 : Nat} (h : t.length + 1 + 1 ≤ pc ∧ pc ≤ maxLen ∧ base ≤ g5 ∧ T g5 ∧ X.heap[g5]? = some (.cells cs5 32 (0, 0)) ∧ CellsAt ek ev eb X g5 o5 (z :: a :: t)) :
    RestAt ek ev eb X base T ⟨ek a, i5, some ⟨g5, o5 + 3, none⟩, (a :: t).length, pc - 1⟩ (a :: t) ∧ X.cell? ⟨g5, o5 + 3, none⟩ = some (.int .u64 (ek a)) ∧ X.cell? ⟨g5, o5 + 3 + 1, none⟩ = some (.int .u64 (ev a)) ∧ X.cell? ⟨g5, o5 + 3 + 2, none⟩ = some (.bool (eb a)) := by
  obtain ⟨h1, h2, h3, h4, h5, h6⟩ := h
  have h7 : CellsAt ek ev eb X g5 (o5 + 3) (a :: t) := fun j x hj => by
    have := h6 (j + 1) x (by simpa using hj)
    rw [show o5 + 3 + j * 3 = o5 + (j + 1) * 3 from by omega]
    exact this
  refine ⟨⟨g5, o5 + 3, cs5, rfl, rfl, ?_, ?_, h3, h4, h5, h7⟩, ?_⟩
  · simp only [List.length_cons]; omega
  · show pc - 1 ≤ maxLen; omega
  · have := h7 0 a rfl
    simpa using this
theorem left_more {a b j j2 n : Nat} (h : a + (b - j) ≤ n) (hj : j + 1 = j2) (hl : j < b) : a + (b - j2) ≤ n ∧ a + 1 + (b - j2) ≤ n := by omega
theorem len_left {l l' : List Hd} {x : Hd} {b j n : Nat} (hp : l'.Perm (x :: l)) (h : l.length + 1 + (b - j) ≤ n) : l'.length + (b - j) ≤ n := by
  rw [hp.length_eq, List.length_cons]
  exact h
theorem fits_one {a b j n m : Nat} (h : a + 1 + (b - j) ≤ n) (hm : n = m) (hn : (m + 1) * 40 ≤ 140737488355328) : (a + 1) * 40 ≤ 140737488355328 := by omega
theorem full_done {R : Hd → List α → Prop} {k : Int} {rem0 : List (List α)} {pas : List Hd} {j : Nat} (hj : ¬ j < pas.length) (h : Mid ek R k rem0 l (pas.drop j) rem) (hl : l.length + (pas.length - j) ≤ rem0.length) : rem = MergeL.step ek k rem0 ∧ Heads ek R l rem ∧ l.length ≤ rem.length ∧ rem.length = rem0.length := by
  have e : pas.drop j = [] := List.drop_eq_nil_of_le (Nat.not_lt.1 hj)
  rw [e] at h
  refine ⟨h.done.1, h.done.2, ?_, h.len⟩
  rw [h.len]
  omega
end
end
end Go.Proofs.Ytojbfjfjhfnopaa.MergeE
end

section
/- merge.Merge's iterator at entries. -/
namespace Go.Proofs.Ytojbfjfjhfnopaa.MergeE
open Go.RowKit Go.Shelf RangeD SeqE MergeL HeapL HeapE
attribute [local go_sem] Oper.semAt_some
set_option linter.unusedVariables false
section
variable {α : Type} (ek ev : α → Int) (eb : α → Bool)
set_option maxRecDepth 1000000 in
set_option maxHeartbeats 4000000 in
theorem merge_in (l bL bK : Nat) (A : Option Addr) (gL cap kf : Nat) (its : List (It α)) (J Jx : List α → Blocks → World → Prop) (hJ : Abide J) (hJx : Abide Jx)
    (hkf : ∀ args w, (callFunc kf args).run Try.prog w = .ok (.enter kf args) w)
    (hkey : ∀ x w, Calls Try.prog kf #[agg ek ev eb x] w fun e w' => e = .returned (.int .u64 (ek x)) ∧ Below w.heap.size w w')
    (hY : ∀ pre x T W, J pre T W → (∃ more, pre ++ [x] ++ more = mergeL ek (its.map It.xs)) → YieldAt Fence.wide 0 Try.prog l #[agg ek ev eb x] W fun e W' =>
      (e = .returned (.bool true) ∧ J (pre ++ [x]) T W' ∧ W.heap.size ≤ W'.heap.size ∧ Same (fun k => MDeps bL bK gL its k ∨ T k) W W') ∨ (e = .returned (.bool false) ∧ Jx (pre ++ [x]) T W' ∧ W.heap.size ≤ W'.heap.size ∧ Same (fun k => MDeps bL bK gL its k ∨ T k) W W'))
    (W : World) (hst : MLaid ek ev eb W bL bK A gL cap kf its) (h0 : J [] (fun _ => False) W) :
    CallsIn Fence.wide 0 Try.prog 44 #[.func (.yield l) #[] #[], .pointer (some ⟨bL, 0, none⟩), .pointer (some ⟨bK, 0, none⟩)] W fun e W' => (∃ v, e = .returned v) ∧
      ((∃ T, J (mergeL ek (its.map It.xs)) T W') ∨ (∃ pre T, (∃ more, pre ++ more = mergeL ek (its.map It.xs)) ∧ Jx pre T W')) := by
  refine callsIn_of_wp_marks Try.func44 rfl trivial (wpIn_wide.2 ?_) rfl
  simp only [Try.ntmps44, List.size_toArray, List.length_cons, List.length_nil, Nat.reduceAdd, Nat.reduceSub, Array.replicate_succ, Array.replicate_zero, List.push_toArray, List.append_toArray, List.nil_append, List.cons_append]
  have hcl : W.cell? ⟨bL, 0, none⟩ = some (.slice A its.length cap) := by rw [cell_of_row W bL 0 _ _ _ hst.lists]; rfl
  have hblt : bL < W.heap.size := (Array.getElem?_eq_some_iff.1 hst.lists).1
  have hklt : bK < W.heap.size := (Array.getElem?_eq_some_iff.1 hst.key).1
  have hlen := hst.len
  go_wp2_with fail
  have hM0 : MState ek ev eb W (fun k => k = W.heap.size) (W.alloc (.cells #[.slice none 0 0] 79)) (.slice none 0 0) [] ([] : List (List α)) :=
    ⟨by simp, fun k hk => by (obtain rfl : k = W.heap.size := hk); simp, rfl, World.alloc_heap_new W _, HRow.nil _ _ _, fun k hk => (by simp [Value.ownBlock] at hk), fun j h0 hj => (by simp at hj), Heads.nil _, Nat.le_refl _⟩
  have hJ0 : J [] (fun k => k = W.heap.size) (W.alloc (.cells #[.slice none 0 0] 79)) := hJ _ _ _ _ _ h0 ⟨rfl, rfl, rfl, by simp, fun k hk => hk.elim, fun k hk => .inr (by (obtain rfl : k = W.heap.size := hk); simp), fun k hk _ => Below.heap_alloc _ _ _ hk⟩
  have hD0 : Same (MDeps bL bK gL its) W (W.alloc (.cells #[.slice none 0 0] 79)) := fun k _ hk => Below.heap_alloc _ _ _ hk
  refine wp_loop_ghost_k (fun kq a' w' => ∃ (ds : List Deferred) (i : Nat) (u5 u6 u7 u8 u16 u17 u18 u19 u20 u21 u22 u23 u24 u25 u26 u27 u28 u29 u30 u31 u32 u33 u34 u35 u36 u37 u38 : Value), (∃ T v lh, Hid (i ≤ its.length ∧ its.length ≤ kq + i) ∧ Hid (Marks ds T w') ∧ Hid (MState ek ev eb W T w' v lh ((its.take i).map It.xs)) ∧ Hid (J [] T w') ∧ Hid (Same (MDeps bL bK gL its) W w')) ∧ a' = { tmps := #[.func (.yield l) #[] #[], .pointer (some ⟨bL, 0, none⟩), .pointer (some ⟨bK, 0, none⟩), undef, .pointer (some ⟨W.heap.size, 0, none⟩), u5, u6, u7, u8, undef, undef, undef, undef, .slice A its.length cap, .int .i64 (its.length : Int), .int .i64 (i : Int), u16, u17, u18, u19, u20, u21, u22, u23, u24, u25, u26, u27, u28, u29, u30, u31, u32, u33, u34, u35, u36, u37, u38, undef, undef, undef, undef, undef, undef, undef, undef, undef, undef, undef, undef, undef, undef, undef, undef, undef, undef, undef, undef, undef, undef, undef, undef, undef, undef, undef, undef, undef, undef, undef, undef, undef, undef, undef, undef, undef, undef, undef, undef, undef, undef, undef, undef, undef, undef, undef, undef, undef, undef, undef, undef, undef, undef, undef, undef, undef, undef, undef], defers := ds }) its.length ?_ ?_
  · refine ⟨_, 0, _, _, _, _, _, _, _, _, _, _, _, _, _, _, _, _, _, _, _, _, _, _, _, _, _, _, _, ⟨_, _, _, Lib.hid ⟨Nat.zero_le _, Nat.le_refl _⟩, Lib.hid (Marks.nil _ _), Lib.hid hM0, Lib.hid hJ0, Lib.hid hD0⟩, rfl⟩
  · rintro gk _ wr ⟨ds, i, u5, u6, u7, u8, u16, u17, u18, u19, u20, u21, u22, u23, u24, u25, u26, u27, u28, u29, u30, u31, u32, u33, u34, u35, u36, u37, u38, ⟨T, v, lh, HI, HM, HS, HJ, HD⟩, rfl⟩ JJ KK hJJ hKK
    have HST := Lib.hid hst
    clear hM0 hJ0 hD0 hcl hst
    have hi1 := HI.out.1
    have hlaid := HST.out.keep _ _ _ HS.out.size HD.out
    by_cases hlt : i < its.length
    · have hd : decide ((i : Int) < (its.length : Int)) = true := decide_eq_true (by omega)
      obtain rfl := HST.out.at_ (by omega)
      have hfn := hlaid.fns i its[i] (List.getElem?_eq_getElem hlt)
      obtain ⟨it, hit⟩ : ∃ it, its[i] = it := ⟨_, rfl⟩
      rw [hit] at hfn
      have hb1 : (0 : Int) ≤ (i : Int) := by omega
      have hb2 : (i : Int) < (its.length : Int) := by omega
      have HL := Lib.hid hlaid
      clear hlaid
      go_wp2_with fail
      obtain ⟨i0, hi0, hz0, hz1, hz2⟩ := info_parts info32e
      have hok := HL.out.oks it (by rw [← hit]; exact List.getElem_mem hlt)
      obtain ⟨X1, hX1⟩ : ∃ X1, wr.alloc (.cells #[.slice none 0 0] 25) = X1 := ⟨_, rfl⟩
      have hsz1 : X1.heap.size = wr.heap.size + 1 := by rw [← hX1]; simp
      have h71 : X1.heap[wr.heap.size]? = some (.cells #[.slice none 0 0] 25 (0, 0)) := by rw [← hX1]; exact World.alloc_heap_new wr _
      have hS1 : Same it.D wr X1 := by rw [← hX1]; exact fun k _ hk => Below.heap_alloc wr _ k hk
      have ha7 : wr.heap.size < X1.heap.size := by omega
      rw [hX1]
      refine (wpIn_wide (n := 0)).1 ?_
      refine wpIn_rangeFunc_D (ps := #[21]) (gf := it.gf) (lb := it.lb) rfl hok.goes (hok.seq.same (by omega) hS1) (fun k hk => by have := hok.lt k hk; omega) (fun _ => rfl)
        (GI ek ev eb X1 wr.heap.size) (fun _ _ _ _ => False)
        (fun pre x T' a' Y => ∃ b8, a' = { tmps := #[.func (.yield l) #[] #[], .pointer (some ⟨bL, 0, none⟩), .pointer (some ⟨bK, 0, none⟩), undef, .pointer (some ⟨W.heap.size, 0, none⟩), .int .i64 (i : Int), .func (.func it.gf) #[] it.lb, .pointer (some ⟨wr.heap.size, 0, none⟩), .pointer (some ⟨b8, 0, none⟩), undef, undef, undef, undef, .slice (some ⟨gL, 0, none⟩) its.length cap, .int .i64 (its.length : Int), .int .i64 (i : Int), .bool true, .int .i64 (i : Int), .pointer (some ⟨gL, i, none⟩), .func (.func it.gf) #[] it.lb, .func (.func it.gf) #[] it.lb, agg ek ev eb x, u22, u23, u24, u25, u26, u27, u28, u29, u30, u31, u32, u33, u34, u35, u36, u37, u38, undef, undef, undef, undef, undef, undef, undef, undef, undef, undef, undef, undef, undef, undef, undef, undef, undef, undef, undef, undef, undef, undef, undef, undef, undef, undef, undef, undef, undef, undef, undef, undef, undef, undef, undef, undef, undef, undef, undef, undef, undef, undef, undef, undef, undef, undef, undef, undef, undef, undef, undef, undef, undef, undef, undef, undef, undef, undef, undef], defers := [] } ∧ Y.heap[b8]? = some (.cells #[.int .u64 (ek x), .int .u64 (ev x), .bool (eb x)] 32 (0, 0)))
        (GI.abide ha7) (fun _ _ _ _ _ _ h _ => h) (GI.ownT ha7) (fun _ _ _ _ _ _ h _ _ => h) ?hAo (GI.start h71) ?assign ?body ?done ?stop
      case hAo =>
        rintro pre x T' a' _ Y Y' row ⟨b8, h1, h2⟩ hg hr
        refine ⟨b8, h1, (hg.block b8 (Array.getElem?_eq_some_iff.1 h2).1 (fun e => ?_)).trans h2⟩
        obtain ⟨_, o, ho, hc⟩ := hr b8 e.symm
        rw [ho] at h2
        injection h2 with h2
        subst h2
        cases hc
      case stop => exact fun _ _ _ _ _ _ _ h => h.elim
      case assign =>
        intro lr pre x T' Y K hG hnx hK
        gi_wp2
        exact hK _ _ ⟨by simp, fun k o _ hk _ => (Below.heap_alloc _ _ _ (Array.getElem?_eq_some_iff.1 hk).1).trans hk⟩ (fun k _ hk => Below.heap_alloc _ _ _ hk) (GI.abide ha7 _ _ _ _ _ hG (Turned.of_below ((Below.refl _ Y).alloc (Nat.le_refl _) _))) ⟨_, rfl, World.alloc_heap_new Y _⟩
      case body =>
        rintro lr pre x T' a' Y hB hrec hnT hG ⟨b8, rfl, h8⟩ ⟨more, hmore⟩
        obtain ⟨v7, g1, g2, g3⟩ := hG.row
        obtain ⟨A7, c7, rfl⟩ : ∃ A c, v7 = .slice A pre.length c := by
          rcases g2.2 with ⟨e, hn⟩ | ⟨g, cap2, cur, e, _⟩
          · exact ⟨none, 0, by rw [hn]; exact e⟩
          · exact ⟨_, _, e⟩
        have hpl := len_bound hmore hok.len
        have hg7 : ∀ k, (Value.slice A7 pre.length c7).ownBlock = some k → ¬ T' k ∧ X1.heap.size ≤ k := fun k hk => ⟨g3 k hk, (g2.lt k hk).1⟩
        have hx3 : ∀ u ∈ [Value.int .u64 (ek x), .int .u64 (ev x), .bool (eb x)], u.oneCell' = true := by
          intro u hu
          simp only [List.mem_cons, List.not_mem_nil, or_false] at hu
          rcases hu with hu | hu | hu <;> subst hu
          · rfl
          · rfl
          · rfl
        have hYl := hG.lt
        have hYs := hG.size
        have ca : Y.cell? ⟨wr.heap.size, 0, none⟩ = some (.slice A7 pre.length c7) := by rw [cell_of_row Y _ 0 _ _ _ g1]; rfl
        have d0 : Y.cell? ⟨b8, 0, none⟩ = some (.int .u64 (ek x)) := by rw [cell_of_row Y _ 0 _ _ _ h8]; rfl
        have d1 : Y.cell? ⟨b8, 1, none⟩ = some (.int .u64 (ev x)) := by rw [cell_of_row Y _ 1 _ _ _ h8]; rfl
        have d2 : Y.cell? ⟨b8, 2, none⟩ = some (.bool (eb x)) := by rw [cell_of_row Y _ 2 _ _ _ h8]; rfl
        have HG := Lib.hid hG
        have HG1 := Lib.hid g1
        have HG2 := Lib.hid g2
        have HG7 := Lib.hid hg7
        have HX3 := Lib.hid hx3
        have HPL := Lib.hid hpl
        have ha7n : (Value.slice A7 pre.length c7).ownBlock ≠ some wr.heap.size := fun e => by have := (hg7 _ e).2; omega
        have HA7 := Lib.hid ha7n
        clear hG g1 g2 g3 hg7 hx3 hpl hmore hrec hB hnT ha7n
        gi_wp2_with (first | (gi_at_builtin; go_must (refine wpListIn_append_own_at _ rfl (.tmp 22) (.tmp 24) 25 rfl X1.heap.size 32 i0 _ 3 24 Try.underlying25 hi0 hz0 hz1 hz2 rfl (by decide) (.slice A7 pre.length c7) pre.length (erow ek ev eb pre) (by rfl) (HG2.out.alloc _) ⟨Y.heap.size, 0, none⟩ 1 1 [.int .u64 (ek x), .int .u64 (ev x), .bool (eb x)] (by rfl) (by rfl) (World.news_of_block (cs := #[.int .u64 (ek x), .int .u64 (ev x), .bool (eb x)]) (t := 32) (fr := (0, 0)) (World.alloc_heap_new Y _)) HX3.out (len_max HPL.out) HPL.out (by rw [World.size_alloc]; exact Nat.le_succ_of_le hYs) ?_; intro v' w1 hown1 hgrow hnil hat; obtain ⟨gg, cg, ev', _, _⟩ := hown1.form (Nat.succ_pos _); subst ev'; have hcz : w1.heap[wr.heap.size]? = some (.cells #[.slice A7 pre.length c7] 25 (0, 0)) := ((hgrow.block _ (by rw [World.size_alloc]; exact Nat.lt_succ_of_lt hYl) (fun e => HA7.out e.symm)).trans (Below.heap_alloc Y _ _ hYl)).trans HG1.out; have hcz1 : w1.cell? ⟨wr.heap.size, 0, none⟩ = some (.slice A7 pre.length c7) := (by rw [cell_of_row w1 _ 0 _ _ _ hcz]; rfl); have hcz2 : w1.frozen? ⟨wr.heap.size, 0, none⟩ = false := (by simp [World.frozen?, hcz]); have HOWN1 := Lib.hid hown1; have HGR := Lib.hid hgrow; have HAT := Lib.hid hat; clear hown1 hgrow hnil hat hcz)))
        obtain ⟨q1, q2, q3⟩ := GI.next ha7 HG.out HG1.out HG7.out HOWN1.out HGR.out HAT.out
        exact ⟨q2, q3 it.D (fun k hk => ⟨Nat.lt_trans (hok.lt k hk) ha7, Nat.ne_of_lt (hok.lt k hk)⟩), q1⟩
      case done =>
        intro C xs T' Y hC hxs hG hmark
        obtain rfl := hxs
        obtain ⟨hYs, hold, hTu⟩ := after_gather (ek := ek) (ev := ev) (eb := eb) hX1 hG
        have hS2 := HS.out.old _ _ _ hYs hold
        have hJ2 := hJ _ _ _ _ _ HJ.out hTu
        have hD2 : Same (MDeps bL bK gL its) W Y := HD.out.trans HS.out.size (fun k _ hk => hold k hk)
        have hCl : C < Y.heap.size := (Array.getElem?_eq_some_iff.1 hmark).1
        have hCw : wr.heap.size ≤ C := Nat.le_trans (Nat.le_of_lt ha7) hC
        have hM2 := (HM.out.keep (T' := withNew T wr Y) (fun _ h => .inl h) (fun k hk _ => hold k (HS.out.lo k hk).2)).more C (.inr ⟨hCw, hCl⟩) hmark (fun k _ _ hm e => absurd (HS.out.lo k (HM.out.mem hm)).2 (by rw [e]; exact Nat.not_lt.2 hCw))
        obtain ⟨v7, g1, g2, g3⟩ := hG.row
        obtain ⟨A7, c7, rfl⟩ : ∃ A c, v7 = .slice A it.xs.length c := by
          rcases g2.2 with ⟨e, hn⟩ | ⟨g, cap2, cur, e, _⟩
          · exact ⟨none, 0, by rw [hn]; exact e⟩
          · exact ⟨_, _, e⟩
        have ca : Y.cell? ⟨wr.heap.size, 0, none⟩ = some (.slice A7 it.xs.length c7) := by rw [cell_of_row Y _ 0 _ _ _ g1]; rfl
        obtain ⟨i2, hi2⟩ : ∃ i2, i + 1 = i2 := ⟨_, rfl⟩
        have hi3 : (i : Int) + 1 = (i2 : Int) := by rw [← hi2]; rfl
        have htk : (its.take i2).map It.xs = (its.take i).map It.xs ++ [it.xs] := by rw [← hi2, List.take_succ_eq_append_getElem hlt, hit, List.map_append]; rfl
        have HI2 := Lib.hid (loop_nums hi2 hlt HI.out.2)
        have hw2 : IntKind.i64.wrap (i2 : Int) = (i2 : Int) := IntWalk.i64_in _ (loop_fits HST.out.len HI2.out.1)
        have HS2 := Lib.hid hS2
        have HJ2 := Lib.hid hJ2
        have HD2 := Lib.hid hD2
        have HM2 := Lib.hid hM2
        have HTK := Lib.hid htk
        have HG := Lib.hid hG
        have HG1 := Lib.hid g1
        clear hS2 hJ2 hD2 hM2 htk hG g1 g2 g3 hmark hC hCl hCw hTu hi2 h71 hS1
        dsimp only
        by_cases hx0 : it.xs.length = 0
        · have hd0 : decide ((it.xs.length : Int) > 0) = false := decide_eq_false (by rw [hx0]; decide)
          have hd1 : decide (0 < it.xs.length) = false := decide_eq_false (by rw [hx0]; exact Nat.lt_irrefl 0)
          have hx1 : it.xs = [] := List.eq_nil_of_length_eq_zero hx0
          have HX1 := Lib.hid hx1
          clear hx0 hx1
          go_wp2_with fail
          refine Handed.intro (its.length - i2) HI2.out.2.2 (hJJ _ _ _ ⟨_, i2, _, _, _, _, _, _, _, _, _, _, _, _, _, _, _, _, _, _, _, _, _, _, _, _, _, _, _, ⟨withNew T wr Y, v, lh, Lib.hid ⟨HI2.out.1, HI2.out.2.1⟩, HM2, ?_, HJ2, HD2⟩, rfl⟩)
          rw [HTK.out, HX1.out]
          exact Lib.hid ⟨HS2.out.size, HS2.out.lo, HS2.out.th, HS2.out.box, HS2.out.row, HS2.out.tv, HS2.out.heap, HS2.out.heads.empty, Nat.le_trans HS2.out.short (by rw [List.length_append]; exact Nat.le_add_right _ _)⟩
        · have hpos : 0 < it.xs.length := Nat.pos_of_ne_zero hx0
          have hd0 : decide ((it.xs.length : Int) > 0) = true := decide_eq_true (Int.ofNat_lt.2 hpos)
          have hd1 : decide (0 < it.xs.length) = true := decide_eq_true hpos
          have hb3 : (0 : Int) < (it.xs.length : Int) := Int.ofNat_lt.2 hpos
          obtain ⟨g, rfl, hRA⟩ := RestAt.fresh (ek := ek) (ev := ev) (eb := eb) (T := T) HS.out.size hX1 HG.out HG1.out hpos (i : Int)
          obtain ⟨y, ys, hxy⟩ : ∃ y ys, it.xs = y :: ys := by
            cases h : it.xs with
            | nil => rw [h] at hpos; exact absurd hpos (Nat.lt_irrefl 0)
            | cons y ys => exact ⟨y, ys, rfl⟩
          obtain ⟨y0, y1, y2⟩ : Y.cell? ⟨g, 0, none⟩ = some (.int .u64 (ek y)) ∧ Y.cell? ⟨g, 1, none⟩ = some (.int .u64 (ev y)) ∧ Y.cell? ⟨g, 2, none⟩ = some (.bool (eb y)) := by
            obtain ⟨g', o, cs, e1, _, _, _, _, _, _, hc⟩ := hRA 0
            injection e1 with e1
            injection e1 with e1 e2
            subst e1 e2
            exact hc 0 y (by rw [hxy]; rfl)
          have hkc := (HST.out.keep _ _ _ HS2.out.size HD2.out).key
          have ck : Y.cell? ⟨bK, 0, none⟩ = some (.func (.func kf) #[] #[]) := by rw [cell_of_row Y _ 0 _ _ _ hkc]; rfl
          have HRA := Lib.hid hRA
          have HXY := Lib.hid hxy
          have HPOS := Lib.hid hpos
          clear hx0 hRA hxy hkc
          have hlen2 : ((its.take i).map It.xs).length = i := by rw [List.length_map, List.length_take, Nat.min_eq_left (Nat.le_of_lt hlt)]
          have HLF : Hid ((lh.length + 1) * 40 ≤ 140737488355328) := Lib.hid (heap_fits HST.out.len hlt (Nat.le_trans HS2.out.short (Nat.le_of_eq hlen2)))
          have HLEN := Lib.hid hlen2
          have nb7 : ¬ (wr.heap.size = W.heap.size ∨ v.ownBlock = some wr.heap.size) := HS2.out.apart _ _ _ HG1.out (fun _ e => (by cases e)) (fun _ e => (by cases e))
          have nbK : ¬ (bK = W.heap.size ∨ v.ownBlock = some bK) := HS2.out.apart _ _ _ (HST.out.keep _ _ _ HS2.out.size HD2.out).key (fun _ e => (by cases e)) (fun _ e => (by cases e))
          have nbg : ¬ (g = W.heap.size ∨ v.ownBlock = some g) := by
            obtain ⟨g', o, cs, e1, _, _, _, _, _, hc, _⟩ := HRA.out 0
            injection e1 with e1
            injection e1 with e1 e2
            subst e1 e2
            exact HS2.out.apart _ _ _ hc (fun _ e => (by cases e)) (fun _ e => (by cases e))
          clear hlen2
          go_upto_region 9 with (fail)
          go_region_held3 (fun w' => w'.cell? ⟨bK, 0, none⟩ = some (.func (.func kf) #[] #[]) ∧ w'.cell? ⟨wr.heap.size, 0, none⟩ = some (.slice (some ⟨g, 0, none⟩) it.xs.length c7) ∧ w'.cell? ⟨g, 0, none⟩ = some (.int .u64 (ek y)) ∧ w'.cell? ⟨g, 1, none⟩ = some (.int .u64 (ev y)) ∧ w'.cell? ⟨g, 2, none⟩ = some (.bool (eb y)))
            (first
              | go_keep
              | (go_split_ands
                 refine ⟨?_, ?_, ?_, ?_, ?_⟩ <;> (refine (hbl.cell (World.block_lt_of_cell? _ _ (by assumption))).trans ?_; assumption))
              | (go_split_ands
                 refine ⟨?_, ?_, ?_, ?_, ?_⟩ <;> (refine (World.cell?_of_block (p6.same _ (World.block_lt_of_cell? _ _ (by assumption)) (by assumption))).trans ?_; assumption)))
            (first
              | (refine (hkey y _).mono ?_; rintro e w1 ⟨rfl, hbl⟩)
              | (go_at_call 45; refine (put_calls ⟨ek y, i, some ⟨g, 0, none⟩, it.xs.length, c7⟩ lh HS2.out.heap W.heap.size W.heap.size v _ ((hbl.block _ (HS2.out.lo _ HS2.out.th).2).trans HS2.out.box) (HRow.turn (w := Y.drew) HS2.out.row.drew (Turns.of_below (fun _ => False) hbl) (fun _ _ h => h)) (Nat.le_trans HS2.out.size hbl.size) HLF.out).mono ?_; rintro e w2 ⟨rfl, v', l', p1, p2, p3, p4, p5, p6⟩))
          go_wp2_with fail
          have hh := heads_more HS2.out.heads HXY.out ⟨ek y, i, some ⟨g, 0, none⟩, it.xs.length, c7⟩ (by rw [HLEN.out]) rfl (HRA.out (ek y))
          rw [← HTK.out] at hh
          obtain ⟨T3, m1, m2, m3, m4, m5⟩ := HS2.out.more _ _ _ ((Below.refl Y.heap.size Y).drew.trans hbl) p6 p1 p2 p3 p4 p5 hh (by rw [HTK.out, List.length_append]; exact Nat.succ_le_succ HS2.out.short)
          exact Handed.intro (its.length - i2) HI2.out.2.2 (hJJ _ _ _ ⟨_, i2, _, _, _, _, _, _, _, _, _, _, _, _, _, _, _, _, _, _, _, _, _, _, _, _, _, _, _, ⟨T3, v', l', Lib.hid ⟨HI2.out.1, HI2.out.2.1⟩, Lib.hid (m4 _ HM2.out), Lib.hid m1, Lib.hid (hJ _ _ _ _ _ HJ2.out m2), Lib.hid (HD2.out.trans HS2.out.size (m5 _ (fun k hk => HST.out.deps _ _ _ k hk)))⟩, rfl⟩)
    · have hd : decide ((i : Int) < (its.length : Int)) = false := decide_eq_false (fun h => hlt (Int.ofNat_lt.1 h))
      have hd2 : decide (i < its.length) = false := decide_eq_false hlt
      have hie : i = its.length := Nat.le_antisymm HI.out.1 (Nat.not_lt.1 hlt)
      have HS1 : Hid (MState ek ev eb W T wr v lh (its.map It.xs)) := Lib.hid (by have := HS.out; rwa [hie, List.take_length] at this)
      clear hie hlt hlaid HI HS
      go_wp2_with fail
      go_loopg [] (total (its.map It.xs)) (fun kq w' => ∃ (T : Blocks) (v : Value) (lh : List Hd) (pre : List α) (rem : List (List α)) (f : Nat), Hid (total rem ≤ f ∧ f ≤ kq) ∧ Hid (pre ++ mergeF ek f rem = mergeL ek (its.map It.xs)) ∧ Hid (rem.length = its.length) ∧ Hid (Marks ds T w') ∧ Hid (MState ek ev eb W T w' v lh rem) ∧ Hid (J pre T w') ∧ Hid (Same (MDeps bL bK gL its) W w'))
      case atStart => exact ⟨T, v, lh, [], its.map It.xs, _, Lib.hid ⟨Nat.le_refl _, Nat.le_refl _⟩, Lib.hid rfl, Lib.hid (List.length_map _), HM, HS1, HJ, HD⟩
      case round =>
        obtain ⟨T2, v2, l2, pre, rem, f, HF, HP, HRL, HM2, HS2, HJ2, HD2⟩ := hrel
        obtain ⟨A2, c2, hv2, hlc2⟩ := HS2.out.row.slice
        subst hv2
        have hbx := HS2.out.box
        have ch : wr.cell? ⟨W.heap.size, 0, none⟩ = some (.slice A2 l2.length c2) := by rw [cell_of_row wr _ 0 _ _ _ hbx]; rfl
        clear hbx hlc2
        by_cases hl0 : l2.length = 0
        · have hd3 : decide ((l2.length : Int) > 0) = false := decide_eq_false (by rw [hl0]; decide)
          have hd4 : decide (0 < l2.length) = false := decide_eq_false (by rw [hl0]; exact Nat.lt_irrefl 0)
          have hl1 : l2 = [] := List.eq_nil_of_length_eq_zero hl0
          have HL1 := Lib.hid hl1
          clear hl0 hl1
          go_wp2_with fail
          refine HM2.out.leave rfl (fun W' hW' => ⟨⟨_, rfl⟩, .inl ⟨T2, ?_⟩⟩)
          have h1 := HS2.out.heads
          rw [HL1.out] at h1
          have h2 := HP.out
          rw [h1.done, List.append_nil] at h2
          rw [← h2]
          exact hJ _ _ _ _ _ HJ2.out hW'
        · have hl1 : 0 < l2.length := Nat.pos_of_ne_zero hl0
          have hd3 : decide ((l2.length : Int) > 0) = true := decide_eq_true (Int.ofNat_lt.2 hl1)
          have hd4 : decide (0 < l2.length) = true := decide_eq_true hl1
          have HL1 := Lib.hid hl1
          have HLF : Hid ((l2.length + 1) * 40 ≤ 140737488355328) := Lib.hid (heap_fits2 hlen (Nat.le_trans HS2.out.short (Nat.le_of_eq HRL.out)))
          clear hl0 hl1
          go_upto_region 13 with (go_at_call 46; refine (take_calls l2 HS2.out.heap HL1.out W.heap.size W.heap.size _ wr HS2.out.box HS2.out.row HS2.out.size HLF.out).mono ?_; rintro e w1 ⟨x, rfl, v3, l3, p1, p2, p3, p4, p5, p6, p7⟩; have P1 := Lib.hid p1; have P2 := Lib.hid p2; have P3 := Lib.hid p3; have P4 := Lib.hid p4; have P5 := Lib.hid p5; have P6 := Lib.hid p6; have P7 := Lib.hid p7; clear p1 p2 p3 p4 p5 p6 p7)
          have hmem : x ∈ l2 := P4.out.mem_iff.2 List.mem_cons_self
          have hmin : ∀ z ∈ l2, x.le z := fun z hz => by
            rcases List.mem_cons.1 (P4.out.mem_iff.1 hz) with e | e
            · subst e; exact Hd.le_refl _
            · exact P5.out z e
          obtain ⟨i3, y, ys, f1, f2, f3, f4, f5⟩ := HS2.out.heads.told hmem hmin
          obtain ⟨g, o, cs, e1, e2, e3, e4, e5, e6, e7, e8⟩ := f4
          have hg1 : w1.heap[g]? = wr.heap[g]? := HS2.out.state.turn_same P7.out e7 (fun _ e => (by cases e)) (fun _ e => (by cases e))
          obtain ⟨y0, y1, y2⟩ := (e8.keep (W' := w1) _ _ _ hg1) 0 y rfl
          simp only [Nat.zero_mul, Nat.add_zero] at y0 y1 y2
          obtain ⟨xk, xf, xa, xn, xc⟩ := x
          simp only [] at e1 e2 f1 f3
          subst e1 f3
          have hglt : g < w1.heap.size := (Array.getElem?_eq_some_iff.1 (hg1.trans e7)).1
          have hxn : (0 : Int) < (xn : Int) := by rw [e2, List.length_cons]; exact Int.ofNat_lt.2 (Nat.succ_pos _)
          have hxn2 : 0 < xn := Int.ofNat_lt.1 hxn
          obtain ⟨T3, t1, t2, t3, t4, t5, t6, t7⟩ := HS2.out.taken P7.out P1.out P2.out P3.out P6.out P4.out (.cells #[.int .u64 (ek y), .int .i64 xf, .slice (some ⟨g, o, none⟩) xn xc] 82)
          obtain ⟨f, rfl, hmf, htf⟩ := merge_round f HF.out.1 f2 f5
          obtain ⟨fn, tmps, assign, body, hy, hR⟩ := hY pre y T3 _ (hJ _ _ _ _ _ HJ2.out t3) ⟨mergeF ek f (MergeL.step ek (ek y) rem), by rw [← HP.out, hmf, List.append_assoc]; rfl⟩
          have HT1 := Lib.hid t1
          have HT2 := Lib.hid t2
          have HT4 := Lib.hid t4
          have HT5 := Lib.hid t5
          have HT7 := Lib.hid t7
          have HT6 := Lib.hid t6
          have HMF := Lib.hid hmf
          have HTF := Lib.hid htf
          have HE := Lib.hid (And.intro e2 (And.intro e3 (And.intro e4 e8)))
          have HF12 := Lib.hid (And.intro f1 f2)
          have HXX := Lib.hid hxn2
          clear t1 t2 t3 t4 t5 t6 t7 hmf htf hmem hmin hg1 e2 e3 e4 e5 e6 e7 e8 f1 f2 f5
          go_cut [50] from 39 to 97 (fun v50 wd => (v50 = .bool true ∧ Hid (Jx (pre ++ [y]) T3 wd ∧ Marks ds T3 wd)) ∨ (v50 = .bool false ∧ Hid (HState W T3 wd v3 l3 ∧ Heads ek (RestAt ek ev eb wd W.heap.size T3) (l3 ++ [⟨ek y, xf, some ⟨g, o, none⟩, xn, xc⟩]) rem ∧ Marks ds T3 wd ∧ J (pre ++ [y]) T3 wd ∧ Same (MDeps bL bK gL its) W wd ∧ wd.heap[w1.heap.size]? = some (.cells #[.int .u64 (ek y), .int .i64 xf, .slice (some ⟨g, o, none⟩) xn xc] 82 (0, 0)) ∧ w1.heap.size < wd.heap.size)))
          case first =>
            refine (wpIn_wide (n := 0)).1 ?_
            gi_wp2
            refine ⟨rfl, hR.mono ?_⟩
            rintro e W4 (⟨rfl, j1, j2, j3⟩ | ⟨rfl, j1, j2, j3⟩)
            · have hsame : Same T3 _ W4 := fun k hk hl => j3 k (.inr hk) hl
              have HR4 := Lib.hid (And.intro (HT1.out.same j2 hsame) (And.intro (HT1.out.rested HT2.out hsame) (And.intro ((HT4.out ds HM2.out).keep (fun _ h => h) (fun k hk _ => hsame k hk (HT1.out.lo k hk).2)) (And.intro j1 (And.intro ((HD2.out.trans HS2.out.size (HT5.out _ (fun k hk => HST.out.deps _ _ _ k hk))).trans HT1.out.size (fun k hk hl => j3 k (.inl hk) hl)) (And.intro ((hsame _ HT6.out (HT1.out.lo _ HT6.out).2).trans HT7.out) (Nat.lt_of_lt_of_le (HT1.out.lo _ HT6.out).2 j2)))))))
              clear j1 j2 j3 hsame hR hy
              gi_wp2
              go_meet
              case rel => exact .inr ⟨rfl, HR4⟩
            · have HR4 := Lib.hid (And.intro j1 ((HT4.out ds HM2.out).keep (T' := T3) (W' := W4) (fun _ h => h) (fun k hk _ => j3 k (.inr hk) (HT1.out.lo k hk).2)))
              clear j1 j2 j3 hR hy
              gi_wp2
              go_meet
              case rel => exact .inl ⟨rfl, HR4⟩
          case rest =>
            rcases hcut with ⟨rfl, HR4⟩ | ⟨rfl, HR4⟩
            · go_wp2_with fail
              refine HR4.out.2.leave rfl (fun W' hW' => ⟨⟨_, rfl⟩, .inr ⟨pre ++ [y], ⟨_, by rw [← HP.out, HMF.out, List.append_assoc]; rfl⟩, T3, hJx _ _ _ _ _ HR4.out.1 hW'⟩⟩)
            · obtain ⟨r1, r2, r3, r4, r5, r6, r7⟩ := HR4.out
              have cx0 : wc.cell? ⟨w1.heap.size, 0, none⟩ = some (.int .u64 (ek y)) := by rw [cell_of_row wc _ 0 _ _ _ r6]; rfl
              have cx1 : wc.cell? ⟨w1.heap.size, 1, none⟩ = some (.int .i64 xf) := by rw [cell_of_row wc _ 1 _ _ _ r6]; rfl
              have cx2 : wc.cell? ⟨w1.heap.size, 2, none⟩ = some (.slice (some ⟨g, o, none⟩) xn xc) := by rw [cell_of_row wc _ 2 _ _ _ r6]; rfl
              have H3 := Lib.hid (show v3.ownBlock ≠ some w1.heap.size from fun e => by
                rw [P6.out] at e
                exact absurd (HS2.out.row.blocks _ e).2 (Nat.not_lt.2 P7.out.size))
              clear r1 r2 r3 r4 r5 r6 r7
              go_wp2_with fail
              go_loopg [10] l3.length (fun kq v10 w' => ∃ (T : Blocks) (vv : Value) (lr pas : List Hd) (gp np cp : Nat), v10 = .slice (some ⟨gp, 0, none⟩) np cp ∧ Hid (lr.length ≤ kq) ∧ Hid (HState W T w' vv lr) ∧ Hid (vv.ownBlock = v3.ownBlock) ∧ Hid (HRow w' W.heap.size 82 (.slice (some ⟨gp, 0, none⟩) np cp) pas) ∧ Hid (T gp ∧ wc.heap.size ≤ gp ∧ 0 < pas.length ∧ (lr ++ pas).length ≤ rem.length) ∧ Hid (Heads ek (RestAt ek ev eb w' W.heap.size T) (lr ++ pas) rem) ∧ Hid (∀ z ∈ pas, z.key = ek y) ∧ Hid (Marks ds T w') ∧ Hid (J (pre ++ [y]) T w') ∧ Hid (Same (MDeps bL bK gL its) W w') ∧ Hid (w'.heap[w1.heap.size]? = some (.cells #[.int .u64 (ek y), .int .i64 xf, .slice (some ⟨g, o, none⟩) xn xc] 82 (0, 0))))
              case atStart =>
                obtain ⟨r1, r2, r3, r4, r5, r6, r7⟩ := HR4.out
                have ho : ∀ k, k < wc.heap.size → (wc.alloc (.cells #[.int .u64 (ek y), .int .i64 xf, .slice (some ⟨g, o, none⟩) xn xc] 82)).heap[k]? = wc.heap[k]? := fun k hk => Below.heap_alloc wc _ k hk
                have hs : wc.heap.size ≤ (wc.alloc (.cells #[.int .u64 (ek y), .int .i64 xf, .slice (some ⟨g, o, none⟩) xn xc] 82)).heap.size := by simp
                exact ⟨withNew T3 wc _, v3, l3, [⟨ek y, xf, some ⟨g, o, none⟩, xn, xc⟩], wc.heap.size, 1, 1, rfl, Lib.hid (Nat.le_refl _), Lib.hid (r1.old hs ho), Lib.hid rfl, Lib.hid (one_row wc W.heap.size r1.size ⟨ek y, xf, some ⟨g, o, none⟩, xn, xc⟩), Lib.hid ⟨.inr ⟨Nat.le_refl _, by simp⟩, Nat.le_refl _, Nat.succ_pos _, Nat.le_trans (Nat.le_of_eq (by rw [P4.out.length_eq]; simp)) HS2.out.short⟩,
                  Lib.hid (r2.mono (fun _ _ _ hR => hR.keep _ _ _ (fun _ h => .inl h) (fun g cs hg _ => ho g (r1.lo g hg).2))), Lib.hid (fun z hz => by rw [List.mem_singleton] at hz; subst hz; rfl), Lib.hid (r3.keep (fun _ h => .inl h) (fun k hk _ => ho k (r1.lo k hk).2)), Lib.hid (hJ _ _ _ _ _ r4 (Turned.grow rfl rfl rfl hs (fun k hk _ => ho k hk))), Lib.hid (r5.trans r1.size (fun k _ hl => ho k hl)), Lib.hid ((ho _ r7).trans r6)⟩
              case round =>
                obtain ⟨T4, vv, lr, pas, gp, np, cp, rfl, K1, K2, K3, K4, K5, K6, K7, K8, K9, K10, K11⟩ := hrel
                obtain ⟨Ah, ch2, hvv, hlch⟩ := K2.out.row.slice
                subst hvv
                have hbx2 := K2.out.box
                have ch3 : wr.cell? ⟨W.heap.size, 0, none⟩ = some (.slice Ah lr.length ch2) := by rw [cell_of_row wr _ 0 _ _ _ hbx2]; rfl
                have cx3 : wr.cell? ⟨w1.heap.size, 0, none⟩ = some (.int .u64 (ek y)) := by rw [cell_of_row wr _ 0 _ _ _ K11.out]; rfl
                clear hbx2 hlch cx0 cx1 cx2 ch
                go_upto_region 15 with (fail)
                go_cut [66] from 53 to 70 (fun v66 wd => ∃ b : Bool, v66 = .bool b ∧ Hid (b = true → 0 < lr.length ∧ (at_ lr 0).key = ek y) ∧ Hid (b = false → 0 < lr.length → (at_ lr 0).key ≠ ek y) ∧ Hid (∃ n, wd = wr.drewN n))
                case first =>
                  by_cases hl0 : lr.length = 0
                  · have hd3 : decide ((lr.length : Int) > 0) = false := decide_eq_false (by rw [hl0]; decide)
                    have hd4 : decide (0 < lr.length) = false := decide_eq_false (by rw [hl0]; exact Nat.lt_irrefl 0)
                    have HL0 := Lib.hid hl0
                    clear hl0
                    go_quiet (fail)
                    go_wp2_with (fail)
                    go_meet
                    case rel => exact ⟨false, rfl, Lib.hid (fun h => nomatch h), Lib.hid (fun _ h => absurd h (by rw [HL0.out]; exact Nat.lt_irrefl 0)), Lib.hid ⟨_, rfl⟩⟩
                  · have hl1 : 0 < lr.length := Nat.pos_of_ne_zero hl0
                    obtain ⟨g4, cap4, cur4, e4, _⟩ := K2.out.row.form hl1
                    injection e4 with e4 _ e5
                    subst e4 e5
                    obtain ⟨k0, _, _⟩ := K2.out.row.cell 0 hl1
                    rw [Nat.zero_mul] at k0
                    have hd3 : decide ((lr.length : Int) > 0) = true := decide_eq_true (Int.ofNat_lt.2 hl1)
                    have hd4 : decide (0 < lr.length) = true := decide_eq_true hl1
                    have hb5 : (0 : Int) < (lr.length : Int) := Int.ofNat_lt.2 hl1
                    have HB1 : Hid (((at_ lr 0).key == ek y) = true → (at_ lr 0).key = ek y) := Lib.hid (fun h => beq_iff_eq.1 h)
                    have HB2 : Hid (((at_ lr 0).key == ek y) = false → (at_ lr 0).key ≠ ek y) := Lib.hid (fun h => beq_eq_false_iff_ne.1 h)
                    generalize hbb : ((at_ lr 0).key == ek y) = bb at HB1 HB2
                    go_quiet (fail)
                    go_wp2_with (fail)
                    go_meet
                    case rel => exact ⟨bb, rfl, Lib.hid (fun h => ⟨hl1, HB1.out h⟩), Lib.hid (fun h _ => HB2.out h), Lib.hid ⟨_, rfl⟩⟩
                case rest =>
                  obtain ⟨b, rfl, G1, G2, G3⟩ := hcut
                  obtain ⟨n15, rfl⟩ := G3.out
                  obtain ⟨hnp, hpc, hpm⟩ := K4.out.cap
                  subst hnp
                  have KX2 : Hid (HState W T4 (wr.drewN n15) (.slice Ah lr.length ch2) lr) := Lib.hid (K2.out.same (Nat.le_refl _) (fun _ _ _ => rfl))
                  have KX4 : Hid (HRow (wr.drewN n15) W.heap.size 82 (.slice (some ⟨gp, 0, none⟩) pas.length cp) pas) := Lib.hid (K4.out.keep (fun _ _ => rfl))
                  have KX6 : Hid (Heads ek (RestAt ek ev eb (wr.drewN n15) W.heap.size T4) (lr ++ pas) rem) := Lib.hid (K6.out.mono (fun _ _ _ hR => hR.keep _ _ _ (fun _ h => h) (fun _ _ _ _ => rfl)))
                  have KX8 : Hid (Marks ds T4 (wr.drewN n15)) := Lib.hid (K8.out.keep (fun _ h => h) (fun _ _ _ => rfl))
                  have KX9 : Hid (J (pre ++ [y]) T4 (wr.drewN n15)) := Lib.hid (hJ _ _ _ _ _ K9.out (Turned.drewN _ _ _))
                  have KX10 : Hid (Same (MDeps bL bK gL its) W (wr.drewN n15)) := Lib.hid (K10.out.trans K2.out.size (fun _ _ _ => rfl))
                  have KX11 : Hid ((wr.drewN n15).heap[w1.heap.size]? = some (.cells #[.int .u64 (ek y), .int .i64 xf, .slice (some ⟨g, o, none⟩) xn xc] 82 (0, 0))) := Lib.hid K11.out
                  have HPM := Lib.hid hpm
                  have HPC := Lib.hid hpc
                  have HNE : Hid ((Value.slice Ah lr.length ch2).ownBlock ≠ some gp) := Lib.hid (fun e => by
                    rw [K3.out] at e
                    exact absurd (HR4.out.1.row.blocks _ e).2 (Nat.not_lt.2 K5.out.2.1))
                  clear hpm hpc ch3 cx3
                  cases b with
                  | true =>
                    obtain ⟨hl1, hk1⟩ := G1.out rfl
                    have HK1 := Lib.hid hk1
                    have HL9 := Lib.hid hl1
                    have HLF2 : Hid ((lr.length + 1) * 40 ≤ 140737488355328) := Lib.hid (fits_l K5.out.2.2.2 HRL.out hlen)
                    have HLP2 : Hid ((pas.length + 1) * 40 ≤ 140737488355328) := Lib.hid (fits_r K5.out.2.2.2 HRL.out hlen)
                    clear hl1 hk1
                    obtain ⟨i82, hi82, hz820, hz821, hz822⟩ := info_parts info82
                    have hx3 : ∀ x2 : Hd, ∀ u ∈ [Value.int .u64 x2.key, .int .i64 x2.frm, .slice x2.ad x2.len x2.cap], u.oneCell' = true := by
                      intro x2 u hu
                      simp only [List.mem_cons, List.not_mem_nil, or_false] at hu
                      rcases hu with hu | hu | hu <;> subst hu <;> rfl
                    have HX3 := Lib.hid hx3
                    clear hx3
                    go_wp2_with (first
                      | (go_at_call 46; go_must (refine (take_calls lr KX2.out.heap HL9.out W.heap.size W.heap.size _ (wr.drewN n15) KX2.out.box KX2.out.row KX2.out.size HLF2.out).mono ?_; rintro e w2 ⟨x2, rfl, v4, l4, p1, p2, p3, p4, p5, p6, p7⟩; have KQ : Hid (HRow w2 W.heap.size 82 (.slice (some ⟨gp, 0, none⟩) pas.length cp) pas) := Lib.hid (KX4.out.keep (fun k hk => p7.same k (KX4.out.blocks k hk).2 (fun e => by simp only [Value.ownBlock, Option.some.injEq] at hk; subst hk; exact e.elim (fun e => sep_types KX4.out KX2.out.box e) HNE.out))); have R1 := Lib.hid p1; have R2 := Lib.hid p2; have R3 := Lib.hid p3; have R4 := Lib.hid p4; have R5 := Lib.hid p5; have R6 := Lib.hid p6; have R7 := Lib.hid p7; clear p1 p2 p3 p4 p5 p6 p7))
                      | (at_builtin; go_must (refine wpList_append_own_at _ rfl (.tmp 67) (.tmp 69) 77 rfl W.heap.size 82 i82 _ 3 40 Try.underlying77 hi82 hz820 hz821 hz822 rfl (by decide) (.slice (some ⟨gp, 0, none⟩) pas.length cp) pas.length (rowCells pas) (by rfl) (KQ.out.1.alloc _) ⟨w2.heap.size, 0, none⟩ 1 1 [.int .u64 x2.key, .int .i64 x2.frm, .slice x2.ad x2.len x2.cap] (by rfl) (by rfl) (World.news_of_block (cs := #[.int .u64 x2.key, .int .i64 x2.frm, .slice x2.ad x2.len x2.cap]) (t := 82) (fr := (0, 0)) (World.alloc_heap_new w2 _)) (HX3.out x2) (max40 HLP2.out) HLP2.out (by rw [World.size_alloc]; exact Nat.le_succ_of_le (Nat.le_trans KX2.out.size R7.out.size)) ?_; intro v5 w3 hown1 hgrow hnil hat; have HOWN1 := Lib.hid hown1; have HGR := Lib.hid hgrow; have HAT := Lib.hid hat; clear hown1 hgrow hnil hat)))
                    obtain ⟨T5, gp5, cp5, e5, s1, s2, s3, s4, s5, s6, s7, s8, s9⟩ := pass_round KX2.out KX4.out K5.out.1 HNE.out KX6.out R1.out R2.out R3.out R4.out R6.out R7.out HOWN1.out HGR.out HAT.out
                    subst e5
                    have hkx := taken_key KX2.out.heap HL9.out R4.out R5.out
                    have M1 := len_less R4.out K1.out
                    have M2 := Lib.hid (R6.out.trans K3.out)
                    have M3 := Lib.hid (And.intro s3 (And.intro (Nat.le_trans K5.out.2.1 s4) (And.intro (show 0 < (pas ++ [x2]).length by simp) (len_pass R4.out K5.out.2.2.2))))
                    have M4 : Hid (∀ z ∈ pas ++ [x2], z.key = ek y) := Lib.hid (fun z hz => by
                      rcases List.mem_append.1 hz with hz | hz
                      · exact K7.out z hz
                      · rw [List.mem_singleton] at hz; rw [hz, hkx]; exact HK1.out)
                    have M5 := Lib.hid (s7 _ KX8.out)
                    have M6 := Lib.hid (hJ _ _ _ _ _ KX9.out s6)
                    have M7 := Lib.hid (KX10.out.trans KX2.out.size (s8 _ (fun k hk => HST.out.deps _ _ _ k hk)))
                    have M8 := Lib.hid ((s9 w1.heap.size (Array.getElem?_eq_some_iff.1 KX11.out).1 (fun e => absurd (Nat.lt_of_lt_of_le (HS2.out.lo _ HS2.out.th).2 P7.out.size) (by rw [e]; exact Nat.lt_irrefl _)) (fun e => H3.out (by rw [← K3.out]; exact e)) (fun e => absurd (Nat.lt_of_lt_of_le HR4.out.2.2.2.2.2.2 K5.out.2.1) (by rw [e]; exact Nat.lt_irrefl _))).trans KX11.out)
                    have S1 := Lib.hid s1
                    have S2 := Lib.hid s2
                    have S5 := Lib.hid s5
                    clear s1 s2 s3 s4 s5 s6 s7 s8 s9 hkx
                    go_roundg l4.length
                    case measure => exact M1
                    case rel => exact ⟨T5, v4, l4, pas ++ [x2], gp5, pas.length + 1, cp5, rfl, Lib.hid (Nat.le_refl _), S1, M2, S2, M3, S5, M4, M5, M6, M7, M8⟩
                  | false =>
                    have HNM := no_more KX2.out.heap KX6.out HMF.out (G2.out rfl)
                    have HMID := Lib.hid (Mid.start KX6.out K7.out HNM)
                    clear HNM
                    go_wp2_with (fail)
                    go_loopg [73] pas.length (fun kq v73 w' => ∃ (T : Blocks) (vv : Value) (lr' : List Hd) (j : Nat) (rem' : List (List α)), v73 = .int .i64 (j : Int) ∧ Hid (j ≤ pas.length ∧ pas.length ≤ kq + j) ∧ Hid (HState W T w' vv lr') ∧ Hid (HRow w' W.heap.size 82 (.slice (some ⟨gp, 0, none⟩) pas.length cp) pas) ∧ Hid (T gp ∧ vv.ownBlock ≠ some gp ∧ lr'.length + (pas.length - j) ≤ rem.length) ∧ Hid (Mid ek (RestAt ek ev eb w' W.heap.size T) (ek y) rem lr' (pas.drop j) rem') ∧ Hid (Marks ds T w') ∧ Hid (J (pre ++ [y]) T w') ∧ Hid (Same (MDeps bL bK gL its) W w'))
                    case atStart => exact ⟨T4, _, lr, 0, rem, rfl, Lib.hid ⟨Nat.zero_le _, Nat.le_refl _⟩, KX2, KX4, Lib.hid ⟨K5.out.1, HNE.out, len_start K5.out.2.2.2⟩, HMID, KX8, KX9, KX10⟩
                    case round =>
                      obtain ⟨T5, v5, l5, j, rem5, rfl, L1, L2, L3, L4, L5, L6, L7, L8⟩ := hrel
                      obtain ⟨Ah5, ch5, hvv5, hlc5⟩ := L2.out.row.slice
                      subst hvv5
                      clear hlc5
                      by_cases hjl : j < pas.length
                      · have hd5 : decide ((j : Int) < (pas.length : Int)) = true := decide_eq_true (Int.ofNat_lt.2 hjl)
                        have hd6 : decide (j < pas.length) = true := decide_eq_true hjl
                        have hb7 : (0 : Int) ≤ (j : Int) := Int.natCast_nonneg j
                        have hb8 : (j : Int) < (pas.length : Int) := Int.ofNat_lt.2 hjl
                        obtain ⟨c0, c1, c2⟩ := L3.out.cell j hjl
                        have hmd := L5.out
                        rw [drop_at hjl] at hmd
                        obtain ⟨pj, hpj⟩ : ∃ p, at_ pas j = p := ⟨_, rfl⟩
                        rw [hpj] at c0 c1 c2 hmd
                        obtain ⟨pk, pf, pa, pn, pc⟩ := pj
                        obtain ⟨i5, z, zs, m1, m2, ⟨g5, o5, cs5, r1, r2, r3, r4, r5, r6, r7, r8⟩, m4, m5⟩ := hmd.next
                        simp only [] at r1 r2 r3 r4 c0 c1 c2 m1
                        subst r1 m1
                        rw [List.length_cons] at r2
                        subst r2
                        have HMD := Lib.hid hmd
                        have HM4 := Lib.hid m4
                        have HM5 := Lib.hid m5
                        have HR8 := Lib.hid (And.intro r3 (And.intro r4 (And.intro r5 (And.intro r6 (And.intro r7 r8)))))
                        have HJL := Lib.hid hjl
                        have HM2 := Lib.hid m2
                        clear hmd m4 m5 r3 r4 r5 r6 r7 r8 hpj hjl m2
                        obtain ⟨j2, hj2⟩ : ∃ j2, j + 1 = j2 := ⟨_, rfl⟩
                        have hj3 : (j : Int) + 1 = (j2 : Int) := by rw [← hj2]; rfl
                        have HJ3 := Lib.hid (loop_nums hj2 HJL.out L1.out.2)
                        have HJ4 := Lib.hid (left_more L4.out.2.2 hj2 HJL.out)
                        have hw3 : IntKind.i64.wrap (j2 : Int) = (j2 : Int) := IntWalk.i64_in _ (loop_fits (fits_r K5.out.2.2.2 HRL.out hlen) HJ3.out.1)
                        rw [hj2] at HM4 HM5
                        clear hj2
                        cases zs with
                        | nil =>
                          have hz1 : ¬ 0 < ([] : List α).length := Nat.lt_irrefl 0
                          go_wp2_with (fail)
                          all_goals
                            obtain ⟨T6, q1, q2, q3, q4, q5, q6, q7⟩ := gone_round L2.out L3.out (HM4.out (by trivial)) _
                            have Q := Lib.hid (And.intro q1 (And.intro q2 (And.intro (q3 _ L4.out.1) (And.intro q4 (And.intro (q6 _ L6.out) (And.intro (hJ _ _ _ _ _ L7.out q5) (L8.out.trans L2.out.size (q7 _))))))))
                            clear q1 q2 q3 q4 q5 q6 q7
                            go_roundg (pas.length - j2)
                            case measure => exact HJ3.out.2.2
                            case rel => exact ⟨T6, _, l5, j2, _, rfl, Lib.hid ⟨HJ3.out.1, HJ3.out.2.1⟩, Lib.hid Q.out.1, Lib.hid Q.out.2.1, Lib.hid ⟨Q.out.2.2.1, L4.out.2.1, HJ4.out.1⟩, Lib.hid Q.out.2.2.2.1, Lib.hid Q.out.2.2.2.2.1, Lib.hid Q.out.2.2.2.2.2.1, Lib.hid Q.out.2.2.2.2.2.2⟩
                        | cons a tl =>
                          have hz1 : 0 < (a :: tl).length := Nat.succ_pos _
                          have hz2 : ¬ pc = 1 := fun e => by
                            have := HR8.out.1
                            rw [e, List.length_cons] at this
                            exact absurd (Nat.le_of_succ_le_succ this) (Nat.not_succ_le_zero _)
                          obtain ⟨n1, n2, n3, n4⟩ := rest_next (i5 := i5) HR8.out
                          have HN := Lib.hid (HM5.out a tl ⟨ek a, i5, some ⟨g5, o5 + 3, none⟩, (a :: tl).length, pc - 1⟩ rfl rfl rfl n1)
                          clear n1
                          go_upto_region 22 with (fail)
                          obtain ⟨q1, q2, q3, q4, q5, q6, q7⟩ := (gone_round L2.out L3.out HN.out (.cells #[.int .u64 pk, .int .i64 (i5 : Int), .slice (some ⟨g5, o5 + 3, none⟩) (tl.length + 1) (pc - 1)] 82)).choose_spec
                          obtain ⟨T6, hT6⟩ : ∃ T6, (gone_round L2.out L3.out HN.out (.cells #[.int .u64 pk, .int .i64 (i5 : Int), .slice (some ⟨g5, o5 + 3, none⟩) (tl.length + 1) (pc - 1)] 82)).choose = T6 := ⟨_, rfl⟩
                          rw [hT6] at q1 q3 q4 q5 q6
                          clear hT6
                          have b12 := World.alloc_heap_new wr (.cells #[.int .u64 pk, .int .i64 (i5 : Int), .slice (some ⟨g5, o5 + 3, none⟩) (tl.length + 1) (pc - 1)] 82)
                          have hg5 : (wr.alloc (.cells #[.int .u64 pk, .int .i64 (i5 : Int), .slice (some ⟨g5, o5 + 3, none⟩) (tl.length + 1) (pc - 1)] 82)).heap[g5]? = wr.heap[g5]? := Below.heap_alloc wr _ _ (Array.getElem?_eq_some_iff.1 HR8.out.2.2.2.2.1).1
                          have nb12 : ¬ (wr.heap.size = W.heap.size ∨ (Value.slice Ah5 l5.length ch5).ownBlock = some wr.heap.size) := fun e => e.elim (fun e => absurd (L2.out.lo _ L2.out.th).2 (by rw [e]; exact Nat.lt_irrefl _)) (fun e => absurd (L2.out.row.blocks _ e).2 (Nat.lt_irrefl _))
                          generalize hX1 : wr.alloc (.cells #[.int .u64 pk, .int .i64 (i5 : Int), .slice (some ⟨g5, o5 + 3, none⟩) (tl.length + 1) (pc - 1)] 82) = X1 at q1 q2 q4 q5 q6 q7 b12 hg5 ⊢
                          have d1 : X1.cell? ⟨wr.heap.size, 1, none⟩ = some (.int .i64 (i5 : Int)) := by rw [cell_of_row X1 _ 1 _ _ _ b12]; rfl
                          have d2 : X1.cell? ⟨wr.heap.size, 2, none⟩ = some (.slice (some ⟨g5, o5 + 3, none⟩) (tl.length + 1) (pc - 1)) := by rw [cell_of_row X1 _ 2 _ _ _ b12]; rfl
                          have y3 : X1.cell? ⟨g5, o5 + 3, none⟩ = some (.int .u64 (ek a)) := (World.cell?_of_block hg5).trans n2
                          have y4 : X1.cell? ⟨g5, o5 + 3 + 1, none⟩ = some (.int .u64 (ev a)) := (World.cell?_of_block hg5).trans n3
                          have y5 : X1.cell? ⟨g5, o5 + 3 + 2, none⟩ = some (.bool (eb a)) := (World.cell?_of_block hg5).trans n4
                          have hkc := (HST.out.keep _ _ _ q1.size (L8.out.trans L2.out.size (q7 _))).key
                          have ck : X1.cell? ⟨bK, 0, none⟩ = some (.func (.func kf) #[] #[]) := by rw [cell_of_row X1 _ 0 _ _ _ hkc]; rfl
                          have nbK : ¬ (bK = W.heap.size ∨ (Value.slice Ah5 l5.length ch5).ownBlock = some bK) := q1.apart hkc (fun _ e => (by cases e)) (fun _ e => (by cases e))
                          have nbg : ¬ (g5 = W.heap.size ∨ (Value.slice Ah5 l5.length ch5).ownBlock = some g5) := L2.out.apart HR8.out.2.2.2.2.1 (fun _ e => (by cases e)) (fun _ e => (by cases e))
                          have Q1 := Lib.hid q1
                          have Q2 := Lib.hid q2
                          have Q3 := Lib.hid q3
                          have Q4 := Lib.hid q4
                          have Q6 := Lib.hid (q6 _ L6.out)
                          have Q5 := Lib.hid (hJ _ _ _ _ _ L7.out q5)
                          have Q7 := Lib.hid (L8.out.trans L2.out.size (q7 (MDeps bL bK gL its)))
                          have HLF5 : Hid ((l5.length + 1) * 40 ≤ 140737488355328) := Lib.hid (fits_one HJ4.out.2 HRL.out hlen)
                          have hb9 : (0 : Int) < ((tl.length + 1 : Nat) : Int) := Int.ofNat_lt.2 (Nat.succ_pos _)
                          clear q1 q2 q3 q4 q5 q6 q7 b12 hg5 hkc n2 n3 n4 hX1 c0 c1 c2
                          go_region_held3 (fun w' => w'.cell? ⟨bK, 0, none⟩ = some (.func (.func kf) #[] #[]) ∧ w'.cell? ⟨wr.heap.size, 1, none⟩ = some (.int .i64 (i5 : Int)) ∧ w'.cell? ⟨wr.heap.size, 2, none⟩ = some (.slice (some ⟨g5, o5 + 3, none⟩) (tl.length + 1) (pc - 1)) ∧ w'.cell? ⟨g5, o5 + 3, none⟩ = some (.int .u64 (ek a)) ∧ w'.cell? ⟨g5, o5 + 3 + 1, none⟩ = some (.int .u64 (ev a)) ∧ w'.cell? ⟨g5, o5 + 3 + 2, none⟩ = some (.bool (eb a)))
                            (first
                              | go_keep
                              | (go_split_ands
                                 refine ⟨?_, ?_, ?_, ?_, ?_, ?_⟩ <;> (refine (hbl.cell (World.block_lt_of_cell? _ _ (by assumption))).trans ?_; assumption))
                              | (go_split_ands
                                 refine ⟨?_, ?_, ?_, ?_, ?_, ?_⟩ <;> (refine (World.cell?_of_block (p6.same _ (World.block_lt_of_cell? _ _ (by assumption)) (by assumption))).trans ?_; assumption)))
                            (first
                              | (refine (hkey a _).mono ?_; rintro e wk ⟨rfl, hbl⟩)
                              | (go_at_call 45; refine (put_calls ⟨ek a, i5, some ⟨g5, o5 + 3, none⟩, tl.length + 1, pc - 1⟩ l5 Q1.out.heap W.heap.size W.heap.size (.slice Ah5 l5.length ch5) _ ((hbl.block _ (Q1.out.lo _ Q1.out.th).2).trans Q1.out.box) (HRow.turn (w := X1.drew) Q1.out.row.drew (Turns.of_below (fun _ => False) hbl) (fun _ _ h => h)) (Nat.le_trans Q1.out.size hbl.size) HLF5.out).mono ?_; rintro e wp ⟨rfl, v', l', p1, p2, p3, p4, p5, p6⟩))
                          go_wp2_with (fail)
                          obtain ⟨T7, u1, u2, u3, u4, u5', u6', u7', u8'⟩ := more_round Q1.out Q2.out L4.out.2.1 Q4.out ((Below.refl X1.heap.size X1).drew.trans hbl) p6 p1 p2 p3 p4 p5
                          have U := Lib.hid (And.intro u1 (And.intro u2 (And.intro (And.intro (u3 _ (Q3.out _ L4.out.1)) (And.intro u4 (len_left p4 HJ4.out.2))) (And.intro u5' (And.intro (u7' _ Q6.out) (And.intro (hJ _ _ _ _ _ Q5.out u6') (Q7.out.trans Q1.out.size (u8' _ (fun k hk => HST.out.deps _ _ _ k hk)))))))))
                          clear u1 u2 u3 u4 u5' u6' u7' u8'
                          go_roundg (pas.length - j2)
                          case measure => exact HJ3.out.2.2
                          case rel => exact ⟨T7, _, l', j2, _, rfl, Lib.hid ⟨HJ3.out.1, HJ3.out.2.1⟩, Lib.hid U.out.1, Lib.hid U.out.2.1, Lib.hid U.out.2.2.1, Lib.hid U.out.2.2.2.1, Lib.hid U.out.2.2.2.2.1, Lib.hid U.out.2.2.2.2.2.1, Lib.hid U.out.2.2.2.2.2.2⟩
                      · have hd5 : decide ((j : Int) < (pas.length : Int)) = false := decide_eq_false (fun h => hjl (Int.ofNat_lt.1 h))
                        have hd6 : decide (j < pas.length) = false := decide_eq_false hjl
                        obtain ⟨e1, e2, e3, e4⟩ := full_done hjl L5.out L4.out.2.2
                        have E := Lib.hid (And.intro e1 (And.intro e2 (And.intro e3 e4)))
                        clear e1 e2 e3 e4 hjl
                        go_wp2_with (fail)
                        go_roundg f
                        case measure => exact HF.out.2
                        case rel => exact ⟨T5, _, l5, pre ++ [y], rem5, f, Lib.hid ⟨by rw [E.out.1]; exact HTF.out, Nat.le_refl _⟩, Lib.hid (by rw [E.out.1, ← HP.out, HMF.out, List.append_assoc]; rfl), Lib.hid (E.out.2.2.2.trans HRL.out), L6, Lib.hid (L2.out.full E.out.2.1 E.out.2.2.1), L7, L8⟩
end
end Go.Proofs.Ytojbfjfjhfnopaa.MergeE
end

section
/- listed, slices.Clone, merge.Merge at entries: what they make. -/
namespace Go.Proofs.Ytojbfjfjhfnopaa.MergeE
open Go.RowKit Go.Shelf RangeD SeqE MergeL HeapL HeapE
attribute [local go_sem] Oper.semAt_some
set_option linter.unusedVariables false
theorem Below.cell1 {w w1 : World} {g j : Nat} {u : Value} (hb : Below w.heap.size w w1) (h : w.cell? ⟨g, j, none⟩ = some u) : w1.cell? ⟨g, j, none⟩ = some u := (hb.cell (World.block_lt_of_cell? _ _ h)).trans h
theorem info36 : (Try.prog.info? 36).map (fun i => (i.zero, i.size, i.bytes)) = some (some .nilFunc, 1, 8) := by kernel_rfl
theorem goes44 : ∀ args w, (callFunc 44 args).run Try.prog w = .ok (.enter 44 args) w := by
  intro args w
  have hf := Try.func44
  simp [callFunc, go_sem, hf, Try.f44]
set_option maxRecDepth 100000 in
theorem listed_calls (A : Option Addr) (n c : Nat) (w : World) : Calls Try.prog 16 #[.slice A n c] w fun e w' => e = .returned (.func (.func 42) #[] #[.pointer (some ⟨w.heap.size, 0, none⟩)]) ∧ Below w.heap.size w w' ∧ w'.heap[w.heap.size]? = some (.cells #[.slice A n c] 25 (0, 0)) := by
  go_enter Try.func16, Try.ntmps16
  go_wp2
  refine bodyPost_ret (results_tmp rfl _ _ _) rfl ?_
  exact ⟨rfl, (Below.refl _ w).alloc (Nat.le_refl _) _, World.alloc_heap_new w _⟩
set_option maxRecDepth 100000 in
theorem clone_calls (g c : Nat) (vs : List Value) (w : World) (hc : ∀ j u, vs[j]? = some u → w.cell? ⟨g, j, none⟩ = some u) (hone : ∀ u ∈ vs, u.oneCell' = true) (hl : vs.length ≤ 3518437208882) :
    Calls Try.prog 43 #[.slice (some ⟨g, 0, none⟩) vs.length c] w fun e w' => ∃ A' c', e = .returned (.slice A' vs.length c') ∧ Below w.heap.size w w' ∧ ∃ g', w.heap.size ≤ g' ∧ g' < w'.heap.size ∧ (0 < vs.length → A' = some ⟨g', 0, none⟩) ∧ ∀ j u, vs[j]? = some u → w'.cell? ⟨g', j, none⟩ = some u := by
  obtain ⟨i0, hi0, hz0, hz1, hz2⟩ := info_parts info36
  have HC := Lib.hid hc
  have HO := Lib.hid hone
  have HL := Lib.hid hl
  clear hc hone hl
  have hnil : ∀ W, (binOp .eql 34 (.slice (some ⟨g, 0, none⟩) vs.length c) (.slice none 0 0)).run Try.prog W = .ok (.bool false) W := fun W => by kernel_rfl
  go_enter Try.func43, Try.ntmps43
  go_wp2_with (first | (at_builtin; go_must (refine wpList_append_own_at _ rfl (.tmp 5) (.tmp 6) 34 rfl w.heap.size 36 i0 _ 1 8 Try.underlying34 hi0 hz0 hz1 hz2 rfl (by decide) (.slice (some ⟨w.heap.size, 0, none⟩) 0 0) 0 [] (by rfl) (World.ownsRow_lit (base := w.heap.size) (e := 36) (size := 1) w #[] 0 (Nat.le_refl _) (by unfold maxLen; omega) rfl) ⟨g, 0, none⟩ vs.length c vs (by rfl) (by simp) (fun j u hj => by rw [show (⟨g, 0, none⟩ : Addr).add j = ⟨g, j, none⟩ from by unfold Addr.add; split <;> simp_all]; exact Below.cell1 ((Below.refl _ w).alloc (Nat.le_refl _) _) (HC.out j u hj)) HO.out (by have := HL.out; unfold maxLen; omega) (by have := HL.out; omega) (by simp) ?_; intro v5 w3 hown1 hgrow hnil hat; have HOWN1 := Lib.hid hown1; have HGR := Lib.hid hgrow; have HAT := Lib.hid hat; clear hown1 hgrow hnil hat)))
  refine bodyPost_ret (results_tmp rfl _ _ _) rfl ?_
  have hb : Below w.heap.size w w3 := by
    have h1 := (Below.refl w.heap.size w).alloc (Nat.le_refl _) (.cells #[] 36)
    refine h1.trans ⟨HGR.out.os, HGR.out.tape, HGR.out.output, HGR.out.size, fun k hk => HGR.out.block k (by rw [World.size_alloc]; omega) (fun e => ?_)⟩
    simp only [Value.ownBlock, Option.some.injEq] at e
    omega
  have ho := HOWN1.out
  rw [Nat.zero_add, List.nil_append] at ho
  rcases ho.2 with ⟨e, hn⟩ | ⟨g', cap, cur, e, h1, h2, h3, h4, h5, h6⟩
  · subst e
    refine ⟨none, 0, by rw [hn]; rfl, hb, w.heap.size, Nat.le_refl _, ?_, fun h => ?_, fun j u hj => ?_⟩
    · have := hb.size
      have h2 := HGR.out.size
      rw [World.size_alloc] at h2
      omega
    · rw [hn] at h; simp at h
    · rw [List.eq_nil_of_length_eq_zero hn] at hj; simp at hj
  · subst e
    refine ⟨_, cap, rfl, hb, g', h1, (Array.getElem?_eq_some_iff.1 h2).1, fun _ => rfl, fun j u hj => ?_⟩
    have hlt : j < vs.length := (List.getElem?_eq_some_iff.1 hj).1
    rw [World.ownsRow.cellAt ho j (by omega)]
    exact hj
section
variable {α : Type} {ek ev : α → Int} {eb : α → Bool}
theorem ItOk.below {it : It α} {w w1 : World} (h : ItOk ek ev eb it w) (hb : Below w.heap.size w w1) : ItOk ek ev eb it w1 :=
  ⟨h.seq.same hb.size (fun k _ hk => hb.block k hk), h.goes, fun k hk => Nat.lt_of_lt_of_le (h.lt k hk) hb.size, h.len⟩
set_option maxRecDepth 100000 in
theorem merge_calls (kf g c : Nat) (its : List (It α)) (w : World) (hc : ∀ (i : Nat) it, its[i]? = some it → w.cell? ⟨g, i, none⟩ = some (.func (.func it.gf) #[] it.lb)) (hok : ∀ it ∈ its, ItOk ek ev eb it w) (hl : (its.length + 1) * 40 ≤ 140737488355328) :
    Calls Try.prog 17 #[.func (.func kf) #[] #[], .slice (some ⟨g, 0, none⟩) its.length c] w fun e w' => ∃ bL bK A gL cap, e = .returned (.func (.func 44) #[] #[.pointer (some ⟨bL, 0, none⟩), .pointer (some ⟨bK, 0, none⟩)]) ∧ Below w.heap.size w w' ∧ MLaid ek ev eb w' bL bK A gL cap kf its ∧ w.heap.size ≤ bL ∧ w.heap.size ≤ bK ∧ w.heap.size ≤ gL := by
  obtain ⟨vs, hvs⟩ : ∃ vs, its.map (fun it => Value.func (.func it.gf) #[] it.lb) = vs := ⟨_, rfl⟩
  have hlen : vs.length = its.length := by rw [← hvs, List.length_map]
  have hv : ∀ j u, vs[j]? = some u → ∃ it : It α, its[j]? = some it ∧ u = Value.func (.func it.gf) #[] it.lb := fun j u hj => by
    rw [← hvs, List.getElem?_map] at hj
    cases h : its[j]? with
    | none => rw [h] at hj; cases hj
    | some it => rw [h] at hj; injection hj with hj; exact ⟨it, by first | rfl | exact h, hj.symm⟩
  have HV1 : Hid (∀ w1 : World, Below w.heap.size w w1 → ∀ j u, vs[j]? = some u → w1.cell? ⟨g, j, none⟩ = some u) := Lib.hid (fun w1 hb j u hj => by
    obtain ⟨it, h1, rfl⟩ := hv j u hj
    exact Below.cell1 hb (hc j it h1))
  have HV2 : Hid (∀ u ∈ vs, u.oneCell' = true) := Lib.hid (fun u hu => by
    obtain ⟨j, hj, rfl⟩ := List.getElem_of_mem hu
    obtain ⟨it, _, e⟩ := hv j _ (List.getElem?_eq_getElem hj)
    rw [e]
    rfl)
  have HV3 : Hid (vs.length ≤ 3518437208882) := Lib.hid (by omega)
  have HV4 : Hid (∀ (j : Nat) (it : It α), its[j]? = some it → vs[j]? = some (Value.func (.func it.gf) #[] it.lb)) := Lib.hid (fun j it h => by rw [← hvs, List.getElem?_map, h]; rfl)
  have HO := Lib.hid hok
  have HL := Lib.hid hl
  have HLEN := Lib.hid hlen
  rw [← hlen]
  clear hc hok hl hv hvs hlen
  go_enter Try.func17, Try.ntmps17
  go_wp2_with (first | (go_at_call 43; go_must (refine (clone_calls g c vs _ (HV1.out _ ((Below.refl _ w).alloc (Nat.le_refl _) _)) HV2.out HV3.out).mono ?_; rintro e w2 ⟨A', c', rfl, hb, g', q1, q2, q3, q4⟩; have HB := Lib.hid hb; have Q := Lib.hid (And.intro q1 (And.intro q2 (And.intro q3 q4))); clear hb q1 q2 q3 q4)))
  refine bodyPost_ret (results_tmp rfl _ _ _) rfl ?_
  obtain ⟨q1, q2, q3, q4⟩ := Q.out
  have b1 : Below w.heap.size w (w.alloc (.cells #[.func (.func kf) #[] #[]] 39)) := (Below.refl _ w).alloc (Nat.le_refl _) _
  have b2 := HB.out
  have b3 : Below w2.heap.size w2 (w2.alloc (.cells #[.slice A' vs.length c'] 34)) := (Below.refl _ w2).alloc (Nat.le_refl _) _
  have hs2 := b2.size
  rw [World.size_alloc] at hs2 q1
  have b12 : Below w.heap.size w w2 := b1.trans (b2.mono (by rw [World.size_alloc]; omega))
  have b123 : Below w.heap.size w (w2.alloc (.cells #[.slice A' vs.length c'] 34)) := b12.trans (b3.mono (by omega))
  have hk : (w2.alloc (.cells #[.slice A' vs.length c'] 34)).heap[w.heap.size]? = some (.cells #[.func (.func kf) #[] #[]] 39 (0, 0)) := (b3.block _ (by omega)).trans ((b2.block _ (by rw [World.size_alloc]; omega)).trans (World.alloc_heap_new w _))
  refine ⟨w2.heap.size, w.heap.size, A', g', c', rfl, b123, ⟨by rw [← HLEN.out]; exact World.alloc_heap_new w2 _, fun h => q3 (by rw [HLEN.out]; exact h), by rw [World.size_alloc]; omega, fun i it hi => Below.cell1 b3 (q4 i _ (HV4.out i it hi)), hk, fun it hi => (HO.out it hi).below b123, HL.out⟩, by omega, Nat.le_refl _, by omega⟩
/-- What Merge's iterator owes to whoever ranges over it. -/
theorem merge_seq (bL bK : Nat) (A : Option Addr) (gL cap kf : Nat) (its : List (It α))
    (hkf : ∀ args w, (callFunc kf args).run Try.prog w = .ok (.enter kf args) w)
    (hkey : ∀ x w, Calls Try.prog kf #[agg ek ev eb x] w fun e w' => e = .returned (.int .u64 (ek x)) ∧ Below w.heap.size w w')
    (W : World) (hst : MLaid ek ev eb W bL bK A gL cap kf its) :
    SeqD Try.prog 44 #[.pointer (some ⟨bL, 0, none⟩), .pointer (some ⟨bK, 0, none⟩)] (fun x : α => #[agg ek ev eb x]) (MDeps bL bK gL its) (fun ys => ys = mergeL ek (its.map It.xs)) (fun pre => ∃ more, pre ++ more = mergeL ek (its.map It.xs)) (fun pre x => ∃ more, pre ++ [x] ++ more = mergeL ek (its.map It.xs)) W := by
  intro l J Jx W0 hs0 hd0 hJ hJx hY h0
  refine (merge_in ek ev eb l bL bK A gL cap kf its J Jx hJ hJx hkf hkey hY W0 (hst.keep _ _ _ hs0 hd0) h0).mono ?_
  rintro e W' ⟨hv, (⟨T, hj⟩ | ⟨pre, T, hm, hj⟩)⟩
  · exact ⟨hv, .inl ⟨_, T, rfl, hj⟩⟩
  · exact ⟨hv, .inr ⟨pre, T, hm, hj⟩⟩
/-- Merge's iterator as one more that may be gone through. -/
def mergeIt (ek : α → Int) (bL bK gL : Nat) (its : List (It α)) : It α := ⟨44, #[.pointer (some ⟨bL, 0, none⟩), .pointer (some ⟨bK, 0, none⟩)], MDeps bL bK gL its, mergeL ek (its.map It.xs)⟩
theorem mergeIt_ok {bL bK : Nat} {A : Option Addr} {gL cap kf : Nat} {its : List (It α)}
    (hkf : ∀ args w, (callFunc kf args).run Try.prog w = .ok (.enter kf args) w)
    (hkey : ∀ x w, Calls Try.prog kf #[agg ek ev eb x] w fun e w' => e = .returned (.int .u64 (ek x)) ∧ Below w.heap.size w w')
    (W : World) (hst : MLaid ek ev eb W bL bK A gL cap kf its) (hlen : ((mergeL ek (its.map It.xs)).length + 1) * 24 ≤ 140737488355328) : ItOk ek ev eb (mergeIt ek bL bK gL its) W :=
  ⟨merge_seq bL bK A gL cap kf its hkf hkey W hst, goes44, fun k hk => hst.deps _ _ _ k hk, hlen⟩
end
end Go.Proofs.Ytojbfjfjhfnopaa.MergeE
end

section
/- slices.AppendSeq, slices.Collect at entries. -/
namespace Go.Proofs.Ytojbfjfjhfnopaa.MergeE
open Go.RowKit Go.Shelf RangeD SeqE MergeL HeapL HeapE
attribute [local go_sem] Oper.semAt_some
set_option linter.unusedVariables false
theorem leave_one {fn : Func} {t : Tmp} (hfn : fn.results = #[.tmp t]) {tmps : Array Value} {R : Ending → World → Prop} {C : Nat} {W : World} (hC : W.heap[C]? = some (.deferred (some []))) (hR : R (.returned (tmps.getD t undef)) (W.putObj C (.deferred none))) : LeavesInM Fence.wide 0 Try.prog fn tmps R [{ target := .collected C, args := #[] }] .returning W :=
  ⟨by simp, .inl ⟨C, _, rfl, run_takeDeferred hC, ⟨_, results_tmp hfn _ _ _, hR⟩⟩⟩
section
variable {α : Type} {ek ev : α → Int} {eb : α → Bool}
set_option maxRecDepth 100000 in
set_option maxHeartbeats 4000000 in
theorem appendSeq_calls (it : It α) (w : World) (hok : ItOk ek ev eb it w) : Calls Try.prog 58 #[.slice none 0 0, .func (.func it.gf) #[] it.lb] w fun e w' => ∃ v, e = .returned v ∧ w'.ownsRow w.heap.size 32 3 v it.xs.length (erow ek ev eb it.xs) ∧ Below w.heap.size w w' := by
  refine (callsIn_wide (n := 0)).1 (callsIn_of_wp_marks Try.func58 rfl trivial (wpIn_wide.2 ?_) rfl)
  simp only [Try.ntmps58, List.size_toArray, List.length_cons, List.length_nil, Nat.reduceAdd, Nat.reduceSub, Array.replicate_succ, Array.replicate_zero, List.push_toArray, List.append_toArray, List.nil_append, List.cons_append]
  go_wp2_with fail
  obtain ⟨i0, hi0, hz0, hz1, hz2⟩ := info_parts info32e
  obtain ⟨X1, hX1⟩ : ∃ X1, w.alloc (.cells #[.slice none 0 0] 25) = X1 := ⟨_, rfl⟩
  have hsz1 : X1.heap.size = w.heap.size + 1 := by rw [← hX1]; simp
  have h71 : X1.heap[w.heap.size]? = some (.cells #[.slice none 0 0] 25 (0, 0)) := by rw [← hX1]; exact World.alloc_heap_new w _
  have hS1 : Same it.D w X1 := by rw [← hX1]; exact fun k _ hk => Below.heap_alloc w _ k hk
  have ha7 : w.heap.size < X1.heap.size := by omega
  rw [hX1]
  refine (wpIn_wide (n := 0)).1 ?_
  refine wpIn_rangeFunc_D (ps := #[7]) (gf := it.gf) (lb := it.lb) rfl hok.goes (hok.seq.same (by omega) hS1) (fun k hk => by have := hok.lt k hk; omega) (fun _ => rfl)
    (GI ek ev eb X1 w.heap.size) (fun _ _ _ _ => False)
    (fun pre x T' a' Y => ∃ b8, a' = { tmps := #[.slice none 0 0, .func (.func it.gf) #[] it.lb, .pointer (some ⟨w.heap.size, 0, none⟩), undef, .slice none 0 0, .pointer (some ⟨b8, 0, none⟩), .func (.func it.gf) #[] it.lb, agg ek ev eb x, undef, undef, undef, undef, undef], defers := [] } ∧ Y.heap[b8]? = some (.cells #[.int .u64 (ek x), .int .u64 (ev x), .bool (eb x)] 32 (0, 0)))
    (GI.abide ha7) (fun _ _ _ _ _ _ h _ => h) (GI.ownT ha7) (fun _ _ _ _ _ _ h _ _ => h) ?hAo (GI.start h71) ?assign ?body ?done ?stop
  case hAo =>
    rintro pre x T' a' _ Y Y' row ⟨b8, h1, h2⟩ hg hr
    refine ⟨b8, h1, (hg.block b8 (Array.getElem?_eq_some_iff.1 h2).1 (fun e => ?_)).trans h2⟩
    obtain ⟨_, o, ho, hc⟩ := hr b8 e.symm
    rw [ho] at h2
    injection h2 with h2
    subst h2
    cases hc
  case stop => exact fun _ _ _ _ _ _ _ h => h.elim
  case assign =>
    intro lr pre x T' Y K hG hnx hK
    gi_wp2
    exact hK _ _ ⟨by simp, fun k o _ hk _ => (Below.heap_alloc _ _ _ (Array.getElem?_eq_some_iff.1 hk).1).trans hk⟩ (fun k _ hk => Below.heap_alloc _ _ _ hk) (GI.abide ha7 _ _ _ _ _ hG (Turned.of_below ((Below.refl _ Y).alloc (Nat.le_refl _) _))) ⟨_, rfl, World.alloc_heap_new Y _⟩
  case body =>
    rintro lr pre x T' a' Y hB hrec hnT hG ⟨b8, rfl, h8⟩ ⟨more, hmore⟩
    obtain ⟨v7, g1, g2, g3⟩ := hG.row
    obtain ⟨A7, c7, rfl⟩ : ∃ A c, v7 = .slice A pre.length c := by
      rcases g2.2 with ⟨e, hn⟩ | ⟨g, cap2, cur, e, _⟩
      · exact ⟨none, 0, by rw [hn]; exact e⟩
      · exact ⟨_, _, e⟩
    have hpl := len_bound hmore hok.len
    have hg7 : ∀ k, (Value.slice A7 pre.length c7).ownBlock = some k → ¬ T' k ∧ X1.heap.size ≤ k := fun k hk => ⟨g3 k hk, (g2.lt k hk).1⟩
    have hx3 : ∀ u ∈ [Value.int .u64 (ek x), .int .u64 (ev x), .bool (eb x)], u.oneCell' = true := by
      intro u hu
      simp only [List.mem_cons, List.not_mem_nil, or_false] at hu
      rcases hu with hu | hu | hu <;> subst hu
      · rfl
      · rfl
      · rfl
    have hYl := hG.lt
    have hYs := hG.size
    have ca : Y.cell? ⟨w.heap.size, 0, none⟩ = some (.slice A7 pre.length c7) := by rw [cell_of_row Y _ 0 _ _ _ g1]; rfl
    have d0 : Y.cell? ⟨b8, 0, none⟩ = some (.int .u64 (ek x)) := by rw [cell_of_row Y _ 0 _ _ _ h8]; rfl
    have d1 : Y.cell? ⟨b8, 1, none⟩ = some (.int .u64 (ev x)) := by rw [cell_of_row Y _ 1 _ _ _ h8]; rfl
    have d2 : Y.cell? ⟨b8, 2, none⟩ = some (.bool (eb x)) := by rw [cell_of_row Y _ 2 _ _ _ h8]; rfl
    have HG := Lib.hid hG
    have HG1 := Lib.hid g1
    have HG2 := Lib.hid g2
    have HG7 := Lib.hid hg7
    have HX3 := Lib.hid hx3
    have HPL := Lib.hid hpl
    have ha7n : (Value.slice A7 pre.length c7).ownBlock ≠ some w.heap.size := fun e => by have := (hg7 _ e).2; omega
    have HA7 := Lib.hid ha7n
    clear hG g1 g2 g3 hg7 hx3 hpl hmore hrec hB hnT ha7n
    gi_wp2_with (first | (gi_at_builtin; go_must (refine wpListIn_append_own_at _ rfl (.tmp 8) (.tmp 10) 25 rfl X1.heap.size 32 i0 _ 3 24 Try.underlying25 hi0 hz0 hz1 hz2 rfl (by decide) (.slice A7 pre.length c7) pre.length (erow ek ev eb pre) (by rfl) (HG2.out.alloc _) ⟨Y.heap.size, 0, none⟩ 1 1 [.int .u64 (ek x), .int .u64 (ev x), .bool (eb x)] (by rfl) (by rfl) (World.news_of_block (cs := #[.int .u64 (ek x), .int .u64 (ev x), .bool (eb x)]) (t := 32) (fr := (0, 0)) (World.alloc_heap_new Y _)) HX3.out (len_max HPL.out) HPL.out (by rw [World.size_alloc]; exact Nat.le_succ_of_le hYs) ?_; intro v' w1 hown1 hgrow hnil hat; obtain ⟨gg, cg, ev', _, _⟩ := hown1.form (Nat.succ_pos _); subst ev'; have hcz : w1.heap[w.heap.size]? = some (.cells #[.slice A7 pre.length c7] 25 (0, 0)) := ((hgrow.block _ (by rw [World.size_alloc]; exact Nat.lt_succ_of_lt hYl) (fun e => HA7.out e.symm)).trans (Below.heap_alloc Y _ _ hYl)).trans HG1.out; have hcz1 : w1.cell? ⟨w.heap.size, 0, none⟩ = some (.slice A7 pre.length c7) := (by rw [cell_of_row w1 _ 0 _ _ _ hcz]; rfl); have hcz2 : w1.frozen? ⟨w.heap.size, 0, none⟩ = false := (by simp [World.frozen?, hcz]); have HOWN1 := Lib.hid hown1; have HGR := Lib.hid hgrow; have HAT := Lib.hid hat; clear hown1 hgrow hnil hat hcz)))
    obtain ⟨q1, q2, q3⟩ := GI.next ha7 HG.out HG1.out HG7.out HOWN1.out HGR.out HAT.out
    exact ⟨q2, q3 it.D (fun k hk => ⟨Nat.lt_trans (hok.lt k hk) ha7, Nat.ne_of_lt (hok.lt k hk)⟩), q1⟩
  case done =>
    intro C xs T' Y hC hxs hG hmark
    obtain rfl := hxs
    obtain ⟨hYs, hold, hTu⟩ := after_gather (T := fun _ => False) (ek := ek) (ev := ev) (eb := eb) hX1 hG
    obtain ⟨v7, g1, g2, g3⟩ := hG.row
    obtain ⟨A7, c7, rfl⟩ : ∃ A c, v7 = .slice A it.xs.length c := by
      rcases g2.2 with ⟨e, hn⟩ | ⟨g, cap2, cur, e, _⟩
      · exact ⟨none, 0, by rw [hn]; exact e⟩
      · exact ⟨_, _, e⟩
    have ca : Y.cell? ⟨w.heap.size, 0, none⟩ = some (.slice A7 it.xs.length c7) := by rw [cell_of_row Y _ 0 _ _ _ g1]; rfl
    have HG2 := Lib.hid g2
    have HM := Lib.hid hmark
    have HTU := Lib.hid hTu
    have HH := Lib.hid hold
    clear g1 g2 g3 hmark hTu hold hG
    dsimp only
    go_wp2_with fail
    have hCn : ∀ k, (Value.slice A7 it.xs.length c7).ownBlock = some k → k ≠ C := fun k hk e => by
      subst e
      rcases HG2.out.2 with ⟨e, _⟩ | ⟨g, cap2, cur, e, _, h2, _⟩
      · rw [e] at hk; simp [Value.ownBlock] at hk
      · rw [e] at hk
        simp only [Value.ownBlock, Option.some.injEq] at hk
        subst hk
        rw [HM.out] at h2
        cases h2
    refine leave_one rfl HM.out ⟨_, rfl, ?_, HTU.out.os, HTU.out.tape, HTU.out.output, ?_, fun k hk => ?_⟩
    · refine ownsRow_keep ⟨HG2.out.1, ?_⟩ (fun k hk => World.putObj_heap_other (hCn k hk))
      rcases HG2.out.2 with h | ⟨g, cap2, cur, e, h1, h2⟩
      · exact .inl h
      · exact .inr ⟨g, cap2, cur, e, by omega, h2⟩
    · simp [World.putObj]; exact hYs
    · exact (World.putObj_heap_other (by omega)).trans (HH.out k hk)
set_option maxRecDepth 100000 in
theorem collect_calls (it : It α) (w : World) (hok : ItOk ek ev eb it w) : Calls Try.prog 40 #[.func (.func it.gf) #[] it.lb] w fun e w' => ∃ v, e = .returned v ∧ w'.ownsRow w.heap.size 32 3 v it.xs.length (erow ek ev eb it.xs) ∧ Below w.heap.size w w' := by
  have HO := Lib.hid hok
  clear hok
  go_enter Try.func40, Try.ntmps40
  go_wp2_with (first | (go_at_call 58; go_must (refine (appendSeq_calls it _ HO.out).mono ?_; rintro e w2 ⟨v, rfl, h1, h2⟩; have H1 := Lib.hid h1; have H2 := Lib.hid h2; clear h1 h2)))
  refine bodyPost_ret (results_tmp rfl _ _ _) rfl ?_
  exact ⟨_, rfl, H1.out, H2.out⟩
end
end Go.Proofs.Ytojbfjfjhfnopaa.MergeE
end

section
/- merge.Entries, in plain words. -/
namespace Go.Proofs.Ytojbfjfjhfnopaa.MergeE
open Go.RowKit Go.Shelf RangeD SeqE MergeL HeapL HeapE
attribute [local go_sem] Oper.semAt_some
set_option linter.unusedVariables false
theorem goes57 : ∀ args w, (callFunc 57 args).run Try.prog w = .ok (.enter 57 args) w := by
  intro args w
  have hf := Try.func57
  simp [callFunc, go_sem, hf, Try.f57]
theorem goes41 : ∀ args w, (callFunc 41 args).run Try.prog w = .ok (.enter 41 args) w := by
  intro args w
  have hf := Try.func41
  simp [callFunc, go_sem, hf, Try.f41]
theorem make34 (n : Nat) (hn : n ≤ 3518437208882) (W : World) : (Instr.makeSlice 34 (.int .i64 (n : Int)) (.int .i64 (n : Int))).run Try.prog W = .ok (.slice (some ⟨W.heap.size, 0, none⟩) n n) (W.alloc (.cells (madeCells #[.nilFunc] n) 36)) := by
  obtain ⟨i0, hi0, hz0, hz1, hz2⟩ := info_parts info36
  have h := run_make (P := Try.prog) W 34 36 i0 .nilFunc Try.underlying34 hi0 hz0 .i64 .i64 (n : Int) (n : Int) (by omega) (by omega) (by rw [hz2]; omega) (by omega)
  rw [hz1] at h
  simpa [Value.cells] using h
set_option maxRecDepth 100000 in
theorem values_calls (A : Option Addr) (n c : Nat) (w : World) : Calls Try.prog 39 #[.slice A n c] w fun e w' => e = .returned (.func (.func 57) #[] #[.pointer (some ⟨w.heap.size, 0, none⟩)]) ∧ Below w.heap.size w w' ∧ w'.heap[w.heap.size]? = some (.cells #[.slice A n c] 25 (0, 0)) := by
  go_enter Try.func39, Try.ntmps39
  go_wp2
  refine bodyPost_ret (results_tmp rfl _ _ _) rfl ?_
  exact ⟨rfl, (Below.refl _ w).alloc (Nat.le_refl _) _, World.alloc_heap_new w _⟩
section
variable {α : Type} {ek ev : α → Int} {eb : α → Bool}
set_option maxRecDepth 100000 in
theorem key41_calls (x : α) (w : World) : Calls Try.prog 41 #[agg ek ev eb x] w fun e w' => e = .returned (.int .u64 (ek x)) ∧ Below w.heap.size w w' := by
  go_enter Try.func41, Try.ntmps41
  have c0 : (w.alloc (.cells #[.int .u64 (ek x), .int .u64 (ev x), .bool (eb x)] 32)).cell? ⟨w.heap.size, 0, none⟩ = some (.int .u64 (ek x)) := by rw [cell_of_row _ _ 0 _ _ _ (World.alloc_heap_new w _)]; rfl
  go_wp2
  refine bodyPost_ret (results_tmp rfl _ _ _) rfl ?_
  exact ⟨rfl, (Below.refl _ w).alloc (Nat.le_refl _) _⟩
theorem ItOk.keep {it : It α} {w w1 : World} (h : ItOk ek ev eb it w) (hs : w.heap.size ≤ w1.heap.size) (hk : Same it.D w w1) : ItOk ek ev eb it w1 :=
  ⟨h.seq.same hs hk, h.goes, fun k hk => Nat.lt_of_lt_of_le (h.lt k hk) hs, h.len⟩
/-- The iterators of the first i lists lie in the row at gM. -/
structure EL (ek ev : α → Int) (eb : α → Bool) (w : World) (gM n : Nat) (xss : List (List α)) (i : Nat) (w' : World) : Prop where
  below : Below w.heap.size w w'
  lo : w.heap.size ≤ gM
  its : ∃ (its : List (It α)) (cur : Array Value), its.map It.xs = xss.take i ∧ w'.heap[gM]? = some (.cells cur 36 (0, 0)) ∧ cur.size = n ∧ ∀ (k : Nat) (it : It α), its[k]? = some it → cur[k]? = some (Value.func (.func it.gf) #[] it.lb) ∧ ItOk ek ev eb it w' ∧ ∀ j, it.D j → j ≠ gM
theorem EL.start {w : World} {n : Nat} {xss : List (List α)} (o : Array Value) (ho : o.size = n) : EL ek ev eb w w.heap.size n xss 0 (w.alloc (.cells o 36)) :=
  ⟨(Below.refl _ w).alloc (Nat.le_refl _) _, Nat.le_refl _, [], o, rfl, World.alloc_heap_new w _, ho, fun k it h => by simp at h⟩
theorem EL.cell {w w' : World} {gM n : Nat} {xss : List (List α)} {i : Nat} (h : EL ek ev eb w gM n xss i w') (j : Nat) (hj : j < n) : (∃ u, w'.cell? ⟨gM, j, none⟩ = some u) ∧ w'.frozen? ⟨gM, j, none⟩ = false ∧ gM < w'.heap.size := by
  obtain ⟨its, cur, h1, h2, h3, h4⟩ := h.its
  refine ⟨⟨cur[j]'(by omega), ?_⟩, by simp [World.frozen?, h2], (Array.getElem?_eq_some_iff.1 h2).1⟩
  rw [cell_of_row w' _ j _ _ _ h2, Array.getElem?_eq_getElem (by omega)]
theorem EL.next {w wr w1 : World} {gM n : Nat} {xss : List (List α)} {i : Nat} {A : Option Addr} {c g o : Nat} {xs : List α} (h : EL ek ev eb w gM n xss i wr) (hi : xss[i]? = some xs) (hin : i < n)
    (h2 : 0 < xs.length → A = some ⟨g, o, none⟩) (h3 : CellsAt ek ev eb w g o xs) (h4 : g < w.heap.size) (hx : (xs.length + 1) * 24 ≤ 140737488355328)
    (hb : Below wr.heap.size wr w1) (hn : w1.heap[wr.heap.size]? = some (.cells #[.slice A xs.length c] 25 (0, 0))) :
    EL ek ev eb w gM n xss (i + 1) (w1.setCell ⟨gM, i, none⟩ (.func (.func 57) #[] #[.pointer (some ⟨wr.heap.size, 0, none⟩)])) := by
  obtain ⟨its, cur, q1, q2, q3, q4⟩ := h.its
  have hgM : gM < wr.heap.size := (Array.getElem?_eq_some_iff.1 q2).1
  have hlo := h.lo
  have hsz : ∀ v, (w1.setCell ⟨gM, i, none⟩ v).heap.size = w1.heap.size := fun v => by simp [World.setCell]
  have hfar : ∀ v k, k ≠ gM → (w1.setCell ⟨gM, i, none⟩ v).heap[k]? = w1.heap[k]? := fun v k hk => Below.heap_setCell w1 ⟨gM, i, none⟩ v k hk
  have hw1 : w1.heap[gM]? = some (.cells cur 36 (0, 0)) := (hb.block gM hgM).trans q2
  have hil : its.length = i := by
    have := congrArg List.length q1
    rw [List.length_map, List.length_take] at this
    have := (List.getElem?_eq_some_iff.1 hi).1
    omega
  have hsb := hb.size
  have hwb := h.below.size
  refine ⟨⟨(hb.os.trans h.below.os), (hb.tape.trans h.below.tape), (hb.output.trans h.below.output), by rw [hsz]; omega, fun k hk => (hfar _ k (by omega)).trans ((hb.block k (by omega)).trans (h.below.block k hk))⟩, hlo, its ++ [⟨57, #[.pointer (some ⟨wr.heap.size, 0, none⟩)], fun k => k = wr.heap.size ∨ k = g, xs⟩], _, ?_, setCell_blk hw1 _, by simp [q3], fun k it hk => ?_⟩
  · rw [List.map_append, q1, List.take_add_one, hi]; rfl
  · rcases Nat.lt_or_ge k its.length with hkl | hkl
    · rw [List.getElem?_append_left hkl] at hk
      obtain ⟨r1, r2, r3⟩ := q4 k it hk
      refine ⟨?_, r2.keep (by rw [hsz]; exact hsb) (fun j hj hl => (hfar _ j (r3 j hj)).trans (hb.block j hl)), r3⟩
      rw [Array.getElem?_setIfInBounds_ne (by omega)]
      exact r1
    · have hk2 : k = its.length := by
        have := (List.getElem?_eq_some_iff.1 hk).1
        simp at this
        omega
      subst hk2
      rw [List.getElem?_append_right (Nat.le_refl _), Nat.sub_self] at hk
      simp only [List.getElem?_cons_zero, Option.some.injEq] at hk
      subst hk
      rw [hil]
      refine ⟨by rw [Array.getElem?_setIfInBounds_self_of_lt (by omega)], ⟨values_seq ek ev eb _ A g o c xs _ ⟨(hfar _ _ (by omega)).trans hn, h2, h3.keep _ _ _ ((hfar _ g (by omega)).trans ((hb.block g (by omega)).trans (h.below.block g h4))), by rw [hsz]; omega, by omega⟩, goes57, fun k hk => ?_, hx⟩, fun j hj => ?_⟩
      · rw [hsz]
        have := (Array.getElem?_eq_some_iff.1 hn).1
        rcases hk with e | e <;> omega
      · rcases hj with e | e <;> omega
set_option maxRecDepth 100000 in
set_option maxHeartbeats 1000000 in
theorem entries_calls (A0 : Option Addr) (c0 g0 o0 : Nat) (xss : List (List α)) (w : World) (hA : 0 < xss.length → A0 = some ⟨g0, o0, none⟩)
    (hrows : ∀ i xs, xss[i]? = some xs → ∃ A c g o, w.cell? ⟨g0, o0 + i, none⟩ = some (.slice A xs.length c) ∧ (0 < xs.length → A = some ⟨g, o, none⟩) ∧ CellsAt ek ev eb w g o xs ∧ g < w.heap.size)
    (hl : (xss.length + 1) * 40 ≤ 140737488355328) (hx : ∀ xs ∈ xss, (xs.length + 1) * 24 ≤ 140737488355328) (hm : ((mergeL ek xss).length + 1) * 24 ≤ 140737488355328) :
    Calls Try.prog 13 #[.slice A0 xss.length c0] w fun e w' => ∃ v, e = .returned v ∧ w'.ownsRow w.heap.size 32 3 v (mergeL ek xss).length (erow ek ev eb (mergeL ek xss)) ∧ Below w.heap.size w w' := by
  have hmk := make34 xss.length (by omega)
  have HA := Lib.hid hA
  have HR := Lib.hid hrows
  have HL := Lib.hid hl
  have HX := Lib.hid hx
  have HM := Lib.hid hm
  clear hA hrows hl hx hm
  go_enter Try.func13, Try.ntmps13
  go_wp2_with (fail)
  have HE := Lib.hid (EL.start (ek := ek) (ev := ev) (eb := eb) (w := w) (xss := xss) (madeCells #[.nilFunc] xss.length) (size_madeCells _ _))
  go_loopg [11] xss.length (fun kq v11 w' => ∃ i : Nat, v11 = .int .i64 (i : Int) ∧ Hid (i ≤ xss.length ∧ xss.length ≤ kq + i) ∧ Hid (EL ek ev eb w w.heap.size xss.length xss i w'))
  case atStart => exact ⟨0, rfl, Lib.hid ⟨Nat.zero_le _, Nat.le_refl _⟩, HE⟩
  case round =>
    obtain ⟨i, rfl, HI, HE2⟩ := hrel
    by_cases hlt : i < xss.length
    · have hd : decide ((i : Int) < (xss.length : Int)) = true := decide_eq_true (Int.ofNat_lt.2 hlt)
      have hd2 : decide (i < xss.length) = true := decide_eq_true hlt
      have hb1 : (0 : Int) ≤ (i : Int) := Int.natCast_nonneg i
      have hb2 : (i : Int) < (xss.length : Int) := Int.ofNat_lt.2 hlt
      obtain rfl := HA.out (by omega)
      obtain ⟨A, c, g, o, r1, r2, r3, r4⟩ := HR.out i _ (List.getElem?_eq_getElem hlt)
      have hc1 : wr.cell? ⟨g0, o0 + i, none⟩ = some (.slice A xss[i].length c) := Below.cell1 HE2.out.below r1
      obtain ⟨i2, hi2⟩ : ∃ i2, i + 1 = i2 := ⟨_, rfl⟩
      have hi3 : (i : Int) + 1 = (i2 : Int) := by rw [← hi2]; rfl
      have HI2 := Lib.hid (loop_nums hi2 hlt HI.out.2)
      have hw2 : IntKind.i64.wrap (i2 : Int) = (i2 : Int) := IntWalk.i64_in _ (loop_fits HL.out HI2.out.1)
      have hxi := HX.out _ (List.getElem_mem hlt)
      have HXI := Lib.hid (And.intro hlt (And.intro r2 (And.intro r3 (And.intro r4 hxi))))
      have hgi : xss[i]? = some xss[i] := List.getElem?_eq_getElem hlt
      generalize xss[i] = xs at *
      have HGI := Lib.hid hgi
      clear r1 r2 r3 r4 hxi hlt hgi
      go_wp2_with (first | (go_at_call 39; go_must (refine (values_calls A xs.length c wr).mono ?_; rintro e w1 ⟨rfl, hb, hn⟩; obtain ⟨⟨u0, hu⟩, hf0, hlt0⟩ := HE2.out.cell i HXI.out.1; have hcM : w1.cell? ⟨w.heap.size, i, none⟩ = some u0 := (hb.cell hlt0).trans hu; have hfM : w1.frozen? ⟨w.heap.size, i, none⟩ = false := (hb.frozen hlt0).trans hf0; have HB := Lib.hid hb; have HN := Lib.hid hn; clear hb hn hu hf0 hlt0)))
      have HE3 := Lib.hid (HE2.out.next HGI.out HXI.out.1 HXI.out.2.1 HXI.out.2.2.1 HXI.out.2.2.2.1 HXI.out.2.2.2.2 HB.out HN.out)
      rw [hi2] at HE3
      go_roundg (xss.length - i2)
      case measure => exact HI2.out.2.2
      case rel => exact ⟨i2, rfl, Lib.hid ⟨HI2.out.1, HI2.out.2.1⟩, HE3⟩
    · have hd : decide ((i : Int) < (xss.length : Int)) = false := decide_eq_false (fun h => hlt (Int.ofNat_lt.1 h))
      have hd2 : decide (i < xss.length) = false := decide_eq_false hlt
      obtain ⟨its, cur, q1, q2, q3, q4⟩ := HE2.out.its
      have hxs : its.map It.xs = xss := by rw [q1]; exact List.take_of_length_le (Nat.not_lt.1 hlt)
      have hln : its.length = xss.length := by rw [← hxs, List.length_map]
      have HQ := Lib.hid (And.intro q2 (And.intro q3 (And.intro q4 (And.intro hxs hln))))
      have HLI : Hid ((its.length + 1) * 40 ≤ 140737488355328) := Lib.hid (by rw [hln]; exact HL.out)
      have HLN := Lib.hid hln
      clear q1 q2 q3 q4 hxs hln hlt
      go_wp2_with (first
        | (go_at_call 17; go_must (rw [← HLN.out]; refine (merge_calls (ek := ek) (ev := ev) (eb := eb) 41 w.heap.size its.length its _ (fun k it hk => by rw [cell_of_row _ _ k _ _ _ HQ.out.1]; exact (HQ.out.2.2.1 k it hk).1) (fun it hit => by obtain ⟨k, hk, rfl⟩ := List.getElem_of_mem hit; exact (HQ.out.2.2.1 k _ (List.getElem?_eq_getElem hk)).2.1) HLI.out).mono ?_; rintro e w1 ⟨bL, bK, A1, gL, cap1, rfl, hb, hml, _⟩; have HB := Lib.hid hb; have HML := Lib.hid hml; clear hb hml))
        | (go_at_call 40; go_must (refine (collect_calls (mergeIt ek bL bK gL its) _ (mergeIt_ok goes41 key41_calls _ HML.out (by rw [HQ.out.2.2.2.1]; exact HM.out))).mono ?_; rintro e w2 ⟨v, rfl, h1, h2⟩; have H1 := Lib.hid h1; have H2 := Lib.hid h2; clear h1 h2)))
      refine bodyPost_ret (results_tmp rfl _ _ _) rfl ?_
      have h1 := H1.out
      simp only [mergeIt, HQ.out.2.2.2.1] at h1
      have hb1 := HE2.out.below
      have hb2 : Below w.heap.size w w1 := hb1.trans (HB.out.mono hb1.size)
      have hb3 : Below w.heap.size w w2 := hb2.trans (H2.out.mono hb2.size)
      refine ⟨v, rfl, ⟨h1.1, ?_⟩, hb3⟩
      rcases h1.2 with h | ⟨g, cap2, cur2, e, h1, h2⟩
      · exact .inl h
      · exact .inr ⟨g, cap2, cur2, e, Nat.le_trans hb2.size h1, h2⟩
end
end Go.Proofs.Ytojbfjfjhfnopaa.MergeE
end

section
/- merge.Entries in the print's form. -/
namespace Go.Proofs.Ytojbfjfjhfnopaa.G
open Go.RowKit Go.Proofs.YtojbfjfjhfnopaaW.PrintWords Go.Proofs.YtojbfjfjhfnopaaW.PrintLast Go.Proofs.YtojbfjfjhfnopaaW.PrintMore
open SeqE MergeL MergeE
set_option linter.unusedVariables false
theorem addr_plain {w : World} {ad : Addr} {n : Nat} {u : Value} (h : w.cell? (ad.add n) = some u) : ad.add n = ⟨ad.block, ad.off + n, none⟩ := by
  by_cases hn : n = 0
  · subst hn
    have e : ad.add 0 = ad := by simp [Addr.add]
    rw [e] at h ⊢
    have hs : ad.spot = none := by
      unfold World.cell? at h
      cases hh : w.heap[ad.block]? with
      | none => rw [hh] at h; cases h
      | some o =>
        rw [hh] at h
        cases o <;> first | (cases h; done) | skip
        simp only at h
        cases hsp : ad.spot with
        | none => rfl
        | some x => rw [hsp] at h; simp at h
    cases ad
    simp only at hs
    subst hs
    rfl
  · simp [Addr.add, hn]
theorem lies_of_C {w : World} {A : Option Addr} {xs : List S32} (h : Kd.C k32 w A xs.length xs) : ∃ g o, (0 < xs.length → A = some ⟨g, o, none⟩ ∧ g < w.heap.size) ∧ CellsAt S32.f0 S32.f1 S32.f2 w g o xs := by
  by_cases h0 : 0 < xs.length
  · obtain ⟨ad, e, hc⟩ := h.2.2 h0
    have cells : ∀ j x, xs[j]? = some x → w.cell? (ad.add (j * 3)) = some (.int .u64 x.f0) ∧ w.cell? (ad.add (j * 3 + 1)) = some (.int .u64 x.f1) ∧ w.cell? (ad.add (j * 3 + 2)) = some (.bool x.f2) := fun j x hj => by
      obtain ⟨c, _, hK, hcc⟩ := hc j x hj
      obtain rfl := k32_open hK
      exact ⟨hcc 0 _ rfl, hcc 1 _ rfl, hcc 2 _ rfl⟩
    have c0 := (cells 0 _ (List.getElem?_eq_getElem h0)).1
    have hp := addr_plain c0
    have hlt := World.block_lt_of_cell? _ _ c0
    rw [hp] at hlt
    refine ⟨ad.block, ad.off, fun _ => ⟨?_, hlt⟩, fun j x hj => ?_⟩
    · rw [e]
      have hp2 : ad.add 0 = ⟨ad.block, ad.off, none⟩ := by simpa using hp
      have e2 : ad.add 0 = ad := by simp [Addr.add]
      rw [← e2, hp2]
    · obtain ⟨c0, c1, c2⟩ := cells j x hj
      rw [addr_plain c0] at c0
      rw [addr_plain c1] at c1
      rw [addr_plain c2] at c2
      exact ⟨c0, c1, c2⟩
  · refine ⟨0, 0, fun h => absurd h h0, fun j x hj => ?_⟩
    have := (List.getElem?_eq_some_iff.1 hj).1
    omega
theorem reps_erow (w : World) (base : Nat) (ok : Nat → Prop) (xs : List S32) : Reps (k32.M w base ok) 3 xs (erow S32.f0 S32.f1 S32.f2 xs) := by
  induction h : xs.length generalizing xs with
  | zero =>
    obtain rfl := List.eq_nil_of_length_eq_zero h
    exact Reps.none _ _
  | succ n ih =>
    obtain ⟨ys, y, rfl⟩ : ∃ ys y, xs = ys ++ [y] := by
      have hne : xs ≠ [] := fun e => by subst e; simp at h
      exact ⟨xs.dropLast, xs.getLast hne, (List.dropLast_concat_getLast hne).symm⟩
    rw [erow_snoc]
    exact (ih ys (by simpa using h)).snoc (k32_mkM _ _ _ _) rfl
theorem R_of_own {w : World} {base : Nat} {v : Value} {xs : List S32} (h : w.ownsRow base 32 3 v xs.length (erow S32.f0 S32.f1 S32.f2 xs)) : Kd.R k32 32 w base (fun _ => True) v xs :=
  ⟨fun _ _ => trivial, _, h, reps_erow _ _ _ xs⟩
def merge_Entries.fits (l : List (List S32)) : Bool := decide ((l.length + 1) * 40 ≤ 140737488355328) && l.all (fun xs => decide ((xs.length + 1) * 24 ≤ 140737488355328)) && decide (((mergeL S32.f0 l).length + 1) * 24 ≤ 140737488355328)
theorem merge_Entries.fits_ {l : List (List S32)} (h : merge_Entries.fits l = true) : (l.length + 1) * 40 ≤ 140737488355328 ∧ (∀ xs ∈ l, (xs.length + 1) * 24 ≤ 140737488355328) ∧ ((mergeL S32.f0 l).length + 1) * 24 ≤ 140737488355328 := by
  unfold merge_Entries.fits at h
  rw [Bool.and_eq_true, Bool.and_eq_true, decide_eq_true_eq, decide_eq_true_eq, List.all_eq_true] at h
  exact ⟨h.1.1, fun xs hx => of_decide_eq_true (h.1.2 xs hx), h.2⟩
def merge_Entries.f (l : List (List S32)) : Option (List S32) := if merge_Entries.fits l = true then some (mergeL S32.f0 l) else none
theorem merge_Entries.calls (A0 : Option Addr) (c0 : Nat) (l0 : List (List (S32))) (r : List (S32)) (w : World) (hr0 : Kd.C (Kd.slice 32 k32) w A0 l0.length l0) (hc0 : l0.length ≤ c0) (h : merge_Entries.f l0 = some r) :
    Calls Try.prog 13 #[.slice A0 l0.length c0] w fun e w' => ∃ v0_ : Value, e = .returned (v0_) ∧ Kd.R k32 32 w' w.heap.size (fun _ => True) v0_ r ∧ Below w.heap.size w w' := by
  unfold merge_Entries.f at h
  split at h
  case isFalse => cases h
  case isTrue hf0 =>
    have hf := merge_Entries.fits_ hf0
    injection h with h
    subst h
    obtain ⟨g0, o0, hA, hrows⟩ : ∃ g0 o0, (0 < l0.length → A0 = some ⟨g0, o0, none⟩) ∧ (∀ i xs, l0[i]? = some xs → ∃ A c g o, w.cell? ⟨g0, o0 + i, none⟩ = some (.slice A xs.length c) ∧ (0 < xs.length → A = some ⟨g, o, none⟩) ∧ CellsAt S32.f0 S32.f1 S32.f2 w g o xs ∧ g < w.heap.size) := by
      by_cases h0 : 0 < l0.length
      · obtain ⟨ad, e, hc⟩ := hr0.2.2 h0
        have cells : ∀ j x, l0[j]? = some x → ∃ A c, w.cell? (ad.add j) = some (.slice A x.length c) ∧ Kd.C k32 w A x.length x := fun j x hj => by
          obtain ⟨c, _, ⟨A, c2, rfl, _, hK⟩, hcc⟩ := hc j x hj
          have := hcc 0 _ rfl
          refine ⟨A, c2, ?_, hK⟩
          simpa [Kd.slice] using this
        obtain ⟨A1, c1, h1, _⟩ := cells 0 _ (List.getElem?_eq_getElem h0)
        have hp := addr_plain h1
        have hlt := World.block_lt_of_cell? _ _ h1
        rw [hp] at hlt
        refine ⟨ad.block, ad.off, fun _ => ?_, fun i xs hi => ?_⟩
        · rw [e]
          have e2 : ad.add 0 = ad := by simp [Addr.add]
          rw [← e2, hp]
        · obtain ⟨A, c, q1, q2⟩ := cells i xs hi
          rw [addr_plain q1] at q1
          obtain ⟨g, o, q3, q4⟩ := lies_of_C q2
          by_cases hx : 0 < xs.length
          · exact ⟨A, c, g, o, q1, fun h => (q3 h).1, q4, (q3 hx).2⟩
          · exact ⟨A, c, ad.block, 0, q1, fun h => absurd h hx, fun j x hj => absurd (List.getElem?_eq_some_iff.1 hj).1 (by omega), hlt⟩
      · exact ⟨0, 0, fun h => absurd h h0, fun i xs hi => absurd (List.getElem?_eq_some_iff.1 hi).1 (by omega)⟩
    refine (entries_calls A0 c0 g0 o0 l0 w hA hrows hf.1 hf.2.1 hf.2.2).mono ?_
    rintro e w' ⟨v, rfl, h1, h2⟩
    exact ⟨v, rfl, R_of_own h1, h2⟩
end Go.Proofs.Ytojbfjfjhfnopaa.G
end

section
/- merge.Sift, in plain words. -/
namespace Go.Proofs.Ytojbfjfjhfnopaa.MergeE
open Go.RowKit Go.Shelf RangeD SeqE MergeL HeapL HeapE
attribute [local go_sem] Oper.semAt_some
set_option linter.unusedVariables false
section
variable {α : Type} {ek ev : α → Int} {eb : α → Bool}
def sift (ek : α → Int) (eb : α → Bool) (p : Int → Bool) (xs : List α) : List α := xs.filter (fun x => !eb x || p (ek x))
theorem sift_next (p : Int → Bool) (xs : List α) (i : Nat) (h : i < xs.length) : sift ek eb p (xs.take (i + 1)) = sift ek eb p (xs.take i) ++ (if (!eb xs[i] || p (ek xs[i])) = true then [xs[i]] else []) := by
  unfold sift
  rw [List.take_succ_eq_append_getElem h, List.filter_append]
  congr 1
  simp only [List.filter_cons, List.filter_nil]
theorem sift_le (p : Int → Bool) (xs : List α) (i : Nat) : (sift ek eb p (xs.take i)).length ≤ xs.length :=
  Nat.le_trans (List.length_filter_le _ _) (by rw [List.length_take]; omega)
theorem own_slice {w : World} {base n : Nat} {v : Value} {xs : List α} (h : w.ownsRow base 32 3 v n (erow ek ev eb xs)) (hn : n = xs.length) : ∃ A c, v = .slice A xs.length c := by
  subst hn
  rcases h.2 with ⟨e, hn⟩ | ⟨g, cap, cur, e, _⟩
  · exact ⟨none, 0, by rw [hn]; exact e⟩
  · exact ⟨_, _, e⟩
theorem fits24 {a n : Nat} (h : a ≤ n) (hn : (n + 1) * 24 ≤ 140737488355328) : (a + 1) * 24 ≤ 140737488355328 := by omega
theorem fits_int {i n : Nat} (hn : (n + 1) * 24 ≤ 140737488355328) (hi : i ≤ n) : -9223372036854775808 ≤ (i : Int) ∧ (i : Int) ≤ 9223372036854775807 := by omega
set_option maxRecDepth 100000 in
set_option maxHeartbeats 2000000 in
theorem sift_calls (A : Option Addr) (g o c lf : Nat) (lb : Array Value) (p : Int → Bool) (xs : List α) (w : World) (hA : 0 < xs.length → A = some ⟨g, o, none⟩) (hcs : CellsAt ek ev eb w g o xs) (hg : 0 < xs.length → g < w.heap.size) (hx : (xs.length + 1) * 24 ≤ 140737488355328)
    (hlf : ∀ args w, (callFunc lf args).run Try.prog w = .ok (.enter lf args) w)
    (hlive : ∀ x ∈ xs, ∀ w1, Below w.heap.size w w1 → Calls Try.prog lf (#[.int .u64 (ek x)] ++ lb) w1 fun e w2 => e = .returned (.bool (p (ek x))) ∧ ∃ n, w2 = w1.drewN n) :
    Calls Try.prog 25 #[.slice A xs.length c, .func (.func lf) #[] lb] w fun e w' => ∃ v, e = .returned v ∧ w'.ownsRow w.heap.size 32 3 v (sift ek eb p xs).length (erow ek ev eb (sift ek eb p xs)) ∧ Below w.heap.size w w' := by
  have HA := Lib.hid hA
  have HC := Lib.hid hcs
  have HG := Lib.hid hg
  have HX := Lib.hid hx
  have HLV := Lib.hid hlive
  obtain ⟨i0, hi0, hz0, hz1, hz2⟩ := info_parts info32e
  clear hA hcs hg hx hlive
  go_enter Try.func25, Try.ntmps25
  go_wp2_with (fail)
  go_loopg [5, 10] xs.length (fun kq v5 v10 w' => ∃ (i : Nat) (A5 : Option Addr) (c5 m5 : Nat), v10 = .int .i64 (i : Int) ∧ v5 = .slice A5 m5 c5 ∧ Hid (m5 = (sift ek eb p (xs.take i)).length) ∧ Hid (i ≤ xs.length ∧ xs.length ≤ kq + i) ∧ Hid (w'.ownsRow w.heap.size 32 3 (.slice A5 m5 c5) m5 (erow ek ev eb (sift ek eb p (xs.take i)))) ∧ Hid (Below w.heap.size w w'))
  case atStart => exact ⟨0, none, 0, 0, rfl, rfl, Lib.hid rfl, Lib.hid ⟨Nat.zero_le _, Nat.le_refl _⟩, Lib.hid (World.ownsRow_nil _ _ 32 3), Lib.hid (Below.refl _ _)⟩
  case round =>
    obtain ⟨i, A5, c5, m5, rfl, rfl, HM5, HI, HO5, HB⟩ := hrel
    by_cases hlt : i < xs.length
    · have hd : decide ((i : Int) < (xs.length : Int)) = true := decide_eq_true (Int.ofNat_lt.2 hlt)
      have hd2 : decide (i < xs.length) = true := decide_eq_true hlt
      have hb1 : (0 : Int) ≤ (i : Int) := Int.natCast_nonneg i
      have hb2 : (i : Int) < (xs.length : Int) := Int.ofNat_lt.2 hlt
      obtain rfl := HA.out (by omega)
      obtain ⟨c0, c1, c2⟩ := HC.out i _ (List.getElem?_eq_getElem hlt)
      have c0 := Below.cell1 HB.out c0
      have c1 := Below.cell1 HB.out c1
      have c2 := Below.cell1 HB.out c2
      have HLW := Lib.hid (HLV.out _ (List.getElem_mem hlt))
      have hnx := sift_next (ek := ek) (eb := eb) p xs i hlt
      obtain ⟨i2, hi2⟩ : ∃ i2, i + 1 = i2 := ⟨_, rfl⟩
      have hi3 : (i : Int) + 1 = (i2 : Int) := by rw [← hi2]; rfl
      have HI2 := Lib.hid (loop_nums hi2 hlt HI.out.2)
      have hw2 : IntKind.i64.wrap (i2 : Int) = (i2 : Int) := IntWalk.i64_in _ (fits_int HX.out HI2.out.1)
      rw [hi2] at hnx
      generalize xs[i] = x at *
      have HNX := Lib.hid hnx
      have HL5 : Hid ((m5 + 1) * 24 ≤ 140737488355328) := Lib.hid (fits24 (by rw [HM5.out]; exact sift_le p xs i) HX.out)
      clear hnx hlt
      go_upto_region 5 with (fail)
      obtain ⟨X1, hX1⟩ : ∃ X1, wr.alloc (.cells #[.int .u64 (ek x), .int .u64 (ev x), .bool (eb x)] 32) = X1 := ⟨_, rfl⟩
      have b1 : Below w.heap.size w X1 := by rw [← hX1]; exact HB.out.alloc (by have := HB.out.size; omega) _
      have h7 : X1.heap[wr.heap.size]? = some (.cells #[.int .u64 (ek x), .int .u64 (ev x), .bool (eb x)] 32 (0, 0)) := by rw [← hX1]; exact World.alloc_heap_new wr _
      have HO6 : Hid (X1.ownsRow w.heap.size 32 3 (.slice A5 m5 c5) m5 (erow ek ev eb (sift ek eb p (xs.take i)))) := Lib.hid (by rw [← hX1]; exact HO5.out.alloc _)
      have d0 : X1.cell? ⟨wr.heap.size, 0, none⟩ = some (.int .u64 (ek x)) := by rw [cell_of_row X1 _ 0 _ _ _ h7]; rfl
      have d1 : X1.cell? ⟨wr.heap.size, 1, none⟩ = some (.int .u64 (ev x)) := by rw [cell_of_row X1 _ 1 _ _ _ h7]; rfl
      have d2 : X1.cell? ⟨wr.heap.size, 2, none⟩ = some (.bool (eb x)) := by rw [cell_of_row X1 _ 2 _ _ _ h7]; rfl
      rw [hX1]
      have HB1 := Lib.hid b1
      have hsz : wr.heap.size < X1.heap.size := by rw [← hX1]; simp
      have HSZ := Lib.hid hsz
      clear b1 h7 hX1 c0 c1 c2
      go_cut [22] (fun v22 wd => v22 = .bool (!eb x || p (ek x)) ∧ Hid (∃ n, wd = X1.drewN n))
      case first =>
        cases hbx : eb x with
        | false =>
          rw [hbx] at d2
          go_wp2_with (fail)
          go_meet
          case rel => exact ⟨by rw [hbx]; rfl, Lib.hid ⟨0, rfl⟩⟩
        | true =>
          rw [hbx] at d2
          go_wp2_with (first | (refine (HLW.out X1 HB1.out).mono ?_; rintro e w2 ⟨rfl, ⟨nd, rfl⟩⟩))
          go_meet
          case rel => exact ⟨by rw [hbx]; rfl, Lib.hid ⟨_, rfl⟩⟩
      case rest =>
        obtain ⟨rfl, HND⟩ := hcut
        obtain ⟨nd, rfl⟩ := HND.out
        have HO7 : Hid ((X1.drewN nd).ownsRow w.heap.size 32 3 (.slice A5 m5 c5) m5 (erow ek ev eb (sift ek eb p (xs.take i)))) := Lib.hid (ownsRow_keep HO6.out (fun _ _ => rfl))
        have d0 : (X1.drewN nd).cell? ⟨wr.heap.size, 0, none⟩ = some (.int .u64 (ek x)) := d0
        have d1 : (X1.drewN nd).cell? ⟨wr.heap.size, 1, none⟩ = some (.int .u64 (ev x)) := d1
        have d2 : (X1.drewN nd).cell? ⟨wr.heap.size, 2, none⟩ = some (.bool (eb x)) := d2
        have HB2 : Hid (Below w.heap.size w (X1.drewN nd)) := Lib.hid (HB1.out.trans ⟨rfl, rfl, rfl, Nat.le_refl _, fun _ _ => rfl⟩)
        clear HB1 HO6 HO5 HB HSZ
        generalize X1.drewN nd = X2 at *
        have hbx : ∃ bb, (!eb x || p (ek x)) = bb := ⟨_, rfl⟩
        obtain ⟨bb, hbb⟩ := hbx
        rw [hbb]
        have HBB := Lib.hid hbb
        clear hbb
        cases bb with
        | false =>
          go_wp2_with (fail)
          go_roundg (xs.length - i2)
          case measure => exact HI2.out.2.2
          case rel => exact ⟨i2, A5, c5, m5, rfl, rfl, Lib.hid (by rw [HM5.out, HNX.out, HBB.out]; simp), Lib.hid ⟨HI2.out.1, HI2.out.2.1⟩, Lib.hid (by rw [HNX.out, HBB.out]; simpa using HO7.out), HB2⟩
        | true =>
          have hx3 : ∀ u ∈ [Value.int .u64 (ek x), .int .u64 (ev x), .bool (eb x)], u.oneCell' = true := by
            intro u hu
            simp only [List.mem_cons, List.not_mem_nil, or_false] at hu
            rcases hu with hu | hu | hu <;> subst hu <;> rfl
          have HX3 := Lib.hid hx3
          clear hx3
          go_wp2_with (first | (at_builtin; go_must (refine wpList_append_own_at _ rfl (.tmp 23) (.tmp 25) 25 rfl w.heap.size 32 i0 _ 3 24 Try.underlying25 hi0 hz0 hz1 hz2 rfl (by decide) (.slice A5 m5 c5) m5 (erow ek ev eb (sift ek eb p (xs.take i))) (by rfl) (HO7.out.alloc _) ⟨X2.heap.size, 0, none⟩ 1 1 [.int .u64 (ek x), .int .u64 (ev x), .bool (eb x)] (by rfl) (by rfl) (World.news_of_block (cs := #[.int .u64 (ek x), .int .u64 (ev x), .bool (eb x)]) (t := 32) (fr := (0, 0)) (World.alloc_heap_new X2 _)) HX3.out (len_max HL5.out) HL5.out (by rw [World.size_alloc]; exact Nat.le_succ_of_le HB2.out.size) ?_; intro v5 w3 hown1 hgrow hnil hat; have HOWN1 := Lib.hid hown1; have HGR := Lib.hid hgrow; clear hown1 hgrow hnil hat)))
          have hys : sift ek eb p (xs.take i2) = sift ek eb p (xs.take i) ++ [x] := by rw [HNX.out, HBB.out]; simp
          have hlen : (sift ek eb p (xs.take i2)).length = m5 + 1 := by rw [hys, List.length_append, ← HM5.out]; rfl
          have ho : w3.ownsRow w.heap.size 32 3 v5 (m5 + 1) (erow ek ev eb (sift ek eb p (xs.take i2))) := by rw [hys, erow_snoc]; exact HOWN1.out
          obtain ⟨A6, c6, rfl⟩ := own_slice ho hlen.symm
          rw [hlen] at ho ⊢
          have hb3 : Below w.heap.size w w3 := HB2.out.trans ⟨HGR.out.os, HGR.out.tape, HGR.out.output, by have := HGR.out.size; rw [World.size_alloc] at this; omega, fun k hk => by
            have hs2 := HB2.out.size
            exact (HGR.out.block k (by rw [World.size_alloc]; omega) (fun e => by have := (HO7.out.lt k e.symm).1; omega)).trans (Below.heap_alloc X2 _ k (by omega))⟩
          have HH := Lib.hid (And.intro ho hb3)
          clear ho hb3
          go_roundg (xs.length - i2)
          case measure => exact HI2.out.2.2
          case rel => exact ⟨i2, A6, c6, m5 + 1, rfl, rfl, Lib.hid hlen.symm, Lib.hid ⟨HI2.out.1, HI2.out.2.1⟩, Lib.hid HH.out.1, Lib.hid HH.out.2⟩
    · have hd : decide ((i : Int) < (xs.length : Int)) = false := decide_eq_false (fun h => hlt (Int.ofNat_lt.1 h))
      have hd2 : decide (i < xs.length) = false := decide_eq_false hlt
      have htk : xs.take i = xs := List.take_of_length_le (Nat.not_lt.1 hlt)
      have HTK := Lib.hid htk
      clear htk hlt
      go_wp2_with (fail)
      refine bodyPost_ret (results_tmp rfl _ _ _) rfl ?_
      have h1 := HO5.out
      rw [HTK.out] at h1
      have h2 := HM5.out
      rw [HTK.out] at h2
      exact ⟨_, rfl, by rw [← h2]; exact h1, HB.out⟩
end
end Go.Proofs.Ytojbfjfjhfnopaa.MergeE
end

section
/- listed's and slices.Values' iterators at entries. -/
namespace Go.Proofs.Ytojbfjfjhfnopaa.SeqI
open Go.RowKit Go.Shelf RangeD
attribute [local go_sem] Oper.semAt_some
set_option linter.unusedVariables false
section
variable {α : Type} (ek : α → Int) (ev : α → Int)
abbrev agg (ek : α → Int) (ev : α → Int) (x : α) : Value := .int .i64 (ev x)
/-- The cells of a row of things from (g, o) on. -/
def CellsAt (ek : α → Int) (ev : α → Int) (W : World) (g o : Nat) (xs : List α) : Prop := ∀ j x, xs[j]? = some x → W.cell? ⟨g, o + j, none⟩ = some (.int .i64 (ev x))
theorem CellsAt.keep {W W' : World} {g o : Nat} {xs : List α} (h : CellsAt ek ev W g o xs) (hk : W'.heap[g]? = W.heap[g]?) : CellsAt ek ev W' g o xs := by
  have hc : ∀ i, W'.cell? ⟨g, i, none⟩ = W.cell? ⟨g, i, none⟩ := fun i => by unfold World.cell?; simp only [hk]
  intro j x hj
  rw [hc]
  exact h j x hj
/-- What lies for an iterator: a cell with a slice, the slice's things. -/
structure Laid (W : World) (b t : Nat) (A : Option Addr) (g o cap : Nat) (xs : List α) : Prop where
  box : W.heap[b]? = some (.cells #[.slice A xs.length cap] t (0, 0))
  at_ : 0 < xs.length → A = some ⟨g, o, none⟩
  cells : CellsAt ek ev W g o xs
  lt : g < W.heap.size
  len : xs.length ≤ 140737488355328
theorem Laid.keep {W W' : World} {b t : Nat} {A : Option Addr} {g o cap : Nat} {xs : List α} (h : Laid ek ev W b t A g o cap xs) (hs : W.heap.size ≤ W'.heap.size) (hk : Same (fun k => k = b ∨ k = g) W W') : Laid ek ev W' b t A g o cap xs :=
  ⟨(hk b (.inl rfl) (Array.getElem?_eq_some_iff.1 h.box).1).trans h.box, h.at_, h.cells.keep _ _ (hk g (.inr rfl) h.lt), Nat.lt_of_lt_of_le h.lt hs, h.len⟩
set_option maxRecDepth 100000 in
set_option maxHeartbeats 4000000 in
theorem listed_in (l b : Nat) (A : Option Addr) (g o cap : Nat) (xs : List α) (J Jx : List α → World → Prop)
    (hY : ∀ pre x W, J pre W → (∃ more, pre ++ [x] ++ more = xs) → YieldAt Fence.wide 0 Try.prog l #[agg ek ev x] W fun e W' =>
      (e = .returned (.bool true) ∧ J (pre ++ [x]) W' ∧ W.heap.size ≤ W'.heap.size ∧ Same (fun k => k = b ∨ k = g) W W') ∨ (e = .returned (.bool false) ∧ Jx (pre ++ [x]) W'))
    (W : World) (hst : Laid ek ev W b 73 A g o cap xs) (h0 : J [] W) :
    CallsIn Fence.wide 0 Try.prog 56 #[.func (.yield l) #[] #[], .pointer (some ⟨b, 0, none⟩)] W fun e W' => (∃ v, e = .returned v) ∧
      ((J xs W') ∨ (∃ pre, (∃ more, pre ++ more = xs) ∧ Jx pre W')) := by
  refine callsIn_of_wp Try.func56 rfl trivial ?_ rfl
  simp only [Try.ntmps56, List.size_toArray, List.length_cons, List.length_nil, Nat.reduceAdd, Nat.reduceSub, Array.replicate_succ, Array.replicate_zero, List.push_toArray, List.append_toArray, List.nil_append, List.cons_append]
  gi_wp2
  gi_loopw [3] (fun v wr => ∃ (i : Nat), v = .int .i64 i ∧ i ≤ xs.length ∧ Laid ek ev wr b 73 A g o cap xs ∧ J (xs.take i) wr)
    (fun v _ => match v with | .int _ i => xs.length - i.toNat | _ => 0)
  case atStart => exact ⟨0, rfl, Nat.zero_le _, hst, h0⟩
  case round =>
    obtain ⟨i, rfl, hi, HS, hJs⟩ := hrel
    have hc1 : wr.cell? ⟨b, 0, none⟩ = some (.slice A xs.length cap) := by rw [cell_of_row wr b 0 _ _ _ HS.box]; rfl
    have hln := HS.len
    by_cases hlt : i < xs.length
    · have hd : decide ((i : Int) < (xs.length : Int)) = true := decide_eq_true (by omega)
      have c0 := HS.cells i _ (List.getElem?_eq_getElem hlt)
      have htk : xs.take i ++ [xs[i]] = xs.take (i + 1) := by rw [List.take_succ_eq_append_getElem hlt]
      obtain ⟨fn, tmps, assign, body, hy, hR⟩ := hY (xs.take i) xs[i] wr hJs ⟨xs.drop (i + 1), by rw [htk, List.take_append_drop]⟩
      have hb1 : (0 : Int) ≤ (i : Int) := by omega
      have hb2 : (i : Int) < (xs.length : Int) := by omega
      obtain rfl := HS.at_ (by omega)
      gi_wp2
      rw [htk] at hR
      refine ⟨rfl, hR.mono ?_⟩
      rintro e W3 (⟨rfl, hJ3, hs3, hk3⟩ | ⟨rfl, hJx3⟩)
      · have HS3 := HS.keep _ _ hs3 hk3
        clear hk3 hR hy HS hY
        gi_wp2
        go_roundw
        case rel => exact ⟨i + 1, by simp, by omega, HS3, hJ3⟩
        case measure => simp; omega
      · gi_wp2
        refine bodyPost_ret (results_none rfl _ _ _) rfl ?_
        exact ⟨⟨_, rfl⟩, .inr ⟨_, ⟨xs.drop (i + 1), List.take_append_drop _ _⟩, hJx3⟩⟩
    · have hd : decide ((i : Int) < (xs.length : Int)) = false := decide_eq_false (by omega)
      have he : i = xs.length := by omega
      have hJ2 : J xs wr := by rw [he, List.take_length] at hJs; exact hJs
      clear he hJs
      gi_wp2
      go_end0
      exact ⟨⟨_, rfl⟩, .inl hJ2⟩
/-- What listed's iterator owes to whoever ranges over it. -/
theorem listed_seq (b : Nat) (A : Option Addr) (g o cap : Nat) (xs : List α) (W : World) (hst : Laid ek ev W b 73 A g o cap xs) :
    SeqD Try.prog 56 #[.pointer (some ⟨b, 0, none⟩)] (fun x : α => #[agg ek ev x]) (fun k => k = b ∨ k = g) (fun ys => ys = xs) (fun pre => ∃ more, pre ++ more = xs) (fun pre x => ∃ more, pre ++ [x] ++ more = xs) W := by
  intro l J Jx W0 hs0 hd0 hJ hJx hY h0
  refine (listed_in ek ev l b A g o cap xs (fun pre W => J pre (fun _ => False) W) (fun pre W => Jx pre (fun _ => False) W) ?_ W0 (hst.keep _ _ hs0 hd0) h0).mono ?_
  · intro pre x W1 h1 hnx
    obtain ⟨fn, tmps, assign, body, hy, hR⟩ := hY pre x _ W1 h1 hnx
    refine ⟨fn, tmps, assign, body, hy, hR.mono ?_⟩
    rintro e W' (⟨he, hj, hs, hk⟩ | h)
    · exact .inl ⟨he, hj, hs, fun k hk2 hl => hk k (.inl hk2) hl⟩
    · exact .inr ⟨h.1, h.2.1⟩
  · rintro e W' ⟨hv, (hj | ⟨pre, hm, hj⟩)⟩
    · exact ⟨hv, .inl ⟨xs, _, rfl, hj⟩⟩
    · exact ⟨hv, .inr ⟨pre, _, hm, hj⟩⟩
end
end Go.Proofs.Ytojbfjfjhfnopaa.SeqI
end
