/- The last of the claim's own texts, in one file: AddW, WalkTop, RowTopFew. Conditions: each theorem's own. -/
import Derived.Test.YtjlegggkibbkjaaZTop3
import Derived.Deep.RegionHeld3
import Derived.Test.YtjlegggkibbkjaaZTop4
import Derived.Test.YtjlegggkibbkjaaRows
import Derived.Test.YtjlegggkibbkjaaZTop1
import Derived.WalkKit
import Derived.ProofKit
import Derived.OpenShut
import Derived.ShutString
import Derived.ChangeOld
import Derived.Below
import Derived.SizedLaws
import Derived.JoinedCond
import Derived.Deep.CondSized
section
/- (*Fit).Add. -/
namespace Go.Proofs.Ytjlegggkibbkjaa.M
open Go Go.RowKit Go.Shelf Go.Proofs.Ytjlegggkibbkjaa.Pure Go.Proofs.Ytjlegggkibbkjaa.G Go.Proofs.YtjlegggkibbkjaaW.PrintWords
set_option linter.unusedVariables false
set_option linter.unusedSimpArgs false
set_option maxHeartbeats 4000000 in
set_option maxRecDepth 100000 in
/-- Two slopes lie in blocks of their own. -/
structure Two (X wd : World) (b7 b8 : Nat) (l m : Int × Int) : Prop where
  below : Below X.heap.size X wd
  h7 : wd.heap[b7]? = some (.cells #[.int .u64 l.1, .int .u64 l.2] 58 (0, 0))
  h8 : wd.heap[b8]? = some (.cells #[.int .u64 m.1, .int .u64 m.2] 58 (0, 0))
  ne : b7 ≠ b8
  n7 : X.heap.size ≤ b7
  n8 : X.heap.size ≤ b8
/-- Two slopes were turned. -/
structure Mid (X wd : World) (b7 b8 : Nat) (l m : Int × Int) : Prop where
  os : wd.os = X.os
  tape : wd.tape = X.tape
  output : wd.output = X.output
  size : X.heap.size ≤ wd.heap.size
  same : ∀ k, k < X.heap.size → k ≠ b7 → k ≠ b8 → wd.heap[k]? = X.heap[k]?
  h7 : wd.heap[b7]? = some (.cells #[.int .u64 l.1, .int .u64 l.2] 58 (0, 0))
  h8 : wd.heap[b8]? = some (.cells #[.int .u64 m.1, .int .u64 m.2] 58 (0, 0))
theorem Mid.step {X wd wd' : World} {b7 b8 : Nat} {l m : Int × Int} (h : Mid X wd b7 b8 l m) (hb : Below wd.heap.size wd wd') : Mid X wd' b7 b8 l m :=
  ⟨hb.os.trans h.os, hb.tape.trans h.tape, hb.output.trans h.output, Nat.le_trans h.size hb.size, fun k hk h1 h2 => (hb.block k (by have := h.size; omega)).trans (h.same k hk h1 h2), (hb.block _ (Array.getElem?_eq_some_iff.1 h.h7).1).trans h.h7, (hb.block _ (Array.getElem?_eq_some_iff.1 h.h8).1).trans h.h8⟩
theorem Mid.set7 {X wd : World} {b7 b8 : Nat} {l m l' : Int × Int} (h : Mid X wd b7 b8 l m) (hne : b7 ≠ b8) : Mid X ((wd.setCell ⟨b7, 0, none⟩ (.int .u64 l'.1)).setCell ⟨b7, 1, none⟩ (.int .u64 l'.2)) b7 b8 l' m :=
  ⟨h.os, h.tape, h.output, by rw [setCell_size, setCell_size]; exact h.size, fun k hk h1 h2 => (setCell_other _ _ _ _ h1).trans ((setCell_other _ _ _ _ h1).trans (h.same k hk h1 h2)), (setCell_blk (setCell_blk h.h7 _) _).trans rfl, (setCell_other _ _ _ _ hne.symm).trans ((setCell_other _ _ _ _ hne.symm).trans h.h8)⟩
theorem Mid.set8 {X wd : World} {b7 b8 : Nat} {l m m' : Int × Int} (h : Mid X wd b7 b8 l m) (hne : b7 ≠ b8) : Mid X ((wd.setCell ⟨b8, 0, none⟩ (.int .u64 m'.1)).setCell ⟨b8, 1, none⟩ (.int .u64 m'.2)) b7 b8 l m' :=
  ⟨h.os, h.tape, h.output, by rw [setCell_size, setCell_size]; exact h.size, fun k hk h1 h2 => (setCell_other _ _ _ _ h2).trans ((setCell_other _ _ _ _ h2).trans (h.same k hk h1 h2)), (setCell_other _ _ _ _ hne).trans ((setCell_other _ _ _ _ hne).trans h.h7), (setCell_blk (setCell_blk h.h8 _) _).trans rfl⟩
theorem Mid.c7 {X wd : World} {b7 b8 : Nat} {l m : Int × Int} (h : Mid X wd b7 b8 l m) : wd.cell? ⟨b7, 0, none⟩ = some (.int .u64 l.1) ∧ wd.cell? ⟨b7, 1, none⟩ = some (.int .u64 l.2) ∧ wd.frozen? ⟨b7, 0, none⟩ = false ∧ wd.frozen? ⟨b7, 1, none⟩ = false :=
  ⟨by rw [cell_of_row wd _ 0 _ _ _ h.h7]; rfl, by rw [cell_of_row wd _ 1 _ _ _ h.h7]; rfl, by simp [World.frozen?, h.h7], by simp [World.frozen?, h.h7]⟩
theorem Mid.c8 {X wd : World} {b7 b8 : Nat} {l m : Int × Int} (h : Mid X wd b7 b8 l m) : wd.cell? ⟨b8, 0, none⟩ = some (.int .u64 m.1) ∧ wd.cell? ⟨b8, 1, none⟩ = some (.int .u64 m.2) ∧ wd.frozen? ⟨b8, 0, none⟩ = false ∧ wd.frozen? ⟨b8, 1, none⟩ = false :=
  ⟨by rw [cell_of_row wd _ 0 _ _ _ h.h8]; rfl, by rw [cell_of_row wd _ 1 _ _ _ h.h8]; rfl, by simp [World.frozen?, h.h8], by simp [World.frozen?, h.h8]⟩
theorem below_al (X : World) (o : Obj) : Below X.heap.size X (X.alloc o) := (Below.refl _ X).alloc (Nat.le_refl _) o
theorem betw22 {p q : Pt} (h : p.1 < q.1) (h0 : 0 ≤ p.1) (h1 : q.1 < 18446744073709551616) {S : Int × Int} (hS : betwF p q = S) (w : World) : Calls Try.prog 22 #[.agg #[.int .u64 p.1, .int .i64 p.2], .agg #[.int .u64 q.1, .int .i64 q.2]] w fun e w' => e = .returned (.agg #[.int .u64 S.1, .int .u64 S.2]) ∧ Below w.heap.size w w' := by
  obtain ⟨kk, hkk⟩ := betw_f h h0 h1
  rw [hS] at hkk
  exact hull_between.calls kk p.1 p.2 q.1 q.2 S.1 S.2 w hkk
theorem blk_two {w w' : World} {g : Nat} (hb : Below w.heap.size w w') (h : w.heap[g]? = some (.cells #[.int .u64 0, .int .u64 0] 58 (0, 0))) : w'.heap[g]? = some (.cells #[.int .u64 0, .int .u64 0] 58 (0, 0)) ∧ w'.cell? ⟨g, 0, none⟩ = some (.int .u64 0) ∧ w'.cell? ⟨g, 1, none⟩ = some (.int .u64 0) ∧ w'.frozen? ⟨g, 0, none⟩ = false ∧ w'.frozen? ⟨g, 1, none⟩ = false := by
  have h2 := (hb.block g (Array.getElem?_eq_some_iff.1 h).1).trans h
  exact ⟨h2, by rw [cell_of_row w' _ 0 _ _ _ h2]; rfl, by rw [cell_of_row w' _ 1 _ _ _ h2]; rfl, by simp [World.frozen?, h2], by simp [World.frozen?, h2]⟩
theorem below_al' {Y X : World} (h : Below Y.heap.size Y X) (o : Obj) : Below Y.heap.size Y (X.alloc o) := h.alloc h.size o
theorem below_tr {Y X X2 : World} (h : Below Y.heap.size Y X) (h2 : Below X.heap.size X X2) : Below Y.heap.size Y X2 := h.trans (h2.mono h.size)
theorem two_a (X : World) (l m : Int × Int) : Two X (((X.alloc (.cells #[.int .u64 l.1, .int .u64 l.2] 58)).alloc (.cells #[.int .u64 m.1, .int .u64 m.2] 58)).drew) X.heap.size (X.heap.size + 1) l m := by
  have h1 := alloc_new X (.cells #[.int .u64 l.1, .int .u64 l.2] 58)
  have h2 := alloc_new (X.alloc (.cells #[.int .u64 l.1, .int .u64 l.2] 58)) (.cells #[.int .u64 m.1, .int .u64 m.2] 58)
  rw [World.size_alloc] at h2
  exact ⟨(((Below.refl _ X).alloc (Nat.le_refl _) _).alloc (by simp) _).drew, (Below.heap_alloc _ _ _ (by simp)).trans h1, h2, by omega, Nat.le_refl _, by omega⟩
theorem two_b (X : World) (l m : Int × Int) : Two X (((X.alloc (.cells #[.int .u64 m.1, .int .u64 m.2] 58)).alloc (.cells #[.int .u64 l.1, .int .u64 l.2] 58)).drew) (X.heap.size + 1) X.heap.size l m := by
  have h := two_a X m l
  exact ⟨h.below, h.h8, h.h7, h.ne.symm, h.n8, h.n7⟩
theorem st11 {Y V : World} {g : Nat} (hb : Below Y.heap.size Y V) (hg : Y.heap.size ≤ g) (h : V.heap[g]? = some (.cells #[.int .u64 0, .int .u64 0] 58 (0, 0))) (S : Int × Int) :
    Below Y.heap.size Y ((V.setCell ⟨g, 0, none⟩ (.int .u64 S.1)).setCell ⟨g, 1, none⟩ (.int .u64 S.2)) ∧ ((V.setCell ⟨g, 0, none⟩ (.int .u64 S.1)).setCell ⟨g, 1, none⟩ (.int .u64 S.2)).heap[g]? = some (.cells #[.int .u64 S.1, .int .u64 S.2] 58 (0, 0)) :=
  ⟨⟨hb.os, hb.tape, hb.output, by rw [setCell_size, setCell_size]; exact hb.size, fun k hk => (setCell_other _ _ _ _ (by omega)).trans ((setCell_other _ _ _ _ (by omega)).trans (hb.block k hk))⟩, (setCell_blk (setCell_blk h _) _).trans rfl⟩
theorem alloc_drew (Y : World) (o : Obj) : (Y.alloc o).drew.heap[Y.heap.size]? = some o := alloc_new Y o
theorem hid_tok {a b : Prop} (_ : a) (h : b) : b := h
theorem st11a {Y w2 w3 : World} {o : Obj} (hb2 : Below (Y.alloc o).drew.heap.size (Y.alloc o).drew w2) (hb3 : Below w2.heap.size w2 w3) (x0 : w3.heap[Y.heap.size]? = some (.cells #[.int .u64 0, .int .u64 0] 58 (0, 0))) (S : Int × Int) :
    Hid (Below Y.heap.size Y ((w3.setCell ⟨Y.heap.size, 0, none⟩ (.int .u64 S.1)).setCell ⟨Y.heap.size, 1, none⟩ (.int .u64 S.2)) ∧ ((w3.setCell ⟨Y.heap.size, 0, none⟩ (.int .u64 S.1)).setCell ⟨Y.heap.size, 1, none⟩ (.int .u64 S.2)).heap[Y.heap.size]? = some (.cells #[.int .u64 S.1, .int .u64 S.2] 58 (0, 0))) :=
  Lib.hid (st11 (below_tr (below_tr (below_al Y o).drew hb2) hb3) (Nat.le_refl _) x0 S)
theorem st11b {Y w2 w3 : World} {o : Obj} (hb2 : Below Y.drew.heap.size Y.drew w2) (hb3 : Below (w2.alloc o).heap.size (w2.alloc o) w3) (x0 : w3.heap[w2.heap.size]? = some (.cells #[.int .u64 0, .int .u64 0] 58 (0, 0))) (S : Int × Int) :
    Hid (Below Y.heap.size Y ((w3.setCell ⟨w2.heap.size, 0, none⟩ (.int .u64 S.1)).setCell ⟨w2.heap.size, 1, none⟩ (.int .u64 S.2)) ∧ ((w3.setCell ⟨w2.heap.size, 0, none⟩ (.int .u64 S.1)).setCell ⟨w2.heap.size, 1, none⟩ (.int .u64 S.2)).heap[w2.heap.size]? = some (.cells #[.int .u64 S.1, .int .u64 S.2] 58 (0, 0))) :=
  Lib.hid (st11 (below_tr (below_al' (below_tr (Below.refl _ Y).drew hb2) o) hb3) hb2.size x0 S)
theorem st11c {Y w2 w3 : World} (hb2 : Below Y.drew.heap.size Y.drew w2) (hb3 : Below w2.heap.size w2 w3) (S : Int × Int) :
    Hid (Below Y.heap.size Y (w3.alloc (.cells #[.int .u64 S.1, .int .u64 S.2] 58)) ∧ (w3.alloc (.cells #[.int .u64 S.1, .int .u64 S.2] 58)).heap[w3.heap.size]? = some (.cells #[.int .u64 S.1, .int .u64 S.2] 58 (0, 0))) :=
  Lib.hid ⟨below_al' (below_tr (below_tr (Below.refl _ Y).drew hb2) hb3) _, alloc_new w3 _⟩
theorem mid_turned {T : Blocks} {w X Z : World} {b7 b8 : Nat} {l m : Int × Int} (hw : Below w.heap.size w X) (hm : Mid X Z b7 b8 l m) (h7 : w.heap.size ≤ b7) (h8 : w.heap.size ≤ b8) : Turned T T w Z :=
  ⟨hm.os.trans hw.os, hm.tape.trans hw.tape, hm.output.trans hw.output, Nat.le_trans hw.size hm.size, fun _ h => h, fun _ h => .inl h, fun k hk _ => (hm.same k (by have := hw.size; omega) (by omega) (by omega)).trans (hw.block k hk)⟩
theorem mid_fit {T : Blocks} {X Z : World} {b b6 b7 b8 : Nat} {s : FitS} {v0 v1 : Value} {l m : Int × Int} (hf : FitAt X T b s v0 v1) (hm : Mid X Z b7 b8 l m) (hT : ∀ k, T k → k < b6) (h7 : b6 < b7) (h8 : b6 < b8) : FitAt Z T b s v0 v1 :=
  hf.keep (fun k hk => hm.same k (hf.lt k hk) (by have := hT k hk; omega) (by have := hT k hk; omega)) (fun _ h => h) (fun k hk => Nat.lt_of_lt_of_le (hf.lt k hk) hm.size)
theorem sc_os (W : World) (a : Addr) (u : Value) : (W.setCell a u).os = W.os := rfl
theorem sc_tape (W : World) (a : Addr) (u : Value) : (W.setCell a u).tape = W.tape := rfl
theorem sc_output (W : World) (a : Addr) (u : Value) : (W.setCell a u).output = W.output := rfl
theorem add_done {T : Blocks} {b b6 b7 b8 : Nat} {s : FitS} {k : Int} {l m : Int × Int} {w wr : World} {T' : Blocks} {u0 u1 : Value} (h : SideAt T b b6 b7 b8 s k l m w wr 2 T' u0 u1) (ha : addF s k = some (nextF s k l m)) (n : Nat) (hn : s.count = n) :
    AddPost T b s k w (.returned (.tuple #[.bool true, .int .i64 0])) ((((((wr.setCell ⟨b, 3, none⟩ (.int .u64 l.1)).setCell ⟨b, 4, none⟩ (.int .u64 l.2)).setCell ⟨b, 5, none⟩ (.int .u64 m.1)).setCell ⟨b, 6, none⟩ (.int .u64 m.2)).setCell ⟨b, 2, none⟩ (.int .u64 k)).setCell ⟨b, 1, none⟩ (.int .i64 ((n : Int) + 1))).drew := by
  subst hn
  have h0 : wr.heap[b]? = some (.cells #[.int .i64 s.e, .int .i64 (s.count : Int), .int .u64 s.last, .int .u64 s.least.1, .int .u64 s.least.2, .int .u64 s.most.1, .int .u64 s.most.2, u0, u1] 62 (0, 0)) := h.fit.blk
  have hb := setCell_blk (setCell_blk (setCell_blk (setCell_blk (setCell_blk (setCell_blk h0 (.int .u64 l.1) (j := 3)) (.int .u64 l.2) (j := 4)) (.int .u64 m.1) (j := 5)) (.int .u64 m.2) (j := 6)) (.int .u64 k) (j := 2)) (.int .i64 ((s.count : Int) + 1)) (j := 1)
  simp only [List.setIfInBounds_toArray, List.set_cons_succ, List.set_cons_zero] at hb
  generalize hZ : (((((wr.setCell ⟨b, 3, none⟩ (.int .u64 l.1)).setCell ⟨b, 4, none⟩ (.int .u64 l.2)).setCell ⟨b, 5, none⟩ (.int .u64 m.1)).setCell ⟨b, 6, none⟩ (.int .u64 m.2)).setCell ⟨b, 2, none⟩ (.int .u64 k)).setCell ⟨b, 1, none⟩ (.int .i64 ((s.count : Int) + 1)) = Z at hb ⊢
  have hk : ∀ i, i ≠ b → Z.heap[i]? = wr.heap[i]? := fun i hi => by
    rw [← hZ, setCell_other _ _ _ _ hi, setCell_other _ _ _ _ hi, setCell_other _ _ _ _ hi, setCell_other _ _ _ _ hi, setCell_other _ _ _ _ hi, setCell_other _ _ _ _ hi]
  have hz : Z.heap.size = wr.heap.size := by
    rw [← hZ, setCell_size, setCell_size, setCell_size, setCell_size, setCell_size, setCell_size]
  have ho : Z.os = wr.os ∧ Z.tape = wr.tape ∧ Z.output = wr.output := by rw [← hZ]; refine ⟨?_, ?_, ?_⟩ <;> simp only [sc_os, sc_tape, sc_output]
  clear hZ
  have hc : ((nextF s k l m).count : Int) = (s.count : Int) + 1 := by simp [nextF]
  have hT : Turned T T' w Z.drew := h.turned.cells h.tb ho.1 ho.2.1 ho.2.2 hk (Nat.le_of_eq hz.symm)
  have hF : FitAt Z T' b (nextF s k l m) u0 u1 := h.fit.cells hk (Nat.le_of_eq hz.symm) (by simp [sideS, nextF]) (by simp [sideS, nextF]) (by rw [hc]; exact hb)
  have hF2 : FitAt Z.drew T' b (nextF s k l m) u0 u1 := hF.below (Below.refl _ Z).drew
  exact ⟨T', u0, u1, hT, .inr ⟨nextF s k l m, ha, rfl, hF2⟩⟩
theorem add_fin {T : Blocks} {b b6 b7 b8 : Nat} {s : FitS} {k : Int} {l m : Int × Int} {w wr : World} {T' : Blocks} {u0 u1 : Value} (h : SideAt T b b6 b7 b8 s k l m w wr 2 T' u0 u1) (ha : addF s k = some (nextF s k l m)) (n : Nat) (hn : s.count = n) :
    (((((wr.setCell ⟨b, 3, none⟩ (.int .u64 l.1)).setCell ⟨b, 4, none⟩ (.int .u64 l.2)).setCell ⟨b, 5, none⟩ (.int .u64 m.1)).setCell ⟨b, 6, none⟩ (.int .u64 m.2)).setCell ⟨b, 2, none⟩ (.int .u64 k)).drew.cell? ⟨b, 1, none⟩ = some (.int .i64 (n : Int)) ∧
    (((((wr.setCell ⟨b, 3, none⟩ (.int .u64 l.1)).setCell ⟨b, 4, none⟩ (.int .u64 l.2)).setCell ⟨b, 5, none⟩ (.int .u64 m.1)).setCell ⟨b, 6, none⟩ (.int .u64 m.2)).setCell ⟨b, 2, none⟩ (.int .u64 k)).drew.frozen? ⟨b, 1, none⟩ = false ∧
    AddPost T b s k w (.returned (.tuple #[.bool true, .int .i64 0])) ((((((wr.setCell ⟨b, 3, none⟩ (.int .u64 l.1)).setCell ⟨b, 4, none⟩ (.int .u64 l.2)).setCell ⟨b, 5, none⟩ (.int .u64 m.1)).setCell ⟨b, 6, none⟩ (.int .u64 m.2)).setCell ⟨b, 2, none⟩ (.int .u64 k)).drew.setCell ⟨b, 1, none⟩ (.int .i64 ((n : Int) + 1))) := by
  have hf := add_done h ha n hn
  have h0 : wr.heap[b]? = some (.cells #[.int .i64 s.e, .int .i64 (s.count : Int), .int .u64 s.last, .int .u64 s.least.1, .int .u64 s.least.2, .int .u64 s.most.1, .int .u64 s.most.2, u0, u1] 62 (0, 0)) := h.fit.blk
  have hb := setCell_blk (setCell_blk (setCell_blk (setCell_blk (setCell_blk h0 (.int .u64 l.1) (j := 3)) (.int .u64 l.2) (j := 4)) (.int .u64 m.1) (j := 5)) (.int .u64 m.2) (j := 6)) (.int .u64 k) (j := 2)
  simp only [List.setIfInBounds_toArray, List.set_cons_succ, List.set_cons_zero] at hb
  generalize ((((wr.setCell ⟨b, 3, none⟩ (.int .u64 l.1)).setCell ⟨b, 4, none⟩ (.int .u64 l.2)).setCell ⟨b, 5, none⟩ (.int .u64 m.1)).setCell ⟨b, 6, none⟩ (.int .u64 m.2)).setCell ⟨b, 2, none⟩ (.int .u64 k) = C at *
  have hb2 : C.drew.heap[b]? = _ := hb
  refine ⟨by rw [cell_of_row C.drew _ 1 _ _ _ hb2, ← hn]; rfl, by simp [World.frozen?, hb2], ?_⟩
  exact hf
theorem laid_arm0 {T' : Blocks} {b : Nat} {s : FitS} {Y w2 : World} {u0 u1 v' : Value} {c' : List Pt} (hf : FitAt Y T' b s u0 u1) (hl : LaidPost Y.drew u0 c' (.returned v') w2) : w2.cell? ⟨b, 7, none⟩ = some u0 ∧ w2.frozen? ⟨b, 7, none⟩ = false ∧ ∃ A n c, v' = .slice A n c := by
  obtain ⟨v2, he, hr, ho, ht, hp, hs, hsame, hown⟩ := hl
  injection he with he
  subst he
  have h : w2.heap[b]? = _ := (hsame b (Array.getElem?_eq_some_iff.1 hf.blk).1 hf.ne0).trans hf.blk
  obtain ⟨A, c, e, _⟩ := own_form hr
  exact ⟨by rw [cell_of_row w2 _ 7 _ _ _ h]; rfl, by simp [World.frozen?, h], A, _, c, e⟩
theorem laid_arm1 {T' : Blocks} {b : Nat} {s : FitS} {Y w2 : World} {u0 u1 v' : Value} {c' : List Pt} (hf : FitAt Y T' b s u0 u1) (hl : LaidPost Y.drew u1 c' (.returned v') w2) : w2.cell? ⟨b, 8, none⟩ = some u1 ∧ w2.frozen? ⟨b, 8, none⟩ = false ∧ ∃ A n c, v' = .slice A n c := by
  obtain ⟨v2, he, hr, ho, ht, hp, hs, hsame, hown⟩ := hl
  injection he with he
  subst he
  have h : w2.heap[b]? = _ := (hsame b (Array.getElem?_eq_some_iff.1 hf.blk).1 hf.ne1).trans hf.blk
  obtain ⟨A, c, e, _⟩ := own_form hr
  exact ⟨by rw [cell_of_row w2 _ 8 _ _ _ h]; rfl, by simp [World.frozen?, h], A, _, c, e⟩
theorem cell_ne {W : World} {g j : Nat} {v : Value} (h : W.cell? ⟨g, j, none⟩ = some v) : ¬ g = W.heap.size := fun e => by
  have h1 := World.block_lt_of_cell? _ _ h
  have h2 : g < W.heap.size := h1
  omega
theorem keep2 {b b6 : Nat} {r0 r1 : Nat} {x0 x1 : Value} {W : World} (h6 : ¬ b6 = b) (j : Nat) (v : Value) (h : W.cell? ⟨b6, r0, none⟩ = some x0 ∧ W.cell? ⟨b6, r1, none⟩ = some x1) :
    (W.setCell ⟨b, j, none⟩ v).cell? ⟨b6, r0, none⟩ = some x0 ∧ (W.setCell ⟨b, j, none⟩ v).cell? ⟨b6, r1, none⟩ = some x1 := by
  have e : ∀ i, (W.setCell ⟨b, j, none⟩ v).cell? ⟨b6, i, none⟩ = W.cell? ⟨b6, i, none⟩ := fun i => by
    unfold World.cell?
    simp only [setCell_other _ _ _ _ h6]
  exact ⟨(e _).trans h.1, (e _).trans h.2⟩
theorem keep2_al {b6 r0 r1 : Nat} {x0 x1 : Value} {W : World} (o : Obj) (h : W.cell? ⟨b6, r0, none⟩ = some x0 ∧ W.cell? ⟨b6, r1, none⟩ = some x1) : (W.alloc o).cell? ⟨b6, r0, none⟩ = some x0 ∧ (W.alloc o).cell? ⟨b6, r1, none⟩ = some x1 := ⟨cell_al h.1 o, cell_al h.2 o⟩
theorem keep2_ald {b6 r0 r1 : Nat} {x0 x1 : Value} {W : World} (o : Obj) (h : W.drew.cell? ⟨b6, r0, none⟩ = some x0 ∧ W.drew.cell? ⟨b6, r1, none⟩ = some x1) : (W.alloc o).drew.cell? ⟨b6, r0, none⟩ = some x0 ∧ (W.alloc o).drew.cell? ⟨b6, r1, none⟩ = some x1 := ⟨cell_al (X := W) h.1 o, cell_al (X := W) h.2 o⟩
theorem keep2_below {b6 r0 r1 : Nat} {x0 x1 : Value} {W W' : World} (hb : Below W.heap.size W W') (h : W.cell? ⟨b6, r0, none⟩ = some x0 ∧ W.cell? ⟨b6, r1, none⟩ = some x1) : W'.cell? ⟨b6, r0, none⟩ = some x0 ∧ W'.cell? ⟨b6, r1, none⟩ = some x1 := ⟨Below.cell1 hb h.1, Below.cell1 hb h.2⟩
theorem keep_b6 {T : Blocks} {b b6 b7 b8 : Nat} {s : FitS} {k : Int} {l m : Int × Int} {w Y w2 : World} {j : Nat} {T' : Blocks} {u0 u1 u v' : Value} {c' : List Pt} (hS : SideAt T b b6 b7 b8 s k l m w Y j T' u0 u1) (hu : ∀ i, u.ownBlock = some i → T' i) (hl : LaidPost Y.drew u c' (.returned v') w2)
    {r0 r1 : Nat} {x0 x1 : Value} (h : Y.drew.cell? ⟨b6, r0, none⟩ = some x0 ∧ Y.drew.cell? ⟨b6, r1, none⟩ = some x1) : w2.cell? ⟨b6, r0, none⟩ = some x0 ∧ w2.cell? ⟨b6, r1, none⟩ = some x1 := by
  obtain ⟨v2, he, hr, ho, ht, hp, hs, hsame, hown⟩ := hl
  have h6 : w2.heap[b6]? = Y.drew.heap[b6]? := hsame b6 (Array.getElem?_eq_some_iff.1 hS.h6).1 (fun e => hS.n6 (hu _ e))
  have e : ∀ i, w2.cell? ⟨b6, i, none⟩ = Y.drew.cell? ⟨b6, i, none⟩ := fun i => by unfold World.cell?; simp only [h6]
  exact ⟨(e _).trans h.1, (e _).trans h.2⟩
theorem keep4 {b b7 b8 : Nat} {l m : Int × Int} {W : World} (h7 : ¬ b7 = b) (h8 : ¬ b8 = b) (j : Nat) (v : Value) (h : W.drew.cell? ⟨b7, 0, none⟩ = some (.int .u64 l.1) ∧ W.drew.cell? ⟨b7, 1, none⟩ = some (.int .u64 l.2) ∧ W.drew.cell? ⟨b8, 0, none⟩ = some (.int .u64 m.1) ∧ W.drew.cell? ⟨b8, 1, none⟩ = some (.int .u64 m.2)) :
    (W.setCell ⟨b, j, none⟩ v).drew.cell? ⟨b7, 0, none⟩ = some (.int .u64 l.1) ∧ (W.setCell ⟨b, j, none⟩ v).drew.cell? ⟨b7, 1, none⟩ = some (.int .u64 l.2) ∧ (W.setCell ⟨b, j, none⟩ v).drew.cell? ⟨b8, 0, none⟩ = some (.int .u64 m.1) ∧ (W.setCell ⟨b, j, none⟩ v).drew.cell? ⟨b8, 1, none⟩ = some (.int .u64 m.2) := by
  have e : ∀ g i, ¬ g = b → (W.setCell ⟨b, j, none⟩ v).drew.cell? ⟨g, i, none⟩ = W.drew.cell? ⟨g, i, none⟩ := fun g i hg => by
    show (W.setCell ⟨b, j, none⟩ v).cell? ⟨g, i, none⟩ = W.cell? ⟨g, i, none⟩
    unfold World.cell?
    simp only [setCell_other _ _ _ _ hg]
  exact ⟨(e _ _ h7).trans h.1, (e _ _ h7).trans h.2.1, (e _ _ h8).trans h.2.2.1, (e _ _ h8).trans h.2.2.2⟩
set_option maxHeartbeats 40000000 in
set_option maxRecDepth 100000 in
theorem add18 (T : Blocks) (b : Nat) (s : FitS) (v0 v1 : Value) (k : Int) (hk : 0 < s.count → s.last < k) (h0 : 0 ≤ k) (h1 : k < 18446744073709551616) (hI : Inv s) (hn : s.count ≤ 1099511627776) (w : World) (hF : FitAt w T b s v0 v1) :
    Calls Try.prog 18 #[.pointer (some ⟨b, 0, none⟩), .int .u64 k] w (AddPost T b s k w) := by
  have hbt := hF.blk
  have c0 : w.cell? ⟨b, 0, none⟩ = some (.int .i64 s.e) := by rw [cell_of_row w _ 0 _ _ _ hbt]; rfl
  have c1 : w.cell? ⟨b, 1, none⟩ = some (.int .i64 (s.count : Int)) := by rw [cell_of_row w _ 1 _ _ _ hbt]; rfl
  have c2 : w.cell? ⟨b, 2, none⟩ = some (.int .u64 s.last) := by rw [cell_of_row w _ 2 _ _ _ hbt]; rfl
  have c3 : w.cell? ⟨b, 3, none⟩ = some (.int .u64 s.least.1) := by rw [cell_of_row w _ 3 _ _ _ hbt]; rfl
  have c4 : w.cell? ⟨b, 4, none⟩ = some (.int .u64 s.least.2) := by rw [cell_of_row w _ 4 _ _ _ hbt]; rfl
  have c5 : w.cell? ⟨b, 5, none⟩ = some (.int .u64 s.most.1) := by rw [cell_of_row w _ 5 _ _ _ hbt]; rfl
  have c6 : w.cell? ⟨b, 6, none⟩ = some (.int .u64 s.most.2) := by rw [cell_of_row w _ 6 _ _ _ hbt]; rfl
  have blt : b < w.heap.size := (Array.getElem?_eq_some_iff.1 hbt).1
  obtain ⟨n, hnn⟩ : ∃ n, s.count = n := ⟨_, rfl⟩
  obtain ⟨E, hE⟩ : ∃ E, s.e = E := ⟨_, rfl⟩
  have he := hI.e
  rw [hE] at c0 he
  rw [hnn] at c1 hn
  have y1 : IntKind.i64.wrap ((n : Int) - E) = (n : Int) - E := IntWalk.i64_in _ (by omega)
  have y2 : IntKind.i64.wrap ((n : Int) + E) = (n : Int) + E := IntWalk.i64_in _ (by omega)
  have g1 : ∃ bb, decide ((n : Int) > 0) = bb := ⟨_, rfl⟩
  have hlast : n ≠ 0 → decide (k ≤ s.last) = false := fun h => decide_eq_false (by have := hk (by omega); omega)
  have HF := Lib.hid hF
  have HI := Lib.hid hI
  have HK := Lib.hid hk
  have HNE := Lib.hid (And.intro hnn hE)
  have HN := Lib.hid hn
  have HL := Lib.hid hlast
  clear g1 hlast hF hI hk hnn hE hbt
  go_enter Try.func18, Try.ntmps18
  go_upto_region 1 with (fail)
  go_cut [25] from 13 to 25 (fun v25 wd => v25 = .bool false ∧ w = wd)
  case first =>
    by_cases hz : n = 0
    · have d1 : decide ((n : Int) > 0) = false := decide_eq_false (by omega)
      have d2 : decide (0 < n) = false := decide_eq_false (by omega)
      clear hz
      go_wp2_with (fail)
      go_meet
      case rel => exact ⟨rfl, rfl⟩
    · have d1 : decide ((n : Int) > 0) = true := decide_eq_true (by omega)
      have d2 : decide (0 < n) = true := decide_eq_true (by omega)
      have d3 := HL.out hz
      clear hz
      go_wp2_with (fail)
      go_meet
      case rel => exact ⟨rfl, rfl⟩
  case rest =>
    obtain ⟨rfl, rfl⟩ := hcut
    go_upto_region 3 with (fail)
    go_region
    go_upto_region 4 with (fail)
    obtain ⟨b6, hb6⟩ : ∃ b6, w.heap.size = b6 := ⟨_, rfl⟩
    obtain ⟨X1, hX1⟩ : ∃ X1, (w.alloc (.cells #[.int .u64 k, .int .i64 ((n : Int) - E), .int .u64 k, .int .i64 ((n : Int) + E)] 65)).drew = X1 := ⟨_, rfl⟩
    have hb1 : Below w.heap.size w X1 := by rw [← hX1]; exact ((Below.refl _ w).alloc (Nat.le_refl _) _).drew
    have e6 : X1.heap[b6]? = some (.cells #[.int .u64 k, .int .i64 ((n : Int) - E), .int .u64 k, .int .i64 ((n : Int) + E)] 65 (0, 0)) := by rw [← hX1, ← hb6]; exact alloc_new w _
    have hs1 : X1.heap.size = b6 + 1 := by rw [← hX1, ← hb6]; exact World.size_alloc _ _
    rw [hX1, hb6]
    have c1' := Below.cell1 hb1 c1
    have c3' := Below.cell1 hb1 c3
    have c4' := Below.cell1 hb1 c4
    have c5' := Below.cell1 hb1 c5
    have c6' := Below.cell1 hb1 c6
    have t3 := cell_al c3'
    have t4 := cell_al c4'
    have t5 := cell_al c5'
    have t6 := cell_al c6'
    have u3 := cell_al2 c3'
    have u4 := cell_al2 c4'
    have u5 := cell_al2 c5'
    have u6 := cell_al2 c6'
    have HB1 := Lib.hid hb1
    have HE6 := Lib.hid e6
    have HS1 := Lib.hid (And.intro hb6 hs1)
    clear hX1 hb1 e6 hs1 hb6 c0 c1 c2 c3 c4 c5 c6 blt
    go_cut [7, 8] from 49 to 56 (fun v7 v8 wd => ∃ b7 b8, v7 = .pointer (some ⟨b7, 0, none⟩) ∧ v8 = .pointer (some ⟨b8, 0, none⟩) ∧ Hid (Two X1 wd b7 b8 s.least s.most))
    case first =>
      go_region
      all_goals
        go_wp2_with (fail)
        go_meet
      case rel => exact ⟨_, _, rfl, rfl, Lib.hid (two_a X1 s.least s.most)⟩
      case rel => exact ⟨_, _, rfl, rfl, Lib.hid (two_b X1 s.least s.most)⟩
    case rest =>
      obtain ⟨b7, b8, rfl, rfl, H2⟩ := hcut
      generalize wc = X at *
      have hwX : Below w.heap.size w X := HB1.out.trans (H2.out.below.mono HB1.out.size)
      have hFX : FitAt X T b s v0 v1 := HF.out.below hwX
      have k1 : X.cell? ⟨b, 1, none⟩ = some (.int .i64 (n : Int)) := Below.cell1 H2.out.below c1'
      have e6 : X.heap[b6]? = some (.cells #[.int .u64 k, .int .i64 ((n : Int) - E), .int .u64 k, .int .i64 ((n : Int) + E)] 65 (0, 0)) := (H2.out.below.block _ (Array.getElem?_eq_some_iff.1 HE6.out).1).trans HE6.out
      have HWX := Lib.hid hwX
      have HFX := Lib.hid hFX
      have HX6 := Lib.hid e6
      have HM0 : Hid (Mid X X b7 b8 s.least s.most) := Lib.hid ⟨rfl, rfl, rfl, Nat.le_refl _, fun _ _ _ _ => rfl, H2.out.h7, H2.out.h8⟩
      have HBB : Hid (w.heap.size = b6 ∧ b6 < b7 ∧ b6 < b8 ∧ b7 ≠ b8 ∧ b6 < X.heap.size ∧ b7 < X.heap.size ∧ b8 < X.heap.size ∧ ∀ k, T k → k < b6) := Lib.hid ⟨HS1.out.1, by have := H2.out.n7; have := HS1.out.2; omega, by have := H2.out.n8; have := HS1.out.2; omega, H2.out.ne, (Array.getElem?_eq_some_iff.1 e6).1, (Array.getElem?_eq_some_iff.1 H2.out.h7).1, (Array.getElem?_eq_some_iff.1 H2.out.h8).1, fun k hk => by rw [← HS1.out.1]; exact HF.out.lt k hk⟩
      clear hwX hFX e6 HF HB1 H2 HE6 HS1 c1' c3' c4' c5' c6' t3 t4 t5 t6 u3 u4 u5 u6
      go_upto_if 61 with (fail)
      go_cut [9, 10, 11] from 61 to 93 (fun v9 v10 v11 wd => ∃ l m : Int × Int, Hid (Mid X wd b7 b8 l m) ∧ Hid (addF s k = some (nextF s k l m)))
      case first =>
        by_cases hz : n = 0
        · have d1 : decide ((n : Int) > 0) = false := decide_eq_false (by omega)
          have HAD : Hid (addF s k = some (nextF s k s.least s.most)) := Lib.hid (by unfold addF; rw [if_pos (by rw [HNE.out.1]; exact hz)])
          have d2 : decide (0 < n) = false := decide_eq_false (by omega)
          clear hz
          first | rw [d1] | rw [d2]
          clear d1 d2
          go_wp2_with (fail)
          go_meet
          case rel => exact ⟨_, _, HM0, HAD⟩
        · have d1 : decide ((n : Int) > 0) = true := decide_eq_true (by omega)
          have HZ : Hid (0 < s.count) := Lib.hid (by rw [HNE.out.1]; omega)
          have d2 : decide (0 < n) = true := decide_eq_true (by omega)
          first | rw [d1] | rw [d2]
          clear d1 d2 hz
          have p0 : X.cell? ⟨b6, 0, none⟩ = some (.int .u64 k) := by rw [cell_of_row X _ 0 _ _ _ HX6.out]; rfl
          have p1 : X.cell? ⟨b6, 1, none⟩ = some (.int .i64 ((n : Int) - E)) := by rw [cell_of_row X _ 1 _ _ _ HX6.out]; rfl
          obtain ⟨P1, hP1⟩ : ∃ P1, touchF 1 s.up (k, (n : Int) - E) = P1 := ⟨_, rfl⟩
          have HT1 : Hid (Calls Try.prog 21 #[.pointer (some ⟨b, 0, none⟩), .int .i64 1, .agg #[.int .u64 k, .int .i64 ((n : Int) - E)]] X fun e w' => e = .returned (.agg #[.int .u64 P1.1, .int .i64 P1.2]) ∧ Below X.heap.size X w') := Lib.hid (by
            rw [← hP1]
            exact touch21 T b s v0 v1 1 s.up (.inr ⟨rfl, rfl⟩) (k, (n : Int) - E) (HI.out.some1 HZ.out).2 (Nat.le_trans HI.out.len.2 (by rw [HNE.out.1]; exact HN.out)) X HFX.out)
          have HP1 := Lib.hid hP1
          clear hP1
          go_upto_if 71 with (go_at_call 21; go_must (refine (HT1.out).mono ?_; rintro e X2 ⟨rfl, hb⟩; have aq0 := cell_al (Below.cell1 hb p0); have aq1 := cell_al (Below.cell1 hb p1); have HB2 := Lib.hid hb; clear hb))
          obtain ⟨b9, hb9⟩ : ∃ b9, X2.heap.size = b9 := ⟨_, rfl⟩
          obtain ⟨X3, hX3⟩ : ∃ X3, X2.alloc (.cells #[.int .u64 P1.1, .int .i64 P1.2] 64) = X3 := ⟨_, rfl⟩
          have hb3 : Below X2.heap.size X2 X3 := by rw [← hX3]; exact below_al X2 _
          have e9 : X3.heap[b9]? = some (.cells #[.int .u64 P1.1, .int .i64 P1.2] 64 (0, 0)) := by rw [← hX3, ← hb9]; exact alloc_new X2 _
          have hXX : Below X.heap.size X X3 := HB2.out.trans (hb3.mono HB2.out.size)
          rw [hX3, hb9]
          have HXX := Lib.hid hXX
          have HE9 := Lib.hid e9
          clear hX3 hb9 hb3 e9 hXX aq0 aq1 p0 p1
          go_cut [10] from 71 to 79 (fun v10 wd => Hid (Mid X wd b7 b8 (leastF s k) s.most))
          case first =>
            as_aux_lemma =>
              by_cases hy : P1.2 < (n : Int) - E
              · have hd : decide (P1.2 < (n : Int) - E) = true := decide_eq_true hy
                obtain ⟨S1, hS1⟩ : ∃ S1, betwF P1 (k, (n : Int) - E) = S1 := ⟨_, rfl⟩
                have hmem := HI.out.up _ (touchF_mem (side := 1) (p := (k, (n : Int) - E)) (HI.out.some1 HZ.out).2)
                rw [HP1.out] at hmem
                have HBT : Hid (∀ w, Calls Try.prog 22 #[.agg #[.int .u64 P1.1, .int .i64 P1.2], .agg #[.int .u64 k, .int .i64 ((n : Int) - E)]] w fun e w' => e = .returned (.agg #[.int .u64 S1.1, .int .u64 S1.2]) ∧ Below w.heap.size w w') := Lib.hid (fun w => betw22 (p := P1) (q := (k, (n : Int) - E)) (by have := HK.out HZ.out; have := hmem.2.2; show P1.1 < k; omega) hmem.2.1 h1 hS1 w)
                obtain ⟨bb, hbb⟩ : ∃ bb, belowF s.least S1 = bb := ⟨_, rfl⟩
                have HLF : Hid (leastF s k = if bb then S1 else s.least) := Lib.hid (by
                  unfold leastF
                  rw [HNE.out.1, HNE.out.2, HP1.out, if_pos hy, hS1, hbb])
                have HBB2 : Hid (belowF s.least S1 = bb) := Lib.hid hbb
                have q6 : X3.heap[b6]? = some (.cells #[.int .u64 k, .int .i64 ((n : Int) - E), .int .u64 k, .int .i64 ((n : Int) + E)] 65 (0, 0)) := (HXX.out.block _ HBB.out.2.2.2.2.1).trans HX6.out
                have p0 : X3.cell? ⟨b6, 0, none⟩ = some (.int .u64 k) := by rw [cell_of_row X3 _ 0 _ _ _ q6]; rfl
                have p1 : X3.cell? ⟨b6, 1, none⟩ = some (.int .i64 ((n : Int) - E)) := by rw [cell_of_row X3 _ 1 _ _ _ q6]; rfl
                have z0 : X3.cell? ⟨b9, 0, none⟩ = some (.int .u64 P1.1) := by rw [cell_of_row X3 _ 0 _ _ _ HE9.out]; rfl
                have z1 : X3.cell? ⟨b9, 1, none⟩ = some (.int .i64 P1.2) := by rw [cell_of_row X3 _ 1 _ _ _ HE9.out]; rfl
                rw [hd]
                clear hd hy hS1 hmem hbb q6
                go_upto_region 9 with (go_at_call 22; go_must (refine (HBT.out _).mono ?_; rintro e X4 ⟨rfl, hb⟩; have HB4 := Lib.hid hb; clear hb))
                obtain ⟨b10, hb10⟩ : ∃ b10, X4.heap.size = b10 := ⟨_, rfl⟩
                obtain ⟨X5, hX5⟩ : ∃ X5, X4.alloc (.cells #[.int .u64 S1.1, .int .u64 S1.2] 58) = X5 := ⟨_, rfl⟩
                have hb5 : Below X4.heap.size X4 X5 := by rw [← hX5]; exact below_al X4 _
                have e10 : X5.heap[b10]? = some (.cells #[.int .u64 S1.1, .int .u64 S1.2] 58 (0, 0)) := by rw [← hX5, ← hb10]; exact alloc_new X4 _
                have hX35 : Below X3.heap.size X3 X5 := HB4.out.trans (hb5.mono HB4.out.size)
                have hM5 : Mid X X5 b7 b8 s.least s.most := (HM0.out.step HXX.out).step hX35
                rw [hX5, hb10]
                obtain ⟨m70, m71, m72, m73⟩ := hM5.c7
                have s0 : X5.cell? ⟨b10, 0, none⟩ = some (.int .u64 S1.1) := by rw [cell_of_row X5 _ 0 _ _ _ e10]; rfl
                have s1 : X5.cell? ⟨b10, 1, none⟩ = some (.int .u64 S1.2) := by rw [cell_of_row X5 _ 1 _ _ _ e10]; rfl
                have HM5 := Lib.hid hM5
                have HE10 := Lib.hid e10
                clear hX5 hb10 hb5 e10 hX35 hM5 p0 p1 z0 z1
                go_upto_if 78 with (go_at_call 23; go_must (refine (hull_below.calls s.least.1 s.least.2 S1.1 S1.2 _ _ (below_some s.least S1)).mono ?_; rintro e X6 ⟨rfl, hb⟩; rw [HBB2.out]; have HB6 := Lib.hid hb; clear hb))
                cases bb with
                | true =>
                  have hM6 : Mid X X6 b7 b8 s.least s.most := HM5.out.step HB6.out
                  obtain ⟨m70, m71, m72, m73⟩ := hM6.c7
                  have s0 := Below.cell1 HB6.out s0
                  have s1 := Below.cell1 HB6.out s1
                  have HM6 := Lib.hid hM6
                  clear hM6
                  go_wp2_with (fail)
                  go_meet
                  case rel => exact Lib.hid (by rw [HLF.out]; exact HM6.out.set7 HBB.out.2.2.2.1)
                | false =>
                  go_wp2_with (fail)
                  go_meet
                  case rel => exact Lib.hid (by rw [HLF.out]; exact HM5.out.step HB6.out)
              · have hd : decide (P1.2 < (n : Int) - E) = false := decide_eq_false hy
                have HLF : Hid (leastF s k = s.least) := Lib.hid (by
                  unfold leastF
                  rw [HNE.out.1, HNE.out.2, HP1.out, if_neg hy])
                rw [hd]
                clear hd hy
                go_wp2_with (fail)
                go_meet
                case rel => exact Lib.hid (by rw [HLF.out]; exact HM0.out.step HXX.out)
          case rest =>
            generalize wc = Y at *
            have HMY := hcut
            have q6 : Y.heap[b6]? = some (.cells #[.int .u64 k, .int .i64 ((n : Int) - E), .int .u64 k, .int .i64 ((n : Int) + E)] 65 (0, 0)) := (HMY.out.same b6 HBB.out.2.2.2.2.1 (by have := HBB.out; omega) (by have := HBB.out; omega)).trans HX6.out
            have hFY : FitAt Y T b s v0 v1 := HFX.out.keep (fun j hj => HMY.out.same j (by have := HBB.out.2.2.2.2.2.2.2 j hj; have := HBB.out; omega) (by have := HBB.out.2.2.2.2.2.2.2 j hj; have := HBB.out; omega) (by have := HBB.out.2.2.2.2.2.2.2 j hj; have := HBB.out; omega)) (fun _ h => h) (fun j hj => by have := HBB.out.2.2.2.2.2.2.2 j hj; have := HBB.out; have := HMY.out.size; omega)
            have p2 : Y.cell? ⟨b6, 2, none⟩ = some (.int .u64 k) := by rw [cell_of_row Y _ 2 _ _ _ q6]; rfl
            have p3 : Y.cell? ⟨b6, 3, none⟩ = some (.int .i64 ((n : Int) + E)) := by rw [cell_of_row Y _ 3 _ _ _ q6]; rfl
            have HFY := Lib.hid hFY
            obtain ⟨P2, hP2⟩ : ∃ P2, touchF 0 s.lo (k, (n : Int) + E) = P2 := ⟨_, rfl⟩
            obtain ⟨S2, hS2⟩ : ∃ S2, betwF P2 (k, (n : Int) + E) = S2 := ⟨_, rfl⟩
            have hmem := HI.out.lo _ (touchF_mem (side := 0) (p := (k, (n : Int) + E)) (HI.out.some1 HZ.out).1)
            rw [hP2] at hmem
            have HBT2 : Hid (∀ w, Calls Try.prog 22 #[.agg #[.int .u64 P2.1, .int .i64 P2.2], .agg #[.int .u64 k, .int .i64 ((n : Int) + E)]] w fun e w' => e = .returned (.agg #[.int .u64 S2.1, .int .u64 S2.2]) ∧ Below w.heap.size w w') := Lib.hid (fun w => betw22 (p := P2) (q := (k, (n : Int) + E)) (by have := HK.out HZ.out; have := hmem.2.2; show P2.1 < k; omega) hmem.2.1 h1 hS2 w)
            have HT2 : Hid (∀ W, Below Y.heap.size Y W → Calls Try.prog 21 #[.pointer (some ⟨b, 0, none⟩), .int .i64 0, .agg #[.int .u64 k, .int .i64 ((n : Int) + E)]] W fun e w' => e = .returned (.agg #[.int .u64 P2.1, .int .i64 P2.2]) ∧ Below W.heap.size W w' ∧ w'.cell? ⟨b6, 2, none⟩ = some (.int .u64 k) ∧ w'.cell? ⟨b6, 3, none⟩ = some (.int .i64 ((n : Int) + E))) := Lib.hid (fun W hW => by
              rw [← hP2]
              refine (touch21 T b s v0 v1 0 s.lo (.inl ⟨rfl, rfl⟩) (k, (n : Int) + E) (HI.out.some1 HZ.out).1 (Nat.le_trans HI.out.len.1 (by rw [HNE.out.1]; exact HN.out)) W (HFY.out.below hW)).mono ?_
              rintro e w' ⟨h1, h2⟩
              exact ⟨h1, h2, Below.cell1 h2 (Below.cell1 hW p2), Below.cell1 h2 (Below.cell1 hW p3)⟩)
            have HP2 := Lib.hid (And.intro hP2 hS2)
            clear q6 hFY hP2 hS2 hmem hcut
            go_upto_region 11 with (fail)
            go_cut [11] from 80 to 86 (fun v11 wd => ∃ b11, v11 = .pointer (some ⟨b11, 0, none⟩) ∧ Hid (Below Y.heap.size Y wd ∧ wd.heap[b11]? = some (.cells #[.int .u64 S2.1, .int .u64 S2.2] 58 (0, 0))))
            case first =>
              as_aux_lemma =>
                have q2 := cell_al p2 (.cells #[.int .u64 0, .int .u64 0] 58)
                have q3 := cell_al p3 (.cells #[.int .u64 0, .int .u64 0] 58)
                clear HMY HWX HFX HX6 HM0 HBB HI HK HN HL HZ HNE HP1 HXX HE9 HFY HP2 k1 hn he y1 y2 h0 h1
                have ld : Y.drew.cell? ⟨b6, 2, none⟩ = some (.int .u64 k) ∧ Y.drew.cell? ⟨b6, 3, none⟩ = some (.int .i64 ((n : Int) + E)) := ⟨p2, p3⟩
                have hn1 : ¬ b6 = Y.heap.size := fun e => by have := World.block_lt_of_cell? _ _ p2; have h2 : b6 < Y.heap.size := this; omega
                go_region_held3 (fun W => W.cell? ⟨b6, 2, none⟩ = some (.int .u64 k) ∧ W.cell? ⟨b6, 3, none⟩ = some (.int .i64 ((n : Int) + E)))
                  (((try dsimp only); first
                    | with_reducible exact ld
                    | with_reducible exact kx
                    | with_reducible exact kz
                    | with_reducible exact keep2_ald _ (by assumption)
                    | with_reducible exact keep2_al _ (by assumption)
                    | with_reducible exact keep2 hn1 _ _ (keep2 hn1 _ _ kx)
                    | with_reducible exact keep2 hn2 _ _ (keep2 hn2 _ _ kx)))
                  (first
                  | (go_at_call 21; refine (HT2.out _ ?tb).mono ?_; (case tb => first | with_reducible exact (Below.refl _ Y).drew | with_reducible exact (below_al Y _).drew | with_reducible exact Below.refl _ _ | with_reducible exact below_al Y _); rintro e w2 ⟨rfl, hb2, z2, z3⟩; have kz := And.intro z2 z3; have hn2 : ¬ b6 = w2.heap.size := cell_ne z2; (try (with_reducible have hx := blk_two (g := Y.heap.size) hb2 (alloc_drew Y _); obtain ⟨y0, y1, y2, y3, y4⟩ := hx)))
                  | (go_at_call 22; refine (HBT2.out _).mono ?_; rintro e w3 ⟨rfl, hb3⟩; have kx := keep2_below (b6 := b6) (r0 := 2) (r1 := 3) hb3 (by assumption); (try (with_reducible have hx := blk_two (g := w2.heap.size) hb3 (alloc_new w2 _); obtain ⟨x0, x1, x2, x3, x4⟩ := hx)); (try (with_reducible have hx := blk_two (g := Y.heap.size) hb3 y0; obtain ⟨x0, x1, x2, x3, x4⟩ := hx))))
                all_goals
                  go_wp2_with (fail)
                  go_meet
                all_goals first
                  | with_reducible exact ⟨_, rfl, st11a hb2 (hid_tok y0 hb3) x0 S2⟩
                  | with_reducible exact ⟨_, rfl, st11b hb2 hb3 x0 S2⟩
                  | with_reducible exact ⟨_, rfl, st11c hb2 hb3 S2⟩
            case rest =>
              obtain ⟨b11, rfl, H11⟩ := hcut
              generalize wc = Y1 at *
              obtain ⟨bb, hbb⟩ : ∃ bb, belowF S2 s.most = bb := ⟨_, rfl⟩
              have HMF : Hid (mostF s k = if bb then S2 else s.most) := Lib.hid (by
                unfold mostF
                rw [HNE.out.1, HNE.out.2, HP2.out.1, HP2.out.2, hbb])
              have HBB3 : Hid (belowF S2 s.most = bb) := Lib.hid hbb
              have hM1 : Mid X Y1 b7 b8 (leastF s k) s.most := HMY.out.step H11.out.1
              obtain ⟨m70, m71, m72, m73⟩ := hM1.c7
              obtain ⟨m80, m81, m82, m83⟩ := hM1.c8
              have s0 : Y1.cell? ⟨b11, 0, none⟩ = some (.int .u64 S2.1) := by rw [cell_of_row Y1 _ 0 _ _ _ H11.out.2]; rfl
              have s1 : Y1.cell? ⟨b11, 1, none⟩ = some (.int .u64 S2.2) := by rw [cell_of_row Y1 _ 1 _ _ _ H11.out.2]; rfl
              have HM1 := Lib.hid hM1
              clear hM1 hbb p2 p3
              go_upto_if 89 with (go_at_call 23; go_must (refine (hull_below.calls S2.1 S2.2 s.most.1 s.most.2 _ _ (below_some S2 s.most)).mono ?_; rintro e Y2 ⟨rfl, hb⟩; rw [HBB3.out]; have HB2' := Lib.hid hb; clear hb))
              go_cut [10] from 89 to 90 (fun v10 wd => Hid (Mid X wd b7 b8 (leastF s k) (mostF s k)))
              case first =>
                cases bb with
                | true =>
                  have hM2 : Mid X Y2 b7 b8 (leastF s k) s.most := HM1.out.step HB2'.out
                  obtain ⟨m80, m81, m82, m83⟩ := hM2.c8
                  have s0 := Below.cell1 HB2'.out s0
                  have s1 := Below.cell1 HB2'.out s1
                  have HM2 := Lib.hid hM2
                  clear hM2
                  go_wp2_with (fail)
                  go_meet
                  case rel => exact Lib.hid (by rw [HMF.out]; exact HM2.out.set8 HBB.out.2.2.2.1)
                | false =>
                  go_wp2_with (fail)
                  go_meet
                  case rel => exact Lib.hid (by rw [HMF.out]; exact HM1.out.step HB2'.out)
              case rest =>
                have HM3 := hcut
                generalize wc = Z at *
                obtain ⟨bc, hbc⟩ : ∃ bc, belowF (mostF s k) (leastF s k) = bc := ⟨_, rfl⟩
                have HBC : Hid (belowF (mostF s k) (leastF s k) = bc) := Lib.hid hbc
                obtain ⟨m70, m71, m72, m73⟩ := HM3.out.c7
                obtain ⟨m80, m81, m82, m83⟩ := HM3.out.c8
                clear hcut hbc s0 s1
                go_upto_if 93 with (go_at_call 23; go_must (refine (hull_below.calls (mostF s k).1 (mostF s k).2 (leastF s k).1 (leastF s k).2 _ _ (below_some (mostF s k) (leastF s k))).mono ?_; rintro e Z2 ⟨rfl, hb⟩; rw [HBC.out]; have HB3 := Lib.hid hb; clear hb))
                have hM4 : Mid X Z2 b7 b8 (leastF s k) (mostF s k) := HM3.out.step HB3.out
                cases bc with
                | true =>
                  have hA : addF s k = none := by
                    unfold addF
                    rw [if_neg (by have := HZ.out; omega), if_pos HBC.out]
                  have HP : Hid (AddPost T b s k w (.returned (.tuple #[.bool false, .int .i64 0])) Z2) := Lib.hid (by
                    have hB := HBB.out
                    exact ⟨T, v0, v1, mid_turned HWX.out hM4 (by omega) (by omega), .inl ⟨hA, rfl, mid_fit HFX.out hM4 hB.2.2.2.2.2.2.2 hB.2.1 hB.2.2.1⟩⟩)
                  go_wp2_with (fail)
                  refine bodyPost_ret (results_tmp2 rfl _ _ _) rfl ?_
                  exact HP.out
                | false =>
                  have HA : Hid (addF s k = some (nextF s k (leastF s k) (mostF s k))) := Lib.hid (by
                    unfold addF
                    rw [if_neg (by have := HZ.out; omega), if_neg (by rw [HBC.out]; exact Bool.false_ne_true)])
                  have HM4 := Lib.hid hM4
                  clear hM4
                  go_wp2_with (fail)
                  go_meet
                  case rel => exact ⟨_, _, HM4, HA⟩
      case rest =>
        obtain ⟨l, m, HM5, HA⟩ := hcut
        generalize wc = Y at *
        have hS0 : SideAt T b b6 b7 b8 s k l m w Y 0 T v0 v1 := by
          have hB := HBB.out
          have hm := HM5.out
          refine ⟨mid_turned HWX.out hm (by omega) (by omega), ?_, HFX.out.tp, ?_, hm.h7, hm.h8, fun h => ?_, fun h => ?_, fun h => ?_⟩
          · have e : sideS s k 0 = s := by simp [sideS]
            rw [e]
            exact mid_fit HFX.out hm hB.2.2.2.2.2.2.2 hB.2.1 hB.2.2.1
          · rw [HNE.out.1, HNE.out.2]
            exact (hm.same b6 hB.2.2.2.2.1 (by omega) (by omega)).trans HX6.out
          · have := hB.2.2.2.2.2.2.2 _ h; omega
          · have := hB.2.2.2.2.2.2.2 _ h; omega
          · have := hB.2.2.2.2.2.2.2 _ h; omega
        have HS0 := Lib.hid hS0
        clear hS0 HM5 HBB HX6 HFX HWX HM0 k1
        go_wp2_with (fail)
        go_loopg [94] 2 (fun kq v94 wd => ∃ T' u0 u1, (v94 = .int .i64 0 ∧ Hid (2 ≤ kq) ∧ Hid (SideAt T b b6 b7 b8 s k l m w wd 0 T' u0 u1)) ∨ (v94 = .int .i64 1 ∧ Hid (1 ≤ kq) ∧ Hid (SideAt T b b6 b7 b8 s k l m w wd 1 T' u0 u1)) ∨ (v94 = .int .i64 2 ∧ Hid (SideAt T b b6 b7 b8 s k l m w wd 2 T' u0 u1)))
        case atStart => exact ⟨T, v0, v1, .inl ⟨rfl, Lib.hid (Nat.le_refl _), HS0⟩⟩
        case round =>
          obtain ⟨T', u0, u1, ⟨rfl, HQ, HS⟩ | ⟨rfl, HQ, HS⟩ | ⟨rfl, HS⟩⟩ := hrel
          · as_aux_lemma =>
              obtain ⟨A, nn, c, hu⟩ : ∃ A nn c, u0 = .slice A nn c := by obtain ⟨A, c, e, _⟩ := own_form HS.out.fit.r0; exact ⟨A, _, c, e⟩
              subst hu
              have hh6 := HS.out.h6
              rw [HNE.out.1, HNE.out.2] at hh6
              have d0 : wr.cell? ⟨b, 7, none⟩ = some (.slice A nn c) := by rw [cell_of_row wr _ 7 _ _ _ HS.out.fit.blk]; rfl
              have p0 : wr.cell? ⟨b6, 0, none⟩ = some (.int .u64 k) := by rw [cell_of_row wr _ 0 _ _ _ hh6]; rfl
              have p1 : wr.cell? ⟨b6, 1, none⟩ = some (.int .i64 ((n : Int) - E)) := by rw [cell_of_row wr _ 1 _ _ _ hh6]; rfl
              have HT : Hid (Calls Try.prog 24 #[.slice A nn c, .agg #[.int .u64 k, .int .i64 ((n : Int) - E)], .int .i64 0] wr.drew (LaidPost wr.drew (.slice A nn c) (laidF 0 s.lo (k, (n : Int) - E)))) := Lib.hid (laid24 0 s.lo (k, (n : Int) - E) _ (Nat.le_trans HI.out.len.1 (by rw [HNE.out.1]; exact HN.out)) wr.drew HS.out.fit.r0)
              clear hh6
              have hb6 : ¬ b6 = b := fun e => HS.out.n6 (by rw [e]; exact HS.out.turned.sub b HS.out.tb)
              have ld : wr.drew.cell? ⟨b6, 0, none⟩ = some (.int .u64 k) ∧ wr.drew.cell? ⟨b6, 1, none⟩ = some (.int .i64 ((n : Int) - E)) := ⟨p0, p1⟩
              go_upto_region 19 with (fail)
              refine wp_region_held_drew (S := fun W => W.cell? ⟨b6, 0, none⟩ = some (.int .u64 k) ∧ W.cell? ⟨b6, 1, none⟩ = some (.int .i64 ((n : Int) - E))) (by kernel_rfl) ld (fun hHeld => ?_)
              refine wpAnyH_take (i := 0) (oi := { dst := some 97, op := Op.move (Operand.tmp 0), type := 46, pos := "hull.go:108", after := #[], guard := none }) (v := ?vv0) rfl (by kernel_rfl) (by kernel_rfl) (by kernel_rfl) (fun _ _ _ h => h) (Or.inl ⟨by rfl, ?hy0⟩) (by assumption) ?rest0
              case hy0 => intro wz hSw; (try dsimp only at hSw); go_simp; try with_reducible rfl
              try simp only [Act.put, List.setIfInBounds_toArray, List.set_cons_zero, List.set_cons_succ]
              refine wpAnyH_take (i := 1) (oi := { dst := some 98, op := Op.move (Operand.tmp 12), type := 3, pos := "hull.go:108", after := #[], guard := none }) (v := ?vv1) rfl (by kernel_rfl) (by kernel_rfl) (by kernel_rfl) (fun _ _ _ h => h) (Or.inl ⟨by rfl, ?hy1⟩) (by assumption) ?rest1
              case hy1 => intro wz hSw; (try dsimp only at hSw); go_simp; try with_reducible rfl
              try simp only [Act.put, List.setIfInBounds_toArray, List.set_cons_zero, List.set_cons_succ]
              refine wpAnyH_take (i := 2) (oi := { dst := some 99, op := Op.move (Operand.tmp 0), type := 46, pos := "hull.go:108", after := #[], guard := none }) (v := ?vv2) rfl (by kernel_rfl) (by kernel_rfl) (by kernel_rfl) (fun _ _ _ h => h) (Or.inl ⟨by rfl, ?hy2⟩) (by assumption) ?rest2
              case hy2 => intro wz hSw; (try dsimp only at hSw); go_simp; try with_reducible rfl
              try simp only [Act.put, List.setIfInBounds_toArray, List.set_cons_zero, List.set_cons_succ]
              refine wpAnyH_take (i := 3) (oi := { dst := some 100, op := Op.move (Operand.tmp 12), type := 3, pos := "hull.go:108", after := #[], guard := none }) (v := ?vv3) rfl (by kernel_rfl) (by kernel_rfl) (by kernel_rfl) (fun _ _ _ h => h) (Or.inl ⟨by rfl, ?hy3⟩) (by assumption) ?rest3
              case hy3 => intro wz hSw; (try dsimp only at hSw); go_simp; try with_reducible rfl
              try simp only [Act.put, List.setIfInBounds_toArray, List.set_cons_zero, List.set_cons_succ]
              refine wpAnyH_take (i := 4) (oi := { dst := some 101, op := Op.nilCheck (Operand.tmp 99), type := 0, pos := "hull.go:108", after := #[{ on := 2, ground := Ground.data }], guard := none }) (v := ?vv4) rfl (by kernel_rfl) (by kernel_rfl) (by kernel_rfl) (fun _ _ _ h => h) (Or.inl ⟨by rfl, ?hy4⟩) (by assumption) ?rest4
              case hy4 => intro wz hSw; (try dsimp only at hSw); go_simp; try with_reducible rfl
              try simp only [Act.put, List.setIfInBounds_toArray, List.set_cons_zero, List.set_cons_succ]
              refine wpAnyH_take (i := 5) (oi := { dst := some 102, op := Op.fieldAddr 62 (Operand.tmp 101) 5, type := 0, pos := "hull.go:108", after := #[{ on := 4, ground := Ground.data }], guard := none }) (v := ?vv5) rfl (by kernel_rfl) (by kernel_rfl) (by kernel_rfl) (fun _ _ _ h => h) (Or.inl ⟨by rfl, ?hy5⟩) (by assumption) ?rest5
              case hy5 => intro wz hSw; (try dsimp only at hSw); go_simp; try with_reducible rfl
              try simp only [Act.put, List.setIfInBounds_toArray, List.set_cons_zero, List.set_cons_succ]
              refine wpAnyH_take (i := 6) (oi := { dst := some 103, op := Op.indexAddr 60 (Operand.tmp 102) (Operand.tmp 100), type := 0, pos := "hull.go:108", after := #[{ on := 5, ground := Ground.data }, { on := 3, ground := Ground.data }], guard := none }) (v := ?vv6) rfl (by kernel_rfl) (by kernel_rfl) (by kernel_rfl) (fun _ _ _ h => h) (Or.inl ⟨by rfl, ?hy6⟩) (by assumption) ?rest6
              case hy6 => intro wz hSw; (try dsimp only at hSw); go_simp; try with_reducible rfl
              try simp only [Act.put, List.setIfInBounds_toArray, List.set_cons_zero, List.set_cons_succ]
              refine wpAnyH_take (i := 8) (oi := { dst := some 105, op := Op.move (Operand.tmp 12), type := 3, pos := "hull.go:108", after := #[], guard := none }) (v := ?vv8) rfl (by kernel_rfl) (by kernel_rfl) (by kernel_rfl) (fun _ _ _ h => h) (Or.inl ⟨by rfl, ?hy8⟩) (by assumption) ?rest8
              case hy8 => intro wz hSw; (try dsimp only at hSw); go_simp; try with_reducible rfl
              try simp only [Act.put, List.setIfInBounds_toArray, List.set_cons_zero, List.set_cons_succ]
              refine wpAnyH_take (i := 9) (oi := { dst := some 106, op := Op.indexAddr 65 (Operand.tmp 6) (Operand.tmp 105), type := 0, pos := "hull.go:108", after := #[{ on := 8, ground := Ground.data }], guard := none }) (v := ?vv9) rfl (by kernel_rfl) (by kernel_rfl) (by kernel_rfl) (fun _ _ _ h => h) (Or.inl ⟨by rfl, ?hy9⟩) (by assumption) ?rest9
              case hy9 => intro wz hSw; (try dsimp only at hSw); go_simp; try with_reducible rfl
              try simp only [Act.put, List.setIfInBounds_toArray, List.set_cons_zero, List.set_cons_succ]
              refine wpAnyH_take (i := 10) (oi := { dst := some 107, op := Op.load 64 (Operand.tmp 106), type := 64, pos := "hull.go:108", after := #[{ on := 9, ground := Ground.data }], guard := none }) (v := ?vv10) rfl (by kernel_rfl) (by kernel_rfl) (by kernel_rfl) (fun _ _ _ h => h) (Or.inl ⟨by rfl, ?hy10⟩) (by assumption) ?rest10
              case hy10 => intro wz hSw; (try dsimp only at hSw); go_simp; try with_reducible rfl
              try simp only [Act.put, List.setIfInBounds_toArray, List.set_cons_zero, List.set_cons_succ]
              refine wpAnyH_take (i := 11) (oi := { dst := some 108, op := Op.move (Operand.tmp 12), type := 3, pos := "hull.go:108", after := #[], guard := none }) (v := ?vv11) rfl (by kernel_rfl) (by kernel_rfl) (by kernel_rfl) (fun _ _ _ h => h) (Or.inl ⟨by rfl, ?hy11⟩) (by assumption) ?rest11
              case hy11 => intro wz hSw; (try dsimp only at hSw); go_simp; try with_reducible rfl
              try simp only [Act.put, List.setIfInBounds_toArray, List.set_cons_zero, List.set_cons_succ]
              refine wpAnyH_take (i := 13) (oi := { dst := some 110, op := Op.nilCheck (Operand.tmp 97), type := 0, pos := "hull.go:108", after := #[{ on := 0, ground := Ground.data }], guard := none }) (v := ?vv13) rfl (by kernel_rfl) (by kernel_rfl) (by kernel_rfl) (fun _ _ _ h => h) (Or.inl ⟨by rfl, ?hy13⟩) (by assumption) ?rest13
              case hy13 => intro wz hSw; (try dsimp only at hSw); go_simp; try with_reducible rfl
              try simp only [Act.put, List.setIfInBounds_toArray, List.set_cons_zero, List.set_cons_succ]
              refine wpAnyH_take (i := 14) (oi := { dst := some 111, op := Op.fieldAddr 62 (Operand.tmp 110) 5, type := 0, pos := "hull.go:108", after := #[{ on := 13, ground := Ground.data }], guard := none }) (v := ?vv14) rfl (by kernel_rfl) (by kernel_rfl) (by kernel_rfl) (fun _ _ _ h => h) (Or.inl ⟨by rfl, ?hy14⟩) (by assumption) ?rest14
              case hy14 => intro wz hSw; (try dsimp only at hSw); go_simp; try with_reducible rfl
              try simp only [Act.put, List.setIfInBounds_toArray, List.set_cons_zero, List.set_cons_succ]
              refine wpAnyH_ready (rs := [7]) (by kernel_rfl) (by simp) ?_
              refine AllReadyH.cons (o := { dst := some 104, op := Op.load 59 (Operand.tmp 103), type := 59, pos := "hull.go:108", after := #[{ on := 6, ground := Ground.data }], guard := none }) rfl (fun K hK => ?_) AllReadyH.nil
              go_simp
              refine hK.out _ _ ?_ (fun hHeld => ?_)
              · (try dsimp only); with_reducible exact hHeld
              clear hK K
              try simp only [Act.put, List.setIfInBounds_toArray, List.set_cons_zero, List.set_cons_succ]
              refine wpAnyH_ready (rs := [12]) (by kernel_rfl) (by simp) ?_
              refine AllReadyH.cons (o := { dst := some 109, op := Op.call { callee := Callee.value (Operand.func 24), args := #[Operand.tmp 104, Operand.tmp 107, Operand.tmp 108], argTypes := #[59, 64, 3] }, type := 59, pos := "hull.go:108", after := #[{ on := 7, ground := Ground.data }, { on := 10, ground := Ground.data }, { on := 11, ground := Ground.data }], guard := none }) rfl (fun K hK => ?_) AllReadyH.nil
              go_simp
              go_at_call 24
              refine (HT.out).mono ?_
              rintro e w2 hl
              have hl2 := hl
              obtain ⟨v', rfl, -⟩ := hl2
              have ha := laid_arm0 HS.out.fit hl
              have hk2 := keep_b6 HS.out HS.out.fit.own0 hl ld
              obtain ⟨a0, a1, A2, n2, c2, rfl⟩ := ha
              have HLP := Lib.hid hl
              clear hl
              go_wp2_with (fail)
              refine hK.out _ _ ?_ (fun hHeld => ?_)
              · (try dsimp only); with_reducible exact hk2
              clear hK K
              try simp only [Act.put, List.setIfInBounds_toArray, List.set_cons_zero, List.set_cons_succ]
              refine wpAnyH_take (i := 15) (oi := { dst := some 112, op := Op.indexAddr 60 (Operand.tmp 111) (Operand.tmp 98), type := 0, pos := "hull.go:108", after := #[{ on := 14, ground := Ground.data }, { on := 1, ground := Ground.data }, { on := 0, ground := Ground.phase }, { on := 1, ground := Ground.phase }, { on := 2, ground := Ground.phase }, { on := 3, ground := Ground.phase }, { on := 4, ground := Ground.phase }, { on := 5, ground := Ground.phase }, { on := 6, ground := Ground.phase }, { on := 7, ground := Ground.phase }, { on := 8, ground := Ground.phase }, { on := 9, ground := Ground.phase }, { on := 10, ground := Ground.phase }, { on := 11, ground := Ground.phase }, { on := 12, ground := Ground.phase }], guard := none }) (v := ?vv15) rfl (by kernel_rfl) (by kernel_rfl) (by kernel_rfl) (fun _ _ _ h => h) (Or.inl ⟨by rfl, ?hy15⟩) (by assumption) ?rest15
              case hy15 => intro wz hSw; (try dsimp only at hSw); go_simp; try with_reducible rfl
              try simp only [Act.put, List.setIfInBounds_toArray, List.set_cons_zero, List.set_cons_succ]
              refine wpAnyH_ready (rs := [16]) (by kernel_rfl) (by simp) ?_
              refine AllReadyH.cons (o := { dst := none, op := Op.store 59 (Operand.tmp 112) (Operand.tmp 109), type := 0, pos := "hull.go:108", after := #[{ on := 15, ground := Ground.data }, { on := 12, ground := Ground.data }, { on := 12, ground := Ground.chain }, { on := 0, ground := Ground.phase }, { on := 1, ground := Ground.phase }, { on := 2, ground := Ground.phase }, { on := 3, ground := Ground.phase }, { on := 4, ground := Ground.phase }, { on := 5, ground := Ground.phase }, { on := 6, ground := Ground.phase }, { on := 7, ground := Ground.phase }, { on := 8, ground := Ground.phase }, { on := 9, ground := Ground.phase }, { on := 10, ground := Ground.phase }, { on := 11, ground := Ground.phase }, { on := 12, ground := Ground.phase }], guard := none }) rfl (fun K hK => ?_) AllReadyH.nil
              go_simp
              refine hK.out _ _ ?_ (fun hHeld => ?_)
              · (try dsimp only); with_reducible exact keep2 hb6 _ _ hk2
              clear hK K
              try simp only [Act.put, List.setIfInBounds_toArray, List.set_cons_zero, List.set_cons_succ]
              refine wpAnyH_done (by kernel_rfl) ?_ _
              go_wp2_with (fail)
              go_roundg 1
              case measure => have := HQ.out; omega
              case rel =>
                have hl := HLP.out
                rw [← HNE.out.1, ← HNE.out.2] at hl
                exact ⟨_, _, _, .inr (.inl ⟨rfl, Lib.hid (Nat.le_refl _), Lib.hid (HS.out.step0 hl)⟩)⟩
          · as_aux_lemma =>
              obtain ⟨A, nn, c, hu⟩ : ∃ A nn c, u1 = .slice A nn c := by obtain ⟨A, c, e, _⟩ := own_form HS.out.fit.r1; exact ⟨A, _, c, e⟩
              subst hu
              have hh6 := HS.out.h6
              rw [HNE.out.1, HNE.out.2] at hh6
              have d0 : wr.cell? ⟨b, 8, none⟩ = some (.slice A nn c) := by rw [cell_of_row wr _ 8 _ _ _ HS.out.fit.blk]; rfl
              have p0 : wr.cell? ⟨b6, 2, none⟩ = some (.int .u64 k) := by rw [cell_of_row wr _ 2 _ _ _ hh6]; rfl
              have p1 : wr.cell? ⟨b6, 3, none⟩ = some (.int .i64 ((n : Int) + E)) := by rw [cell_of_row wr _ 3 _ _ _ hh6]; rfl
              have HT : Hid (Calls Try.prog 24 #[.slice A nn c, .agg #[.int .u64 k, .int .i64 ((n : Int) + E)], .int .i64 1] wr.drew (LaidPost wr.drew (.slice A nn c) (laidF 1 s.up (k, (n : Int) + E)))) := Lib.hid (laid24 1 s.up (k, (n : Int) + E) _ (Nat.le_trans HI.out.len.2 (by rw [HNE.out.1]; exact HN.out)) wr.drew HS.out.fit.r1)
              clear hh6
              have hb6 : ¬ b6 = b := fun e => HS.out.n6 (by rw [e]; exact HS.out.turned.sub b HS.out.tb)
              have ld : wr.drew.cell? ⟨b6, 2, none⟩ = some (.int .u64 k) ∧ wr.drew.cell? ⟨b6, 3, none⟩ = some (.int .i64 ((n : Int) + E)) := ⟨p0, p1⟩
              go_upto_region 19 with (fail)
              refine wp_region_held_drew (S := fun W => W.cell? ⟨b6, 2, none⟩ = some (.int .u64 k) ∧ W.cell? ⟨b6, 3, none⟩ = some (.int .i64 ((n : Int) + E))) (by kernel_rfl) ld (fun hHeld => ?_)
              refine wpAnyH_take (i := 0) (oi := { dst := some 97, op := Op.move (Operand.tmp 0), type := 46, pos := "hull.go:108", after := #[], guard := none }) (v := ?ww0) rfl (by kernel_rfl) (by kernel_rfl) (by kernel_rfl) (fun _ _ _ h => h) (Or.inl ⟨by rfl, ?hz0⟩) (by assumption) ?more0
              case hz0 => intro wz hSw; (try dsimp only at hSw); go_simp; try with_reducible rfl
              try simp only [Act.put, List.setIfInBounds_toArray, List.set_cons_zero, List.set_cons_succ]
              refine wpAnyH_take (i := 1) (oi := { dst := some 98, op := Op.move (Operand.tmp 12), type := 3, pos := "hull.go:108", after := #[], guard := none }) (v := ?ww1) rfl (by kernel_rfl) (by kernel_rfl) (by kernel_rfl) (fun _ _ _ h => h) (Or.inl ⟨by rfl, ?hz1⟩) (by assumption) ?more1
              case hz1 => intro wz hSw; (try dsimp only at hSw); go_simp; try with_reducible rfl
              try simp only [Act.put, List.setIfInBounds_toArray, List.set_cons_zero, List.set_cons_succ]
              refine wpAnyH_take (i := 2) (oi := { dst := some 99, op := Op.move (Operand.tmp 0), type := 46, pos := "hull.go:108", after := #[], guard := none }) (v := ?ww2) rfl (by kernel_rfl) (by kernel_rfl) (by kernel_rfl) (fun _ _ _ h => h) (Or.inl ⟨by rfl, ?hz2⟩) (by assumption) ?more2
              case hz2 => intro wz hSw; (try dsimp only at hSw); go_simp; try with_reducible rfl
              try simp only [Act.put, List.setIfInBounds_toArray, List.set_cons_zero, List.set_cons_succ]
              refine wpAnyH_take (i := 3) (oi := { dst := some 100, op := Op.move (Operand.tmp 12), type := 3, pos := "hull.go:108", after := #[], guard := none }) (v := ?ww3) rfl (by kernel_rfl) (by kernel_rfl) (by kernel_rfl) (fun _ _ _ h => h) (Or.inl ⟨by rfl, ?hz3⟩) (by assumption) ?more3
              case hz3 => intro wz hSw; (try dsimp only at hSw); go_simp; try with_reducible rfl
              try simp only [Act.put, List.setIfInBounds_toArray, List.set_cons_zero, List.set_cons_succ]
              refine wpAnyH_take (i := 4) (oi := { dst := some 101, op := Op.nilCheck (Operand.tmp 99), type := 0, pos := "hull.go:108", after := #[{ on := 2, ground := Ground.data }], guard := none }) (v := ?ww4) rfl (by kernel_rfl) (by kernel_rfl) (by kernel_rfl) (fun _ _ _ h => h) (Or.inl ⟨by rfl, ?hz4⟩) (by assumption) ?more4
              case hz4 => intro wz hSw; (try dsimp only at hSw); go_simp; try with_reducible rfl
              try simp only [Act.put, List.setIfInBounds_toArray, List.set_cons_zero, List.set_cons_succ]
              refine wpAnyH_take (i := 5) (oi := { dst := some 102, op := Op.fieldAddr 62 (Operand.tmp 101) 5, type := 0, pos := "hull.go:108", after := #[{ on := 4, ground := Ground.data }], guard := none }) (v := ?ww5) rfl (by kernel_rfl) (by kernel_rfl) (by kernel_rfl) (fun _ _ _ h => h) (Or.inl ⟨by rfl, ?hz5⟩) (by assumption) ?more5
              case hz5 => intro wz hSw; (try dsimp only at hSw); go_simp; try with_reducible rfl
              try simp only [Act.put, List.setIfInBounds_toArray, List.set_cons_zero, List.set_cons_succ]
              refine wpAnyH_take (i := 6) (oi := { dst := some 103, op := Op.indexAddr 60 (Operand.tmp 102) (Operand.tmp 100), type := 0, pos := "hull.go:108", after := #[{ on := 5, ground := Ground.data }, { on := 3, ground := Ground.data }], guard := none }) (v := ?ww6) rfl (by kernel_rfl) (by kernel_rfl) (by kernel_rfl) (fun _ _ _ h => h) (Or.inl ⟨by rfl, ?hz6⟩) (by assumption) ?more6
              case hz6 => intro wz hSw; (try dsimp only at hSw); go_simp; try with_reducible rfl
              try simp only [Act.put, List.setIfInBounds_toArray, List.set_cons_zero, List.set_cons_succ]
              refine wpAnyH_take (i := 8) (oi := { dst := some 105, op := Op.move (Operand.tmp 12), type := 3, pos := "hull.go:108", after := #[], guard := none }) (v := ?ww8) rfl (by kernel_rfl) (by kernel_rfl) (by kernel_rfl) (fun _ _ _ h => h) (Or.inl ⟨by rfl, ?hz8⟩) (by assumption) ?more8
              case hz8 => intro wz hSw; (try dsimp only at hSw); go_simp; try with_reducible rfl
              try simp only [Act.put, List.setIfInBounds_toArray, List.set_cons_zero, List.set_cons_succ]
              refine wpAnyH_take (i := 9) (oi := { dst := some 106, op := Op.indexAddr 65 (Operand.tmp 6) (Operand.tmp 105), type := 0, pos := "hull.go:108", after := #[{ on := 8, ground := Ground.data }], guard := none }) (v := ?ww9) rfl (by kernel_rfl) (by kernel_rfl) (by kernel_rfl) (fun _ _ _ h => h) (Or.inl ⟨by rfl, ?hz9⟩) (by assumption) ?more9
              case hz9 => intro wz hSw; (try dsimp only at hSw); go_simp; try with_reducible rfl
              try simp only [Act.put, List.setIfInBounds_toArray, List.set_cons_zero, List.set_cons_succ]
              refine wpAnyH_take (i := 10) (oi := { dst := some 107, op := Op.load 64 (Operand.tmp 106), type := 64, pos := "hull.go:108", after := #[{ on := 9, ground := Ground.data }], guard := none }) (v := ?ww10) rfl (by kernel_rfl) (by kernel_rfl) (by kernel_rfl) (fun _ _ _ h => h) (Or.inl ⟨by rfl, ?hz10⟩) (by assumption) ?more10
              case hz10 => intro wz hSw; (try dsimp only at hSw); go_simp; try with_reducible rfl
              try simp only [Act.put, List.setIfInBounds_toArray, List.set_cons_zero, List.set_cons_succ]
              refine wpAnyH_take (i := 11) (oi := { dst := some 108, op := Op.move (Operand.tmp 12), type := 3, pos := "hull.go:108", after := #[], guard := none }) (v := ?ww11) rfl (by kernel_rfl) (by kernel_rfl) (by kernel_rfl) (fun _ _ _ h => h) (Or.inl ⟨by rfl, ?hz11⟩) (by assumption) ?more11
              case hz11 => intro wz hSw; (try dsimp only at hSw); go_simp; try with_reducible rfl
              try simp only [Act.put, List.setIfInBounds_toArray, List.set_cons_zero, List.set_cons_succ]
              refine wpAnyH_take (i := 13) (oi := { dst := some 110, op := Op.nilCheck (Operand.tmp 97), type := 0, pos := "hull.go:108", after := #[{ on := 0, ground := Ground.data }], guard := none }) (v := ?ww13) rfl (by kernel_rfl) (by kernel_rfl) (by kernel_rfl) (fun _ _ _ h => h) (Or.inl ⟨by rfl, ?hz13⟩) (by assumption) ?more13
              case hz13 => intro wz hSw; (try dsimp only at hSw); go_simp; try with_reducible rfl
              try simp only [Act.put, List.setIfInBounds_toArray, List.set_cons_zero, List.set_cons_succ]
              refine wpAnyH_take (i := 14) (oi := { dst := some 111, op := Op.fieldAddr 62 (Operand.tmp 110) 5, type := 0, pos := "hull.go:108", after := #[{ on := 13, ground := Ground.data }], guard := none }) (v := ?ww14) rfl (by kernel_rfl) (by kernel_rfl) (by kernel_rfl) (fun _ _ _ h => h) (Or.inl ⟨by rfl, ?hz14⟩) (by assumption) ?more14
              case hz14 => intro wz hSw; (try dsimp only at hSw); go_simp; try with_reducible rfl
              try simp only [Act.put, List.setIfInBounds_toArray, List.set_cons_zero, List.set_cons_succ]
              refine wpAnyH_ready (rs := [7]) (by kernel_rfl) (by simp) ?_
              refine AllReadyH.cons (o := { dst := some 104, op := Op.load 59 (Operand.tmp 103), type := 59, pos := "hull.go:108", after := #[{ on := 6, ground := Ground.data }], guard := none }) rfl (fun K hK => ?_) AllReadyH.nil
              go_simp
              refine hK.out _ _ ?_ (fun hHeld => ?_)
              · (try dsimp only); with_reducible exact hHeld
              clear hK K
              try simp only [Act.put, List.setIfInBounds_toArray, List.set_cons_zero, List.set_cons_succ]
              refine wpAnyH_ready (rs := [12]) (by kernel_rfl) (by simp) ?_
              refine AllReadyH.cons (o := { dst := some 109, op := Op.call { callee := Callee.value (Operand.func 24), args := #[Operand.tmp 104, Operand.tmp 107, Operand.tmp 108], argTypes := #[59, 64, 3] }, type := 59, pos := "hull.go:108", after := #[{ on := 7, ground := Ground.data }, { on := 10, ground := Ground.data }, { on := 11, ground := Ground.data }], guard := none }) rfl (fun K hK => ?_) AllReadyH.nil
              go_simp
              go_at_call 24
              refine (HT.out).mono ?_
              rintro e w2 hl
              have hl2 := hl
              obtain ⟨v', rfl, -⟩ := hl2
              have ha := laid_arm1 HS.out.fit hl
              have hk2 := keep_b6 HS.out HS.out.fit.own1 hl ld
              obtain ⟨a0, a1, A2, n2, c2, rfl⟩ := ha
              have HLP := Lib.hid hl
              clear hl
              go_wp2_with (fail)
              refine hK.out _ _ ?_ (fun hHeld => ?_)
              · (try dsimp only); with_reducible exact hk2
              clear hK K
              try simp only [Act.put, List.setIfInBounds_toArray, List.set_cons_zero, List.set_cons_succ]
              refine wpAnyH_take (i := 15) (oi := { dst := some 112, op := Op.indexAddr 60 (Operand.tmp 111) (Operand.tmp 98), type := 0, pos := "hull.go:108", after := #[{ on := 14, ground := Ground.data }, { on := 1, ground := Ground.data }, { on := 0, ground := Ground.phase }, { on := 1, ground := Ground.phase }, { on := 2, ground := Ground.phase }, { on := 3, ground := Ground.phase }, { on := 4, ground := Ground.phase }, { on := 5, ground := Ground.phase }, { on := 6, ground := Ground.phase }, { on := 7, ground := Ground.phase }, { on := 8, ground := Ground.phase }, { on := 9, ground := Ground.phase }, { on := 10, ground := Ground.phase }, { on := 11, ground := Ground.phase }, { on := 12, ground := Ground.phase }], guard := none }) (v := ?ww15) rfl (by kernel_rfl) (by kernel_rfl) (by kernel_rfl) (fun _ _ _ h => h) (Or.inl ⟨by rfl, ?hz15⟩) (by assumption) ?more15
              case hz15 => intro wz hSw; (try dsimp only at hSw); go_simp; try with_reducible rfl
              try simp only [Act.put, List.setIfInBounds_toArray, List.set_cons_zero, List.set_cons_succ]
              refine wpAnyH_ready (rs := [16]) (by kernel_rfl) (by simp) ?_
              refine AllReadyH.cons (o := { dst := none, op := Op.store 59 (Operand.tmp 112) (Operand.tmp 109), type := 0, pos := "hull.go:108", after := #[{ on := 15, ground := Ground.data }, { on := 12, ground := Ground.data }, { on := 12, ground := Ground.chain }, { on := 0, ground := Ground.phase }, { on := 1, ground := Ground.phase }, { on := 2, ground := Ground.phase }, { on := 3, ground := Ground.phase }, { on := 4, ground := Ground.phase }, { on := 5, ground := Ground.phase }, { on := 6, ground := Ground.phase }, { on := 7, ground := Ground.phase }, { on := 8, ground := Ground.phase }, { on := 9, ground := Ground.phase }, { on := 10, ground := Ground.phase }, { on := 11, ground := Ground.phase }, { on := 12, ground := Ground.phase }], guard := none }) rfl (fun K hK => ?_) AllReadyH.nil
              go_simp
              refine hK.out _ _ ?_ (fun hHeld => ?_)
              · (try dsimp only); with_reducible exact keep2 hb6 _ _ hk2
              clear hK K
              try simp only [Act.put, List.setIfInBounds_toArray, List.set_cons_zero, List.set_cons_succ]
              refine wpAnyH_done (by kernel_rfl) ?_ _
              go_wp2_with (fail)
              go_roundg 0
              case measure => have := HQ.out; omega
              case rel =>
                have hl := HLP.out
                rw [← HNE.out.1, ← HNE.out.2] at hl
                exact ⟨_, _, _, .inr (.inr ⟨rfl, Lib.hid (HS.out.step1 hl)⟩)⟩
          · as_aux_lemma =>
              have hbk := HS.out.fit.blk
              have hh7 := HS.out.h7
              have hh8 := HS.out.h8
              have f1 : wr.cell? ⟨b, 1, none⟩ = some (.int .i64 (n : Int)) := by rw [cell_of_row wr _ 1 _ _ _ hbk, ← HNE.out.1]; rfl
              have f2 : wr.cell? ⟨b, 2, none⟩ = some (.int .u64 s.last) := by rw [cell_of_row wr _ 2 _ _ _ hbk]; rfl
              have f3 : wr.cell? ⟨b, 3, none⟩ = some (.int .u64 s.least.1) := by rw [cell_of_row wr _ 3 _ _ _ hbk]; rfl
              have f4 : wr.cell? ⟨b, 4, none⟩ = some (.int .u64 s.least.2) := by rw [cell_of_row wr _ 4 _ _ _ hbk]; rfl
              have f5 : wr.cell? ⟨b, 5, none⟩ = some (.int .u64 s.most.1) := by rw [cell_of_row wr _ 5 _ _ _ hbk]; rfl
              have f6 : wr.cell? ⟨b, 6, none⟩ = some (.int .u64 s.most.2) := by rw [cell_of_row wr _ 6 _ _ _ hbk]; rfl
              have ff : ∀ j, wr.frozen? ⟨b, j, none⟩ = false := fun j => by simp [World.frozen?, hbk]
              have ff1 := ff 1
              have ff2 := ff 2
              have ff3 := ff 3
              have ff4 := ff 4
              have ff5 := ff 5
              have ff6 := ff 6
              have l0 : wr.cell? ⟨b7, 0, none⟩ = some (.int .u64 l.1) := by rw [cell_of_row wr _ 0 _ _ _ hh7]; rfl
              have l1 : wr.cell? ⟨b7, 1, none⟩ = some (.int .u64 l.2) := by rw [cell_of_row wr _ 1 _ _ _ hh7]; rfl
              have m0 : wr.cell? ⟨b8, 0, none⟩ = some (.int .u64 m.1) := by rw [cell_of_row wr _ 0 _ _ _ hh8]; rfl
              have m1 : wr.cell? ⟨b8, 1, none⟩ = some (.int .u64 m.2) := by rw [cell_of_row wr _ 1 _ _ _ hh8]; rfl
              have y3 : IntKind.i64.wrap ((n : Int) + 1) = (n : Int) + 1 := IntWalk.i64_in _ (by have := HN.out; omega)
              clear ff hbk hh7 hh8
              have hne7 : ¬ b7 = b := fun e => HS.out.n7 (by rw [e]; exact HS.out.turned.sub b HS.out.tb)
              have hne8 : ¬ b8 = b := fun e => HS.out.n8 (by rw [e]; exact HS.out.turned.sub b HS.out.tb)
              have hne7' : ¬ b = b7 := fun e => hne7 e.symm
              have hne8' : ¬ b = b8 := fun e => hne8 e.symm
              have ld : wr.drew.cell? ⟨b7, 0, none⟩ = some (.int .u64 l.1) ∧ wr.drew.cell? ⟨b7, 1, none⟩ = some (.int .u64 l.2) ∧ wr.drew.cell? ⟨b8, 0, none⟩ = some (.int .u64 m.1) ∧ wr.drew.cell? ⟨b8, 1, none⟩ = some (.int .u64 m.2) := ⟨l0, l1, m0, m1⟩
              go_upto_region 21 with (fail)
              go_region_held3 (fun W => W.cell? ⟨b7, 0, none⟩ = some (.int .u64 l.1) ∧ W.cell? ⟨b7, 1, none⟩ = some (.int .u64 l.2) ∧ W.cell? ⟨b8, 0, none⟩ = some (.int .u64 m.1) ∧ W.cell? ⟨b8, 1, none⟩ = some (.int .u64 m.2)) (((try dsimp only); first | with_reducible exact ld | with_reducible exact keep4 hne7 hne8 _ _ (keep4 hne7 hne8 _ _ (by assumption)) | with_reducible exact keep4 hne7 hne8 _ _ (by assumption))) (fail)
              obtain ⟨Z, hZ⟩ : ∃ Z, (((((wr.setCell ⟨b, 3, none⟩ (.int .u64 l.1)).setCell ⟨b, 4, none⟩ (.int .u64 l.2)).setCell ⟨b, 5, none⟩ (.int .u64 m.1)).setCell ⟨b, 6, none⟩ (.int .u64 m.2)).setCell ⟨b, 2, none⟩ (.int .u64 k)).drew = Z := ⟨_, rfl⟩
              have hfin := add_fin HS.out HA.out n HNE.out.1
              rw [hZ] at hfin
              rw [hZ]
              have zc1 := hfin.1
              have zf1 := hfin.2.1
              have HFIN := Lib.hid hfin.2.2
              clear hfin hZ f1 f2 f3 f4 f5 f6 ff1 ff2 ff3 ff4 ff5 ff6 l0 l1 m0 m1 ld hne7 hne8 hne7' hne8'
              go_wp2_with (fail)
              refine bodyPost_ret (results_tmp2 rfl _ _ _) rfl ?_
              exact HFIN.out
end Go.Proofs.Ytjlegggkibbkjaa.M
end

section
/- TopFew answers true, whatever the input of bulk at most 1048576. -/
namespace Go.Proofs.Ytjlegggkibbkjaa
open Go.RowKit Go.Proofs.YtjlegggkibbkjaaW.PrintWords Go.Proofs.Ytjlegggkibbkjaa.Reading G M Go.Proofs.Ytjlegggkibbkjaa.Pure
set_option linter.unusedVariables false in
theorem Walks.TopFew {w : World} (A0 : Option Addr) (c0 : Nat) (l0 : List Int) (hC0 : Kd.C (Kd.int .u64) w A0 l0.length l0) (hl0 : l0.length ≤ c0) (hg0 : (l0.length * 8 ≤ reach ∧ l0.length ≤ maxLen) ∧ ∀ x ∈ l0, (Lit.int .u64 x).wf = true)
    (a1 : Int) (w1 : (Lit.int .i64 a1).wf = true) (hb : l0.length ≤ 1048576) :
    Calls Try.prog 3 #[.slice A0 l0.length c0, .int .i64 a1] w fun e w' => e = .returned (.bool true) ∧ Below w.heap.size w w' := by
  have hA : AddLaw := add18
  have hw : Wf l0 := fun x hx => by
    have := hg0.2 x hx
    simp [Lit.wf, IntKind.min, IntKind.max, IntKind.signed, IntKind.bits] at this
    omega
  by_cases hg : (2 ≤ a1 ∧ a1 ≤ 64) ∧ risesTo l0 l0.length = true
  · obtain ⟨e, rfl⟩ := Int.eq_ofNat_of_zero_le (show 0 ≤ a1 by omega)
    exact top_good hA A0 c0 l0 e (by omega) hg.2 hw hb hl0 w hC0
  · refine top_bad hA A0 c0 l0 a1 ?_ hb hl0 w hC0
    by_cases h1 : 2 ≤ a1 ∧ a1 ≤ 64
    · right
      cases h : risesTo l0 l0.length with
      | false => rfl
      | true => exact absurd ⟨h1, h⟩ hg
    · exact .inl h1
end Go.Proofs.Ytjlegggkibbkjaa
end

section
/- The row of TopFew: for every input of bulk at most 1048576 the law answers true, and each argument reads as it did. Out of its walk (Walks.TopFew). -/
namespace Go.Proofs.Ytjlegggkibbkjaa.rowTopFew
open Go.ChangeShapes Go.WideShapes Go.ChangeAt Go.RowKit Go.Proofs.Ytjlegggkibbkjaa.Reading
open Go.ChangeMaps (open_string shut_string)
set_option linter.unusedVariables false
theorem own : ownKnob Try.prog.godebug = none := by kernel_rfl
theorem laidOut : laidOutB Try.prog = true := by kernel_rfl
set_option maxRecDepth 100000 in
theorem contract (H : Type) (enc : TypeId × Value → H) (W : World) (base : Nat) (args : Array Value) (ds gs : List (DataW H)) (before : List MemPlace)
    (hval0 : ∀ (j : Nat) t v, Try.f3.params[j]? = some t → args[j]? = some v → Value.okWide Try.prog W .any base t v)
    (hW : DataW.Whole enc Try.prog Try.f3.params.toList Rows.topFewSpec.vars false W args.toList ds gs before) (hk0 : Rows.uptoSmall H (ds ++ gs) = true)
    (hsz0 : (DataW.weightsEach Try.prog (Try.f3.params.toList ++ Rows.topFewSpec.plain.varTypes Try.prog) (ds ++ gs)).all (· ≤ reachBytes) = true) :
    Calls Try.prog 3 args W fun e W' => ∃ v, e = .returned v ∧ Rows.topFewSpec.post enc Try.prog Try.f3 false true false false W args v W' := by
  have hval := hval0
  have hsz := hsz0
  have hW' := hW
  obtain ⟨p, q, hA0, hV, rfl, hfz, hnd⟩ := hW
  have hA : DataW.TrodAll enc Try.prog W 0 (fun _ => true) true Try.f3.params.toList args.toList ds p := hA0
  rw [Try.params3] at hA hval hsz
  obtain ⟨v0, vs0, d0, ds0, p0, q0, hargs, rfl, rfl, h0, r0⟩ := trodAll_cons hA
  obtain ⟨v1, vs1, d1, ds1, p1, q1, rfl, rfl, rfl, h1, r1⟩ := trodAll_cons r0
  obtain ⟨rfl, rfl, rfl⟩ := trodAll_nil r1
  obtain rfl : args = #[v0, v1] := by cases args; simp_all
  obtain ⟨rfl, rfl⟩ := trodVars_none hV
  have hwt := weights_at hsz
  have hk : Rows.uptoBulkAll (d0 :: d1 :: ([] : List (DataW H))) ≤ 1048576 := by
    have h := of_decide_eq_true hk0
    simpa using h
  have k0 := h0
  have lt0 : ∀ x ∈ p0, x.block < W.heap.size := by obtain ⟨m, hm⟩ := k0; exact DataW.trod_lt m _ _ _ hm
  have wt0 : ∀ n ∈ DataW.weights Try.prog 22 d0, n ≤ reach := fun n hn => hwt n (by simp only [List.cons_append, List.nil_append, List.append_nil, DataW.weightsEach, List.mem_append]; first | exact hn | exact (.inl hn) | exact hn)
  obtain ⟨A0, c0, l0, rfl, hl0, hC0, hg0, hb0⟩ := slice_top (okWide_slice' Try.underlying22 (hval 0 22 v0 rfl rfl)) (open22 enc W 0 (fun _ => true) true) h0 wt0
  have k1 := h1
  have lt1 : ∀ x ∈ p1, x.block < W.heap.size := by obtain ⟨m, hm⟩ := k1; exact DataW.trod_lt m _ _ _ hm
  have wt1 : ∀ n ∈ DataW.weights Try.prog 3 d1, n ≤ reach := fun n hn => hwt n (by simp only [List.cons_append, List.nil_append, List.append_nil, DataW.weightsEach, List.mem_append]; first | exact hn | exact (.inr (.inl hn)) | exact (.inr hn))
  obtain ⟨a1, rfl, rfl, rfl, w1⟩ := open_int Try.underlying3 (hval 1 3 v1 rfl rfl) h1
  simp only [Rows.uptoBulkAll] at hk
  clear hA0 hval0 hsz0 hsz
  refine (Walks.TopFew A0 c0 l0 hC0 hl0 hg0 a1 w1 (by omega)).mono fun e W' ⟨he, bel⟩ => ?_
  subst he
  exact ⟨_, rfl, _, _, _, [], _, [], hW', trodAll_mk1 (shut_bool Try.underlying4 _), (trodAll_cons_mk (Below.trod laidOut (by kernel_rfl) (of_decide_eq_true (by kernel_rfl)) k0 bel lt0) (trodAll_cons_mk (Below.trod laidOut (by kernel_rfl) (of_decide_eq_true (by kernel_rfl)) k1 bel lt1) trodAll_mk0)), rfl, bel.frame _, fun h => by cases h⟩
set_option maxRecDepth 100000 in
theorem lifted (os : Os) (started : os.Started) (H : Type) (enc : TypeId × Value → H) (F : Stop.Interp) :
    ReturnsInHanded {} Try.checked os 3 .any ((Rows.OpenSpec.upto Rows.topFewSpec).pre6 enc Try.prog Try.f3 Rows.topFewUptoRow.domain false) (((Rows.OpenSpec.upto Rows.topFewSpec).at F).post enc Try.prog Try.f3 false true false false) := by
  refine returnsInHanded_of_cond_sized (C := Try.checked) (s := (Rows.OpenSpec.upto Rows.topFewSpec)) (k := Rows.uptoSmall) rfl own started (by kernel_rfl) Try.func3
    (OpenSpec.witness (enc := enc) (C := Try.checked) (s := (Rows.OpenSpec.upto Rows.topFewSpec)) (k := Rows.uptoSmall) rfl false ⟨#[], #[.slice none 0 0, .int .i64 0], []⟩ 8 (by kernel_rfl) (by kernel_rfl) (by kernel_rfl) (x := ([.nil, .lit (.int .i64 0)], [], [])) (by kernel_rfl) rfl (by kernel_rfl)) ?_
  intro W base args ds gs before hval hW _ hk hsz _
  exact contract H enc W base args ds gs before hval hW hk hsz
theorem over : Rows.topFewUptoRow.holds Try.pinned (Rows.OpenSpec.upto Rows.topFewSpec) :=
  OpenClaim.holds_of_cond 3 Try.f3 rfl rfl rfl rfl rfl rfl rfl ⟨rfl, rfl, rfl, rfl, rfl⟩ rfl rfl rfl rfl rfl (by kernel_rfl) Try.func3 (by kernel_rfl)
    (of_decide_eq_true (by kernel_rfl)) (by unfold Func.isWrapper; first | (rw [if_pos (by decide +kernel)]; kernel_rfl) | (rw [if_neg (by decide +kernel)]; exact ⟨rfl, rfl⟩))
    (fun os started H enc _ F => lifted os started H enc F)
end Go.Proofs.Ytjlegggkibbkjaa.rowTopFew
namespace Go.Proofs.Ytjlegggkibbkjaa
/-- The row. -/
theorem topFew_holds : Rows.TopFewUptoSaid := rowTopFew.over
#print axioms topFew_holds
end Go.Proofs.Ytjlegggkibbkjaa
end
