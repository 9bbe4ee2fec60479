/- Some of the claim's own texts, in one file: Touch, LaidW, Side, NewW, LeastW, RiseW, Fl, Fm, Fn, TopL, LineW, ModelW, CutW, SegM, PlainT. Conditions: each theorem's own. -/
import Derived.Test.YtjlegggkibbkjaaZTop2
import Derived.Deep.RegionHeld3
import Derived.Deep.QuietTactic
import Derived.BigQuiet
import Derived.BigRegion
import Derived.Deep.LoopGhost
import Derived.WalkSpells
import Derived.StillTactics
import Derived.KernelRfl
import Derived.Deep.DeepCutAuto
import Derived.Deep.CutBlock
import Derived.Deep.DeepMust
import Derived.Deep.RegionWith
import Derived.RowKit3
import Derived.WideLaws
import Derived.OrdersHeld
import Derived.IntWalk
import Derived.Maps.AppendAt
import Derived.Test.YtjlegggkibbkjaaZTop1
import Derived.Test.YtjlegggkibbkjaaProg
import Derived.Laws.Externs
import Derived.Laws.FloatArith
import Derived.WalkKit
import Derived.Tactics
import Derived.Lib.Hide
import Derived.Lib.ItoaNum
import Derived.Laws.Closers25b
import Derived.WalkMore
section
/- (*Fit).touching, its closure, sort.Search. -/
namespace Go.Proofs.Ytjlegggkibbkjaa.M
open Go Go.RowKit Go.Shelf Go.Proofs.Ytjlegggkibbkjaa.Pure Go.Proofs.Ytjlegggkibbkjaa.G Go.Proofs.YtjlegggkibbkjaaW.PrintWords
set_option linter.unusedVariables false
set_option linter.unusedSimpArgs false
theorem goes31 : ∀ args w, (callFunc 31 args).run Try.prog w = .ok (.enter 31 args) w := by
  intro args w
  have hf := Try.func31
  simp [callFunc, go_sem, hf, Try.f31]
theorem ge_eq (side v : Int) : decide (0 ≤ IntKind.i64.wrap (v * bendF side)) = geF side v := by
  unfold geF wrap64
  rw [IntKind.wrap_i64]
set_option maxHeartbeats 4000000 in
set_option maxRecDepth 100000 in
theorem test31 (side : Int) (c : List Pt) (p : Pt) (i : Nat) (hi : i + 1 < c.length) (hl : c.length ≤ 1099511627776) (g cap bC bP bS : Nat) (w : World)
    (hC : w.heap[bC]? = some (.cells #[.slice (some ⟨g, 0, none⟩) c.length cap] 59 (0, 0))) (hP : w.heap[bP]? = some (.cells #[.int .u64 p.1, .int .i64 p.2] 64 (0, 0))) (hS : w.heap[bS]? = some (.cells #[.int .i64 side] 3 (0, 0))) (hr : PAt w g c) :
    Calls Try.prog 31 #[.int .i64 (i : Int), .pointer (some ⟨bC, 0, none⟩), .pointer (some ⟨bP, 0, none⟩), .pointer (some ⟨bS, 0, none⟩)] w fun e w' => e = .returned (.bool (testF side c p i)) ∧ Below w.heap.size w w' := by
  have kC : w.cell? ⟨bC, 0, none⟩ = some (.slice (some ⟨g, 0, none⟩) c.length cap) := by rw [cell_of_row w _ 0 _ _ _ hC]; rfl
  have kP0 : w.cell? ⟨bP, 0, none⟩ = some (.int .u64 p.1) := by rw [cell_of_row w _ 0 _ _ _ hP]; rfl
  have kP1 : w.cell? ⟨bP, 1, none⟩ = some (.int .i64 p.2) := by rw [cell_of_row w _ 1 _ _ _ hP]; rfl
  have kS : w.cell? ⟨bS, 0, none⟩ = some (.int .i64 side) := by rw [cell_of_row w _ 0 _ _ _ hS]; rfl
  obtain ⟨a0, a1⟩ := hr.pt (j := i) (by omega)
  obtain ⟨b0, b1⟩ := hr.pt hi
  obtain ⟨i2, hi2⟩ : ∃ i2, i + 1 = i2 := ⟨_, rfl⟩
  have hi3 : (i : Int) + 1 = (i2 : Int) := by omega
  have hw2 : IntKind.i64.wrap (i2 : Int) = (i2 : Int) := IntWalk.i64_in _ (by omega)
  rw [hi2] at b0 b1
  obtain ⟨P, hPt⟩ : ∃ P, pt c i = P := ⟨_, rfl⟩
  obtain ⟨Q, hQt⟩ : ∃ Q, pt c i2 = Q := ⟨_, rfl⟩
  rw [hPt] at a0 a1
  rw [hQt] at b0 b1
  have HT : Hid (testF side c p i = geF side (steepF P Q p)) := Lib.hid (by unfold testF; rw [hi2, hPt, hQt])
  rw [HT.out]
  obtain ⟨n, hn⟩ : ∃ n, c.length = n := ⟨_, rfl⟩
  rw [hn] at kC
  have n0 : (0 : Int) ≤ (i : Int) := by omega
  have n1 : (i : Int) < (n : Int) := by omega
  have n2 : (0 : Int) ≤ (i2 : Int) := by omega
  have n3 : (i2 : Int) < (n : Int) := by omega
  have m1 : i < n := by omega
  have m2 : i2 < n := by omega
  clear hC hP hS hr hi hl hi2 hPt hQt hn HT
  go_enter Try.func31, Try.ntmps31
  go_upto_region 1 with (fail)
  go_region_held3 (fun w' => w'.cell? ⟨bC, 0, none⟩ = some (.slice (some ⟨g, 0, none⟩) n cap) ∧ w'.cell? ⟨bP, 0, none⟩ = some (.int .u64 p.1) ∧ w'.cell? ⟨bP, 1, none⟩ = some (.int .i64 p.2) ∧ w'.cell? ⟨bS, 0, none⟩ = some (.int .i64 side) ∧ w'.cell? ⟨g, i * 2, none⟩ = some (.int .u64 P.1) ∧ w'.cell? ⟨g, i * 2 + 1, none⟩ = some (.int .i64 P.2) ∧ w'.cell? ⟨g, i2 * 2, none⟩ = some (.int .u64 Q.1) ∧ w'.cell? ⟨g, i2 * 2 + 1, none⟩ = some (.int .i64 Q.2))
    (first
      | go_keep
      | (go_split_ands
         refine ⟨?_, ?_, ?_, ?_, ?_, ?_, ?_, ?_⟩ <;> (refine (hbl.cell (World.block_lt_of_cell? _ _ (by assumption))).trans ?_; assumption)))
    (first
      | (go_at_call 32; refine (hull_steeper.calls P.1 P.2 Q.1 Q.2 p.1 p.2 _ _ (steep_some P Q p)).mono ?_; rintro e w1 ⟨rfl, hbl⟩)
      | (go_at_call 33; refine (hull_bend.calls side _ _ (bend_some side)).mono ?_; rintro e w1 ⟨rfl, ⟨nd, rfl⟩⟩))
  go_wp2_with (fail)
  refine bodyPost_ret (results_tmp rfl _ _ _) rfl ?_
  have hb : Below w.heap.size w w1 := ⟨hbl.os, hbl.tape, hbl.output, hbl.size, hbl.block⟩
  refine ⟨congrArg (fun b => Ending.returned (.bool b)) (ge_eq side (steepF P Q p)), ?_⟩
  exact ⟨hb.os, hb.tape, hb.output, hb.size, hb.block⟩
set_option maxHeartbeats 4000000 in
set_option maxRecDepth 100000 in
/-- sort.Search, of a closure that answers f. -/
theorem search30 (f : Nat → Bool) (n : Nat) (hn : n ≤ 1099511627776) (p7 p5 p4 : Value) (w : World)
    (hf : ∀ (i : Nat) (w1 : World), i < n → Below w.heap.size w w1 → Calls Try.prog 31 #[.int .i64 (i : Int), p7, p5, p4] w1 fun e w' => e = .returned (.bool (f i)) ∧ Below w1.heap.size w1 w') :
    Calls Try.prog 30 #[.int .i64 (n : Int), .func (.func 31) #[] #[p7, p5, p4]] w fun e w' => e = .returned (.int .i64 (searchF f n 0 n : Int)) ∧ Below w.heap.size w w' := by
  have HF := Lib.hid hf
  have hg := goes31
  clear hf
  obtain ⟨R, hR⟩ : ∃ R, searchF f n 0 n = R := ⟨_, rfl⟩
  rw [hR]
  have HR0 : Hid (searchF f (n - 0) 0 n = R) := Lib.hid hR
  clear hR
  go_enter Try.func30, Try.ntmps30
  go_wp2_with (fail)
  go_loopg [5, 6] n (fun kq v5 v6 w' => ∃ (i j : Nat), v5 = .int .i64 (i : Int) ∧ v6 = .int .i64 (j : Int) ∧ Hid (i ≤ j ∧ j ≤ n ∧ j - i ≤ kq) ∧ Hid (searchF f (j - i) i j = R) ∧ Hid (Below w.heap.size w w'))
  case atStart => exact ⟨0, n, rfl, rfl, Lib.hid ⟨Nat.zero_le _, Nat.le_refl _, by omega⟩, HR0, Lib.hid (Below.refl _ _)⟩
  case round =>
    obtain ⟨i, j, rfl, rfl, HI, HS, HB⟩ := hrel
    by_cases hlt : i < j
    · have hd : decide ((i : Int) < (j : Int)) = true := decide_eq_true (Int.ofNat_lt.2 hlt)
      have hd2 : decide (i < j) = true := decide_eq_true hlt
      obtain ⟨sm, hsm⟩ : ∃ sm : Nat, i + j = sm := ⟨_, rfl⟩
      obtain ⟨h, hh⟩ : ∃ h : Nat, sm / 2 = h := ⟨_, rfl⟩
      have h1 : (i : Int) + (j : Int) = (sm : Int) := by omega
      have h2 : (sm : Int) / 2 = (h : Int) := by omega
      have hw1 : IntKind.i64.wrap (sm : Int) = (sm : Int) := IntWalk.i64_in _ (by have := HI.out; omega)
      have hw2 : IntKind.u64.wrap (sm : Int) = (sm : Int) := by rw [IntKind.wrap_u64]; have := HI.out; omega
      have hw3 : IntKind.i64.wrap (h : Int) = (h : Int) := IntWalk.i64_in _ (by have := HI.out; omega)
      have hw4 : wrap64 (h : Int) = (h : Int) := by unfold wrap64; have := HI.out; omega
      obtain ⟨h3, hh3⟩ : ∃ h3 : Nat, h + 1 = h3 := ⟨_, rfl⟩
      have h4 : (h : Int) + 1 = (h3 : Int) := by omega
      have hw5 : IntKind.i64.wrap (h3 : Int) = (h3 : Int) := IntWalk.i64_in _ (by have := HI.out; omega)
      have HH : Hid (i ≤ h ∧ h < j ∧ h < n ∧ h3 = h + 1 ∧ (i + j) / 2 = h) := Lib.hid (by have := HI.out; omega)
      have HS2 : Hid (searchF f (j - i) i j = if f h then searchF f (h - i) i h else searchF f (j - h3) h3 j) := Lib.hid (by
        obtain ⟨d, hd⟩ : ∃ d, j - i = d + 1 := ⟨j - i - 1, by omega⟩
        rw [hd]
        simp only [searchF]
        rw [if_pos hlt, HH.out.2.2.2.2, ← hh3]
        split
        · exact searchF_fuel f _ _ _ _ (by omega) (by omega)
        · exact searchF_fuel f _ _ _ _ (by omega) (by omega))
      clear hlt hsm hh hh3
      cases hfh : f h with
      | true =>
        have HFH := Lib.hid hfh
        clear hfh
        go_wp2_with (go_at_call 31; go_must (refine (HF.out h _ HH.out.2.2.1 HB.out).mono ?_; rintro e w1 ⟨rfl, hb⟩; rw [HFH.out]; have HB1 := Lib.hid (HB.out.trans (hb.mono HB.out.size)); clear hb))
        go_roundg (h - i)
        case measure => have := HH.out; have := HI.out; omega
        case rel => exact ⟨i, h, rfl, rfl, Lib.hid (by have := HH.out; have := HI.out; omega), Lib.hid (by have := HS2.out; rw [if_pos HFH.out] at this; rw [← this, HS.out]), HB1⟩
      | false =>
        have HFH := Lib.hid hfh
        clear hfh
        go_wp2_with (go_at_call 31; go_must (refine (HF.out h _ HH.out.2.2.1 HB.out).mono ?_; rintro e w1 ⟨rfl, hb⟩; rw [HFH.out]; have HB1 := Lib.hid (HB.out.trans (hb.mono HB.out.size)); clear hb))
        go_roundg (j - h3)
        case measure => have := HH.out; have := HI.out; omega
        case rel => exact ⟨h3, j, rfl, rfl, Lib.hid (by have := HH.out; have := HI.out; omega), Lib.hid (by have := HS2.out; rw [if_neg (by rw [HFH.out]; decide)] at this; rw [← this, HS.out]), HB1⟩
    · have hd : decide ((i : Int) < (j : Int)) = false := decide_eq_false (fun h => hlt (Int.ofNat_lt.1 h))
      have hd2 : decide (i < j) = false := decide_eq_false hlt
      have hie : i = j := by have := HI.out; omega
      subst hie
      have HE : Hid (i = R) := Lib.hid (by have := HS.out; rw [Nat.sub_self] at this; exact this)
      clear hlt
      go_wp2_with (fail)
      refine bodyPost_ret (results_tmp rfl _ _ _) rfl ?_
      rw [← HE.out]
      exact ⟨rfl, HB.out⟩
set_option maxHeartbeats 4000000 in
set_option maxRecDepth 100000 in
theorem touch21 (T : Blocks) (b : Nat) (s : FitS) (v0 v1 : Value) (side : Int) (c : List Pt) (hs : side = 0 ∧ c = s.lo ∨ side = 1 ∧ c = s.up) (p : Pt) (h0 : 0 < c.length) (hl : c.length ≤ 1099511627776) (w : World) (hF : FitAt w T b s v0 v1) :
    Calls Try.prog 21 #[.pointer (some ⟨b, 0, none⟩), .int .i64 side, .agg #[.int .u64 p.1, .int .i64 p.2]] w fun e w' => e = .returned (.agg #[.int .u64 (touchF side c p).1, .int .i64 (touchF side c p).2]) ∧ Below w.heap.size w w' := by
  obtain ⟨vc, hvc, hrow, hat⟩ : ∃ vc, w.cell? ⟨b, 7 + side.toNat, none⟩ = some vc ∧ w.ownsRow 0 64 2 vc c.length (prow c) ∧ 0 ≤ side ∧ side < 2 := by
    rcases hs with ⟨rfl, rfl⟩ | ⟨rfl, rfl⟩
    · exact ⟨v0, by show w.cell? ⟨b, 7, none⟩ = _; rw [cell_of_row w _ 7 _ _ _ hF.blk]; rfl, hF.r0, by decide, by decide⟩
    · exact ⟨v1, by show w.cell? ⟨b, 8, none⟩ = _; rw [cell_of_row w _ 8 _ _ _ hF.blk]; rfl, hF.r1, by decide, by decide⟩
  obtain ⟨g, cap, evc, _⟩ : ∃ g cap, vc = .slice (some ⟨g, 0, none⟩) c.length cap ∧ True := by
    obtain ⟨g, cap, e, _⟩ := hrow.form h0
    exact ⟨g, cap, e, trivial⟩
  subst evc
  have hpa := pat_of_own hrow
  have hlt := hF.lt b hF.tp
  have HPA := Lib.hid hpa
  have HL := Lib.hid hl
  have H0 := Lib.hid h0
  have HG : Hid (g < w.heap.size) := Lib.hid (hrow.lt g (by simp [Value.ownBlock])).2
  obtain ⟨n, hn⟩ : ∃ n, c.length = n := ⟨_, rfl⟩
  have HN := Lib.hid hn
  have hsd0 := hat.1
  have hsd1 := hat.2
  rw [hn] at hvc
  clear hF hpa hl h0 hrow hs hn hat
  go_enter Try.func21, Try.ntmps21
  go_upto_region 1 with (fail)
  obtain ⟨bS, hbS⟩ : ∃ bS, w.heap.size = bS := ⟨_, rfl⟩
  obtain ⟨bP, hbP⟩ : ∃ bP, bS + 1 = bP := ⟨_, rfl⟩
  obtain ⟨b6, hb6⟩ : ∃ b6, bP + 1 = b6 := ⟨_, rfl⟩
  obtain ⟨X, hX⟩ : ∃ X, ((w.alloc (.cells #[.int .i64 side] 3)).alloc (.cells #[.int .u64 p.1, .int .i64 p.2] 64)).alloc (.cells #[.int .u64 0, .int .i64 0] 64) = X := ⟨_, rfl⟩
  have bA := (Below.refl _ w).alloc (Nat.le_refl _) (.cells #[.int .i64 side] 3)
  have bB := (Below.refl _ (w.alloc (.cells #[.int .i64 side] 3))).alloc (Nat.le_refl _) (.cells #[.int .u64 p.1, .int .i64 p.2] 64)
  have bC := (Below.refl _ ((w.alloc (.cells #[.int .i64 side] 3)).alloc (.cells #[.int .u64 p.1, .int .i64 p.2] 64))).alloc (Nat.le_refl _) (.cells #[.int .u64 0, .int .i64 0] 64)
  have hXb : Below w.heap.size w X := by rw [← hX]; exact (bA.trans (bB.mono (by simp))).trans (bC.mono (by simp; omega))
  have hXs : X.heap.size = b6 + 1 := by rw [← hX]; simp; omega
  have eS : X.heap[bS]? = some (.cells #[.int .i64 side] 3 (0, 0)) := by
    rw [← hX, bC.block _ (by simp; omega), bB.block _ (by simp; omega), ← hbS]
    exact alloc_new w _
  have eP : X.heap[bP]? = some (.cells #[.int .u64 p.1, .int .i64 p.2] 64 (0, 0)) := by
    rw [← hX, bC.block _ (by simp; omega), ← hbP, ← hbS]
    have := alloc_new (w.alloc (.cells #[.int .i64 side] 3)) (.cells #[.int .u64 p.1, .int .i64 p.2] 64)
    rwa [World.size_alloc] at this
  have e6 : X.heap[b6]? = some (.cells #[.int .u64 0, .int .i64 0] 64 (0, 0)) := by
    rw [← hX, ← hb6, ← hbP, ← hbS]
    have := alloc_new ((w.alloc (.cells #[.int .i64 side] 3)).alloc (.cells #[.int .u64 p.1, .int .i64 p.2] 64)) (.cells #[.int .u64 0, .int .i64 0] 64)
    rwa [World.size_alloc, World.size_alloc] at this
  rw [hX, hbS, hbP, hb6]
  have kS : X.cell? ⟨bS, 0, none⟩ = some (.int .i64 side) := by rw [cell_of_row X _ 0 _ _ _ eS]; rfl
  have kv : X.cell? ⟨b, 7 + side.toNat, none⟩ = some (.slice (some ⟨g, 0, none⟩) n cap) := Below.cell1 hXb hvc
  have aS : ∀ o, (X.alloc o).cell? ⟨bS, 0, none⟩ = some (.int .i64 side) := fun o => Below.cell1 ((Below.refl _ X).alloc (Nat.le_refl _) o) kS
  have av : ∀ o, (X.alloc o).cell? ⟨b, 7 + side.toNat, none⟩ = some (.slice (some ⟨g, 0, none⟩) n cap) := fun o => Below.cell1 ((Below.refl _ X).alloc (Nat.le_refl _) o) kv
  have HXB := Lib.hid hXb
  have HES := Lib.hid (And.intro eS (And.intro eP e6))
  have HXS := Lib.hid hXs
  have HWX : Hid (w.heap.size = bS ∧ bS < X.heap.size ∧ bP < X.heap.size ∧ b6 < X.heap.size ∧ bS ≤ b6) := Lib.hid (by omega)
  clear hbS hbP hb6 hX bA bB bC hXb hXs eS eP e6 hvc hlt
  go_region
  go_upto_region 2 with (fail)
  obtain ⟨bC, hbC⟩ : ∃ bC, X.heap.size = bC := ⟨_, rfl⟩
  obtain ⟨Y, hY⟩ : ∃ Y, (X.alloc (.cells #[.slice (some ⟨g, 0, none⟩) n cap] 59)).drew = Y := ⟨_, rfl⟩
  have hYb : Below X.heap.size X Y := by rw [← hY]; exact ((Below.refl _ X).alloc (Nat.le_refl _) _).drew
  have eC : Y.heap[bC]? = some (.cells #[.slice (some ⟨g, 0, none⟩) n cap] 59 (0, 0)) := by rw [← hY, ← hbC]; exact alloc_new X _
  have hYs : Y.heap.size = bC + 1 := by rw [← hY, ← hbC]; exact World.size_alloc _ _
  rw [hbC, hY]
  have wY : Below w.heap.size w Y := HXB.out.trans (hYb.mono HXB.out.size)
  have yS : Y.heap[bS]? = some (.cells #[.int .i64 side] 3 (0, 0)) := (hYb.block _ HWX.out.2.1).trans HES.out.1
  have yP : Y.heap[bP]? = some (.cells #[.int .u64 p.1, .int .i64 p.2] 64 (0, 0)) := (hYb.block _ HWX.out.2.2.1).trans HES.out.2.1
  have y6 : Y.heap[b6]? = some (.cells #[.int .u64 0, .int .i64 0] 64 (0, 0)) := (hYb.block _ HWX.out.2.2.2.1).trans HES.out.2.2
  have hpy : PAt Y g c := HPA.out.keep (wY.block g HG.out)
  obtain ⟨m, hm⟩ : ∃ m, n = m + 1 := ⟨n - 1, by have := H0.out; have := HN.out; omega⟩
  have hm1 : (n : Int) - 1 = (m : Int) := by omega
  have hw1 : IntKind.i64.wrap (m : Int) = (m : Int) := IntWalk.i64_in _ (by have := HL.out; have := HN.out; omega)
  have kC : Y.cell? ⟨bC, 0, none⟩ = some (.slice (some ⟨g, 0, none⟩) n cap) := by rw [cell_of_row Y _ 0 _ _ _ eC]; rfl
  have HSR : Hid (Calls Try.prog 30 #[.int .i64 (m : Int), .func (.func 31) #[] #[.pointer (some ⟨bC, 0, none⟩), .pointer (some ⟨bP, 0, none⟩), .pointer (some ⟨bS, 0, none⟩)]] Y fun e w' => e = .returned (.int .i64 (touchI side c p : Int)) ∧ Below Y.heap.size Y w') := Lib.hid (by
    have hn := HN.out
    have hl := HL.out
    have h := search30 (testF side c p) m (by omega) (.pointer (some ⟨bC, 0, none⟩)) (.pointer (some ⟨bP, 0, none⟩)) (.pointer (some ⟨bS, 0, none⟩)) Y (fun i w1 hi hb => test31 side c p i (by omega) hl g cap bC bP bS w1
      (by rw [hn]; exact (hb.block _ (Array.getElem?_eq_some_iff.1 eC).1).trans eC) ((hb.block _ (Array.getElem?_eq_some_iff.1 yP).1).trans yP) ((hb.block _ (Array.getElem?_eq_some_iff.1 yS).1).trans yS) (hpy.keep (hb.block g (by have := HG.out; have := wY.size; omega))))
    have e : touchI side c p = searchF (testF side c p) m 0 m := by unfold touchI; rw [hn, hm]; rfl
    rw [e]
    exact h)
  obtain ⟨I, hI⟩ : ∃ I, touchI side c p = I := ⟨_, rfl⟩
  have hIn : I < n := by rw [← hI, ← HN.out]; exact touchI_lt H0.out
  rw [hI] at HSR
  obtain ⟨q0, q1⟩ := hpy.pt (j := I) (by rw [HN.out]; exact hIn)
  obtain ⟨Q, hQ⟩ : ∃ Q, pt c I = Q := ⟨_, rfl⟩
  rw [hQ] at q0 q1
  have HI : Hid (touchF side c p = Q) := Lib.hid (by unfold touchF; rw [hI, hQ])
  have HQ0 := Lib.hid q0
  have HQ1 := Lib.hid q1
  have HEC := Lib.hid eC
  have HE6 := Lib.hid y6
  have HWY := Lib.hid wY
  have n0 : (0 : Int) ≤ (I : Int) := by omega
  have n1 : (I : Int) < (n : Int) := by omega
  clear hbC hY hYb eC hYs wY yS yP y6 hpy hm hI hQ q0 q1 aS av kS kv
  go_upto_region 3 with (go_at_call 30; go_must (refine (HSR.out).mono ?_; rintro e W2 ⟨rfl, hb⟩; have HB2 := Lib.hid hb; clear hb))
  have k7 : W2.cell? ⟨bC, 0, none⟩ = some (.slice (some ⟨g, 0, none⟩) n cap) := Below.cell1 HB2.out kC
  have q0 := Below.cell1 HB2.out HQ0.out
  have q1 := Below.cell1 HB2.out HQ1.out
  have e6 : W2.heap[b6]? = some (.cells #[.int .u64 0, .int .i64 0] 64 (0, 0)) := (HB2.out.block _ (Array.getElem?_eq_some_iff.1 HE6.out).1).trans HE6.out
  have k60 : W2.cell? ⟨b6, 0, none⟩ = some (.int .u64 0) := by rw [cell_of_row W2 _ 0 _ _ _ e6]; rfl
  have k61 : W2.cell? ⟨b6, 1, none⟩ = some (.int .i64 0) := by rw [cell_of_row W2 _ 1 _ _ _ e6]; rfl
  have f60 : W2.frozen? ⟨b6, 0, none⟩ = false := by simp [World.frozen?, e6]
  have f61 : W2.frozen? ⟨b6, 1, none⟩ = false := by simp [World.frozen?, e6]
  have HE62 := Lib.hid e6
  clear e6 kC
  go_wp2_with (fail)
  rw [HI.out]
  have h3 : ((W2.setCell ⟨b6, 0, none⟩ (.int .u64 Q.1)).setCell ⟨b6, 1, none⟩ (.int .i64 Q.2)).heap[b6]? = some (.cells #[.int .u64 Q.1, .int .i64 Q.2] 64 (0, 0)) := (setCell_blk (setCell_blk HE62.out _) _).trans rfl
  have z0 : ((W2.setCell ⟨b6, 0, none⟩ (.int .u64 Q.1)).setCell ⟨b6, 1, none⟩ (.int .i64 Q.2)).cell? ⟨b6, 0, none⟩ = some (.int .u64 Q.1) := by rw [cell_of_row _ _ 0 _ _ _ h3]; rfl
  have z1 : ((W2.setCell ⟨b6, 0, none⟩ (.int .u64 Q.1)).setCell ⟨b6, 1, none⟩ (.int .i64 Q.2)).cell? ⟨b6, 1, none⟩ = some (.int .i64 Q.2) := by rw [cell_of_row _ _ 1 _ _ _ h3]; rfl
  have hb := HWY.out.trans (HB2.out.mono HWY.out.size)
  refine bodyPost_ret (v := .agg #[.int .u64 Q.1, .int .i64 Q.2]) (by simp [results, Try.results21, go_sem, z0, z1]) rfl ⟨rfl, ⟨hb.os, hb.tape, hb.output, by rw [setCell_size, setCell_size]; exact hb.size, fun k hk => ?_⟩⟩
  have hk6 : k ≠ b6 := by have := HWX.out; omega
  exact (setCell_other _ _ _ _ hk6).trans ((setCell_other _ _ _ _ hk6).trans (hb.block k hk))
end Go.Proofs.Ytjlegggkibbkjaa.M
end

section
/- hull.laid. -/
namespace Go.Proofs.Ytjlegggkibbkjaa.M
open Go Go.RowKit Go.Shelf Go.Proofs.Ytjlegggkibbkjaa.Pure Go.Proofs.Ytjlegggkibbkjaa.G Go.Proofs.YtjlegggkibbkjaaW.PrintWords
set_option linter.unusedVariables false
set_option linter.unusedSimpArgs false
theorem info64 : (Try.prog.info? 64).map (fun i => (i.zero, i.size, i.bytes)) = some (some (.agg #[.int .u64 0, .int .i64 0]), 2, 16) := by kernel_rfl
/-- What laid leaves. -/
def LaidPost (w : World) (vc : Value) (c' : List Pt) (e : Ending) (w' : World) : Prop :=
  ∃ v', e = .returned v' ∧ w'.ownsRow 0 64 2 v' c'.length (prow c') ∧ w'.os = w.os ∧ w'.tape = w.tape ∧ w'.output = w.output ∧ w.heap.size ≤ w'.heap.size ∧
    (∀ k, k < w.heap.size → vc.ownBlock ≠ some k → w'.heap[k]? = w.heap[k]?) ∧ ∀ k, v'.ownBlock = some k → vc.ownBlock = some k ∨ w.heap.size ≤ k
theorem cut_cap {P : Program} (t e : TypeId) (kh : IntKind) {i : TypeInfo} (ht : P.underlying t = some (.slice e)) (hi : P.info? e = some i) (A : Option Addr) (n c : Nat) (j : Int) (h0 : 0 ≤ j) (hc : j ≤ c) :
    ∀ W : World, (Instr.slice t (.slice A n c) none (some (.int kh j)) none).run P W = .ok (.slice A j.toNat c) W := by
  intro W
  have hel : P.elem t = e := by simp [Program.elem, ht]
  have hu : P.underlying t = some (.slice (P.elem t)) := by rw [hel]; exact ht
  have ha : (A.map fun x => x.add 0) = A := by cases A <;> simp [Addr.add]
  rw [run_slice_h W t A n c hu kh j h0 (by omega), hel]
  simp [sizeOf, typeInfo, hi, sliced, Result.andThen, ha]
theorem laid_end {side : Int} {c : List Pt} {p : Pt} {w X wc X2 : World} {A : Option Addr} {cap m n : Nat} {v' : Value} {o : Obj} (hX : Below w.heap.size w X) (hb : Below X.heap.size X wc) (hm : m ≤ c.length) (hk : keepF side c p c.length = m)
    (ho : X2.ownsRow 0 64 2 v' (m + 1) (prow (c.take m) ++ [.int .u64 p.1, .int .i64 p.2])) (hg : (wc.alloc o).grownBy X2 (Value.slice A m cap).ownBlock) (ha : v'.ownBlock = (Value.slice A m cap).ownBlock ∨ v'.ownBlock = some (wc.alloc o).heap.size) :
    LaidPost w (.slice A n cap) (laidF side c p) (.returned v') X2 := by
  have hwb : Below w.heap.size w wc := hX.trans (hb.mono hX.size)
  have hs := hwb.size
  have hs2 := hg.size
  rw [World.size_alloc] at hs2
  have hob : (Value.slice A m cap).ownBlock = (Value.slice A n cap).ownBlock := by cases A <;> rfl
  rw [hob] at hg ha
  have e : laidF side c p = c.take m ++ [p] := by unfold laidF; rw [hk]
  refine ⟨v', rfl, ?_, hg.os.trans hwb.os, hg.tape.trans hwb.tape, hg.output.trans hwb.output, by omega, fun k hk hne => ?_, fun k hk => ?_⟩
  · rw [e, prow_snoc, List.length_append, List.length_take, Nat.min_eq_left hm]
    exact ho
  · exact (hg.block k (by rw [World.size_alloc]; omega) (fun e => hne e.symm)).trans ((Below.heap_alloc wc o k (by omega)).trans (hwb.block k hk))
  · rcases ha with ha | ha
    · exact .inl (by rw [← ha]; exact hk)
    · rw [ha, World.size_alloc] at hk
      injection hk with hk
      exact .inr (by omega)
set_option maxHeartbeats 4000000 in
set_option maxRecDepth 100000 in
theorem laid24 (side : Int) (c : List Pt) (p : Pt) (vc : Value) (hl : c.length ≤ 1099511627776) (w : World) (hr : w.ownsRow 0 64 2 vc c.length (prow c)) :
    Calls Try.prog 24 #[vc, .agg #[.int .u64 p.1, .int .i64 p.2], .int .i64 side] w (LaidPost w vc (laidF side c p)) := by
  obtain ⟨A, cap, rfl, hcap⟩ := own_form hr
  obtain ⟨i64, hi64, hz640, hz641, hz642⟩ := info_parts info64
  have HR := Lib.hid hr
  have HL := Lib.hid hl
  have HCP := Lib.hid hcap
  have HA : Hid (0 < c.length → ∃ g, A = some ⟨g, 0, none⟩ ∧ g < w.heap.size) := Lib.hid (fun h0 => by
    obtain ⟨g, cc, e, _⟩ := hr.form h0
    injection e with e _ _
    subst e
    exact ⟨g, rfl, (hr.lt g (by simp [Value.ownBlock])).2⟩)
  clear hr hl hcap
  go_enter Try.func24, Try.ntmps24
  go_wp2_with (fail)
  obtain ⟨bP, hbP⟩ : ∃ bP, w.heap.size = bP := ⟨_, rfl⟩
  obtain ⟨X, hX⟩ : ∃ X, w.alloc (.cells #[.int .u64 p.1, .int .i64 p.2] 64) = X := ⟨_, rfl⟩
  have hXb : Below w.heap.size w X := by rw [← hX]; exact (Below.refl _ w).alloc (Nat.le_refl _) _
  have eP : X.heap[bP]? = some (.cells #[.int .u64 p.1, .int .i64 p.2] 64 (0, 0)) := by rw [← hX, ← hbP]; exact alloc_new w _
  have hRX : X.ownsRow 0 64 2 (.slice A c.length cap) c.length (prow (c.take c.length)) := by rw [List.take_length]; exact ownsRow_keep HR.out (fun k hk => hXb.block k (HR.out.lt k hk).2)
  rw [hX, hbP]
  have HXB := Lib.hid hXb
  have HEP := Lib.hid eP
  have HRX := Lib.hid hRX
  clear hX hbP hXb eP hRX
  go_loopg [0] c.length (fun kq v0 w' => ∃ m : Nat, v0 = .slice A m cap ∧ Hid (m ≤ c.length ∧ m ≤ kq) ∧ Hid (keepF side c p c.length = keepF side c p m) ∧ Hid (Below X.heap.size X w') ∧ Hid (w'.ownsRow 0 64 2 (.slice A m cap) m (prow (c.take m))))
  case atStart => exact ⟨c.length, rfl, Lib.hid ⟨Nat.le_refl _, Nat.le_refl _⟩, Lib.hid rfl, Lib.hid (Below.refl _ _), HRX⟩
  case round =>
    obtain ⟨m, rfl, HM, HK, HB, HRW⟩ := hrel
    by_cases hm : 1 < m
    · have hd : decide ((m : Int) > 1) = true := decide_eq_true (by omega)
      have hd2 : decide (1 < m) = true := decide_eq_true hm
      obtain ⟨ma, hma⟩ : ∃ ma, m = ma + 2 := ⟨m - 2, by omega⟩
      obtain ⟨mb, hmb⟩ : ∃ mb, m = mb + 1 := ⟨m - 1, by omega⟩
      obtain ⟨g, rfl, hgl⟩ := HA.out (by have := HM.out; omega)
      have hpa := pat_of_own HRW.out
      have hln : (c.take m).length = m := by rw [List.length_take]; have := HM.out; omega
      obtain ⟨a0, a1⟩ := hpa.pt (j := ma) (by rw [hln]; omega)
      obtain ⟨b0, b1⟩ := hpa.pt (j := mb) (by rw [hln]; omega)
      have hpt : ∀ k, k < m → pt (c.take m) k = pt c k := fun k hk => by unfold pt; rw [List.getD_eq_getElem?_getD, List.getD_eq_getElem?_getD, List.getElem?_take, if_pos hk]
      rw [hpt ma (by omega)] at a0 a1
      rw [hpt mb (by omega)] at b0 b1
      obtain ⟨P, hP⟩ : ∃ P, pt c ma = P := ⟨_, rfl⟩
      obtain ⟨Q, hQ⟩ : ∃ Q, pt c mb = Q := ⟨_, rfl⟩
      rw [hP] at a0 a1
      rw [hQ] at b0 b1
      obtain ⟨bb, hbb⟩ : ∃ bb, geF side (turnF P Q p) = bb := ⟨_, rfl⟩
      have hdec : decide (0 ≤ IntKind.i64.wrap (turnF P Q p * bendF side)) = bb := by rw [ge_eq, hbb]
      have HK2 : Hid (keepF side c p c.length = if bb then keepF side c p mb else m) := Lib.hid (by
        rw [HK.out, ← hbb, ← hP, ← hQ]
        have e : mb = ma + 1 := by omega
        subst e hma
        simp only [keepF])
      have n1 : (m : Int) - 2 = (ma : Int) := by omega
      have n2 : (m : Int) - 1 = (mb : Int) := by omega
      have n3 : IntKind.i64.wrap (ma : Int) = (ma : Int) := IntWalk.i64_in _ (by have := HM.out; have := HL.out; omega)
      have n4 : IntKind.i64.wrap (mb : Int) = (mb : Int) := IntWalk.i64_in _ (by have := HM.out; have := HL.out; omega)
      have n5 : (0 : Int) ≤ (ma : Int) := by omega
      have n6 : (ma : Int) < (m : Int) := by omega
      have n7 : (0 : Int) ≤ (mb : Int) := by omega
      have n8 : (mb : Int) < (m : Int) := by omega
      have n9 : ma < m := by omega
      have n10 : mb < m := by omega
      have eP : wr.heap[bP]? = some (.cells #[.int .u64 p.1, .int .i64 p.2] 64 (0, 0)) := (HB.out.block _ (Array.getElem?_eq_some_iff.1 HEP.out).1).trans HEP.out
      have p0 : wr.cell? ⟨bP, 0, none⟩ = some (.int .u64 p.1) := by rw [cell_of_row wr _ 0 _ _ _ eP]; rfl
      have p1 : wr.cell? ⟨bP, 1, none⟩ = some (.int .i64 p.2) := by rw [cell_of_row wr _ 1 _ _ _ eP]; rfl
      have hct := cut_cap (P := Try.prog) 59 64 .i64 Try.underlying59 hi64 (some ⟨g, 0, none⟩) m cap (mb : Int) (by omega) (by have := HM.out; have := HCP.out; omega)
      rw [Int.toNat_natCast] at hct
      have HMB := Lib.hid (And.intro hma hmb)
      have HHD := Lib.hid hdec
      clear hm hpa hln hpt hP hQ hbb eP hgl hma hmb hdec
      go_upto_region 1 with (fail)
      go_cut [29] from 7 to 34 (fun v29 wd => v29 = .bool bb ∧ Hid (Below wr.heap.size wr wd))
      case first =>
        go_region_held3 (fun w' => w'.cell? ⟨bP, 0, none⟩ = some (.int .u64 p.1) ∧ w'.cell? ⟨bP, 1, none⟩ = some (.int .i64 p.2) ∧ w'.cell? ⟨g, ma * 2, none⟩ = some (.int .u64 P.1) ∧ w'.cell? ⟨g, ma * 2 + 1, none⟩ = some (.int .i64 P.2) ∧ w'.cell? ⟨g, mb * 2, none⟩ = some (.int .u64 Q.1) ∧ w'.cell? ⟨g, mb * 2 + 1, none⟩ = some (.int .i64 Q.2))
          (first
            | go_keep
            | (go_split_ands
               refine ⟨?_, ?_, ?_, ?_, ?_, ?_⟩ <;> (refine (hbl.cell (World.block_lt_of_cell? _ _ (by assumption))).trans ?_; assumption)))
          (first
            | (go_at_call 37; refine (hull_turn.calls P.1 P.2 Q.1 Q.2 p.1 p.2 _ _ (turn_some P Q p)).mono ?_; rintro e w1 ⟨rfl, hbl⟩)
            | (go_at_call 33; refine (hull_bend.calls side _ _ (bend_some side)).mono ?_; rintro e w1 ⟨rfl, ⟨nd, rfl⟩⟩))
        go_wp2_with (fail)
        go_meet
        case rel => exact ⟨by rw [HHD.out], Lib.hid ⟨hbl.os, hbl.tape, hbl.output, hbl.size, hbl.block⟩⟩
      case rest =>
        obtain ⟨rfl, HWD⟩ := hcut
        cases bb with
        | true =>
          go_wp2_with (fail)
          go_roundg mb
          case measure => have := HMB.out; have := HM.out; omega
          case rel =>
            have hb2 : Below X.heap.size X wc := HB.out.trans (HWD.out.mono HB.out.size)
            refine ⟨mb, rfl, Lib.hid (by have := HMB.out; have := HM.out; omega), Lib.hid (by have := HK2.out; rw [if_pos trivial] at this; exact this), Lib.hid hb2, Lib.hid ?_⟩
            have h1 := own_cut (ownsRow_keep HRW.out (fun k hk => HWD.out.block k (HRW.out.lt k hk).2)) (m := mb) (by have := HMB.out; omega)
            rw [← prow_take, List.take_take, Nat.min_eq_left (by have := HMB.out; omega)] at h1
            exact h1
        | false =>
          have HKM : Hid (keepF side c p c.length = m) := Lib.hid (by have := HK2.out; rw [if_neg (by decide)] at this; exact this)
          have hb2 : Below X.heap.size X wc := HB.out.trans (HWD.out.mono HB.out.size)
          have HB2 := Lib.hid hb2
          have hr2 := ownsRow_keep HRW.out (fun k hk => HWD.out.block k (HRW.out.lt k hk).2)
          have HR2 := Lib.hid hr2
          have eP : wc.heap[bP]? = some (.cells #[.int .u64 p.1, .int .i64 p.2] 64 (0, 0)) := (hb2.block _ (Array.getElem?_eq_some_iff.1 HEP.out).1).trans HEP.out
          have p0 : wc.cell? ⟨bP, 0, none⟩ = some (.int .u64 p.1) := by rw [cell_of_row wc _ 0 _ _ _ eP]; rfl
          have p1 : wc.cell? ⟨bP, 1, none⟩ = some (.int .i64 p.2) := by rw [cell_of_row wc _ 1 _ _ _ eP]; rfl
          have HLN : Hid ((prow (c.take m)).length = m * 2) := Lib.hid (by rw [prow_length, List.length_take, Nat.min_eq_left HM.out.1])
          clear hb2 hr2 eP
          go_wp2_with (at_builtin; go_must (refine wpList_append_own_at _ rfl (.tmp 35) (.tmp 37) 59 rfl 0 64 i64 _ 2 16 Try.underlying59 hi64 hz640 hz641 hz642 rfl (by decide) (.slice (some ⟨g, 0, none⟩) m cap) m (prow (c.take m)) (by rfl) (HR2.out.alloc _) ⟨wc.heap.size, 0, none⟩ 1 1 [.int .u64 p.1, .int .i64 p.2] (by rfl) (by rfl) (World.news_of_block (cs := #[.int .u64 p.1, .int .i64 p.2]) (t := 64) (fr := (0, 0)) (alloc_new wc _)) (by intro u hu; simp only [List.mem_cons, List.not_mem_nil, or_false] at hu; rcases hu with hu | hu <;> subst hu <;> rfl) (by have := HL.out; have := HM.out; unfold maxLen; omega) (by have := HL.out; have := HM.out; omega) (Nat.zero_le _) ?_; intro v' X2 ho5 hg5 hn5 hat5; have O5 := Lib.hid ho5; have G5 := Lib.hid hg5; have A5 := Lib.hid hat5; clear ho5 hg5 hn5 hat5))
          refine bodyPost_ret (results_tmp rfl _ _ _) rfl ?_
          exact laid_end HXB.out HB2.out HM.out.1 HKM.out O5.out G5.out A5.out
    · have hd : decide ((m : Int) > 1) = false := decide_eq_false (by omega)
      have hd2 : decide (1 < m) = false := decide_eq_false hm
      have HKM : Hid (keepF side c p c.length = m) := Lib.hid (by
        rw [HK.out]
        match m, hm with
        | 0, _ => rfl
        | 1, _ => rfl
        | m + 2, hm => exact absurd (by omega) hm)
      clear hm
      go_upto_region 1 with (fail)
      go_cut [29] from 7 to 34 (fun v29 wd => v29 = .bool false ∧ Hid (Below wr.heap.size wr wd))
      case first =>
        go_quiet (fail)
        go_wp2_with (fail)
        go_meet
        case rel => exact ⟨rfl, Lib.hid (below_drewN _ _)⟩
      case rest =>
        obtain ⟨rfl, HWD⟩ := hcut
        have hb2 : Below X.heap.size X wc := HB.out.trans (HWD.out.mono HB.out.size)
        have HB2 := Lib.hid hb2
        have hr2 := ownsRow_keep HRW.out (fun k hk => HWD.out.block k (HRW.out.lt k hk).2)
        have HR2 := Lib.hid hr2
        have eP : wc.heap[bP]? = some (.cells #[.int .u64 p.1, .int .i64 p.2] 64 (0, 0)) := (hb2.block _ (Array.getElem?_eq_some_iff.1 HEP.out).1).trans HEP.out
        have p0 : wc.cell? ⟨bP, 0, none⟩ = some (.int .u64 p.1) := by rw [cell_of_row wc _ 0 _ _ _ eP]; rfl
        have p1 : wc.cell? ⟨bP, 1, none⟩ = some (.int .i64 p.2) := by rw [cell_of_row wc _ 1 _ _ _ eP]; rfl
        clear hb2 hr2 eP
        go_wp2_with (at_builtin; go_must (refine wpList_append_own_at _ rfl (.tmp 35) (.tmp 37) 59 rfl 0 64 i64 _ 2 16 Try.underlying59 hi64 hz640 hz641 hz642 rfl (by decide) (.slice A m cap) m (prow (c.take m)) (by rfl) (HR2.out.alloc _) ⟨wc.heap.size, 0, none⟩ 1 1 [.int .u64 p.1, .int .i64 p.2] (by rfl) (by rfl) (World.news_of_block (cs := #[.int .u64 p.1, .int .i64 p.2]) (t := 64) (fr := (0, 0)) (alloc_new wc _)) (by intro u hu; simp only [List.mem_cons, List.not_mem_nil, or_false] at hu; rcases hu with hu | hu <;> subst hu <;> rfl) (by have := HL.out; have := HM.out; unfold maxLen; omega) (by have := HL.out; have := HM.out; omega) (Nat.zero_le _) ?_; intro v' X2 ho5 hg5 hn5 hat5; have O5 := Lib.hid ho5; have G5 := Lib.hid hg5; have A5 := Lib.hid hat5; clear ho5 hg5 hn5 hat5))
        refine bodyPost_ret (results_tmp rfl _ _ _) rfl ?_
        exact laid_end HXB.out HB2.out HM.out.1 HKM.out O5.out G5.out A5.out
end Go.Proofs.Ytjlegggkibbkjaa.M
end

section
/- The two chains of a fit, turned one behind the other. -/
namespace Go.Proofs.Ytjlegggkibbkjaa.M
open Go Go.RowKit Go.Shelf Go.Proofs.Ytjlegggkibbkjaa.Pure
set_option linter.unusedVariables false
theorem own_type {w : World} {base e size n : Nat} {v : Value} {xs : List Value} (h : w.ownsRow base e size v n xs) {g : Nat} (hg : v.ownBlock = some g) : ∃ cur, w.heap[g]? = some (.cells cur e (0, 0)) := by
  rcases h.2 with ⟨e1, hn⟩ | ⟨g2, cap2, cur, e1, hb, hgg, h3, h4, h5, h6⟩
  · rw [e1] at hg; simp [Value.ownBlock] at hg
  · rw [e1] at hg
    simp only [Value.ownBlock, Option.some.injEq] at hg
    subst hg
    exact ⟨_, hgg⟩
theorem FitAt.ne0 {w : World} {T : Blocks} {p : Nat} {s : FitS} {v0 v1 : Value} (h : FitAt w T p s v0 v1) : v0.ownBlock ≠ some p := fun e => by
  obtain ⟨cur, hc⟩ := own_type h.r0 e
  rw [h.blk] at hc
  simp at hc
theorem FitAt.ne1 {w : World} {T : Blocks} {p : Nat} {s : FitS} {v0 v1 : Value} (h : FitAt w T p s v0 v1) : v1.ownBlock ≠ some p := fun e => by
  obtain ⟨cur, hc⟩ := own_type h.r1 e
  rw [h.blk] at hc
  simp at hc
/-- A chain was laid, and its head was stored. -/
theorem laid_step {w Y w2 : World} {T T' : Blocks} {vc v' : Value} {c' : List Pt} (hT : Turned T T' w Y) (hvc : ∀ i, vc.ownBlock = some i → T' i) (hl : LaidPost Y.drew vc c' (.returned v') w2) {b off : Nat} (hb : T b) (hbl : b < Y.heap.size) (hbv : vc.ownBlock ≠ some b) :
    Turned T (fun i => T' i ∨ v'.ownBlock = some i) w (w2.setCell ⟨b, off, none⟩ v') ∧ (∀ i, i < Y.heap.size → i ≠ b → vc.ownBlock ≠ some i → (w2.setCell ⟨b, off, none⟩ v').heap[i]? = Y.heap[i]?) ∧ w2.heap[b]? = Y.heap[b]? ∧
    (w2.setCell ⟨b, off, none⟩ v').ownsRow 0 64 2 v' c'.length (prow c') ∧ (∀ k, v'.ownBlock = some k → vc.ownBlock = some k ∨ Y.heap.size ≤ k) ∧ Y.heap.size ≤ w2.heap.size := by
  obtain ⟨v2, he, hr, ho, ht, hp, hs, hsame, hown⟩ := hl
  injection he with he
  subst he
  have hs' : Y.heap.size ≤ w2.heap.size := hs
  have hown' : ∀ k, v'.ownBlock = some k → vc.ownBlock = some k ∨ Y.heap.size ≤ k := hown
  have hsame' : ∀ k, k < Y.heap.size → vc.ownBlock ≠ some k → w2.heap[k]? = Y.heap[k]? := hsame
  have hr' : (w2.setCell ⟨b, off, none⟩ v').ownsRow 0 64 2 v' c'.length (prow c') := ownsRow_keep hr (fun k hk => setCell_other _ _ _ _ (fun e => by
    subst e
    rcases hown' _ hk with h | h
    · exact hbv h
    · omega))
  refine ⟨⟨ho.trans hT.os, ht.trans hT.tape, hp.trans hT.output, by rw [setCell_size]; exact Nat.le_trans hT.size hs', fun k hk => .inl (hT.sub k hk), ?_, ?_⟩, ?_, hsame' b hbl hbv, hr', hown', hs'⟩
  · rintro k (hk | hk)
    · rcases hT.new k hk with h | h
      · exact .inl h
      · exact .inr ⟨h.1, by rw [setCell_size]; omega⟩
    · rcases hown' _ hk with h | h
      · rcases hT.new k (hvc k h) with h | h
        · exact .inl h
        · exact .inr ⟨h.1, by rw [setCell_size]; omega⟩
      · exact .inr ⟨Nat.le_trans hT.size h, (hr'.lt k hk).2⟩
  · intro k hk hn
    have h1 : k ≠ b := fun e => hn (e ▸ hb)
    rw [setCell_other _ _ _ _ h1]
    by_cases h2 : vc.ownBlock = some k
    · rcases hT.new k (hvc k h2) with h | h
      · exact absurd h hn
      · omega
    · rw [hsame' k (Nat.lt_of_lt_of_le hk hT.size) h2]
      exact hT.same k hk hn
  · intro i hi h1 h2
    rw [setCell_other _ _ _ _ h1]
    exact hsame' i hi h2
/-- The fit behind j chains. -/
def sideS (s : FitS) (k : Int) (j : Nat) : FitS := ⟨s.e, s.count, s.last, s.least, s.most, if 1 ≤ j then laidF 0 s.lo (k, s.count - s.e) else s.lo, if 2 ≤ j then laidF 1 s.up (k, s.count + s.e) else s.up⟩
structure SideAt (T : Blocks) (b b6 b7 b8 : Nat) (s : FitS) (k : Int) (l m : Int × Int) (w wd : World) (j : Nat) (T' : Blocks) (u0 u1 : Value) : Prop where
  turned : Turned T T' w wd
  fit : FitAt wd T' b (sideS s k j) u0 u1
  tb : T b
  h6 : wd.heap[b6]? = some (.cells #[.int .u64 k, .int .i64 ((s.count : Int) - s.e), .int .u64 k, .int .i64 ((s.count : Int) + s.e)] 65 (0, 0))
  h7 : wd.heap[b7]? = some (.cells #[.int .u64 l.1, .int .u64 l.2] 58 (0, 0))
  h8 : wd.heap[b8]? = some (.cells #[.int .u64 m.1, .int .u64 m.2] 58 (0, 0))
  n6 : ¬ T' b6
  n7 : ¬ T' b7
  n8 : ¬ T' b8
theorem SideAt.step0 {T : Blocks} {b b6 b7 b8 : Nat} {s : FitS} {k : Int} {l m : Int × Int} {w Y w2 : World} {T' : Blocks} {u0 u1 v' : Value} (h : SideAt T b b6 b7 b8 s k l m w Y 0 T' u0 u1) (hl : LaidPost Y.drew u0 (laidF 0 s.lo (k, s.count - s.e)) (.returned v') w2) :
    SideAt T b b6 b7 b8 s k l m w (w2.setCell ⟨b, 7, none⟩ v') 1 (fun i => T' i ∨ v'.ownBlock = some i) v' u1 := by
  have hbl : b < Y.heap.size := (Array.getElem?_eq_some_iff.1 h.fit.blk).1
  obtain ⟨hT, hs, hbk, hr, hown, hsz⟩ := laid_step (off := 7) h.turned h.fit.own0 hl h.tb hbl h.fit.ne0
  have l6 := (Array.getElem?_eq_some_iff.1 h.h6).1
  have l7 := (Array.getElem?_eq_some_iff.1 h.h7).1
  have l8 := (Array.getElem?_eq_some_iff.1 h.h8).1
  have g6 : b6 ≠ b := fun e => h.n6 (e ▸ h.fit.tp)
  have g7 : b7 ≠ b := fun e => h.n7 (e ▸ h.fit.tp)
  have g8 : b8 ≠ b := fun e => h.n8 (e ▸ h.fit.tp)
  have hnew : ∀ i, i < Y.heap.size → ¬ T' i → ¬ (T' i ∨ v'.ownBlock = some i) := fun i hi hn hc => by
    rcases hc with hc | hc
    · exact hn hc
    · rcases hown i hc with h1 | h1
      · exact hn (h.fit.own0 i h1)
      · omega
  refine ⟨hT, ⟨?_, hr, ownsRow_keep h.fit.r1 (fun i hi => hs i (h.fit.lt i (h.fit.own1 i hi)) (fun e => h.fit.ne1 (e ▸ hi)) (fun h0 => h.fit.ne i h0 hi)), fun i hi => .inr hi, fun i hi => .inl (h.fit.own1 i hi), ?_, .inl h.fit.tp, ?_⟩, h.tb, ?_, ?_, ?_, hnew _ l6 h.n6, hnew _ l7 h.n7, hnew _ l8 h.n8⟩
  · exact (setCell_blk (hbk.trans h.fit.blk) _).trans rfl
  · intro i hi h1
    rcases hown i hi with h2 | h2
    · exact h.fit.ne i h2 h1
    · have := h.fit.lt i (h.fit.own1 i h1); omega
  · rintro i (hi | hi)
    · rw [setCell_size]; have := h.fit.lt i hi; omega
    · exact (hr.lt i hi).2
  · exact (hs _ l6 g6 (fun e => h.n6 (h.fit.own0 _ e))).trans h.h6
  · exact (hs _ l7 g7 (fun e => h.n7 (h.fit.own0 _ e))).trans h.h7
  · exact (hs _ l8 g8 (fun e => h.n8 (h.fit.own0 _ e))).trans h.h8
theorem SideAt.step1 {T : Blocks} {b b6 b7 b8 : Nat} {s : FitS} {k : Int} {l m : Int × Int} {w Y w2 : World} {T' : Blocks} {u0 u1 v' : Value} (h : SideAt T b b6 b7 b8 s k l m w Y 1 T' u0 u1) (hl : LaidPost Y.drew u1 (laidF 1 s.up (k, s.count + s.e)) (.returned v') w2) :
    SideAt T b b6 b7 b8 s k l m w (w2.setCell ⟨b, 8, none⟩ v') 2 (fun i => T' i ∨ v'.ownBlock = some i) u0 v' := by
  have hbl : b < Y.heap.size := (Array.getElem?_eq_some_iff.1 h.fit.blk).1
  obtain ⟨hT, hs, hbk, hr, hown, hsz⟩ := laid_step (off := 8) h.turned h.fit.own1 hl h.tb hbl h.fit.ne1
  have l6 := (Array.getElem?_eq_some_iff.1 h.h6).1
  have l7 := (Array.getElem?_eq_some_iff.1 h.h7).1
  have l8 := (Array.getElem?_eq_some_iff.1 h.h8).1
  have g6 : b6 ≠ b := fun e => h.n6 (e ▸ h.fit.tp)
  have g7 : b7 ≠ b := fun e => h.n7 (e ▸ h.fit.tp)
  have g8 : b8 ≠ b := fun e => h.n8 (e ▸ h.fit.tp)
  have hnew : ∀ i, i < Y.heap.size → ¬ T' i → ¬ (T' i ∨ v'.ownBlock = some i) := fun i hi hn hc => by
    rcases hc with hc | hc
    · exact hn hc
    · rcases hown i hc with h1 | h1
      · exact hn (h.fit.own1 i h1)
      · omega
  refine ⟨hT, ⟨?_, ownsRow_keep h.fit.r0 (fun i hi => hs i (h.fit.lt i (h.fit.own0 i hi)) (fun e => h.fit.ne0 (e ▸ hi)) (fun h0 => h.fit.ne i hi h0)), hr, fun i hi => .inl (h.fit.own0 i hi), fun i hi => .inr hi, ?_, .inl h.fit.tp, ?_⟩, h.tb, ?_, ?_, ?_, hnew _ l6 h.n6, hnew _ l7 h.n7, hnew _ l8 h.n8⟩
  · exact (setCell_blk (hbk.trans h.fit.blk) _).trans rfl
  · intro i hi h1
    rcases hown i h1 with h2 | h2
    · exact h.fit.ne i hi h2
    · have := h.fit.lt i (h.fit.own0 i hi); omega
  · rintro i (hi | hi)
    · rw [setCell_size]; have := h.fit.lt i hi; omega
    · exact (hr.lt i hi).2
  · exact (hs _ l6 g6 (fun e => h.n6 (h.fit.own1 _ e))).trans h.h6
  · exact (hs _ l7 g7 (fun e => h.n7 (h.fit.own1 _ e))).trans h.h7
  · exact (hs _ l8 g8 (fun e => h.n8 (h.fit.own1 _ e))).trans h.h8
/-- The fit's own cells are said anew. -/
theorem FitAt.cells {wd wd' : World} {T' : Blocks} {b : Nat} {s s' : FitS} {u0 u1 : Value} (h : FitAt wd T' b s u0 u1) (hk : ∀ i, i ≠ b → wd'.heap[i]? = wd.heap[i]?) (hz : wd.heap.size ≤ wd'.heap.size) (hl : s'.lo = s.lo) (hu : s'.up = s.up)
    (hb : wd'.heap[b]? = some (.cells #[.int .i64 s'.e, .int .i64 (s'.count : Int), .int .u64 s'.last, .int .u64 s'.least.1, .int .u64 s'.least.2, .int .u64 s'.most.1, .int .u64 s'.most.2, u0, u1] 62 (0, 0))) : FitAt wd' T' b s' u0 u1 :=
  ⟨hb, by rw [hl]; exact ownsRow_keep h.r0 (fun i hi => hk i (fun e => h.ne0 (e ▸ hi))), by rw [hu]; exact ownsRow_keep h.r1 (fun i hi => hk i (fun e => h.ne1 (e ▸ hi))), h.own0, h.own1, h.ne, h.tp, fun i hi => Nat.lt_of_lt_of_le (h.lt i hi) hz⟩
theorem Turned.cells {T T' : Blocks} {w wd wd' : World} (h : Turned T T' w wd) {b : Nat} (hb : T b) (ho : wd'.os = wd.os) (ht : wd'.tape = wd.tape) (hp : wd'.output = wd.output) (hk : ∀ i, i ≠ b → wd'.heap[i]? = wd.heap[i]?) (hz : wd.heap.size ≤ wd'.heap.size) : Turned T T' w wd' :=
  ⟨ho.trans h.os, ht.trans h.tape, hp.trans h.output, Nat.le_trans h.size hz, h.sub, fun k hk2 => (h.new k hk2).elim .inl (fun h2 => .inr ⟨h2.1, by omega⟩), fun k hk2 hn => (hk k (fun e => hn (e ▸ hb))).trans (h.same k hk2 hn)⟩
end Go.Proofs.Ytjlegggkibbkjaa.M
end

section
/- hull.New; what Add leaves. -/
namespace Go.Proofs.Ytjlegggkibbkjaa.M
open Go Go.RowKit Go.Shelf Go.Proofs.Ytjlegggkibbkjaa.Pure Go.Proofs.Ytjlegggkibbkjaa.G Go.Proofs.YtjlegggkibbkjaaW.PrintWords
set_option linter.unusedVariables false
set_option linter.unusedSimpArgs false
set_option maxHeartbeats 4000000 in
set_option maxRecDepth 100000 in
theorem new17 (eps : Int) (h : 2 ≤ eps ∧ eps ≤ 64) (w : World) : Calls Try.prog 17 #[.int .i64 eps] w fun e w' => e = .returned (.tuple #[.pointer (some ⟨w.heap.size, 0, none⟩), .int .i64 0]) ∧ FitAt w' (fun k => k = w.heap.size) w.heap.size (newF eps) (.slice none 0 0) (.slice none 0 0) ∧ Below w.heap.size w w' ∧ w'.heap.size = w.heap.size + 1 := by
  have h1 := h.1
  have h2 := h.2
  have hd1 : decide (eps < 2) = false := decide_eq_false (by omega)
  have hd2 : decide (eps > 64) = false := decide_eq_false (by omega)
  have hw : IntKind.i64.wrap (eps - 1) = eps - 1 := IntWalk.i64_in _ (by omega)
  clear h
  go_enter Try.func17, Try.ntmps17
  go_wp2_with (fail)
  refine bodyPost_ret (results_tmp2 rfl _ _ _) rfl ?_
  refine ⟨rfl, ⟨alloc_new w _, World.ownsRow_nil _ _ _ _, World.ownsRow_nil _ _ _ _, fun k hk => by simp [Value.ownBlock] at hk, fun k hk => by simp [Value.ownBlock] at hk, fun k hk => by simp [Value.ownBlock] at hk, rfl, fun k hk => by (obtain rfl : k = w.heap.size := hk); simp⟩, (Below.refl _ w).alloc (Nat.le_refl _) _, World.size_alloc _ _⟩
theorem cell_al {X : World} {g j : Nat} {u : Value} (h : X.cell? ⟨g, j, none⟩ = some u) (o : Obj) : (X.alloc o).cell? ⟨g, j, none⟩ = some u := Below.cell1 ((Below.refl _ X).alloc (Nat.le_refl _) o) h
theorem cell_al2 {X : World} {g j : Nat} {u : Value} (h : X.cell? ⟨g, j, none⟩ = some u) (o o2 : Obj) : ((X.alloc o).alloc o2).cell? ⟨g, j, none⟩ = some u := cell_al (cell_al h o) o2
/-- What Add leaves. -/
def AddPost (T : Blocks) (b : Nat) (s : FitS) (k : Int) (w : World) (e : Ending) (w' : World) : Prop :=
  ∃ T' v0 v1, Turned T T' w w' ∧ ((addF s k = none ∧ e = .returned (.tuple #[.bool false, .int .i64 0]) ∧ FitAt w' T' b s v0 v1) ∨ ∃ s', addF s k = some s' ∧ e = .returned (.tuple #[.bool true, .int .i64 0]) ∧ FitAt w' T' b s' v0 v1)
/-- Add's contract, said as a law. -/
def AddLaw : Prop := ∀ (T : Blocks) (b : Nat) (s : FitS) (v0 v1 : Value) (k : Int), (0 < s.count → s.last < k) → 0 ≤ k → k < 18446744073709551616 → Inv s → s.count ≤ 1099511627776 → ∀ w : World, FitAt w T b s v0 v1 → Calls Try.prog 18 #[.pointer (some ⟨b, 0, none⟩), .int .u64 k] w (AddPost T b s k w)
end Go.Proofs.Ytjlegggkibbkjaa.M
end

section
/- (*Fit).Least. -/
namespace Go.Proofs.Ytjlegggkibbkjaa.M
open Go Go.RowKit Go.Shelf Go.Proofs.Ytjlegggkibbkjaa.Pure Go.Proofs.Ytjlegggkibbkjaa.G Go.Proofs.YtjlegggkibbkjaaW.PrintWords
set_option linter.unusedVariables false
set_option linter.unusedSimpArgs false
set_option maxHeartbeats 4000000 in
set_option maxRecDepth 100000 in
theorem least25 (T : Blocks) (b : Nat) (s : FitS) (v0 v1 : Value) (w : World) (hF : FitAt w T b s v0 v1) :
    Calls Try.prog 25 #[.pointer (some ⟨b, 0, none⟩)] w fun e w' => e = .returned (.agg #[.int .u64 s.least.1, .int .u64 s.least.2]) ∧ Below w.heap.size w w' := by
  have hbt := hF.blk
  have c3 : w.cell? ⟨b, 3, none⟩ = some (.int .u64 s.least.1) := by rw [cell_of_row w _ 3 _ _ _ hbt]; rfl
  have c4 : w.cell? ⟨b, 4, none⟩ = some (.int .u64 s.least.2) := by rw [cell_of_row w _ 4 _ _ _ hbt]; rfl
  have t3 := Below.cell1 ((Below.refl _ w).alloc (Nat.le_refl _) (.cells #[.int .u64 0, .int .u64 0] 58)) c3
  have t4 := Below.cell1 ((Below.refl _ w).alloc (Nat.le_refl _) (.cells #[.int .u64 0, .int .u64 0] 58)) c4
  clear hbt hF
  go_enter Try.func25, Try.ntmps25
  go_wp2_with (fail)
  have h3 : (w.alloc (.cells #[.int .u64 s.least.1, .int .u64 s.least.2] 58)).heap[w.heap.size]? = some (.cells #[.int .u64 s.least.1, .int .u64 s.least.2] 58 (0, 0)) := alloc_new w _
  have z0 : (w.alloc (.cells #[.int .u64 s.least.1, .int .u64 s.least.2] 58)).cell? ⟨w.heap.size, 0, none⟩ = some (.int .u64 s.least.1) := by rw [cell_of_row _ _ 0 _ _ _ h3]; rfl
  have z1 : (w.alloc (.cells #[.int .u64 s.least.1, .int .u64 s.least.2] 58)).cell? ⟨w.heap.size, 1, none⟩ = some (.int .u64 s.least.2) := by rw [cell_of_row _ _ 1 _ _ _ h3]; rfl
  exact bodyPost_ret (v := .agg #[.int .u64 s.least.1, .int .u64 s.least.2]) (by simp [results, Try.results25, go_sem, z0, z1]) rfl ⟨rfl, (Below.refl _ w).alloc (Nat.le_refl _) _⟩
end Go.Proofs.Ytjlegggkibbkjaa.M
end

section
/- Contracts, proved by hand, of the functions of package keys that take function values: 'Rising' and 'Check'. -/
namespace Go.Proofs.Ytjlegggkibbkjaa.G
open Go.RowKit Go.Proofs.YtjlegggkibbkjaaW.PrintWords Go.Proofs.YtjlegggkibbkjaaW.PrintLast Go.Proofs.YtjlegggkibbkjaaW.PrintMore
set_option linter.unusedVariables false
set_option linter.unusedSimpArgs false

/-- The keys rise up to place k. -/
def risesTo (l : List Int) (k : Nat) : Bool := (List.range k).all fun i => i == 0 || decide (l.getD (i - 1) 0 < l.getD i 0)
theorem risesTo_zero (l : List Int) : risesTo l 0 = true := rfl
theorem risesTo_succ (l : List Int) (k : Nat) : risesTo l (k + 1) = (risesTo l k && (k == 0 || decide (l.getD (k - 1) 0 < l.getD k 0))) := by
  unfold risesTo
  rw [List.range_succ, List.all_append]
  simp
theorem risesTo_le (l : List Int) {j k : Nat} (h : j ≤ k) (hk : risesTo l k = true) : risesTo l j = true := by
  unfold risesTo at *
  rw [List.all_eq_true] at *
  intro i hi
  exact hk i (by simp only [List.mem_range] at *; omega)
theorem risesTo_bad (l : List Int) {k n : Nat} (h : k < n) (h0 : 0 < k) (hb : ¬ l.getD (k - 1) 0 < l.getD k 0) : risesTo l n = false := by
  rw [Bool.eq_false_iff]
  intro ht
  have h1 := risesTo_le l (show k + 1 ≤ n from h) ht
  rw [risesTo_succ, Bool.and_eq_true, Bool.or_eq_true] at h1
  rcases h1.2 with h2 | h2
  · have : k = 0 := by simpa using h2
    omega
  · exact hb (of_decide_eq_true h2)

theorem quiet_left {P : Program} {f : FuncId} {args : Array Value} {w : World} {n : Nat} {v : Value}
    (h : Calls P f args (w.drewN n) fun e w' => e = .returned v ∧ w.drewN n = w') : Calls P f args (w.drewN n) fun e w'' => e = .returned v ∧ ∃ m, w'' = w.drewN m :=
  h.mono fun _ _ ⟨he, hm⟩ => ⟨he, n, hm.symm⟩
theorem drawn0_cell {w w' : World} (h : Drawn0 w w') (a : Addr) : w'.cell? a = w.cell? a := by
  obtain ⟨m, rfl⟩ := h
  rfl
theorem f14_calls (x : Int) (w : World) : Calls Try.prog 14 #[.int .u64 x] w fun e w' => e = .returned (.int .u64 x) ∧ w = w' := by
  go_enter Try.func14, Try.ntmps14
  go_wp2
  go_ret
  exact ⟨rfl, rfl⟩

set_option maxHeartbeats 1000000 in
set_option maxRecDepth 100000 in
theorem f13_calls (A0 : Option Addr) (c0 : Nat) (l0 : List Int) (w : World) (hr0 : Kd.C (Kd.int .u64) w A0 l0.length l0) :
    Calls Try.prog 13 #[.slice A0 l0.length c0, .func (.func 14) #[] #[]] w fun e w' => e = .returned (.bool (risesTo l0 l0.length)) ∧ Drawn0 w w' := by
  have HR0 := Aside0.mk hr0
  clear hr0
  have hmax : (l0.length : Int) ≤ 9223372036854775807 := by have := HR0.out.2.1; omega
  go_enter Try.func13, Try.ntmps13
  go_wp2
  go_loopw [8] (fun v8 wr => ∃ i : Int, 0 ≤ i ∧ i ≤ l0.length ∧ v8 = .int .i64 i ∧ Aside0 (risesTo l0 i.toNat = true) ∧ Drawn0 w wr) (fun v8 _ => l0.length - (intOf v8).toNat)
  case atStart => exact ⟨0, by omega, by omega, rfl, ⟨risesTo_zero _⟩, Drawn0.refl _⟩
  case round =>
    obtain ⟨i, hi0, hi, rfl, HA, HD⟩ := hrel
    by_cases hlt : i < l0.length
    · by_cases hz : i = 0
      · subst hz
        have hd : decide ((0 : Int) > 0) = false := by decide
        go_wp2
        go_quiet (fail)
        go_wp2
        go_roundw
        case rel => exact ⟨1, by omega, by omega, rfl, ⟨rfl⟩, HD.step _⟩
        case measure => simp [intOf]; omega
      · have hk1 : 0 < i := by omega
        have hd : decide (0 < i) = true := decide_eq_true hk1
        have hi1 : (0 : Int) ≤ i - 1 := by omega
        have hi2 : i - 1 < l0.length := by omega
        obtain ⟨ad, e1, hx1⟩ := Kd.at_int HR0.out i hi0 hlt
        obtain ⟨ad', e2, hx2⟩ := Kd.at_int HR0.out (i - 1) (by omega) (by omega)
        cases e1
        cases e2
        replace hx1 := (drawn0_cell HD _).trans hx1
        replace hx2 := (drawn0_cell HD _).trans hx2
        rw [show (i - 1).toNat = i.toNat - 1 from by omega] at hx2
        have HS := Aside0.mk (risesTo_succ l0 i.toNat)
        have e : (i - 1).toNat = i.toNat - 1 := by omega
        have hne : (i.toNat == 0) = false := by rw [beq_eq_false_iff_ne]; omega
        have HN : Aside0 (risesTo l0 (i.toNat + 1) = decide (rd l0 (i - 1) < rd l0 i)) := ⟨by rw [HS.out, HA.out, hne]; simp only [rd, e, Bool.true_and, Bool.false_or]⟩
        clear HS e hne
        have HB : ¬ rd l0 (i - 1) < rd l0 i → Aside0 (risesTo l0 l0.length = false) := fun h => ⟨risesTo_bad l0 (k := i.toNat) (by omega) (by omega) (by
          simp only [rd] at h
          rw [show (i - 1).toNat = i.toNat - 1 from by omega] at h
          exact h)⟩
        generalize rd l0 i = x at *
        generalize rd l0 (i - 1) = y at *
        by_cases hxy : y < x
        · have hd2 : decide (x ≤ y) = false := decide_eq_false (by omega)
          clear HB
          go_wp2
          have hi3 : 1 ≤ i := by omega
          have hw1 : IntKind.i64.wrap (i - 1) = i - 1 := by rw [IntKind.wrap_i64]; omega
          go_quiet ((go_at_call 14; exact quiet_left (f14_calls _ _)))
          clear hw1
          go_wp2
          go_roundw
          case rel => exact ⟨i + 1, by omega, by omega, by go_num, ⟨by rw [show (i + 1).toNat = i.toNat + 1 from by omega, HN.out]; exact decide_eq_true hxy⟩, HD.step _⟩
          case measure => simp [intOf]; omega
        · have hd2 : decide (x ≤ y) = true := decide_eq_true (by omega)
          replace HB := HB hxy
          go_wp2
          have hi3 : 1 ≤ i := by omega
          have hw1 : IntKind.i64.wrap (i - 1) = i - 1 := by rw [IntKind.wrap_i64]; omega
          go_quiet ((go_at_call 14; exact quiet_left (f14_calls _ _)))
          clear hw1
          go_wp2
          go_ret
          exact ⟨by rw [HB.out]; rfl, HD.step _⟩
    · go_wp2
      go_ret
      obtain rfl : i = l0.length := by omega
      exact ⟨by rw [← HA.out]; rfl, HD⟩

def keys_Rising.f (l0 : List Int) : Option Bool := some (risesTo l0 l0.length)
set_option maxRecDepth 100000 in
theorem keys_Rising.calls (A0 : Option Addr) (c0 : Nat) (l0 : List Int) (r : Bool) (w : World) (hr0 : Kd.C (Kd.int .u64) w A0 l0.length l0) (hc0 : l0.length ≤ c0) (h : keys_Rising.f l0 = some r) :
    Calls Try.prog 10 #[.slice A0 l0.length c0] w fun e w' => e = .returned (.bool r) ∧ Drawn0 w w' := by
  obtain rfl := Option.some.inj h
  go_enter Try.func10, Try.ntmps10
  go_wp2_with (go_at_call 13; refine (f13_calls A0 c0 l0 _ hr0).mono ?_; rintro e w' ⟨rfl, hd⟩)
  go_ret
  exact ⟨rfl, hd⟩
end Go.Proofs.Ytjlegggkibbkjaa.G
end

section
/- math.Ldexp and what it calls: they answer some float. -/
namespace Go.Proofs.Ytjlegggkibbkjaa.Fl
open Go.RowKit
set_option linter.unusedVariables false
set_option linter.unusedSimpArgs false
theorem ext50 (b : Nat) (w : World) : (callFunc 50 #[.float .f64 b]).run Try.prog w = .ok (.value (.int .u64 b)) w := by
  rw [run_callFunc_extern Try.func50 (e := Extern.MathFloatBits.float64bits) (by kernel_rfl) (by kernel_rfl) (by kernel_rfl) (by kernel_rfl)]
  rfl
theorem ext53 (n : Int) (w : World) : (callFunc 53 #[.int .u64 n]).run Try.prog w = .ok (.value (.float .f64 n.toNat)) w := by
  rw [run_callFunc_extern Try.func53 (e := Extern.MathFloatBits.float64frombits) (by kernel_rfl) (by kernel_rfl) (by kernel_rfl) (by kernel_rfl)]
  rfl
def fCmp (op : BinOp) (a b : Nat) : Bool :=
  match op with
  | .eql => FloatKind.f64.format.order a b == some .eq
  | .neq => FloatKind.f64.format.order a b != some .eq
  | .lss => FloatKind.f64.format.order a b == some .lt
  | _ => FloatKind.f64.format.order a b == some .gt
def fEq (a b : Nat) := fCmp .eql a b
def fNe (a b : Nat) := fCmp .neq a b
def fLt (a b : Nat) := fCmp .lss a b
def fGt (a b : Nat) := fCmp .gtr a b
theorem eq_run (a b : Nat) (w : World) : (binOp .eql 32 (.float .f64 a) (.float .f64 b)).run Try.prog w = .ok (.bool (fEq a b)) w := rfl
theorem ne_run (a b : Nat) (w : World) : (binOp .neq 32 (.float .f64 a) (.float .f64 b)).run Try.prog w = .ok (.bool (fNe a b)) w := rfl
theorem lt_run (a b : Nat) (w : World) : (binOp .lss 32 (.float .f64 a) (.float .f64 b)).run Try.prog w = .ok (.bool (fLt a b)) w := rfl
theorem gt_run (a b : Nat) (w : World) : (binOp .gtr 32 (.float .f64 a) (.float .f64 b)).run Try.prog w = .ok (.bool (fGt a b)) w := rfl
def fNeg (a : Nat) : Nat := Op.negFloat .f64 a
theorem neg_run (a : Nat) (w : World) : (Op.unary .neg (.float .f64 a)).run Try.prog w = .ok (.float .f64 (fNeg a)) w := rfl
theorem mul_ex (a b : Nat) (w : World) : ∃ r n, (binOp .mul 32 (.float .f64 a) (.float .f64 b)).run Try.prog w = .ok (.float .f64 r) (w.drewN n) := by
  cases h : floatBits .mul .f64 a b with
  | some r => exact ⟨r, 0, run_float_arith w .mul 32 .f64 a b r h⟩
  | none =>
    have h2 : FloatKind.f64.format.mul a b = none := h
    have e : (binOp .mul 32 (.float .f64 a) (.float .f64 b)).run Try.prog w = ((choose (.nanBits .f64 a b)).run Try.prog w).andThen fun n w' => .ok (.float .f64 n) w' := by simp [binOp, Op.floatArith, h2]
    rw [e, run_choose_drew]
    split
    · exact ⟨_, 0, rfl⟩
    · exact ⟨_, 1, rfl⟩
noncomputable def mulB (a b : Nat) (w : World) : Nat := Classical.choose (mul_ex a b w)
noncomputable def mulN (a b : Nat) (w : World) : Nat := Classical.choose (Classical.choose_spec (mul_ex a b w))
theorem mul_run (a b : Nat) (w : World) : (binOp .mul 32 (.float .f64 a) (.float .f64 b)).run Try.prog w = .ok (.float .f64 (mulB a b w)) (w.drewN (mulN a b w)) := Classical.choose_spec (Classical.choose_spec (mul_ex a b w))
def fOf (n : Int) : Nat := floatOfInt .f64 n
theorem conv_u (n : Int) (w : World) : (convert 31 32 (.int .u64 n)).run Try.prog w = .ok (.float .f64 (fOf n)) w := run_convert_int_float w 31 32 .u64 .f64 n (by rw [Try.underlying31]; rfl) Try.underlying32
theorem conv_i (n : Int) (w : World) : (convert 3 32 (.int .i64 n)).run Try.prog w = .ok (.float .f64 (fOf n)) w := run_convert_int_float w 3 32 .i64 .f64 n (by rw [Try.underlying3]; rfl) Try.underlying32
theorem abs54 (b : Nat) (w : World) : Calls Try.prog 54 #[.float .f64 b] w fun e w' => (∃ n, e = .returned (.float .f64 n)) ∧ w' = w := by
  have h1 := ext50
  have h2 := ext53
  go_enter Try.func54, Try.ntmps54
  go_wp2
  refine bodyPost_ret (results_tmp rfl _ _ _) rfl ?_
  exact ⟨⟨_, rfl⟩, rfl⟩
theorem nan48 (b : Nat) (w : World) : Calls Try.prog 48 #[.float .f64 b] w fun e w' => (∃ n, e = .returned (.bool n)) ∧ w' = w := by
  have h1 := ne_run
  go_enter Try.func48, Try.ntmps48
  go_wp2
  refine bodyPost_ret (results_tmp rfl _ _ _) rfl ?_
  exact ⟨⟨_, rfl⟩, rfl⟩
theorem inf47 (b : Nat) (w : World) : Calls Try.prog 47 #[.float .f64 b, .int .i64 0] w fun e w' => (∃ n, e = .returned (.bool n)) ∧ w' = w := by
  have h1 := gt_run
  go_enter Try.func47, Try.ntmps47
  go_wp2_with (go_at_call 54; go_must (refine (abs54 _ _).mono ?_; rintro e w' ⟨⟨n, rfl⟩, rfl⟩))
  refine bodyPost_ret (results_tmp rfl _ _ _) rfl ?_
  exact ⟨⟨_, rfl⟩, rfl⟩
theorem norm49 (b : Nat) (w : World) : Calls Try.prog 49 #[.float .f64 b] w fun e w' => (∃ n k, e = .returned (.tuple #[.float .f64 n, .int .i64 k]) ∧ -52 ≤ k ∧ k ≤ 0) ∧ ∃ n, w' = w.drewN n := by
  have h1 := lt_run
  have h2 := mul_run
  go_enter Try.func49, Try.ntmps49
  go_wp2_with (go_at_call 54; go_must (refine (abs54 _ _).mono ?_; rintro e w' ⟨⟨n, rfl⟩, rfl⟩))
  · refine bodyPost_ret (results_tmp2 rfl _ _ _) rfl ?_
    exact ⟨⟨_, _, rfl, by decide, by decide⟩, _, rfl⟩
  · refine bodyPost_ret (results_tmp2 rfl _ _ _) rfl ?_
    exact ⟨⟨_, _, rfl, by decide, by decide⟩, 0, rfl⟩
theorem copy51 (a b : Nat) (w : World) : Calls Try.prog 51 #[.float .f64 a, .float .f64 b] w fun e w' => (∃ n, e = .returned (.float .f64 n)) ∧ w' = w := by
  have h1 := ext50
  have h2 := ext53
  go_enter Try.func51, Try.ntmps51
  go_wp2
  refine bodyPost_ret (results_tmp rfl _ _ _) rfl ?_
  exact ⟨⟨_, rfl⟩, rfl⟩
theorem inf52 (k : Int) (hk : k = 1 ∨ k = -1) (w : World) : Calls Try.prog 52 #[.int .i64 k] w fun e w' => (∃ n, e = .returned (.float .f64 n)) ∧ w' = w := by
  have h2 := ext53
  rcases hk with rfl | rfl
  all_goals
    go_enter Try.func52, Try.ntmps52
    go_wp2
    refine bodyPost_ret (results_tmp rfl _ _ _) rfl ?_
    exact ⟨⟨_, rfl⟩, rfl⟩
end Go.Proofs.Ytjlegggkibbkjaa.Fl
end

section
/- math.Ldexp, ratio.pack: they answer some float. -/
namespace Go.Proofs.Ytjlegggkibbkjaa.Fl
open Go.RowKit
set_option linter.unusedVariables false
set_option linter.unusedSimpArgs false
def SomeF (w : World) (e : Ending) (w' : World) : Prop := (∃ n, e = .returned (.float .f64 n)) ∧ ∃ n, w' = w.drewN n
set_option maxHeartbeats 4000000 in
theorem ldexp44 (b : Nat) (x : Int) (w : World) : Calls Try.prog 44 #[.float .f64 b, .int .i64 x] w (SomeF w) := by
  have h1 := ext50
  have h2 := ext53
  have h3 := eq_run
  have h4 := lt_run
  have h5 := mul_run
  go_enter Try.func44, Try.ntmps44
  go_wp2_with (first
    | (go_at_call 47; go_must (refine (inf47 _ _).mono ?_; rintro e w' ⟨⟨r1, rfl⟩, rfl⟩))
    | (go_at_call 48; go_must (refine (nan48 _ _).mono ?_; rintro e w' ⟨⟨r2, rfl⟩, rfl⟩))
    | (go_at_call 49; go_must (refine (norm49 _ _).mono ?_; rintro e w' ⟨⟨r3, r4, rfl, _, _⟩, ⟨nd, rfl⟩⟩))
    | (go_at_call 51; go_must (refine (copy51 _ _ _).mono ?_; rintro e w' ⟨⟨r5, rfl⟩, rfl⟩))
    | (go_at_call 52; go_must (refine (inf52 _ (by first | exact .inl rfl | exact .inr rfl) _).mono ?_; rintro e w' ⟨⟨r6, rfl⟩, rfl⟩)))
  all_goals
    refine bodyPost_ret (results_tmp rfl _ _ _) rfl ?_
    first
      | exact ⟨⟨_, rfl⟩, 0, rfl⟩
      | exact ⟨⟨_, rfl⟩, _, rfl⟩
      | exact ⟨⟨_, rfl⟩, _, World.drewN_drewN ..⟩
theorem ldexp40 (b : Nat) (x : Int) (w : World) : Calls Try.prog 40 #[.float .f64 b, .int .i64 x] w (SomeF w) := by
  go_enter Try.func40, Try.ntmps40
  go_wp2_with (go_at_call 44; go_must (refine (ldexp44 _ _ _).mono ?_; rintro e w' ⟨⟨r1, rfl⟩, ⟨nd, rfl⟩⟩))
  refine bodyPost_ret (results_tmp rfl _ _ _) rfl ?_
  exact ⟨⟨_, rfl⟩, _, rfl⟩
theorem lz27 (x : Int) (h0 : 0 ≤ x) (h1 : x < 18446744073709551616) (w : World) : Calls Try.prog 27 #[.int .u64 x] w fun e w' => (∃ z : Nat, e = .returned (.int .i64 (z : Int)) ∧ z ≤ 64 ∧ (0 < x → z ≤ 63 ∧ 9223372036854775808 ≤ x * 2 ^ z ∧ x * 2 ^ z < 18446744073709551616)) ∧ w' = w := by
  refine (Try.bits_LeadingZeros64 x w h0 (by omega)).mono ?_
  rintro e w' ⟨rfl, rfl⟩
  obtain ⟨n, rfl⟩ : ∃ n : Nat, x = (n : Int) := ⟨x.toNat, by omega⟩
  rw [Int.toNat_natCast]
  by_cases hn : n = 0
  · subst hn
    exact ⟨⟨64, by rfl, Nat.le_refl _, fun h => absurd h (by decide)⟩, rfl⟩
  · obtain ⟨q1, q2, q3⟩ := Lib.bitLenAux_bounds 64 n (by omega) hn
    have e : Lib.bitLen n = Lib.bitLenAux 64 n := rfl
    rw [← e] at q1 q2 q3
    have hle : Lib.bitLen n ≤ 64 := by
      rcases Nat.lt_or_ge 64 (Lib.bitLen n) with h | h
      · have := Nat.pow_le_pow_right (n := 2) (by decide) (show 64 ≤ Lib.bitLen n - 1 by omega)
        omega
      · exact h
    refine ⟨⟨64 - Lib.bitLen n, by rw [Int.ofNat_sub hle]; rfl, by omega, fun _ => ⟨by omega, ?_, ?_⟩⟩, rfl⟩
    · have h2 : 2 ^ (Lib.bitLen n - 1) * 2 ^ (64 - Lib.bitLen n) = 9223372036854775808 := by
        rw [← Nat.pow_add, show Lib.bitLen n - 1 + (64 - Lib.bitLen n) = 63 by omega]
      have h3 := Nat.mul_le_mul_right (2 ^ (64 - Lib.bitLen n)) q2
      rw [h2] at h3
      have e2 : (n : Int) * 2 ^ (64 - Lib.bitLen n) = ((n * 2 ^ (64 - Lib.bitLen n) : Nat) : Int) := by push_cast; rfl
      rw [e2]
      omega
    · have h2 : 2 ^ (Lib.bitLen n) * 2 ^ (64 - Lib.bitLen n) = 18446744073709551616 := by
        rw [← Nat.pow_add, show Lib.bitLen n + (64 - Lib.bitLen n) = 64 by omega]
      have h3 := Nat.mul_lt_mul_of_pos_right q3 (Nat.two_pow_pos (64 - Lib.bitLen n))
      rw [h2] at h3
      have e2 : (n : Int) * 2 ^ (64 - Lib.bitLen n) = ((n * 2 ^ (64 - Lib.bitLen n) : Nat) : Int) := by push_cast; rfl
      rw [e2]
      omega
set_option maxHeartbeats 4000000 in
set_option maxRecDepth 100000 in
theorem pack29 (m : Int) (h0 : 0 ≤ m) (h1 : m < 18446744073709551616) (b : Bool) (x : Int) (w : World) : Calls Try.prog 29 #[.int .u64 m, .bool b, .int .i64 x] w (SomeF w) := by
  go_enter Try.func29, Try.ntmps29
  go_upto_region 2 with (go_at_call 27; go_must (refine (lz27 m h0 h1 _).mono ?_; rintro e w' ⟨⟨z, rfl, hz, _⟩, rfl⟩))
  go_upto_region 3 with (fail)
  generalize IntKind.u64.wrap (m * 2 ^ z) = M
  have hc := conv_u
  go_wp2_with (go_at_call 40; go_must (refine (ldexp40 _ _ _).mono ?_; rintro e w' ⟨⟨r1, rfl⟩, ⟨nd, rfl⟩⟩))
  all_goals
    refine bodyPost_ret (results_tmp rfl _ _ _) rfl ?_
    exact ⟨⟨_, rfl⟩, _, rfl⟩
set_option maxHeartbeats 4000000 in
set_option maxRecDepth 100000 in
theorem div28 (hi lo y : Int) (h0 : 0 ≤ hi) (h1 : hi < y) (h2 : y < 18446744073709551616) (h3 : 0 ≤ lo) (h4 : lo < 18446744073709551616) (w : World) :
    Calls Try.prog 28 #[.int .u64 hi, .int .u64 lo, .int .u64 y] w fun e w' => (∃ q r : Int, e = .returned (.tuple #[.int .u64 q, .int .u64 r]) ∧ 0 ≤ q ∧ q < 18446744073709551616 ∧ 0 ≤ r ∧ r < 18446744073709551616) ∧ ∃ n, w' = w.drewN n := by
  have hy0 : ¬ y = 0 := by omega
  have hyb : (y == 0) = false := by rw [beq_eq_false_iff_ne]; omega
  have hyh : ¬ y ≤ hi := by omega
  by_cases hz : hi = 0
  · subst hz
    have hb : decide (y ≤ 0) = false := decide_eq_false (by omega)
    go_enter Try.func28, Try.ntmps28
    go_upto_region 6 with (fail)
    go_quiet (fail)
    go_wp2_with (fail)
    refine bodyPost_ret (results_tmp2 rfl _ _ _) rfl ?_
    have q1 : 0 ≤ lo / y := Int.ediv_nonneg h3 (by omega)
    have q2 : lo / y ≤ lo := Int.ediv_le_self _ h3
    have q3 : 0 ≤ lo % y := Int.emod_nonneg _ hy0
    have q4 : lo % y < y := Int.emod_lt_of_pos _ (by omega)
    exact ⟨⟨lo / y, lo % y, rfl, q1, by omega, q3, by omega⟩, _, rfl⟩
  · have hzb : (hi == 0) = false := by rw [beq_eq_false_iff_ne]; exact hz
    have hb : decide (y ≤ hi) = false := decide_eq_false (by omega)
    go_enter Try.func28, Try.ntmps28
    go_upto_region 8 with (go_at_call 27; go_must (refine (lz27 y (by omega) h2 _).mono ?_; rintro e w' ⟨⟨z, rfl, hz1, hz2⟩, rfl⟩; obtain ⟨hz3, hz4, hz5⟩ := hz2 (by omega)))
    go_upto_region 9 with (fail)
    generalize hY : y * 2 ^ z = Y at hz4 hz5 ⊢
    clear hY
    go_upto_region 16 with (fail)
    have hU0 := bits_lo_u64 .or (IntKind.u64.wrap (hi * 2 ^ z)) (lo / 2 ^ (64 - z))
    have hU1 := bits_hi_u64 .or (IntKind.u64.wrap (hi * 2 ^ z)) (lo / 2 ^ (64 - z))
    have hN0 := bits_lo_u64 .and Y 4294967295
    have hN1 := bits_hi_u64 .and Y 4294967295
    have hL0 := (IntKind.wrap_u64 (lo * 2 ^ z))
    generalize bits .or .u64 (IntKind.u64.wrap (hi * 2 ^ z)) (lo / 2 ^ (64 - z)) = U at hU0 hU1 ⊢
    generalize bits .and .u64 Y 4294967295 = N at hN0 hN1 ⊢
    obtain ⟨L, hL⟩ : ∃ L, IntKind.u64.wrap (lo * 2 ^ z) = L := ⟨_, rfl⟩
    rw [hL] at hL0 ⊢
    have hL2 : 0 ≤ L ∧ L < 18446744073709551616 := by omega
    clear hL hL0
    have hM0 := bits_lo_u64 .and L 4294967295
    have hM1 := bits_hi_u64 .and L 4294967295
    generalize bits .and .u64 L 4294967295 = M at hM0 hM1 ⊢
    generalize hi * 2 ^ z = v46
    generalize lo / 2 ^ (64 - z) = v50
    obtain ⟨A, hA⟩ : ∃ A, Y / 4294967296 = A := ⟨_, rfl⟩
    rw [hA]
    have hA1 : 2147483648 ≤ A ∧ A < 4294967296 := by omega
    obtain ⟨L1, hL1⟩ : ∃ L1, L / 4294967296 = L1 := ⟨_, rfl⟩
    rw [hL1]
    have hL3 : 0 ≤ L1 ∧ L1 < 4294967296 := by omega
    have hdv : ∀ x : Int, 0 ≤ x → x < 18446744073709551616 → IntKind.u64.wrap (x.tdiv A) = x / A ∧ 0 ≤ x / A ∧ x / A < 18446744073709551616 ∧ IntKind.u64.wrap (x / A * A) = x / A * A ∧ IntKind.u64.wrap (x - x / A * A) = x % A ∧ 0 ≤ x % A ∧ x % A < 4294967296 := by
      intro x hx0 hx1
      have e1 : x.tdiv A = x / A := Int.tdiv_eq_ediv_of_nonneg hx0
      have p1 : 0 ≤ x / A := Int.ediv_nonneg hx0 (by omega)
      have p2 : x / A ≤ x := Int.ediv_le_self _ hx0
      have p3 := Int.emod_nonneg x (show A ≠ 0 by omega)
      have p4 := Int.emod_lt_of_pos x (show 0 < A by omega)
      have p5 : x / A * A + x % A = x := by rw [Int.mul_comm]; exact Int.mul_ediv_add_emod x A
      have p6 : 0 ≤ x / A * A := Int.mul_nonneg p1 (by omega)
      rw [e1]
      have u : ∀ n : Int, 0 ≤ n → n < 18446744073709551616 → IntKind.u64.wrap n = n := fun n a b => by rw [IntKind.wrap_u64]; omega
      exact ⟨u _ p1 (by omega), p1, by omega, u _ p6 (by omega), by rw [u _ (by omega) (by omega)]; omega, p3, by omega⟩
    obtain ⟨d1, d2, d3, d4, d5, d6, d7⟩ := hdv U hU0 (by omega)
    rw [d1]
    generalize U / A = Q at d2 d3 d4 d5 ⊢
    generalize U % A = R at d5 d6 d7
    have HDV := Lib.hid hdv
    clear d1 hdv hA hL1
    go_upto_block 0 with (fail)
    go_cut [15, 16] from 67 to 85 (fun v1 v16 wd => (∃ q r : Int, v1 = .int .u64 q ∧ v16 = .int .u64 r ∧ Hid (0 ≤ q ∧ q < 18446744073709551616)) ∧ wd = w')
    case first =>
      go_wp2_with (fail)
      go_loopg [15, 16] 4294967296 (fun kq v1 v16 wd => (∃ q r : Int, v1 = .int .u64 q ∧ v16 = .int .u64 r ∧ Hid (0 ≤ q ∧ q < 18446744073709551616) ∧ Hid (0 ≤ r ∧ r < 4294967296 ∧ 4294967296 - r ≤ kq)) ∧ wd = w')
      case atStart => exact ⟨⟨Q, R, rfl, rfl, Lib.hid ⟨d2, d3⟩, Lib.hid ⟨d6, d7, by omega⟩⟩, rfl⟩
      case round =>
        obtain ⟨⟨q, r, rfl, rfl, HQ, HR⟩, rfl⟩ := hrel
        have q1 := HQ.out.1
        have q2 := HQ.out.2
        have r1 := HR.out.1
        have r2 := HR.out.2.1
        have hwr : IntKind.u64.wrap (r + A) = r + A := by rw [IntKind.wrap_u64]; omega
        have HWQ : Hid (0 ≤ IntKind.u64.wrap (q - 1) ∧ IntKind.u64.wrap (q - 1) < 18446744073709551616) := Lib.hid (by rw [IntKind.wrap_u64]; omega)
        have HRA := Lib.hid (And.intro HR.out.2.2 hA1)
        go_wp2_with (fail)
        all_goals first
          | (go_roundg (4294967296 - (r + A)).toNat
             case measure => have := HRA.out; omega
             case rel => exact ⟨⟨_, _, rfl, rfl, (by first | exact HWQ | exact Lib.hid (by omega)), Lib.hid (by have := HRA.out; omega)⟩, rfl⟩)
          | (go_meet
             case rel => exact ⟨⟨_, _, rfl, rfl, (by first | exact HWQ | exact HQ | exact Lib.hid (by omega))⟩, rfl⟩)
    case rest =>
      obtain ⟨⟨q1, r1, rfl, rfl, HQ1⟩, rfl⟩ := hcut
      have HAA := Lib.hid hA1
      go_upto_region 22 with (fail)
      obtain ⟨V, hV⟩ : ∃ V, IntKind.u64.wrap (IntKind.u64.wrap (IntKind.u64.wrap (U * 4294967296) + L1) - IntKind.u64.wrap (q1 * Y)) = V := ⟨_, rfl⟩
      rw [hV]
      have hV1 : 0 ≤ V ∧ V < 18446744073709551616 := by rw [← hV, IntKind.wrap_u64]; omega
      generalize IntKind.u64.wrap (IntKind.u64.wrap (U * 4294967296) + L1) = v89
      generalize IntKind.u64.wrap (U * 4294967296) = v87
      generalize IntKind.u64.wrap (q1 * Y) = v92
      obtain ⟨g1, g2, g3, g4, g5, g6, g7⟩ := HDV.out V hV1.1 hV1.2
      clear hV
      obtain ⟨Q2, hQ2⟩ : ∃ Q2, V / A = Q2 := ⟨_, rfl⟩
      obtain ⟨R2, hR2⟩ : ∃ R2, V % A = R2 := ⟨_, rfl⟩
      rw [hQ2] at g1 g2 g3 g4 g5
      rw [hR2] at g5 g6 g7
      clear hQ2 hR2
      go_upto_block 2 with (fail)
      clear g1 g4 g5
      go_cut [18, 16] from 102 to 120 (fun v1 v16 wd => (∃ q r : Int, v1 = .int .u64 q ∧ v16 = .int .u64 r ∧ Hid (0 ≤ q ∧ q < 18446744073709551616)) ∧ wd = wc)
      case first =>
        go_wp2_with (fail)
        go_loopg [18, 16] 4294967296 (fun kq v1 v16 wd => (∃ q r : Int, v1 = .int .u64 q ∧ v16 = .int .u64 r ∧ Hid (0 ≤ q ∧ q < 18446744073709551616) ∧ Hid (0 ≤ r ∧ r < 4294967296 ∧ 4294967296 - r ≤ kq)) ∧ wd = wc)
        case atStart => exact ⟨⟨Q2, R2, rfl, rfl, Lib.hid ⟨g2, g3⟩, Lib.hid ⟨g6, g7, by omega⟩⟩, rfl⟩
        case round =>
          obtain ⟨⟨q, r, rfl, rfl, HQ, HR⟩, rfl⟩ := hrel
          have q1 := HQ.out.1
          have q2 := HQ.out.2
          have r1 := HR.out.1
          have r2 := HR.out.2.1
          have hwr : IntKind.u64.wrap (r + A) = r + A := by rw [IntKind.wrap_u64]; omega
          have HWQ : Hid (0 ≤ IntKind.u64.wrap (q - 1) ∧ IntKind.u64.wrap (q - 1) < 18446744073709551616) := Lib.hid (by rw [IntKind.wrap_u64]; omega)
          have HRA := Lib.hid (And.intro HR.out.2.2 hA1)
          go_wp2_with (fail)
          all_goals first
            | (go_roundg (4294967296 - (r + A)).toNat
               case measure => have := HRA.out; omega
               case rel => exact ⟨⟨_, _, rfl, rfl, (by first | exact HWQ | exact Lib.hid (by omega)), Lib.hid (by have := HRA.out; omega)⟩, rfl⟩)
            | (go_meet
               case rel => exact ⟨⟨_, _, rfl, rfl, (by first | exact HWQ | exact HQ | exact Lib.hid (by omega))⟩, rfl⟩)
      case rest =>
        obtain ⟨⟨q4, r4, rfl, rfl, HQ4⟩, rfl⟩ := hcut
        go_wp2_with (fail)
        refine bodyPost_ret (results_tmp2 rfl _ _ _) rfl ?_
        have b1 : ∀ x : Int, 0 ≤ IntKind.u64.wrap x ∧ IntKind.u64.wrap x < 18446744073709551616 := fun x => by rw [IntKind.wrap_u64]; omega
        have b2 : ∀ x : Int, 0 ≤ IntKind.u64.wrap x / 2 ^ z ∧ IntKind.u64.wrap x / 2 ^ z < 18446744073709551616 := fun x => by
          have p1 : (0 : Int) ≤ 2 ^ z := Int.pow_nonneg (by decide)
          exact ⟨Int.ediv_nonneg (b1 x).1 p1, Int.lt_of_le_of_lt (Int.ediv_le_self _ (b1 x).1) (b1 x).2⟩
        exact ⟨⟨_, _, rfl, (b1 _).1, (b1 _).2, (b2 _).1, (b2 _).2⟩, 0, rfl⟩
end Go.Proofs.Ytjlegggkibbkjaa.Fl
end

section
/- ratio.Near, line.along: they answer something. -/
namespace Go.Proofs.Ytjlegggkibbkjaa.Fl
open Go.RowKit
set_option linter.unusedVariables false
set_option linter.unusedSimpArgs false
set_option maxHeartbeats 4000000 in
set_option maxRecDepth 100000 in
theorem near20 (a b : Int) (ha : 0 ≤ a) (ha2 : a < 18446744073709551616) (hb : 0 ≤ b) (hb2 : b < 18446744073709551616) (w : World) :
    Calls Try.prog 20 #[.int .u64 a, .int .u64 b] w fun e w' => (∃ (f : Nat) (k : Int), e = .returned (.tuple #[.float .f64 f, .int .i64 k])) ∧ ∃ n, w' = w.drewN n := by
  by_cases hb0 : b = 0
  · subst hb0
    go_enter Try.func20, Try.ntmps20
    go_wp2_with (fail)
    refine bodyPost_ret (results_tmp2 rfl _ _ _) rfl ?_
    exact ⟨⟨_, _, rfl⟩, 0, rfl⟩
  · have hb1 : (b == 0) = false := by rw [beq_eq_false_iff_ne]; exact hb0
    by_cases ha0 : a = 0
    · subst ha0
      go_enter Try.func20, Try.ntmps20
      go_wp2_with (fail)
      refine bodyPost_ret (results_tmp2 rfl _ _ _) rfl ?_
      exact ⟨⟨_, _, rfl⟩, 0, rfl⟩
    · have ha1 : (a == 0) = false := by rw [beq_eq_false_iff_ne]; exact ha0
      have tok1 : Hid True := Lib.hid trivial
      go_enter Try.func20, Try.ntmps20
      go_upto_region 6 with (first
        | (go_at_call 27; have _t := tok1; clear _t tok1; go_must (refine (lz27 a ha ha2 _).mono ?_; rintro e w' ⟨⟨z, rfl, hz1, hz2⟩, rfl⟩; obtain ⟨hz3, hz4, hz5⟩ := hz2 (by omega)))
        | (go_at_call 27; go_must (refine (lz27 b hb hb2 _).mono ?_; rintro e w' ⟨⟨y, rfl, hy1, hy2⟩, rfl⟩; obtain ⟨hy3, hy4, hy5⟩ := hy2 (by omega))))
      go_quiet (fail)
      go_upto_region 8 with (fail)
      generalize a * 2 ^ z = N at hz4 hz5 ⊢
      generalize b * 2 ^ y = D at hy4 hy5 ⊢
      by_cases hnd : D ≤ N
      · have hd : decide (D ≤ N) = true := decide_eq_true hnd
        go_wp2_with (first
          | (go_at_call 28; go_must (refine (div28 _ _ _ (by omega) (by omega) (by omega) (by first | omega | (rw [IntKind.wrap_u64]; omega)) (by first | omega | (rw [IntKind.wrap_u64]; omega)) _).mono ?_; rintro e w2 ⟨⟨q, r, rfl, q1, q2, q3, q4⟩, ⟨nd, rfl⟩⟩))
          | (go_at_call 29; go_must (refine (pack29 q q1 q2 _ _ _).mono ?_; rintro e w3 ⟨⟨f, rfl⟩, ⟨nd2, rfl⟩⟩)))
        refine bodyPost_ret (results_tmp2 rfl _ _ _) rfl ?_
        exact ⟨⟨_, _, rfl⟩, _, rfl⟩
      · have hd : decide (D ≤ N) = false := decide_eq_false hnd
        have hnd2 : N < D := by omega
        go_wp2_with (first
          | (go_at_call 28; go_must (refine (div28 N 0 D (by omega) hnd2 (by omega) (by omega) (by omega) _).mono ?_; rintro e w2 ⟨⟨q, r, rfl, q1, q2, q3, q4⟩, ⟨nd, rfl⟩⟩))
          | (go_at_call 29; go_must (refine (pack29 q q1 q2 _ _ _).mono ?_; rintro e w3 ⟨⟨f, rfl⟩, ⟨nd2, rfl⟩⟩)))
        refine bodyPost_ret (results_tmp2 rfl _ _ _) rfl ?_
        exact ⟨⟨_, _, rfl⟩, _, rfl⟩
set_option maxHeartbeats 4000000 in
set_option maxRecDepth 100000 in
theorem along26 (a b d : Int) (ha : 0 ≤ a) (ha2 : a < 18446744073709551616) (hb : 0 ≤ b) (hb2 : b < 18446744073709551616) (hd : 0 ≤ d) (hd2 : d < 18446744073709551616) (w : World) :
    Calls Try.prog 26 #[.int .u64 a, .int .u64 b, .int .u64 d] w fun e w' => (∃ (f : Int) (k : Bool), e = .returned (.tuple #[.int .u64 f, .bool k]) ∧ 0 ≤ f ∧ f < 18446744073709551616) ∧ ∃ n, w' = w.drewN n := by
  obtain ⟨a, rfl⟩ : ∃ n : Nat, a = (n : Int) := ⟨a.toNat, by omega⟩
  obtain ⟨d, rfl⟩ : ∃ n : Nat, d = (n : Int) := ⟨d.toNat, by omega⟩
  obtain ⟨H, hH⟩ : ∃ H : Nat, a * d / 18446744073709551616 = H := ⟨_, rfl⟩
  obtain ⟨L, hL⟩ : ∃ L : Nat, a * d % 18446744073709551616 = L := ⟨_, rfl⟩
  have hL1 : L < 18446744073709551616 := by rw [← hL]; exact Nat.mod_lt _ (by decide)
  have hm : ∀ w, Calls Try.prog 38 #[.int .u64 (a : Int), .int .u64 (d : Int)] w fun e w' => e = .returned (.tuple #[.int .u64 (H : Int), .int .u64 (L : Int)]) ∧ w' = w := fun w => by
    rw [← hH, ← hL]
    exact Try.bits_Mul64 a d (by omega) (by omega) w
  have HM := Lib.hid hm
  clear hm hH hL
  by_cases hc : b ≤ (H : Int)
  · have hc1 : decide (b ≤ (H : Int)) = true := decide_eq_true hc
    go_enter Try.func26, Try.ntmps26
    go_wp2_with (go_at_call 38; go_must (refine (HM.out _).mono ?_; rintro e w2 ⟨rfl, rfl⟩))
    refine bodyPost_ret (results_tmp2 rfl _ _ _) rfl ?_
    exact ⟨⟨_, _, rfl, by decide, by decide⟩, 0, rfl⟩
  · have hc1 : decide (b ≤ (H : Int)) = false := decide_eq_false hc
    go_enter Try.func26, Try.ntmps26
    go_wp2_with (first
      | (go_at_call 38; go_must (refine (HM.out _).mono ?_; rintro e w2 ⟨rfl, rfl⟩))
      | (go_at_call 28; go_must (refine (div28 (H : Int) (L : Int) b (by omega) (by omega) hb2 (by omega) (by omega) _).mono ?_; rintro e w2 ⟨⟨q, r, rfl, q1, q2, q3, q4⟩, ⟨nd, rfl⟩⟩)))
    refine bodyPost_ret (results_tmp2 rfl _ _ _) rfl ?_
    exact ⟨⟨_, _, rfl, q1, q2⟩, _, rfl⟩
end Go.Proofs.Ytjlegggkibbkjaa.Fl
end

section
/- Levels, as plain lists: stretches, segments, heights. -/
namespace Go.Proofs.Ytjlegggkibbkjaa.Pure
open Go Go.RowKit Go.Proofs.Ytjlegggkibbkjaa.G
set_option linter.unusedVariables false
def Fits (eps : Int) (ks : List Int) : Prop := ∃ s, addAll (newF eps) ks = some s
/-- Where stretch number k begins. -/
def bd (ends : List Nat) (k : Nat) : Nat := (0 :: ends).getD k 0
theorem bd_zero (ends : List Nat) : bd ends 0 = 0 := rfl
theorem bd_snoc {ends : List Nat} (t : Nat) {k : Nat} (h : k ≤ ends.length) : bd (ends ++ [t]) k = bd ends k := by
  unfold bd
  rw [← List.cons_append, List.getD_eq_getElem?_getD, List.getD_eq_getElem?_getD, List.getElem?_append_left (by simp; omega)]
theorem bd_last (ends : List Nat) (t : Nat) : bd (ends ++ [t]) (ends.length + 1) = t := by
  unfold bd
  rw [← List.cons_append, List.getD_eq_getElem?_getD, List.getElem?_append_right (by simp)]
  simp
theorem bd_get {ends : List Nat} {k : Nat} (h : k < ends.length) : bd ends (k + 1) = ends[k] := by
  unfold bd
  rw [List.getD_eq_getElem?_getD, List.getElem?_cons_succ, List.getElem?_eq_getElem h]; rfl
/-- The stretches so far, of l. -/
structure Pre (eps : Int) (l : List Int) (ends : List Nat) : Prop where
  up : ∀ k, k < ends.length → bd ends k < bd ends (k + 1) ∧ bd ends (k + 1) ≤ l.length ∧ Fits eps ((l.drop (bd ends k)).take (bd ends (k + 1) - bd ends k)) ∧ (bd ends (k + 1) < l.length → 2 * eps - 1 ≤ (bd ends (k + 1) : Int) - (bd ends k : Int))
def Ends (eps : Int) (l : List Int) (ends : List Nat) : Prop := Pre eps l ends ∧ bd ends ends.length = l.length
theorem Pre.nil (eps : Int) (l : List Int) : Pre eps l [] := ⟨fun k h => absurd h (Nat.not_lt_zero _)⟩
theorem Pre.snoc {eps : Int} {l : List Int} {ends : List Nat} (h : Pre eps l ends) {a t : Nat} (ha : bd ends ends.length = a) (h1 : a < t) (h2 : t ≤ l.length) (h3 : Fits eps ((l.drop a).take (t - a))) (h4 : t < l.length → 2 * eps - 1 ≤ (t : Int) - (a : Int)) : Pre eps l (ends ++ [t]) ∧ bd (ends ++ [t]) (ends ++ [t]).length = t := by
  refine ⟨⟨fun k hk => ?_⟩, by rw [List.length_append]; exact bd_last ends t⟩
  rw [List.length_append, List.length_singleton] at hk
  by_cases hk2 : k < ends.length
  · rw [bd_snoc t (Nat.le_of_lt hk2), bd_snoc t (Nat.succ_le_of_lt hk2)]
    exact h.up k hk2
  · obtain rfl : k = ends.length := by omega
    rw [bd_snoc t (Nat.le_refl _), bd_last, ha]
    exact ⟨h1, h2, h3, h4⟩
/-- A segment: its first key, its stretch. -/
structure Sg where
  first : Int
  fr : Nat
  to_ : Nat
def segOf (l : List Int) (ends : List Nat) (k : Nat) : Sg := ⟨l.getD (bd ends k) 0, bd ends k, bd ends (k + 1)⟩
def segsOf (l : List Int) (ends : List Nat) : List Sg := (List.range ends.length).map (segOf l ends)
theorem segsOf_len (l : List Int) (ends : List Nat) : (segsOf l ends).length = ends.length := by simp [segsOf]
/-- A level over keys. -/
def Lvl (eps : Int) (l : List Int) (L : List Sg) : Prop := ∃ ends, Ends eps l ends ∧ L = segsOf l ends
def firstsL (L : List Sg) : List Int := L.map Sg.first
def LevelsOk (eps : Int) : List Int → List (List Sg) → Prop
  | l, [] => l = []
  | l, L :: rest => l ≠ [] ∧ Lvl eps l L ∧ (L.length = 1 → rest = []) ∧ (L.length ≠ 1 → LevelsOk eps (firstsL L) rest)
def Rise (l : List Int) : Prop := ∀ i j, i < j → j < l.length → l.getD i 0 < l.getD j 0
def Wf (l : List Int) : Prop := ∀ x ∈ l, 0 ≤ x ∧ x < 18446744073709551616
theorem bd_mono {eps : Int} {l : List Int} {ends : List Nat} (h : Pre eps l ends) : ∀ j, j ≤ ends.length → ∀ i, i ≤ j → bd ends i + (j - i) ≤ bd ends j := by
  intro j
  induction j with
  | zero => intro _ i hi; obtain rfl : i = 0 := by omega
            simp
  | succ j ih =>
    intro hj i hi
    by_cases e : i = j + 1
    · subst e; simp
    · have h1 := ih (by omega) i (by omega)
      have h2 := (h.up j (by omega)).1
      omega
theorem bd_lt {eps : Int} {l : List Int} {ends : List Nat} (h : Ends eps l ends) {k : Nat} (hk : k < ends.length) : bd ends k < l.length := by
  have h1 := bd_mono h.1 ends.length (Nat.le_refl _) k (by omega)
  have h2 := h.2
  omega
theorem firsts_get {l : List Int} {ends : List Nat} {k : Nat} (hk : k < ends.length) : (firstsL (segsOf l ends)).getD k 0 = l.getD (bd ends k) 0 := by
  unfold firstsL segsOf
  rw [List.map_map, List.getD_eq_getElem?_getD, List.getElem?_map, List.getElem?_range hk]
  rfl
theorem Lvl.rise {eps : Int} {l : List Int} {L : List Sg} (h : Lvl eps l L) (hr : Rise l) : Rise (firstsL L) := by
  obtain ⟨ends, he, rfl⟩ := h
  intro i j hij hj
  have hl : (firstsL (segsOf l ends)).length = ends.length := by unfold firstsL; rw [List.length_map, segsOf_len]
  rw [hl] at hj
  rw [firsts_get (by omega), firsts_get hj]
  refine hr _ _ ?_ (bd_lt he hj)
  have := bd_mono he.1 j (by omega) i (by omega)
  omega
theorem Lvl.wf {eps : Int} {l : List Int} {L : List Sg} (h : Lvl eps l L) (hw : Wf l) : Wf (firstsL L) := by
  obtain ⟨ends, he, rfl⟩ := h
  intro x hx
  unfold firstsL segsOf at hx
  rw [List.map_map] at hx
  obtain ⟨k, hk, rfl⟩ := List.mem_map.1 hx
  have hk := bd_lt he (List.mem_range.1 hk)
  show 0 ≤ l.getD _ 0 ∧ l.getD _ 0 < _
  rw [List.getD_eq_getElem?_getD, List.getElem?_eq_getElem hk]
  exact hw _ (List.getElem_mem hk)
/-- All stretches but the last have their length. -/
theorem ends_many {eps : Int} (he : 2 ≤ eps) {l : List Int} {ends : List Nat} (h : Ends eps l ends) : ∀ k, k < ends.length → (2 * eps - 1) * (k : Int) ≤ (bd ends k : Int) := by
  intro k
  induction k with
  | zero => intro _; simp [bd_zero]
  | succ k ih =>
    intro hk
    have h1 := ih (by omega)
    have h2 := (h.1.up k (by omega)).2.2.2 (bd_lt h hk)
    have e : (2 * eps - 1) * ((k + 1 : Nat) : Int) = (2 * eps - 1) * (k : Int) + (2 * eps - 1) := by
      rw [Int.natCast_add, Int.mul_add, show ((1 : Nat) : Int) = 1 from rfl, Int.mul_one]
    omega
theorem ends_few {eps : Int} (he : 2 ≤ eps) {l : List Int} {ends : List Nat} (h : Ends eps l ends) (hl : 0 < ends.length) : (2 * eps - 1) * ((ends.length : Int) - 1) + 1 ≤ (l.length : Int) := by
  have h1 := ends_many he h (ends.length - 1) (by omega)
  have h2 := bd_lt h (k := ends.length - 1) (by omega)
  have e : ((ends.length - 1 : Nat) : Int) = (ends.length : Int) - 1 := by omega
  rw [e] at h1
  omega
theorem ends_pos {eps : Int} {l : List Int} {ends : List Nat} (h : Ends eps l ends) (hl : 0 < l.length) : 0 < ends.length := by
  rcases Nat.eq_zero_or_pos ends.length with h0 | h0
  · have := h.2
    rw [h0, bd_zero] at this
    omega
  · exact h0
theorem Lvl.pos {eps : Int} {l : List Int} {L : List Sg} (h : Lvl eps l L) (hl : l ≠ []) : 0 < L.length := by
  obtain ⟨ends, h1, rfl⟩ := h
  rw [segsOf_len]
  exact ends_pos h1 (List.length_pos_iff.2 hl)
theorem Lvl.less {eps : Int} (he : 2 ≤ eps) {l : List Int} {L : List Sg} (h : Lvl eps l L) (hl : 1 < L.length) : L.length < l.length := by
  obtain ⟨ends, h1, rfl⟩ := h
  rw [segsOf_len] at hl ⊢
  have h2 := ends_few he h1 (by omega)
  have h3 : 3 * ((ends.length : Int) - 1) ≤ (2 * eps - 1) * ((ends.length : Int) - 1) := Int.mul_le_mul_of_nonneg_right (by omega) (by omega)
  omega
theorem Lvl.le {eps : Int} (he : 2 ≤ eps) {l : List Int} {L : List Sg} (h : Lvl eps l L) : L.length ≤ l.length := by
  by_cases hl : 1 < L.length
  · exact Nat.le_of_lt (h.less he hl)
  · obtain ⟨ends, h1, rfl⟩ := h
    rw [segsOf_len] at hl ⊢
    rcases Nat.eq_zero_or_pos ends.length with h0 | h0
    · omega
    · have := bd_lt h1 h0
      omega
/-- A level has at most one more than n / eps segments. -/
theorem Lvl.cap {e : Nat} (he : 2 ≤ e) {l : List Int} {L : List Sg} (h : Lvl (e : Int) l L) : L.length ≤ l.length / e + 1 := by
  obtain ⟨ends, h1, rfl⟩ := h
  rw [segsOf_len]
  rcases Nat.eq_zero_or_pos ends.length with h0 | h0
  · rw [h0]; exact Nat.zero_le _
  · have h2 := ends_few (by omega) h1 h0
    have h3 : (e : Int) * ((ends.length : Int) - 1) ≤ (2 * (e : Int) - 1) * ((ends.length : Int) - 1) := Int.mul_le_mul_of_nonneg_right (by omega) (by omega)
    have h4 : (ends.length - 1) * e ≤ l.length := by
      have e4 : (((ends.length - 1) * e : Nat) : Int) = (e : Int) * ((ends.length : Int) - 1) := by
        rw [Int.natCast_mul, Int.mul_comm]
        congr 1
        omega
      omega
    have := (Nat.le_div_iff_mul_le (by omega)).2 h4
    omega
/-- Few keys have one segment. -/
theorem Lvl.one {eps : Int} (he : 2 ≤ eps) {l : List Int} {L : List Sg} (h : Lvl eps l L) (hl : l ≠ []) (hs : (l.length : Int) ≤ 2 * eps - 1) : L.length = 1 := by
  have hp := h.pos hl
  obtain ⟨ends, h1, rfl⟩ := h
  rw [segsOf_len] at hp ⊢
  have h2 := ends_few he h1 hp
  rcases Nat.lt_or_ge 1 ends.length with h3 | h3
  · have h4 : (2 * eps - 1) * 1 ≤ (2 * eps - 1) * ((ends.length : Int) - 1) := Int.mul_le_mul_of_nonneg_left (by omega) (by omega)
    omega
  · omega
theorem height {e : Nat} (he : 2 ≤ e) (he2 : e ≤ 64) : ∀ n : Nat, n ≤ 1099511627776 → ∃ r : Nat, (∃ k, levels_MaxHeight.f k n e = some (r : Int)) ∧ r ≤ n ∧ ∀ l lv, LevelsOk (e : Int) l lv → l.length ≤ n → lv.length ≤ r := by
  intro n
  induction n using Nat.strongRecOn with
  | _ n ih =>
    intro hn
    have hw : wrap64 ((wrap64 (2 * (e : Int))) - 1) = 2 * (e : Int) - 1 := by
      have h1 : wrap64 (2 * (e : Int)) = 2 * (e : Int) := by unfold wrap64; omega
      rw [h1]; unfold wrap64; omega
    by_cases h0 : n = 0
    · subst h0
      refine ⟨0, ⟨2, ?_⟩, Nat.le_refl _, fun l lv h hl => ?_⟩
      · simp only [levels_MaxHeight.f]
        rw [if_pos (by decide)]
        simp only [levels_MaxHeight.j0]
        rfl
      · obtain rfl : l = [] := List.eq_nil_of_length_eq_zero (by omega)
        cases lv with
        | nil => exact Nat.le_refl _
        | cons L r => exact absurd rfl h.1
    · by_cases h1 : (n : Int) ≤ 2 * (e : Int) - 1
      · refine ⟨1, ⟨2, ?_⟩, by omega, fun l lv h hl => ?_⟩
        · simp only [levels_MaxHeight.f]
          rw [if_neg (by omega), if_neg (by omega)]
          simp only [levels_MaxHeight.j0]
          rw [if_neg (by simp; omega), hw, if_pos h1]
          rfl
        · cases lv with
          | nil => exact Nat.zero_le _
          | cons L r =>
            obtain ⟨q1, q2, q3, _⟩ := h
            rw [q3 (q2.one (by omega) q1 (by omega))]
            exact Nat.le_refl _
      · have hd : n / e ≤ n / 2 := Nat.div_le_div_left he (by omega)
        obtain ⟨r, ⟨k, hk⟩, hr, hlv⟩ := ih (n / e + 1) (by omega) (by omega)
        refine ⟨1 + r, ⟨k + 2, ?_⟩, by omega, fun l lv h hl => ?_⟩
        · simp only [levels_MaxHeight.f]
          rw [if_neg (by omega), if_neg (by omega)]
          simp only [levels_MaxHeight.j0]
          rw [if_neg (by simp; omega), hw, if_neg h1, if_neg (by omega)]
          have e1 : wrap64 ((wrap64 (Int.tdiv (n : Int) (e : Int))) + 1) = ((n / e + 1 : Nat) : Int) := by
            rw [Int.tdiv_eq_ediv_of_nonneg (by omega), ← Int.natCast_ediv]
            have h2 : wrap64 ((n / e : Nat) : Int) = ((n / e : Nat) : Int) := by unfold wrap64; omega
            rw [h2]; unfold wrap64; omega
          rw [e1, hk, Option.bind_some]
          have e2 : wrap64 (1 + (r : Int)) = ((1 + r : Nat) : Int) := by unfold wrap64; omega
          rw [e2]
        · cases lv with
          | nil => exact Nat.zero_le _
          | cons L rest =>
            obtain ⟨q1, q2, q3, q4⟩ := h
            by_cases hL : L.length = 1
            · rw [q3 hL]; simp
            · have h5 := hlv _ _ (q4 hL) (by
                unfold firstsL
                rw [List.length_map]
                have h6 := q2.cap he
                have h7 : l.length / e ≤ n / e := Nat.div_le_div_right hl
                omega)
              rw [List.length_cons]
              omega
end Go.Proofs.Ytjlegggkibbkjaa.Pure
end

section
/- line.Of over a stretch that fits. -/
namespace Go.Proofs.Ytjlegggkibbkjaa.M
open Go Go.RowKit Go.Shelf Go.Proofs.Ytjlegggkibbkjaa.Pure Go.Proofs.Ytjlegggkibbkjaa.G Go.Proofs.YtjlegggkibbkjaaW.PrintWords
set_option linter.unusedVariables false
set_option linter.unusedSimpArgs false
theorem addAll_step {eps : Int} {l : List Int} (hs : Fits eps l) {i : Nat} (hi : i < l.length) {si : FitS} (h : addAll (newF eps) (l.take i) = some si) : ∃ sj, addF si (l.getD i 0) = some sj ∧ addAll (newF eps) (l.take (i + 1)) = some sj := by
  obtain ⟨s, hs⟩ := hs
  have e : l.take (i + 1) = l.take i ++ [l.getD i 0] := by
    rw [List.take_succ_eq_append_getElem hi]
    simp [hi]
  have h2 : l = l.take (i + 1) ++ l.drop (i + 1) := (List.take_append_drop _ _).symm
  rw [h2, addAll_append] at hs
  rw [e, addAll_snoc, h] at hs ⊢
  simp only [Option.bind_some] at hs ⊢
  cases hf : addF si (l.getD i 0) with
  | none => rw [hf] at hs; simp at hs
  | some sj => exact ⟨sj, rfl, rfl⟩
/-- The fit behind i keys. -/
structure FitN (eps : Int) (l : List Int) (X W : World) (b i : Nat) (T : Blocks) (s : FitS) (v0 v1 : Value) : Prop where
  turned : Turned (fun k => k = b) T X W
  fit : FitAt W T b s v0 v1
  all : addAll (newF eps) (l.take i) = some s
  inv : Inv s
  count : s.count = i
  last : ∀ j, i = j + 1 → s.last = l.getD j 0
theorem FitN.step {eps : Int} {l : List Int} {X W W' : World} {b i : Nat} {T : Blocks} {s : FitS} {v0 v1 : Value} (h : FitN eps l X W b i T s v0 v1) (hs : Fits eps l) (hi : i < l.length) (hr : Rise l) (hw : Wf l) (hl : l.length ≤ 1099511627776) {e : Ending} (hp : AddPost T b s (l.getD i 0) W e W') :
    e = .returned (.tuple #[.bool true, .int .i64 0]) ∧ ∃ T' s' u0 u1, FitN eps l X W' b (i + 1) T' s' u0 u1 := by
  obtain ⟨sj, hf, hall⟩ := addAll_step hs hi h.all
  obtain ⟨T', u0, u1, hT, hc⟩ := hp
  have hx := hw (l.getD i 0) (by rw [List.getD_eq_getElem?_getD, List.getElem?_eq_getElem hi]; exact List.getElem_mem hi)
  have hlt : 0 < s.count → s.last < l.getD i 0 := fun hc => by
    have hci := h.count
    rw [h.last (i - 1) (by omega)]
    exact hr _ _ (by omega) hi
  rcases hc with ⟨hn, _, _⟩ | ⟨s2, hs2, he, hF⟩
  · rw [hf] at hn; cases hn
  · rw [hf] at hs2
    injection hs2 with hs2
    subst hs2
    have ha := h.inv.add hlt hx.1 hx.2 (by rw [h.count]; omega) hf
    refine ⟨he, T', sj, u0, u1, h.turned.trans hT, hF, hall, ha.1, by rw [ha.2.1, h.count], fun j hj => ?_⟩
    rw [ha.2.2.1]
    congr 1
    omega
structure L2 (w wd : World) (b12 b13 b4 : Nat) (la lb : Int) : Prop where
  below : Below w.heap.size w wd
  h12 : wd.heap[b12]? = some (.cells #[.int .u64 la, .int .u64 lb] 58 (0, 0))
  h13 : ∃ z : Int, wd.heap[b13]? = some (.cells #[.int .u64 la, .int .u64 lb, .int .i64 z] 52 (0, 0))
  h4 : wd.heap[b4]? = some (.cells #[.int .u64 0, .int .u64 0, .int .i64 0] 52 (0, 0))
  n4 : w.heap.size ≤ b4
  n12 : b4 < b12
  n13 : b12 < b13
theorem L2.set {w wd : World} {b12 b13 b4 : Nat} {la lb z : Int} (h : L2 w wd b12 b13 b4 la lb) (n : Nat) (h13 : wd.heap[b13]? = some (.cells #[.int .u64 la, .int .u64 lb, .int .i64 z] 52 (0, 0))) (z' : Int) : L2 w ((wd.drewN n).setCell ⟨b13, 2, none⟩ (.int .i64 z')) b12 b13 b4 la lb := by
  have e13 : (wd.drewN n).heap[b13]? = some (.cells #[.int .u64 la, .int .u64 lb, .int .i64 z] 52 (0, 0)) := h13
  have n4 := h.n4
  have n12 := h.n12
  have n13 := h.n13
  refine ⟨⟨h.below.os, h.below.tape, h.below.output, by rw [setCell_size]; exact h.below.size, fun k hk => (setCell_other _ _ _ _ (by omega)).trans (h.below.block k hk)⟩, (setCell_other _ _ _ _ (by omega)).trans h.h12, ⟨z', (setCell_blk e13 _).trans rfl⟩, (setCell_other _ _ _ _ (by omega)).trans h.h4, n4, n12, n13⟩
theorem L2.cell4 {w wd : World} {b12 b13 b4 : Nat} {la lb : Int} (h : L2 w wd b12 b13 b4 la lb) (a c z : Int) : Below w.heap.size w (((wd.setCell ⟨b4, 0, none⟩ (.int .u64 a)).setCell ⟨b4, 1, none⟩ (.int .u64 c)).setCell ⟨b4, 2, none⟩ (.int .i64 z)) := by
  have n4 := h.n4
  exact ⟨h.below.os, h.below.tape, h.below.output, by rw [setCell_size, setCell_size, setCell_size]; exact h.below.size, fun k hk => (setCell_other _ _ _ _ (by omega)).trans ((setCell_other _ _ _ _ (by omega)).trans ((setCell_other _ _ _ _ (by omega)).trans (h.below.block k hk)))⟩
set_option maxHeartbeats 4000000 in
set_option maxRecDepth 100000 in
theorem line19 (hA : AddLaw) (A : Option Addr) (c : Nat) (l : List Int) (eps : Int) (he : 2 ≤ eps ∧ eps ≤ 64) (hn : 0 < l.length) (hl : l.length ≤ 1099511627776) (hc : l.length ≤ c) (hr : Rise l) (hrt : risesTo l l.length = true) (hw : Wf l) (hs : Fits eps l) (w : World) (hr0 : Kd.C (Kd.int .u64) w A l.length l) :
    Calls Try.prog 19 #[.slice A l.length c, .int .i64 eps] w fun e w' => (∃ a b z : Int, e = .returned (.tuple #[.agg #[.int .u64 a, .int .u64 b, .int .i64 z], .int .i64 0]) ∧ 0 ≤ a ∧ a < 18446744073709551616 ∧ 0 ≤ b ∧ b < 18446744073709551616) ∧ Below w.heap.size w w' := by
  have HA := Lib.hid hA
  have HE := Lib.hid he
  have HN := Lib.hid hn
  have HL := Lib.hid hl
  have HC := Lib.hid hc
  have HR := Lib.hid hr
  have HRT := Lib.hid hrt
  have HW := Lib.hid hw
  have HS := Lib.hid hs
  have HR0 := Lib.hid hr0
  have d1 : ((l.length : Int) == 0) = false := by rw [beq_eq_false_iff_ne]; omega
  clear hA he hn hl hc hr hrt hw hs hr0
  go_enter Try.func19, Try.ntmps19
  obtain ⟨b4, hb4⟩ : ∃ b4, w.heap.size = b4 := ⟨_, rfl⟩
  have HB4 := Lib.hid hb4
  go_upto_region 2 with (go_at_call 17; go_must (refine (new17 eps HE.out _).mono ?_; rintro e X ⟨rfl, hF, hb, hsz⟩; have HF := Lib.hid hF; have HB := Lib.hid hb; have HSZ := Lib.hid hsz; clear hF hb hsz))
  obtain ⟨b, hb⟩ : ∃ b, (w.alloc (.cells #[.int .u64 0, .int .u64 0, .int .i64 0] 52)).heap.size = b := ⟨_, rfl⟩
  have hbb : b = b4 + 1 := by rw [← hb, World.size_alloc, hb4]
  have hF := HF.out
  have hB := HB.out
  have hS := HSZ.out
  rw [hb] at hF hB hS
  have hwX : Below w.heap.size w X := ((Below.refl _ w).alloc (Nat.le_refl _) _).trans (by rw [← hb] at hB; exact hB.mono (by simp))
  have h4 : X.heap[b4]? = some (.cells #[.int .u64 0, .int .u64 0, .int .i64 0] 52 (0, 0)) := (hB.block b4 (by omega)).trans (by rw [← hb4]; exact alloc_new w _)
  clear HF HB HSZ
  rw [← hbb]
  have HF := Lib.hid hF
  have HX := Lib.hid (And.intro hwX h4)
  have HBX := Lib.hid (And.intro hbb hS)
  have hrX := Kd.C_below HR0.out hwX
  have HRX := Lib.hid hrX
  clear hF hB hS hwX h4 hb hbb hb4 hrX
  go_upto_region 6 with (go_at_call 10; go_must (refine (keys_Rising.calls A c l true _ HRX.out HC.out (by unfold keys_Rising.f; rw [HRT.out])).mono ?_; rintro e Y ⟨rfl, ⟨nd, rfl⟩⟩))
  go_wp2_with (fail)
  go_loopg [39] l.length (fun kq v39 wd => ∃ i : Nat, v39 = .int .i64 (i : Int) ∧ Hid (i ≤ l.length ∧ l.length - i ≤ kq) ∧ ∃ T s v0 v1, Hid (FitN eps l X wd b i T s v0 v1))
  case atStart => exact ⟨0, rfl, Lib.hid ⟨Nat.zero_le _, Nat.le_refl _⟩, _, newF eps, .slice none 0 0, .slice none 0 0, Lib.hid ⟨Turned.of_below (below_drewN X nd), HF.out.below (below_drewN X nd), rfl, inv_new HE.out, rfl, fun j hj => by omega⟩⟩
  case round =>
    obtain ⟨i, rfl, HI, T, si, v0, v1, HFN⟩ := hrel
    by_cases hi : i < l.length
    · have hd : decide ((i : Int) < (l.length : Int)) = true := decide_eq_true (by omega)
      have hd2 : decide (i < l.length) = true := decide_eq_true hi
      have hbX : Below X.heap.size X wr ∨ True := .inr trivial
      have hbw : Below w.heap.size w wr := by
        refine HX.out.1.trans (HFN.out.turned.below (base := w.heap.size) HX.out.1.size (fun k hk => ?_))
        have := HBX.out.1; have := HB4.out; have hk2 : k = b := hk; omega
      obtain ⟨ad, e1, hx⟩ := Kd.at_int (Kd.C_below HR0.out hbw) (i : Int) (by omega) (by omega)
      cases e1
      have hrd : rd l (i : Int) = l.getD i 0 := by simp [rd]
      rw [hrd] at hx
      simp only [Int.toNat_natCast] at hx
      obtain ⟨ki, hki⟩ : ∃ ki, l.getD i 0 = ki := ⟨_, rfl⟩
      have hx2 := HW.out (l.getD i 0) (by rw [List.getD_eq_getElem?_getD, List.getElem?_eq_getElem hi]; exact List.getElem_mem hi)
      have hlt : 0 < si.count → si.last < l.getD i 0 := fun hc => by
        have hci := HFN.out.count
        rw [HFN.out.last (i - 1) (by omega)]
        exact HR.out _ _ (by omega) hi
      have HADD : Hid (Calls Try.prog 18 #[.pointer (some ⟨b, 0, none⟩), .int .u64 ki] wr fun e w' => e = .returned (.tuple #[.bool true, .int .i64 0]) ∧ ∃ T' s' u0 u1, FitN eps l X w' b (i + 1) T' s' u0 u1) := Lib.hid (by
        rw [← hki]
        exact (HA.out T b si v0 v1 _ hlt hx2.1 hx2.2 HFN.out.inv (by have := HFN.out.count; have := HL.out; omega) wr HFN.out.fit).mono fun e w' hp => HFN.out.step HS.out hi HR.out HW.out HL.out hp)
      have hwr : IntKind.i64.wrap ((i : Int) + 1) = ((i + 1 : Nat) : Int) := by rw [IntWalk.i64_in _ (by have := HL.out; omega)]; omega
      rw [hki] at hx
      have HLT := Lib.hid hi
      clear hbX hbw hrd hki hx2 hlt hi
      go_wp2_with (go_at_call 18; go_must (refine (HADD.out).mono ?_; rintro e W2 ⟨rfl, hex⟩; have HEX := Lib.hid hex; clear hex))
      go_roundg (l.length - (i + 1))
      case measure => have := HI.out; have := HLT.out; omega
      case rel =>
        obtain ⟨T', s', u0, u1, h⟩ := HEX.out
        exact ⟨i + 1, by first | rfl | rw [hwr], Lib.hid ⟨HLT.out, Nat.le_refl _⟩, T', s', u0, u1, Lib.hid h⟩
    · have hd : decide ((i : Int) < (l.length : Int)) = false := decide_eq_false (by omega)
      have hd2 : decide (i < l.length) = false := decide_eq_false hi
      have hil : i = l.length := by have := HI.out; omega
      subst hil
      have hbw : Below w.heap.size w wr := by
        refine HX.out.1.trans (HFN.out.turned.below (base := w.heap.size) HX.out.1.size (fun k hk => ?_))
        have := HBX.out.1; have := HB4.out; have hk2 : k = b := hk; omega
      have h4 : wr.heap[b4]? = some (.cells #[.int .u64 0, .int .u64 0, .int .i64 0] 52 (0, 0)) := (HFN.out.turned.same b4 (by have := HBX.out; omega) (fun h => by have := HBX.out.1; have h2 : b4 = b := h; omega)).trans HX.out.2
      obtain ⟨la, hla⟩ : ∃ la, si.least.1 = la := ⟨_, rfl⟩
      obtain ⟨lb, hlb⟩ : ∃ lb, si.least.2 = lb := ⟨_, rfl⟩
      have hlr := HFN.out.inv.least
      have HLS : Hid (Calls Try.prog 25 #[.pointer (some ⟨b, 0, none⟩)] wr fun e w' => e = .returned (.agg #[.int .u64 la, .int .u64 lb]) ∧ Below wr.heap.size wr w') := Lib.hid (by rw [← hla, ← hlb]; exact least25 T b si v0 v1 wr HFN.out.fit)
      rw [hla, hlb] at hlr
      have HLR := Lib.hid hlr
      have HBW := Lib.hid hbw
      have H4 := Lib.hid h4
      clear hbw h4 hla hlb hlr hi HFN HF HX HBX hd hd2 d1
      go_upto_region 14 with (go_at_call 25; go_must (refine (HLS.out).mono ?_; rintro e Z ⟨rfl, hb⟩; have HZ := Lib.hid hb; clear hb))
      obtain ⟨b12, hb12⟩ : ∃ b12, Z.heap.size = b12 := ⟨_, rfl⟩
      obtain ⟨Z1, hZ1⟩ : ∃ Z1, Z.alloc (.cells #[.int .u64 la, .int .u64 lb] 58) = Z1 := ⟨_, rfl⟩
      have hb1 : Below Z.heap.size Z Z1 := by rw [← hZ1]; exact (Below.refl _ Z).alloc (Nat.le_refl _) _
      have e12 : Z1.heap[b12]? = some (.cells #[.int .u64 la, .int .u64 lb] 58 (0, 0)) := by rw [← hZ1, ← hb12]; exact alloc_new Z _
      have c0 : Z1.cell? ⟨b12, 0, none⟩ = some (.int .u64 la) := by rw [cell_of_row Z1 _ 0 _ _ _ e12]; rfl
      have c1 : Z1.cell? ⟨b12, 1, none⟩ = some (.int .u64 lb) := by rw [cell_of_row Z1 _ 1 _ _ _ e12]; rfl
      rw [hZ1, hb12]
      have HZ1 := Lib.hid (And.intro hb1 e12)
      have HQ12 := Lib.hid hb12
      have hwz : IntKind.i64.wrap (1 - eps) = 1 - eps := IntWalk.i64_in _ (by have := HE.out; omega)
      clear hZ1 hb12 hb1 e12
      go_upto_region 15 with (fail)
      obtain ⟨b13, hb13⟩ : ∃ b13, Z1.heap.size = b13 := ⟨_, rfl⟩
      obtain ⟨Z2, hZ2⟩ : ∃ Z2, Z1.alloc (.cells #[.int .u64 la, .int .u64 lb, .int .i64 (1 - eps)] 52) = Z2 := ⟨_, rfl⟩
      have hb2 : Below Z1.heap.size Z1 Z2 := by rw [← hZ2]; exact (Below.refl _ Z1).alloc (Nat.le_refl _) _
      have e13 : Z2.heap[b13]? = some (.cells #[.int .u64 la, .int .u64 lb, .int .i64 (1 - eps)] 52 (0, 0)) := by rw [← hZ2, ← hb13]; exact alloc_new Z1 _
      rw [hZ2, hb13]
      have hL : L2 w Z2 b12 b13 b4 la lb := by
        have hq1 := HZ.out.trans (HZ1.out.1.mono HZ.out.size)
        have hq2 := hq1.trans (hb2.mono hq1.size)
        have l12 := (Array.getElem?_eq_some_iff.1 HZ1.out.2).1
        have l4 := (Array.getElem?_eq_some_iff.1 H4.out).1
        have hs1 := HZ.out.size
        have hs2 := HZ1.out.1.size
        have hs0 := HBW.out.size
        have hh := HB4.out
        have hh2 := HQ12.out
        exact ⟨HBW.out.trans (hq2.mono HBW.out.size), (hb2.block _ l12).trans HZ1.out.2, ⟨_, e13⟩, (hq2.block _ l4).trans H4.out, by omega, by omega, by omega⟩
      have HL2 := Lib.hid hL
      clear hZ2 hb13 hb2 e13 hL c0 c1 hwz
      go_wp2_with (fail)
      go_loopg [64] l.length (fun kq v64 wd => ∃ i : Nat, v64 = .int .i64 (i : Int) ∧ Hid (i ≤ l.length ∧ l.length - i ≤ kq) ∧ Hid (L2 w wd b12 b13 b4 la lb))
      case atStart => exact ⟨0, rfl, Lib.hid ⟨Nat.zero_le _, Nat.le_refl _⟩, HL2⟩
      case round =>
        obtain ⟨i, rfl, HI2, HL3⟩ := hrel
        by_cases hi : i < l.length
        · have hd : decide ((i : Int) < (l.length : Int)) = true := decide_eq_true (by omega)
          have hd2 : decide (i < l.length) = true := decide_eq_true hi
          have hrw := Kd.C_below HR0.out HL3.out.below
          obtain ⟨ad, e1, hx⟩ := Kd.at_int hrw (i : Int) (by omega) (by omega)
          obtain ⟨ad', e2, hx0⟩ := Kd.at_int hrw 0 (by omega) (by omega)
          cases e1
          cases e2
          simp only [Int.toNat_natCast] at hx
          obtain ⟨xi, hxi⟩ : ∃ xi, rd l (i : Int) = xi := ⟨_, rfl⟩
          obtain ⟨x0, hx0'⟩ : ∃ x0, rd l 0 = x0 := ⟨_, rfl⟩
          rw [hxi] at hx
          rw [hx0'] at hx0
          simp only [Int.toNat_zero] at hx0
          have hx00 : wr.cell? ad = some (.int .u64 x0) := by rw [← Addr.add_zero' ad]; exact hx0
          have hwr : IntKind.i64.wrap ((i : Int) + 1) = ((i + 1 : Nat) : Int) := by rw [IntWalk.i64_in _ (by have := HL.out; omega)]; omega
          have hwe : IntKind.i64.wrap (eps - 1) = eps - 1 := IntWalk.i64_in _ (by have := HE.out; omega)
          have hwi : IntKind.i64.wrap ((i : Int) - (eps - 1)) = (i : Int) - (eps - 1) := IntWalk.i64_in _ (by have := HE.out; have := HL.out; omega)
          obtain ⟨z, h13⟩ := HL3.out.h13
          have c0 : wr.cell? ⟨b12, 0, none⟩ = some (.int .u64 la) := by rw [cell_of_row wr _ 0 _ _ _ HL3.out.h12]; rfl
          have c1 : wr.cell? ⟨b12, 1, none⟩ = some (.int .u64 lb) := by rw [cell_of_row wr _ 1 _ _ _ HL3.out.h12]; rfl
          have HLT := Lib.hid hi
          have H13 := Lib.hid h13
          have HDD := Lib.hid (And.intro hwe hwi)
          have HRW := Lib.hid hrw
          clear hxi hx0' hi h13 hwe hwi hrw
          go_upto_region 18 with (fail)
          go_cut [16, 17] from 69 to 81 (fun v16 v17 wd => ∃ (f : Int) (kb : Bool) (nd2 : Nat), v16 = .int .u64 f ∧ v17 = .bool kb ∧ wd = wr.drewN nd2)
          case first =>
            go_region_with (go_at_call 26; go_must (refine (Go.Proofs.Ytjlegggkibbkjaa.Fl.along26 la lb _ HLR.out.1 HLR.out.2.1 HLR.out.2.2.1 HLR.out.2.2.2 (u64_rng _).1 (u64_rng _).2 _).mono ?_; rintro e W3 ⟨⟨f, kb, rfl, hf0, hf1⟩, ⟨nd3, rfl⟩⟩))
            all_goals
              go_wp2_with (fail)
              go_meet
            all_goals exact ⟨_, _, _, rfl, rfl, rfl⟩
          case rest =>
            obtain ⟨f, kb, nd2, rfl, rfl, rfl⟩ := hcut
            have z0 : wr.cell? ⟨b13, 2, none⟩ = some (.int .i64 z) := by rw [cell_of_row wr _ 2 _ _ _ H13.out]; rfl
            have z1 : wr.frozen? ⟨b13, 2, none⟩ = false := by simp [World.frozen?, H13.out]
            have hwe := HDD.out.1
            have hwi := HDD.out.2
            go_wp2_with (fail)
            go_roundg (l.length - (i + 1))
            case measure => have := HI2.out; have := HLT.out; omega
            case rel => exact ⟨i + 1, by first | rfl | rw [hwr], Lib.hid ⟨HLT.out, Nat.le_refl _⟩, Lib.hid (HL3.out.set nd2 H13.out _)⟩
        · have hd : decide ((i : Int) < (l.length : Int)) = false := decide_eq_false (by omega)
          have hd2 : decide (i < l.length) = false := decide_eq_false hi
          obtain ⟨z, h13⟩ := HL3.out.h13
          have c0 : wr.cell? ⟨b13, 0, none⟩ = some (.int .u64 la) := by rw [cell_of_row wr _ 0 _ _ _ h13]; rfl
          have c1 : wr.cell? ⟨b13, 1, none⟩ = some (.int .u64 lb) := by rw [cell_of_row wr _ 1 _ _ _ h13]; rfl
          have c2 : wr.cell? ⟨b13, 2, none⟩ = some (.int .i64 z) := by rw [cell_of_row wr _ 2 _ _ _ h13]; rfl
          have h4 := HL3.out.h4
          have k0 : wr.cell? ⟨b4, 0, none⟩ = some (.int .u64 0) := by rw [cell_of_row wr _ 0 _ _ _ h4]; rfl
          have k1 : wr.cell? ⟨b4, 1, none⟩ = some (.int .u64 0) := by rw [cell_of_row wr _ 1 _ _ _ h4]; rfl
          have k2 : wr.cell? ⟨b4, 2, none⟩ = some (.int .i64 0) := by rw [cell_of_row wr _ 2 _ _ _ h4]; rfl
          have q0 : wr.frozen? ⟨b4, 0, none⟩ = false := by simp [World.frozen?, h4]
          have q1 : wr.frozen? ⟨b4, 1, none⟩ = false := by simp [World.frozen?, h4]
          have q2 : wr.frozen? ⟨b4, 2, none⟩ = false := by simp [World.frozen?, h4]
          have H4' := Lib.hid h4
          clear h13 h4 hi
          go_wp2_with (fail)
          have h3 := setCell_blk (setCell_blk (setCell_blk H4'.out (.int .u64 la) (j := 0)) (.int .u64 lb) (j := 1)) (.int .i64 z) (j := 2)
          simp only [List.setIfInBounds_toArray, List.set_cons_succ, List.set_cons_zero] at h3
          have z0 := (cell_of_row _ _ 0 _ _ _ h3).trans rfl
          have z1 := (cell_of_row _ _ 1 _ _ _ h3).trans rfl
          have z2 := (cell_of_row _ _ 2 _ _ _ h3).trans rfl
          have hbl : Below w.heap.size w (((wr.setCell ⟨b4, 0, none⟩ (.int .u64 la)).setCell ⟨b4, 1, none⟩ (.int .u64 lb)).setCell ⟨b4, 2, none⟩ (.int .i64 z)) := HL3.out.cell4 la lb z
          exact bodyPost_ret (v := .tuple #[.agg #[.int .u64 la, .int .u64 lb, .int .i64 z], .int .i64 0]) (by simp [results, Try.results19, go_sem, z0, z1, z2]) rfl ⟨⟨la, lb, z, rfl, HLR.out⟩, hbl⟩
end Go.Proofs.Ytjlegggkibbkjaa.M
end

section
/- model.Of over a stretch that fits. -/
namespace Go.Proofs.Ytjlegggkibbkjaa.M
open Go Go.Proofs.Ytjlegggkibbkjaa Go.RowKit Go.Shelf Go.Proofs.Ytjlegggkibbkjaa.Pure Go.Proofs.Ytjlegggkibbkjaa.G Go.Proofs.YtjlegggkibbkjaaW.PrintWords
set_option linter.unusedVariables false
set_option linter.unusedSimpArgs false
theorem ms_os (W : World) (a : Addr) (u : Value) : (W.setCell a u).os = W.os := rfl
theorem ms_tape (W : World) (a : Addr) (u : Value) : (W.setCell a u).tape = W.tape := rfl
theorem ms_output (W : World) (a : Addr) (u : Value) : (W.setCell a u).output = W.output := rfl
theorem mod_below {w X : World} (h : Below w.heap.size w X) {b6 : Nat} (hb : w.heap.size ≤ b6) (n : Nat) (v0 v1 v2 v3 v4 : Value) : Below w.heap.size w ((((((X.drewN n).setCell ⟨b6, 0, none⟩ v0).setCell ⟨b6, 1, none⟩ v1).setCell ⟨b6, 2, none⟩ v2).setCell ⟨b6, 3, none⟩ v3).setCell ⟨b6, 4, none⟩ v4) := by
  refine ⟨by simp only [ms_os]; exact h.os, by simp only [ms_tape]; exact h.tape, by simp only [ms_output]; exact h.output, by rw [setCell_size, setCell_size, setCell_size, setCell_size, setCell_size]; exact h.size, fun k hk => ?_⟩
  rw [setCell_other _ _ _ _ (by omega), setCell_other _ _ _ _ (by omega), setCell_other _ _ _ _ (by omega), setCell_other _ _ _ _ (by omega), setCell_other _ _ _ _ (by omega)]
  exact h.block k hk
set_option maxHeartbeats 4000000 in
set_option maxRecDepth 100000 in
theorem model16 (hA : AddLaw) (A : Option Addr) (c : Nat) (l : List Int) (eps : Int) (fr : Nat) (he : 2 ≤ eps ∧ eps ≤ 64) (hn : 0 < l.length) (hfr : fr + l.length ≤ 4294967296) (hc : l.length ≤ c) (hr : Rise l) (hrt : risesTo l l.length = true) (hw : Wf l) (hs : Fits eps l) (w : World) (hr0 : Kd.C (Kd.int .u64) w A l.length l) :
    Calls Try.prog 16 #[.slice A l.length c, .int .i64 eps, .int .i64 (fr : Int)] w fun e w' => (∃ x y : Nat, e = .returned (.tuple #[.agg #[.int .u64 (l.getD 0 0), .float .f64 x, .float .f64 y, .int .i64 (fr : Int), .int .i64 ((fr + l.length : Nat) : Int)], .int .i64 0])) ∧ Below w.heap.size w w' := by
  have HLN : Hid (∀ W, Below w.heap.size w W → Calls Try.prog 19 #[.slice A l.length c, .int .i64 eps] W fun e w' => (∃ a b z : Int, e = .returned (.tuple #[.agg #[.int .u64 a, .int .u64 b, .int .i64 z], .int .i64 0]) ∧ 0 ≤ a ∧ a < 18446744073709551616 ∧ 0 ≤ b ∧ b < 18446744073709551616) ∧ Below W.heap.size W w') := Lib.hid (fun W hb => line19 hA A c l eps he hn (by omega) hc hr hrt hw hs W (Kd.C_below hr0 hb))
  have HFR := Lib.hid hfr
  have HR0 := Lib.hid hr0
  have HN := Lib.hid hn
  have d1 : decide ((fr : Int) < 0) = false := decide_eq_false (by omega)
  have d2 : IntKind.i64.wrap (4294967296 - (l.length : Int)) = 4294967296 - (l.length : Int) := IntWalk.i64_in _ (by omega)
  have d3 : decide ((fr : Int) > 4294967296 - (l.length : Int)) = false := decide_eq_false (by omega)
  have d4 : decide (4294967296 - (l.length : Int) < (fr : Int)) = false := decide_eq_false (by omega)
  have d5 : IntKind.i64.wrap ((fr : Int) + (l.length : Int)) = ((fr + l.length : Nat) : Int) := by rw [IntWalk.i64_in _ (by omega)]; omega
  clear hA he hn hfr hc hr hrt hw hs hr0
  go_enter Try.func16, Try.ntmps16
  obtain ⟨b6, hb6⟩ : ∃ b6, w.heap.size = b6 := ⟨_, rfl⟩
  have HB6 := Lib.hid hb6
  go_upto_region 2 with (go_at_call 19; go_must (refine (HLN.out _ ((Below.refl _ w).alloc (Nat.le_refl _) _)).mono ?_; rintro e X ⟨⟨a, b, z, rfl, hab⟩, hb⟩; have HAB := Lib.hid hab; have HB := Lib.hid hb; clear hab hb))
  obtain ⟨b8, hb8⟩ : ∃ b8, X.heap.size = b8 := ⟨_, rfl⟩
  obtain ⟨X1, hX1⟩ : ∃ X1, X.alloc (.cells #[.int .u64 a, .int .u64 b, .int .i64 z] 52) = X1 := ⟨_, rfl⟩
  have hw0 : Below w.heap.size w X := ((Below.refl _ w).alloc (Nat.le_refl _) _).trans (HB.out.mono (by simp))
  have hb1 : Below X.heap.size X X1 := by rw [← hX1]; exact (Below.refl _ X).alloc (Nat.le_refl _) _
  have h6 : X1.heap[b6]? = some (.cells #[.int .u64 0, .float .f64 0, .float .f64 0, .int .i64 0, .int .i64 0] 34 (0, 0)) := (hb1.block b6 (by have := HB.out.size; rw [World.size_alloc] at this; omega)).trans ((HB.out.block b6 (by rw [World.size_alloc]; omega)).trans (by rw [← hb6]; exact alloc_new w _))
  have e8 : X1.heap[b8]? = some (.cells #[.int .u64 a, .int .u64 b, .int .i64 z] 52 (0, 0)) := by rw [← hX1, ← hb8]; exact alloc_new X _
  have hw1 : Below w.heap.size w X1 := hw0.trans (hb1.mono hw0.size)
  have c0 : X1.cell? ⟨b8, 0, none⟩ = some (.int .u64 a) := by rw [cell_of_row X1 _ 0 _ _ _ e8]; rfl
  have c1 : X1.cell? ⟨b8, 1, none⟩ = some (.int .u64 b) := by rw [cell_of_row X1 _ 1 _ _ _ e8]; rfl
  have c2 : X1.cell? ⟨b8, 2, none⟩ = some (.int .i64 z) := by rw [cell_of_row X1 _ 2 _ _ _ e8]; rfl
  have k0 : X1.cell? ⟨b6, 0, none⟩ = some (.int .u64 0) := by rw [cell_of_row X1 _ 0 _ _ _ h6]; rfl
  have k1 : X1.cell? ⟨b6, 1, none⟩ = some (.float .f64 0) := by rw [cell_of_row X1 _ 1 _ _ _ h6]; rfl
  have k2 : X1.cell? ⟨b6, 2, none⟩ = some (.float .f64 0) := by rw [cell_of_row X1 _ 2 _ _ _ h6]; rfl
  have k3 : X1.cell? ⟨b6, 3, none⟩ = some (.int .i64 0) := by rw [cell_of_row X1 _ 3 _ _ _ h6]; rfl
  have k4 : X1.cell? ⟨b6, 4, none⟩ = some (.int .i64 0) := by rw [cell_of_row X1 _ 4 _ _ _ h6]; rfl
  have q0 : X1.frozen? ⟨b6, 0, none⟩ = false := by simp [World.frozen?, h6]
  have q1 : X1.frozen? ⟨b6, 1, none⟩ = false := by simp [World.frozen?, h6]
  have q2 : X1.frozen? ⟨b6, 2, none⟩ = false := by simp [World.frozen?, h6]
  have q3 : X1.frozen? ⟨b6, 3, none⟩ = false := by simp [World.frozen?, h6]
  have q4 : X1.frozen? ⟨b6, 4, none⟩ = false := by simp [World.frozen?, h6]
  obtain ⟨ad, e1, hx⟩ := Kd.at_int (Kd.C_below HR0.out hw1) 0 (by omega) (by have := HN.out; omega)
  cases e1
  obtain ⟨x0, hx0⟩ : ∃ x0, rd l 0 = x0 := ⟨_, rfl⟩
  have hg : l.getD 0 0 = x0 := by rw [← hx0]; rfl
  simp only [Int.toNat_zero] at hx
  rw [hx0] at hx
  have hx2 : X1.cell? ad = some (.int .u64 x0) := by rw [← Addr.add_zero' ad]; exact hx
  rw [hX1, hb8]
  have HG := Lib.hid hg
  have HW1 := Lib.hid hw1
  have H6 := Lib.hid h6
  have hcv := Fl.conv_i
  clear hX1 hb8 hw0 hb1 h6 e8 hw1 hx0 hg hb6 HB
  go_upto_region 7 with (go_at_call 20; go_must (refine (Fl.near20 a b HAB.out.1 HAB.out.2.1 HAB.out.2.2.1 HAB.out.2.2.2 _).mono ?_; rintro e W2 ⟨⟨f1, kk, rfl⟩, ⟨nd, rfl⟩⟩))
  have hn0 := HN.out
  have hst : ∀ (f : Nat) (a : Addr) (W : World), (store a (.float .f64 f)).run Try.prog W = stored Try.prog W a (.float .f64 f) .plain := fun _ _ _ => run_store _ _ _ _ _ rfl
  go_region
  all_goals go_wp2_with (fail)
  generalize Fl.fOf (wrap64 ((fr : Int) + z)) = f2
  have h0 : (X1.drewN (nd + 1)).heap[b6]? = some (.cells #[.int .u64 0, .float .f64 0, .float .f64 0, .int .i64 0, .int .i64 0] 34 (0, 0)) := H6.out
  have h3 := setCell_blk (setCell_blk (setCell_blk (setCell_blk (setCell_blk h0 (.int .u64 x0) (j := 0)) (.float .f64 f1) (j := 1)) (.float .f64 f2) (j := 2)) (.int .i64 (fr : Int)) (j := 3)) (.int .i64 ((fr : Int) + (l.length : Int))) (j := 4)
  simp only [List.setIfInBounds_toArray, List.set_cons_succ, List.set_cons_zero] at h3
  have hbl := mod_below HW1.out (b6 := b6) (by have := HB6.out; omega) (nd + 1) (.int .u64 x0) (.float .f64 f1) (.float .f64 f2) (.int .i64 (fr : Int)) (.int .i64 ((fr : Int) + (l.length : Int)))
  have HG2 := HG.out
  have he2 : ((fr + l.length : Nat) : Int) = (fr : Int) + (l.length : Int) := by omega
  generalize (((((X1.drewN (nd + 1)).setCell ⟨b6, 0, none⟩ (.int .u64 x0)).setCell ⟨b6, 1, none⟩ (.float .f64 f1)).setCell ⟨b6, 2, none⟩ (.float .f64 f2)).setCell ⟨b6, 3, none⟩ (.int .i64 (fr : Int))).setCell ⟨b6, 4, none⟩ (.int .i64 ((fr : Int) + (l.length : Int))) = R at *
  have z0 : R.cell? ⟨b6, 0, none⟩ = some (.int .u64 x0) := by rw [cell_of_row R _ 0 _ _ _ h3]; rfl
  have z1 : R.cell? ⟨b6, 1, none⟩ = some (.float .f64 f1) := by rw [cell_of_row R _ 1 _ _ _ h3]; rfl
  have z2 : R.cell? ⟨b6, 2, none⟩ = some (.float .f64 f2) := by rw [cell_of_row R _ 2 _ _ _ h3]; rfl
  have z3 : R.cell? ⟨b6, 3, none⟩ = some (.int .i64 (fr : Int)) := by rw [cell_of_row R _ 3 _ _ _ h3]; rfl
  have z4 : R.cell? ⟨b6, 4, none⟩ = some (.int .i64 ((fr : Int) + (l.length : Int))) := by rw [cell_of_row R _ 4 _ _ _ h3]; rfl
  exact bodyPost_ret (v := .tuple #[.agg #[.int .u64 x0, .float .f64 f1, .float .f64 f2, .int .i64 (fr : Int), .int .i64 ((fr : Int) + (l.length : Int))], .int .i64 0]) (by simp [results, Try.results16, go_sem, z0, z1, z2, z3, z4]) rfl ⟨⟨f1, f2, by rw [HG2, he2]⟩, hbl⟩
end Go.Proofs.Ytjlegggkibbkjaa.M
end

section
/- cut.Ends. -/
namespace Go.Proofs.Ytjlegggkibbkjaa.M
open Go Go.Proofs.Ytjlegggkibbkjaa Go.RowKit Go.Shelf Go.Proofs.Ytjlegggkibbkjaa.Pure Go.Proofs.Ytjlegggkibbkjaa.G Go.Proofs.YtjlegggkibbkjaaW.PrintWords
set_option linter.unusedVariables false
set_option linter.unusedSimpArgs false
def irow (ends : List Nat) : List Value := ends.map fun (t : Nat) => Value.int .i64 (t : Int)
/-- Behind i keys: the stretch begins at a. -/
structure CutN (eps : Int) (l : List Int) (w wd : World) (a i : Nat) (ends : List Nat) (v8 : Value) (T : Blocks) (b : Nat) (s : FitS) (v0 v1 : Value) : Prop where
  below : Below w.heap.size w wd
  row : wd.ownsRow w.heap.size 3 1 v8 ends.length (irow ends)
  pre : Pre eps l ends
  at_ : bd ends ends.length = a
  fit : FitAt wd T b s v0 v1
  all : addAll (newF eps) ((l.drop a).take (i - a)) = some s
  inv : Inv s
  e : s.e = eps - 1
  count : s.count = i - a
  last : ∀ j, i = j + 1 → a ≤ j → s.last = l.getD j 0
  tb : ∀ k, T k → w.heap.size ≤ k
  sep : ∀ k, v8.ownBlock = some k → ¬ T k
  le : a ≤ i
theorem CutN.hlt {eps : Int} {l : List Int} {w wd : World} {a i : Nat} {ends : List Nat} {v8 : Value} {T : Blocks} {b : Nat} {s : FitS} {v0 v1 : Value} (h : CutN eps l w wd a i ends v8 T b s v0 v1) (hr : Rise l) (hi : i < l.length) : 0 < s.count → s.last < l.getD i 0 := fun hc => by
  have hci := h.count
  rw [h.last (i - 1) (by omega) (by omega)]
  exact hr _ _ (by omega) hi
theorem CutN.turn {eps : Int} {l : List Int} {w wd wd' : World} {a i : Nat} {ends : List Nat} {v8 : Value} {T T' : Blocks} {b : Nat} {s : FitS} {v0 v1 : Value} (h : CutN eps l w wd a i ends v8 T b s v0 v1) (hT : Turned T T' wd wd') :
    Below w.heap.size w wd' ∧ wd'.ownsRow w.heap.size 3 1 v8 ends.length (irow ends) ∧ (∀ k, T' k → w.heap.size ≤ k) ∧ ∀ k, v8.ownBlock = some k → ¬ T' k := by
  refine ⟨h.below.trans (hT.below h.below.size h.tb), ownsRow_keep h.row (fun k hk => hT.same k (h.row.lt k hk).2 (h.sep k hk)), fun k hk => ?_, fun k hk h1 => ?_⟩
  · rcases hT.new k hk with h1 | h1
    · exact h.tb k h1
    · have := h.below.size; omega
  · have := (h.row.lt k hk).2
    rcases hT.new k h1 with h2 | h2
    · exact h.sep k hk h2
    · omega
theorem CutN.step {eps : Int} {l : List Int} {w wd wd' : World} {a i : Nat} {ends : List Nat} {v8 : Value} {T : Blocks} {b : Nat} {s : FitS} {v0 v1 : Value} (h : CutN eps l w wd a i ends v8 T b s v0 v1) (hr : Rise l) (hw : Wf l) (hl : l.length ≤ 1099511627776) (hi : i < l.length) {T' : Blocks} {u0 u1 : Value} {s' : FitS} (hT : Turned T T' wd wd') (ha : addF s (l.getD i 0) = some s') (hF : FitAt wd' T' b s' u0 u1) :
    CutN eps l w wd' a (i + 1) ends v8 T' b s' u0 u1 := by
  obtain ⟨h1, h2, h3, h4⟩ := h.turn hT
  have hx := hw (l.getD i 0) (by rw [List.getD_eq_getElem?_getD, List.getElem?_eq_getElem hi]; exact List.getElem_mem hi)
  have hci := h.count
  have hle := h.le
  have hn := h.inv.add (h.hlt hr hi) hx.1 hx.2 (by omega) ha
  have e : (l.drop a).take (i + 1 - a) = (l.drop a).take (i - a) ++ [l.getD i 0] := by
    have hi2 : i - a < (l.drop a).length := by rw [List.length_drop]; omega
    rw [show i + 1 - a = i - a + 1 from by omega, List.take_succ_eq_append_getElem hi2]
    congr 1
    simp [List.getElem_drop, show a + (i - a) = i from by omega, hi]
  refine ⟨h1, h2, h.pre, h.at_, hF, ?_, hn.1, by rw [hn.2.2.2, h.e], by rw [hn.2.1, hci]; omega, fun j hj _ => ?_, h3, h4, by omega⟩
  · rw [e, addAll_snoc, h.all]
    exact ha
  · rw [hn.2.2.1]
    congr 1
    omega
theorem CutN.cut {eps : Int} {l : List Int} {w wd : World} {a i : Nat} {ends : List Nat} {v8 : Value} {T : Blocks} {b : Nat} {s : FitS} {v0 v1 : Value} (h : CutN eps l w wd a i ends v8 T b s v0 v1) (he : 2 ≤ eps) (hl : l.length ≤ 1099511627776) (hi : i < l.length) (ha : addF s (l.getD i 0) = none) :
    a < i ∧ Pre eps l (ends ++ [i]) ∧ bd (ends ++ [i]) (ends ++ [i]).length = i := by
  have hci := h.count
  have hle := h.le
  have hee := h.e
  have hm : ¬ (s.count : Int) ≤ 2 * s.e := fun hc => h.inv.few_fits hc (by omega) ha
  have hlt : a < i := by omega
  exact ⟨hlt, h.pre.snoc h.at_ hlt (Nat.le_of_lt hi) ⟨s, h.all⟩ (fun _ => by omega)⟩
theorem CutN.done {eps : Int} {l : List Int} {w wd : World} {a : Nat} {ends : List Nat} {v8 : Value} {T : Blocks} {b : Nat} {s : FitS} {v0 v1 : Value} (h : CutN eps l w wd a l.length ends v8 T b s v0 v1) (ha : a < l.length) :
    Pre eps l (ends ++ [l.length]) ∧ bd (ends ++ [l.length]) (ends ++ [l.length]).length = l.length :=
  h.pre.snoc h.at_ ha (Nat.le_refl _) ⟨s, h.all⟩ (fun hc => absurd hc (Nat.lt_irrefl _))
def AddRes (bb : Bool) (T : Blocks) (b : Nat) (s : FitS) (k : Int) (w w' : World) : Prop := ∃ T' v0 v1, Turned T T' w w' ∧ ((bb = false ∧ addF s k = none ∧ FitAt w' T' b s v0 v1) ∨ ∃ s', bb = true ∧ addF s k = some s' ∧ FitAt w' T' b s' v0 v1)
theorem addRes {T : Blocks} {b : Nat} {s : FitS} {k : Int} {w w' : World} {e : Ending} (h : AddPost T b s k w e w') : ∃ bb : Bool, e = .returned (.tuple #[.bool bb, .int .i64 0]) ∧ AddRes bb T b s k w w' := by
  obtain ⟨T', v0, v1, hT, ⟨h1, h2, h3⟩ | ⟨s', h1, h2, h3⟩⟩ := h
  · exact ⟨false, h2, T', v0, v1, hT, .inl ⟨rfl, h1, h3⟩⟩
  · exact ⟨true, h2, T', v0, v1, hT, .inr ⟨s', rfl, h1, h3⟩⟩
/-- Ahead of a stretch. -/
structure OutN (eps : Int) (l : List Int) (w wd : World) (a : Nat) (ends : List Nat) (v8 : Value) (b : Nat) : Prop where
  below : Below w.heap.size w wd
  row : wd.ownsRow w.heap.size 3 1 v8 ends.length (irow ends)
  pre : Pre eps l ends
  at_ : bd ends ends.length = a
  fresh : a < l.length → ∃ T v0 v1, CutN eps l w wd a a ends v8 T b (newF eps) v0 v1
theorem OutN.app {eps : Int} {l : List Int} {w W3 X2 : World} {ends : List Nat} {v8 v' : Value} {o : Obj} {t b' : Nat} {n0 n1 : Value} (he : 2 ≤ eps ∧ eps ≤ 64) (hb : Below w.heap.size w W3) (hp : Pre eps l (ends ++ [t]) ∧ bd (ends ++ [t]) (ends ++ [t]).length = t) (hr : W3.ownsRow w.heap.size 3 1 v8 ends.length (irow ends)) (ho : X2.ownsRow w.heap.size 3 1 v' (ends.length + 1) (irow ends ++ [.int .i64 (t : Int)])) (hg : (W3.alloc o).grownBy X2 v8.ownBlock) (ha : v'.ownBlock = v8.ownBlock ∨ v'.ownBlock = some (W3.alloc o).heap.size)
    (hF : t < l.length → FitAt W3 (fun k => k = b') b' (newF eps) n0 n1 ∧ w.heap.size ≤ b' ∧ v8.ownBlock ≠ some b') : OutN eps l w X2 t (ends ++ [t]) v' b' := by
  have hs := hb.size
  have hs2 := hg.size
  rw [World.size_alloc] at hs2
  have hbl : Below w.heap.size w X2 := ⟨hg.os.trans hb.os, hg.tape.trans hb.tape, hg.output.trans hb.output, by omega, fun k hk => by
    refine (hg.block k (by rw [World.size_alloc]; omega) (fun e => ?_)).trans ((Below.heap_alloc W3 o k (by omega)).trans (hb.block k hk))
    have := (hr.lt k e.symm).1
    omega⟩
  have hrow : X2.ownsRow w.heap.size 3 1 v' (ends ++ [t]).length (irow (ends ++ [t])) := by
    rw [List.length_append, List.length_singleton]
    have e : irow (ends ++ [t]) = irow ends ++ [.int .i64 (t : Int)] := by simp [irow]
    rw [e]
    exact ho
  refine ⟨hbl, hrow, hp.1, hp.2, fun ht => ?_⟩
  obtain ⟨hF1, hF2, hF3⟩ := hF ht
  have hbl' := hF1.lt b' rfl
  refine ⟨fun k => k = b', n0, n1, hbl, hrow, hp.1, hp.2, hF1.keep (fun k hk => ?_) (fun _ h => h) (fun k hk => ?_), by simp [addAll], inv_new he, rfl, by simp [newF], fun j h1 h2 => by omega, fun k hk => ?_, fun k hk h2 => ?_, Nat.le_refl _⟩
  · have h2 : k = b' := hk
    subst h2
    exact (hg.block k (by rw [World.size_alloc]; omega) (fun e => hF3 e.symm)).trans (Below.heap_alloc W3 o k hbl')
  · have h2 : k = b' := hk
    omega
  · have h2 : k = b' := hk
    omega
  · have h3 : k = b' := h2
    subst h3
    rcases ha with ha | ha
    · exact hF3 (by rw [← ha]; exact hk)
    · rw [ha, World.size_alloc] at hk
      injection hk with hk
      omega
theorem info3 : (Try.prog.info? 3).map (fun i => (i.zero, i.size, i.bytes)) = some (some (.int .i64 0), 1, 8) := by kernel_rfl
set_option maxHeartbeats 4000000 in
set_option maxRecDepth 100000 in
theorem cuts15 (hA : AddLaw) (A : Option Addr) (c : Nat) (l : List Int) (eps : Int) (he : 2 ≤ eps ∧ eps ≤ 64) (hl : l.length ≤ 1099511627776) (hc : l.length ≤ c) (hr : Rise l) (hrt : risesTo l l.length = true) (hw : Wf l) (w : World) (hr0 : Kd.C (Kd.int .u64) w A l.length l) :
    Calls Try.prog 15 #[.slice A l.length c, .int .i64 eps] w fun e w' => (∃ ends v, e = .returned (.tuple #[v, .int .i64 0]) ∧ Pure.Ends eps l ends ∧ w'.ownsRow w.heap.size 3 1 v ends.length (irow ends)) ∧ Below w.heap.size w w' := by
  obtain ⟨i3, hi3, hz30, hz31, hz32⟩ := info_parts info3
  have HA := Lib.hid hA
  have HE := Lib.hid he
  have HL := Lib.hid hl
  have HC := Lib.hid hc
  have HR := Lib.hid hr
  have HRT := Lib.hid hrt
  have HW := Lib.hid hw
  have HR0 := Lib.hid hr0
  clear hA he hl hc hr hrt hw hr0
  go_enter Try.func15, Try.ntmps15
  go_wp2
  go_step3
  go_upto_region 2 with (go_at_call 17; go_must (refine (new17 eps HE.out _).mono ?_; rintro e X ⟨rfl, hF, hb, hsz⟩; have HF := Lib.hid hF; have HB := Lib.hid hb; have HSZ := Lib.hid hsz; clear hF hb hsz))
  go_upto_region 6 with (go_at_call 10; go_must (refine (keys_Rising.calls A c l true _ (Kd.C_below HR0.out HB.out) HC.out (by unfold keys_Rising.f; rw [HRT.out])).mono ?_; rintro e Y ⟨rfl, ⟨nd, rfl⟩⟩))
  go_wp2_with (fail)
  go_step3
  go_wp2_with (fail)
  have hO : OutN eps l w (X.drewN nd) 0 [] (.slice none 0 0) w.heap.size := by
    have hb : Below w.heap.size w (X.drewN nd) := HB.out.trans ((below_drewN X nd).mono HB.out.size)
    have hrow : (X.drewN nd).ownsRow w.heap.size 3 1 (.slice none 0 0) 0 (irow []) := World.ownsRow_nil _ _ _ _
    exact ⟨hb, hrow, Pre.nil _ _, rfl, fun _ => ⟨fun k => k = w.heap.size, .slice none 0 0, .slice none 0 0, hb, hrow, Pre.nil _ _, rfl, HF.out.below (below_drewN X nd), by simp [addAll], inv_new HE.out, rfl, rfl, fun j h1 h2 => by omega, fun k hk => by (have h2 : k = w.heap.size := hk); omega, fun k hk => by simp [Value.ownBlock] at hk, Nat.le_refl _⟩⟩
  have HO := Lib.hid hO
  clear hO HF HSZ HB
  go_loopg [6, 8, 9] l.length (fun kq v6 v8 v9 wd => ∃ (a b : Nat) (ends : List Nat) (A8 : Option Addr) (c8 : Nat), v6 = .pointer (some ⟨b, 0, none⟩) ∧ v8 = .slice A8 ends.length c8 ∧ v9 = .int .i64 (a : Int) ∧ Hid (a ≤ l.length ∧ l.length - a ≤ kq) ∧ Hid (OutN eps l w wd a ends (.slice A8 ends.length c8) b))
  case atStart => exact ⟨0, w.heap.size, [], none, 0, rfl, rfl, rfl, Lib.hid ⟨Nat.zero_le _, Nat.le_refl _⟩, HO⟩
  case round =>
    obtain ⟨a, b, ends, A8, c8, rfl, rfl, rfl, HQ, HON⟩ := hrel
    by_cases ha : a < l.length
    · have hd : decide ((a : Int) < (l.length : Int)) = true := decide_eq_true (by omega)
      have hd2 : decide (a < l.length) = true := decide_eq_true ha
      have HLA := Lib.hid ha
      clear ha
      go_wp2_with (fail)
      go_loopg [6, 8, 9, 10] l.length (fun kq2 v6 v8 v9 v10 wd => v6 = .pointer (some ⟨b, 0, none⟩) ∧ v8 = .slice A8 ends.length c8 ∧ v9 = .int .i64 (a : Int) ∧ ∃ i : Nat, v10 = .int .i64 (i : Int) ∧ Hid (i ≤ l.length ∧ l.length - i ≤ kq2) ∧ ∃ T s v0 v1, Hid (CutN eps l w wd a i ends (.slice A8 ends.length c8) T b s v0 v1))
      case atStart =>
        obtain ⟨T, v0, v1, h⟩ := HON.out.fresh HLA.out
        exact ⟨rfl, rfl, rfl, a, rfl, Lib.hid ⟨HQ.out.1, Nat.sub_le _ _⟩, T, newF eps, v0, v1, Lib.hid h⟩
      case round =>
        obtain ⟨rfl, rfl, rfl, i, rfl, HI, T, s, v0, v1, HCN⟩ := hrel
        by_cases hi : i < l.length
        · have hd : decide ((i : Int) < (l.length : Int)) = true := decide_eq_true (by omega)
          have hd2 : decide (i < l.length) = true := decide_eq_true hi
          have hrw := Kd.C_below HR0.out HCN.out.below
          obtain ⟨ad, e1, hx⟩ := Kd.at_int hrw (i : Int) (by omega) (by omega)
          cases e1
          have hrd : rd l (i : Int) = l.getD i 0 := by simp [rd]
          rw [hrd] at hx
          simp only [Int.toNat_natCast] at hx
          obtain ⟨ki, hki⟩ : ∃ ki, l.getD i 0 = ki := ⟨_, rfl⟩
          have hx2 := HW.out (l.getD i 0) (by rw [List.getD_eq_getElem?_getD, List.getElem?_eq_getElem hi]; exact List.getElem_mem hi)
          have HADD : Hid (Calls Try.prog 18 #[.pointer (some ⟨b, 0, none⟩), .int .u64 ki] wr fun e W2 => ∃ bb : Bool, e = .returned (.tuple #[.bool bb, .int .i64 0]) ∧ AddRes bb T b s ki wr W2) := Lib.hid (by
            rw [← hki]
            refine Calls.mono (R := AddPost T b s (l.getD i 0) wr) ?_ (fun e w' h => addRes h)
            exact HA.out T b s v0 v1 _ (HCN.out.hlt HR.out hi) hx2.1 hx2.2 HCN.out.inv (by have := HCN.out.count; have := HL.out; omega) wr HCN.out.fit)
          have hwr : IntKind.i64.wrap ((i : Int) + 1) = ((i + 1 : Nat) : Int) := by rw [IntWalk.i64_in _ (by have := HL.out; omega)]; omega
          rw [hki] at hx
          have HLT := Lib.hid hi
          have HKI := Lib.hid hki
          clear hrw hrd hki hx2 hi
          go_upto_if 47 with (go_at_call 18; go_must (refine (HADD.out).mono ?_; rintro e W2 ⟨bb, rfl, hh⟩; have HH := Lib.hid hh; clear hh))
          obtain ⟨T', u0, u1, hT, hres⟩ := HH.out
          have HT := Lib.hid hT
          have HRES := Lib.hid hres
          clear hT hres
          cases bb with
          | true =>
            go_wp2_with (fail)
            go_roundg (l.length - (i + 1))
            case measure => have := HI.out; have := HLT.out; omega
            case rel =>
              rcases HRES.out with ⟨h1, _⟩ | ⟨s', _, hs', hF⟩
              · cases h1
              · exact ⟨rfl, rfl, rfl, i + 1, by first | rfl | rw [hwr], Lib.hid ⟨HLT.out, Nat.le_refl _⟩, T', s', u0, u1, Lib.hid (HCN.out.step HR.out HW.out HL.out HLT.out HT.out (by rw [HKI.out]; exact hs') hF)⟩
          | false =>
            go_upto_region 15 with (go_at_call 17; go_must (refine (new17 eps HE.out _).mono ?_; rintro e W3 ⟨rfl, hF3, hb3, hs3⟩; have HF3 := Lib.hid hF3; have HB3 := Lib.hid hb3; have HS3 := Lib.hid hs3; clear hF3 hb3 hs3))
            have hT4 := HCN.out.turn HT.out
            have hB3 : Below w.heap.size w W3 := hT4.1.trans (HB3.out.mono hT4.1.size)
            have hR3 := ownsRow_keep hT4.2.1 (fun k hk => HB3.out.block k (hT4.2.1.lt k hk).2)
            have hns : (Value.slice A8 ends.length c8).ownBlock ≠ some W2.heap.size := fun e => by have := (hT4.2.1.lt _ e).2; omega
            have hcut := HCN.out.cut HE.out.1 HL.out HLT.out (by
              rcases HRES.out with ⟨_, h1, _⟩ | ⟨s', h1, _⟩
              · rw [HKI.out]; exact h1
              · cases h1)
            have hlen : ends.length ≤ a := by
              have := bd_mono HCN.out.pre ends.length (Nat.le_refl _) 0 (Nat.zero_le _)
              rw [HCN.out.at_, bd_zero] at this
              omega
            have HW2 := Lib.hid hT4.1
            have HB3' := Lib.hid hB3
            have HR3 := Lib.hid hR3
            have HNS := Lib.hid hns
            have HCUT := Lib.hid hcut
            have HLEN := Lib.hid hlen
            clear hT4 hB3 hR3 hns hcut hlen
            go_wp2_with (at_builtin; go_must (refine wpList_append_own_at _ rfl (.tmp 53) (.tmp 55) 41 rfl w.heap.size 3 i3 _ 1 8 Try.underlying41 hi3 hz30 hz31 hz32 rfl (by decide) (.slice A8 ends.length c8) ends.length (irow ends) (by rfl) (HR3.out.alloc _) ⟨W3.heap.size, 0, none⟩ 1 1 [.int .i64 (i : Int)] (by rfl) (by rfl) (World.news_of_block (cs := #[.int .i64 (i : Int)]) (t := 3) (fr := (0, 0)) (alloc_new W3 _)) (by intro u hu; simp only [List.mem_cons, List.not_mem_nil, or_false] at hu; subst hu; rfl) (by have := HL.out; have := HLEN.out; have := HLA.out; unfold maxLen; omega) (by have := HL.out; have := HLEN.out; have := HLA.out; omega) (by have := HB3'.out.size; rw [World.size_alloc]; omega) ?_; intro v' X2 ho5 hg5 hn5 hat5; have O5 := Lib.hid ho5; have G5 := Lib.hid hg5; have A5 := Lib.hid hat5; clear ho5 hg5 hn5 hat5))
            have hO5 := O5.out
            obtain ⟨A', c', hv', _⟩ := own_form hO5
            subst hv'
            clear hO5
            go_roundg (l.length - i)
            case measure => have := HQ.out; have := HLT.out; have := HCUT.out.1; omega
            case rel =>
              refine ⟨i, W2.heap.size, ends ++ [i], A', c', rfl, by rw [List.length_append, List.length_singleton], rfl, Lib.hid ⟨Nat.le_of_lt HLT.out, Nat.le_refl _⟩, Lib.hid ?_⟩
              have h := OutN.app (n0 := .slice none 0 0) (n1 := .slice none 0 0) HE.out HB3'.out HCUT.out.2 HR3.out O5.out G5.out A5.out (fun _ => ⟨HF3.out, HW2.out.size, HNS.out⟩)
              rw [List.length_append, List.length_singleton]
              exact h
        · have hd : decide ((i : Int) < (l.length : Int)) = false := decide_eq_false (by omega)
          have hd2 : decide (i < l.length) = false := decide_eq_false hi
          have hil : i = l.length := by have := HI.out; omega
          subst hil
          have hdone := HCN.out.done HLA.out
          have hlen : ends.length ≤ a := by
            have := bd_mono HCN.out.pre ends.length (Nat.le_refl _) 0 (Nat.zero_le _)
            rw [HCN.out.at_, bd_zero] at this
            omega
          have HDONE := Lib.hid hdone
          have HLEN := Lib.hid hlen
          clear hdone hlen hi
          go_wp2_with (at_builtin; go_must (refine wpList_append_own_at _ rfl (.tmp 58) (.tmp 61) 41 rfl w.heap.size 3 i3 _ 1 8 Try.underlying41 hi3 hz30 hz31 hz32 rfl (by decide) (.slice A8 ends.length c8) ends.length (irow ends) (by rfl) (HCN.out.row.alloc _) ⟨wr.heap.size, 0, none⟩ 1 1 [.int .i64 (l.length : Int)] (by rfl) (by rfl) (World.news_of_block (cs := #[.int .i64 (l.length : Int)]) (t := 3) (fr := (0, 0)) (alloc_new wr _)) (by intro u hu; simp only [List.mem_cons, List.not_mem_nil, or_false] at hu; subst hu; rfl) (by have := HL.out; have := HLEN.out; have := HLA.out; unfold maxLen; omega) (by have := HL.out; have := HLEN.out; have := HLA.out; omega) (by have := HCN.out.below.size; rw [World.size_alloc]; omega) ?_; intro v' X2 ho5 hg5 hn5 hat5; have O5 := Lib.hid ho5; have G5 := Lib.hid hg5; have A5 := Lib.hid hat5; clear ho5 hg5 hn5 hat5))
          have hO5 := O5.out
          obtain ⟨A', c', hv', _⟩ := own_form hO5
          subst hv'
          clear hO5
          go_roundg 0
          case measure => have := HQ.out; have := HLA.out; omega
          case rel =>
            refine ⟨l.length, b, ends ++ [l.length], A', c', rfl, by rw [List.length_append, List.length_singleton], rfl, Lib.hid ⟨Nat.le_refl _, by omega⟩, Lib.hid ?_⟩
            have h := OutN.app (b' := b) (n0 := .slice none 0 0) (n1 := .slice none 0 0) HE.out HCN.out.below HDONE.out HCN.out.row O5.out G5.out A5.out (fun hc => absurd hc (Nat.lt_irrefl _))
            rw [List.length_append, List.length_singleton]
            exact h
    · have hd : decide ((a : Int) < (l.length : Int)) = false := decide_eq_false (by omega)
      have hd2 : decide (a < l.length) = false := decide_eq_false ha
      have hal : a = l.length := by have := HQ.out; omega
      subst hal
      go_wp2_with (fail)
      try rw [Exit.noGoto_ret]
      refine bodyPost_ret (results_tmp2 rfl _ _ _) rfl ?_
      exact ⟨⟨ends, _, rfl, ⟨HON.out.pre, HON.out.at_⟩, HON.out.row⟩, HON.out.below⟩
end Go.Proofs.Ytjlegggkibbkjaa.M
end

section
/- Rows of segments. -/
namespace Go.Proofs.Ytjlegggkibbkjaa.M
open Go Go.RowKit Go.Proofs.Ytjlegggkibbkjaa.Pure
set_option linter.unusedVariables false
/-- A segment, and its floats' bits. -/
abbrev Seg := Sg × Nat × Nat
def scells (x : Seg) : List Value := [.int .u64 x.1.first, .float .f64 x.2.1, .float .f64 x.2.2, .int .i64 (x.1.fr : Int), .int .i64 (x.1.to_ : Int)]
def srow (c : List Seg) : List Value := c.flatMap scells
theorem srow_snoc (c : List Seg) (x : Seg) : srow (c ++ [x]) = srow c ++ scells x := by simp [srow]
theorem srow_length (c : List Seg) : (srow c).length = c.length * 5 := by
  induction c with
  | nil => rfl
  | cons x l ih =>
    have e : srow (x :: l) = scells x ++ srow l := rfl
    rw [e, List.length_append, ih]
    simp [scells]
    omega
theorem srow_get (c : List Seg) : ∀ (j r : Nat) (x : Seg), c[j]? = some x → r < 5 → (srow c)[j * 5 + r]? = (scells x)[r]? := by
  induction c with
  | nil => intro j r x h; simp at h
  | cons y l ih =>
    intro j r x h hr
    have e : srow (y :: l) = scells y ++ srow l := rfl
    have hl : (scells y).length = 5 := rfl
    rw [e]
    cases j with
    | zero =>
      simp only [List.getElem?_cons_zero, Option.some.injEq] at h
      subst h
      rw [List.getElem?_append_left (by omega), Nat.zero_mul, Nat.zero_add]
    | succ j =>
      rw [List.getElem?_append_right (by omega), hl, show (j + 1) * 5 + r - 5 = j * 5 + r from by omega]
      exact ih j r x (by simpa using h) hr
/-- The cells of segments from g on. -/
def SAt (W : World) (g : Nat) (c : List Seg) : Prop := ∀ j x, c[j]? = some x → ∀ r v, (scells x)[r]? = some v → W.cell? ⟨g, j * 5 + r, none⟩ = some v
theorem sat_of_own {w : World} {base g cap n : Nat} {c : List Seg} (h : w.ownsRow base 34 5 (.slice (some ⟨g, 0, none⟩) n cap) n (srow c)) : SAt w g c := by
  have hc := h.cells (g := g) (by simp [Value.ownBlock])
  have hadd : ∀ j, (⟨g, 0, none⟩ : Addr).add j = ⟨g, j, none⟩ := fun j => by unfold Addr.add; split <;> simp_all
  intro j x hj r v hv
  have hr : r < 5 := (List.getElem?_eq_some_iff.1 hv).1
  have := hc (j * 5 + r) _ ((srow_get c j r x hj hr).trans hv)
  rwa [hadd] at this
theorem SAt.keep {W W' : World} {g : Nat} {c : List Seg} (h : SAt W g c) (hk : W'.heap[g]? = W.heap[g]?) : SAt W' g c := by
  have hc : ∀ i, W'.cell? ⟨g, i, none⟩ = W.cell? ⟨g, i, none⟩ := fun i => by unfold World.cell?; simp only [hk]
  intro j x hj r v hv
  rw [hc]
  exact h j x hj r v hv
end Go.Proofs.Ytjlegggkibbkjaa.M
end

section
/- Rising lists, cut; rows of segments laid one by one. -/
namespace Go.Proofs.Ytjlegggkibbkjaa.M
open Go Go.RowKit Go.Proofs.Ytjlegggkibbkjaa.Pure Go.Proofs.Ytjlegggkibbkjaa.G
set_option linter.unusedVariables false
theorem rises_of {l : List Int} (h : Rise l) : ∀ k, k ≤ l.length → risesTo l k = true := by
  intro k
  induction k with
  | zero => intro _; exact risesTo_zero l
  | succ k ih =>
    intro hk
    rw [risesTo_succ, ih (by omega), Bool.true_and]
    by_cases h0 : k = 0
    · subst h0; rfl
    · rw [decide_eq_true (h (k - 1) k (by omega) (by omega)), Bool.or_true]
theorem rise_step {l : List Int} (h : risesTo l l.length = true) {k : Nat} (hk : k + 1 < l.length) : l.getD k 0 < l.getD (k + 1) 0 := by
  have h1 := risesTo_le l (show k + 2 ≤ l.length from hk) h
  rw [risesTo_succ, Bool.and_eq_true, Bool.or_eq_true] at h1
  rcases h1.2 with h2 | h2
  · simp at h2
  · exact of_decide_eq_true h2
theorem rise_of {l : List Int} (h : risesTo l l.length = true) : Rise l := by
  have h2 : ∀ d i, i + d + 1 < l.length → l.getD i 0 < l.getD (i + d + 1) 0 := by
    intro d
    induction d with
    | zero => intro i hi; exact rise_step h hi
    | succ d ih =>
      intro i hi
      exact Int.lt_trans (ih i (by omega)) (rise_step h (k := i + d + 1) (by omega))
  intro i j hij hj
  have := h2 (j - i - 1) i (by omega)
  rwa [show i + (j - i - 1) + 1 = j from by omega] at this
theorem sub_get {l : List Int} {a t i : Nat} (hi : i < t - a) : ((l.drop a).take (t - a)).getD i 0 = l.getD (a + i) 0 := by
  rw [List.getD_eq_getElem?_getD, List.getD_eq_getElem?_getD, List.getElem?_take, if_pos hi, List.getElem?_drop]
theorem sub_len {l : List Int} {a t : Nat} (ht : t ≤ l.length) : ((l.drop a).take (t - a)).length = t - a := by
  rw [List.length_take, List.length_drop]; omega
theorem rise_sub {l : List Int} (h : Rise l) {a t : Nat} (ht : t ≤ l.length) : Rise ((l.drop a).take (t - a)) := by
  intro i j hij hj
  rw [sub_len ht] at hj
  rw [sub_get (by omega), sub_get hj]
  exact h _ _ (by omega) (by omega)
theorem wf_sub {l : List Int} (h : Wf l) (a t : Nat) : Wf ((l.drop a).take (t - a)) := fun x hx => h x (List.mem_of_mem_drop (List.mem_of_mem_take hx))
theorem drop_take_sub (l : List Int) (a t : Nat) : (l.take t).drop a = (l.drop a).take (t - a) := by rw [List.drop_take]
def zseg : Seg := (⟨0, 0, 0⟩, 0, 0)
/-- The segments laid so far, zeros behind. -/
def laidS (xs : List Seg) (m : Nat) : List Value := srow xs ++ srow (List.replicate m zseg)
theorem laidS_zero (xs : List Seg) : laidS xs 0 = srow xs := by simp [laidS, srow]
theorem laidS_len (xs : List Seg) (m : Nat) : (laidS xs m).length = (xs.length + m) * 5 := by
  unfold laidS
  rw [List.length_append, srow_length, srow_length, List.length_replicate]; omega
theorem laidS_set (xs : List Seg) (m : Nat) (x : Seg) {v0 v1 v2 v3 v4 : Value} (h : scells x = [v0, v1, v2, v3, v4]) :
    ((((((laidS xs (m + 1)).set (xs.length * 5 + 0) v0).set (xs.length * 5 + 1) v1).set (xs.length * 5 + 2) v2).set (xs.length * 5 + 3) v3).set (xs.length * 5 + 4) v4) = laidS (xs ++ [x]) m := by
  have hs := srow_length xs
  have e : srow (List.replicate (m + 1) zseg) = scells zseg ++ srow (List.replicate m zseg) := by rw [List.replicate_succ]; rfl
  have e2 : scells zseg = [.int .u64 0, .float .f64 0, .float .f64 0, .int .i64 0, .int .i64 0] := rfl
  have hl : ∀ r, (srow xs).length ≤ xs.length * 5 + r := fun r => by omega
  have hr : ∀ r, xs.length * 5 + r - (srow xs).length = r := fun r => by omega
  unfold laidS
  rw [srow_snoc, h, e, e2, List.set_append_right _ _ (hl 0), List.set_append_right _ _ (hl 1), List.set_append_right _ _ (hl 2), List.set_append_right _ _ (hl 3), List.set_append_right _ _ (hl 4), hr, hr, hr, hr, hr, List.append_assoc]
  rfl
theorem made5 (n : Nat) : (madeCells #[.int .u64 0, .float .f64 0, .float .f64 0, .int .i64 0, .int .i64 0] (n * 5)) = (laidS [] n).toArray := by
  apply Array.ext'
  refine List.ext_getElem? fun j => ?_
  show _ = (laidS [] n)[j]?
  have hl := laidS_len [] n
  rw [List.length_nil, Nat.zero_add] at hl
  rcases Nat.lt_or_ge j (n * 5) with hj | hj
  · have e : laidS [] n = srow (List.replicate n zseg) := by simp [laidS, srow]
    rw [e]
    have hq : (List.replicate n zseg)[j / 5]? = some zseg := by rw [List.getElem?_replicate, if_pos (by omega)]
    have h5 := srow_get _ (j / 5) (j % 5) zseg hq (Nat.mod_lt _ (by omega))
    rw [show j / 5 * 5 + j % 5 = j from by omega] at h5
    rw [h5]
    have hm : j < (madeCells #[Value.int .u64 0, .float .f64 0, .float .f64 0, .int .i64 0, .int .i64 0] (n * 5)).size := by simpa [madeCells] using hj
    rw [Array.getElem?_toList, Array.getElem?_eq_getElem hm]
    have e3 : (madeCells #[Value.int .u64 0, .float .f64 0, .float .f64 0, .int .i64 0, .int .i64 0] (n * 5))[j] = (scells zseg).getD (j % 5) (.int .u64 0) := by
      simp only [madeCells, Array.getElem_map, Array.getElem_range]
      have h6 : ∀ r, r < 5 → (#[Value.int .u64 0, .float .f64 0, .float .f64 0, .int .i64 0, .int .i64 0] : Array Value)[r]! = (scells zseg).getD r (.int .u64 0) := by
        intro r hr
        match r, hr with
        | 0, _ => rfl
        | 1, _ => rfl
        | 2, _ => rfl
        | 3, _ => rfl
        | 4, _ => rfl
      exact h6 (j % 5) (Nat.mod_lt _ (by omega))
    rw [e3, List.getD_eq_getElem?_getD]
    have : ∀ r, r < 5 → (scells zseg)[r]? = some ((scells zseg)[r]?.getD (.int .u64 0)) := by
      intro r hr
      match r, hr with
      | 0, _ => rfl
      | 1, _ => rfl
      | 2, _ => rfl
      | 3, _ => rfl
      | 4, _ => rfl
    exact (this _ (Nat.mod_lt _ (by omega))).symm
  · rw [List.getElem?_eq_none (by simpa [madeCells] using hj), List.getElem?_eq_none (by omega)]
theorem sat_of_blk {w : World} {g : Nat} {xs : List Seg} {t : TypeId} (h : w.heap[g]? = some (.cells (srow xs).toArray t (0, 0))) : SAt w g xs := by
  intro j x hj r v hv
  have hr : r < 5 := (List.getElem?_eq_some_iff.1 hv).1
  rw [cell_of_row w g _ _ _ _ h]
  simpa using (srow_get xs j r x hj hr).trans hv
end Go.Proofs.Ytjlegggkibbkjaa.M
end
