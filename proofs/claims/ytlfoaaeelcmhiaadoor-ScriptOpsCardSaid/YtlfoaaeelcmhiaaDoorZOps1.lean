/- The last of the claim's own texts, in one file: Gx25, Gx26, PlainR, WalkOps, RowScriptOps. Conditions: each theorem's own. -/
import Derived.Test.YtlfoaaeelcmhiaaDoorZBase1
import Derived.Test.YtlfoaaeelcmhiaaDoorZBase2
import Derived.Test.YtlfoaaeelcmhiaaDoorZBase3
import Derived.Test.YtlfoaaeelcmhiaaDoorZBase4
import Derived.Test.YtlfoaaeelcmhiaaDoorRows
import Derived.Test.YtlfoaaeelcmhiaaDoorCards
import Derived.Test.YtlfoaaeelcmhiaaDoorTie
import Derived.WalkKit
import Derived.ProofKit
import Derived.OpenShut
import Derived.ShutString
import Derived.ChangeOld
import Derived.Below
import Derived.SizedLaws
import Derived.JoinedCond
import Derived.Deep.CondSized
section
-- Written by a program of this session (wip/gprint.py: the kit's print, with contracts proved by hand)
namespace Go.Proofs.YtlfoaaeelcmhiaaDoor.G
open Go.RowKit Go.Proofs.YtlfoaaeelcmhiaaDoorW.PrintWords Go.Proofs.YtlfoaaeelcmhiaaDoorW.PrintLast Go.Proofs.YtlfoaaeelcmhiaaDoorW.PrintMore
attribute [local go_sem] max2_int min2_int max_two min_two max_three min_three max_four min_four   -- for this text's walks alone
set_option linter.unusedVariables false
set_option linter.unusedSimpArgs false

/-! ### inclineref21_Op: function 19 -/
mutual
def inclineref21_Op.l0 : Nat → List ByteArray → List Int → Int → ByteArray → List Int → Option (Int × Int × Int × Bool)
  | 0, _, _, _, _, _ => none
  | k + 1, x4, x5, x6, x362000, x362001 => if x6 < (x4.length : Int) then (if 0 ≤ x6 then (if (rdOf ByteArray.empty x4 x6).toList = x362000.toList then ((inclineref21_Takes.f k x362000).bind fun t370 => (inclineref21_Op.j1 k x4 x5 x6 (t370 == (x362001.length : Int)) x362000 x362001)) else (inclineref21_Op.j1 k x4 x5 x6 false x362000 x362001)) else (none)) else (some (0, 0, 0, false))
def inclineref21_Op.j1 : Nat → List ByteArray → List Int → Int → Bool → ByteArray → List Int → Option (Int × Int × Int × Bool)
  | 0, _, _, _, _, _, _ => none
  | k + 1, x4, x5, x6, x31, x362000, x362001 => if x31 = true then (if 0 ≤ x6 then (if x6 < (x5.length : Int) then (if 0 < (x362001.length : Int) then (if (x362001.length : Int) > 1 then (if 1 < (x362001.length : Int) then (some (rd x5 x6, rd x362001 0, rd x362001 1, true)) else (none)) else (some (rd x5 x6, rd x362001 0, 0, true))) else (none)) else (none)) else (none)) else (inclineref21_Op.l0 k x4 x5 (wrap64 (x6 + 1)) x362000 x362001)
end
def inclineref21_Op.f (k : Nat) (a0_0 : ByteArray) (l0_1 : List Int) : Option (Int × Int × Int × Bool) := inclineref21_Op.l0 k (([(⟨#[112, 117, 116]⟩ : ByteArray), (⟨#[100, 101, 108]⟩ : ByteArray), (⟨#[103, 101, 116]⟩ : ByteArray), (⟨#[102, 108, 111, 111, 114]⟩ : ByteArray), (⟨#[99, 101, 105, 108]⟩ : ByteArray), (⟨#[114, 97, 110, 107]⟩ : ByteArray), (⟨#[114, 97, 110, 103, 101]⟩ : ByteArray)] : List ByteArray)) (([1, 2, 3, 4, 5, 6, 7] : List Int)) 0 a0_0 l0_1
theorem inclineref21_Op.mono_l : ∀ k, (∀ y0 y1 y2 y3 y4, LeO (inclineref21_Op.l0 k y0 y1 y2 y3 y4) (inclineref21_Op.l0 (k + 1) y0 y1 y2 y3 y4)) ∧ (∀ y0 y1 y2 y3 y4 y5, LeO (inclineref21_Op.j1 k y0 y1 y2 y3 y4 y5) (inclineref21_Op.j1 (k + 1) y0 y1 y2 y3 y4 y5))
  | 0 => ⟨fun _ _ _ _ _ r h => by simp [inclineref21_Op.l0] at h, fun _ _ _ _ _ _ r h => by simp [inclineref21_Op.j1] at h⟩
  | k + 1 => by
    obtain ⟨ih0, ih1⟩ := inclineref21_Op.mono_l k
    refine ⟨?_, ?_⟩
    · intro y0 y1 y2 y3 y4
      unfold inclineref21_Op.l0
      repeat' first
      | (with_reducible exact ih0 _ _ _ _ _)
      | (with_reducible exact ih1 _ _ _ _ _ _)
      | (with_reducible exact inclineref21_Takes.mono _ _)
      | (with_reducible exact LeO.refl _)
      | (with_reducible exact LeO.none _)
      | (with_reducible refine LeO.ite ?_ ?_)
      | (with_reducible refine LeO.bind ?_ (fun _ => ?_))
      | exact ih0 _ _ _ _ _
      | exact ih1 _ _ _ _ _ _
      | exact inclineref21_Takes.mono _ _
      | exact LeO.none _
      | refine LeO.ite ?_ ?_
      | refine LeO.bind ?_ (fun _ => ?_)
    · intro y0 y1 y2 y3 y4 y5
      unfold inclineref21_Op.j1
      repeat' first
      | (with_reducible exact ih0 _ _ _ _ _)
      | (with_reducible exact ih1 _ _ _ _ _ _)
      | (with_reducible exact inclineref21_Takes.mono _ _)
      | (with_reducible exact LeO.refl _)
      | (with_reducible exact LeO.none _)
      | (with_reducible refine LeO.ite ?_ ?_)
      | (with_reducible refine LeO.bind ?_ (fun _ => ?_))
      | exact ih0 _ _ _ _ _
      | exact ih1 _ _ _ _ _ _
      | exact inclineref21_Takes.mono _ _
      | exact LeO.none _
      | refine LeO.ite ?_ ?_
      | refine LeO.bind ?_ (fun _ => ?_)
theorem inclineref21_Op.mono : ∀ a0 a1 k, LeO (inclineref21_Op.f k a0 a1) (inclineref21_Op.f (k + 1) a0 a1) := by
  intro a0 a1 k
  obtain ⟨ih0, ih1⟩ := inclineref21_Op.mono_l k
  unfold inclineref21_Op.f
  repeat' first
      | (with_reducible exact ih0 _ _ _ _ _)
      | (with_reducible exact ih1 _ _ _ _ _ _)
      | (with_reducible exact inclineref21_Takes.mono _ _)
      | (with_reducible exact LeO.refl _)
      | (with_reducible exact LeO.none _)
      | (with_reducible refine LeO.ite ?_ ?_)
      | (with_reducible refine LeO.bind ?_ (fun _ => ?_))
      | exact ih0 _ _ _ _ _
      | exact ih1 _ _ _ _ _ _
      | exact inclineref21_Takes.mono _ _
      | exact LeO.none _
      | refine LeO.ite ?_ ?_
      | refine LeO.bind ?_ (fun _ => ?_)
def inclineref21_Op.T6 : Bool × List (List Nat × List Nat) := (true, [([], []), ([], []), ([0, 1], [0, 1]), ([2], [2]), ([], []), ([4], [4]), ([3, 5], [3, 5]), ([6], [6]), ([7], [7]), ([8, 7], [7, 8]), ([9, 7, 7], [7, 9]), ([7], [7]), ([11, 7], [7, 11]), ([12, 7], [7, 12]), ([10, 13, 7], [7, 10, 13]), ([7, 14], [7, 14])])
def inclineref21_Op.B6 : List Nat := [0, 0, 3, 7, 0, 16, 63, 127, 255, 511, 1023, 255, 2303, 6399, 16383, 32767]
theorem inclineref21_Op.tab6 : rtab .any (opsOf Tryd.f19 6) = inclineref21_Op.T6 := by kernel_rfl
theorem inclineref21_Op.bits6 : waitsOk inclineref21_Op.T6.2 inclineref21_Op.B6 = true := by kernel_rfl
def inclineref21_Op.T7 : Bool × List (List Nat × List Nat) := (true, [([], []), ([], []), ([0, 1], [0, 1]), ([2], [2]), ([], []), ([4], [4]), ([5], [5]), ([6], [6]), ([3, 7], [3, 7]), ([], []), ([9, 8, 0, 1, 2, 3, 4, 5, 6, 7, 8, 9], [8, 9])])
def inclineref21_Op.B7 : List Nat := [0, 0, 3, 7, 0, 16, 48, 112, 255, 0, 1023]
theorem inclineref21_Op.tab7 : rtab .any (opsOf Tryd.f19 7) = inclineref21_Op.T7 := by kernel_rfl
theorem inclineref21_Op.bits7 : waitsOk inclineref21_Op.T7.2 inclineref21_Op.B7 = true := by kernel_rfl
set_option maxHeartbeats 8000000 in
set_option maxRecDepth 100000 in
theorem inclineref21_Op.calls (k : Nat) (a0_0 : ByteArray) (A0_1 : Option Addr) (c0_1 : Nat) (l0_1 : List Int) (r1 : Int) (r2 : Int) (r3 : Int) (r4 : Bool) (w : World) (hr0_1 : Kd.C (Kd.int .u64) w A0_1 l0_1.length l0_1) (hc0_1 : l0_1.length ≤ c0_1) (h : inclineref21_Op.f k a0_0 l0_1 = some (r1, r2, r3, r4)) :
    Calls Tryd.prog 19 #[.agg #[.string a0_0, .slice A0_1 l0_1.length c0_1]] w fun e w' => e = .returned (.tuple #[.agg #[.int .i64 r1, .int .u64 r2, .int .u64 r3], .bool r4]) ∧ Below w.heap.size w w' := by
  have hu30 := Tryd.underlying30
  have hu38 := Tryd.underlying38
  have HR0_1 := Aside0.mk hr0_1
  have HC0_1 := Aside0.mk hc0_1
  clear hr0_1 hc0_1
  have HB := Aside0.mk (Below.refl w.heap.size w)
  have H : (inclineref21_Op.l0 k (([(⟨#[112, 117, 116]⟩ : ByteArray), (⟨#[100, 101, 108]⟩ : ByteArray), (⟨#[103, 101, 116]⟩ : ByteArray), (⟨#[102, 108, 111, 111, 114]⟩ : ByteArray), (⟨#[99, 101, 105, 108]⟩ : ByteArray), (⟨#[114, 97, 110, 107]⟩ : ByteArray), (⟨#[114, 97, 110, 103, 101]⟩ : ByteArray)] : List ByteArray)) (([1, 2, 3, 4, 5, 6, 7] : List Int)) 0 a0_0 l0_1) = some (r1, r2, r3, r4) := h
  clear h
  obtain ⟨y363, hy363⟩ : ∃ y_ : List ByteArray, y_ = (([(⟨#[112, 117, 116]⟩ : ByteArray), (⟨#[100, 101, 108]⟩ : ByteArray), (⟨#[103, 101, 116]⟩ : ByteArray), (⟨#[102, 108, 111, 111, 114]⟩ : ByteArray), (⟨#[99, 101, 105, 108]⟩ : ByteArray), (⟨#[114, 97, 110, 107]⟩ : ByteArray), (⟨#[114, 97, 110, 103, 101]⟩ : ByteArray)] : List ByteArray)) := ⟨_, rfl⟩
  replace H : (inclineref21_Op.l0 k y363 (([1, 2, 3, 4, 5, 6, 7] : List Int)) 0 a0_0 l0_1) = some (r1, r2, r3, r4) := by first | (rw [hy363]; with_reducible exact H) | (have H2_ := (Option.bind_some _ _).symm.trans H; rw [hy363]; with_reducible exact H2_) | (have H2_ := (Option.bind_some _ _).symm.trans H; with_reducible exact H2_) | with_reducible exact H | (rw [hy363]; exact H) | exact H
  have Ny363 := Aside0.mk hy363
  clear hy363
  obtain ⟨y366, hy366⟩ : ∃ y_ : List Int, y_ = (([1, 2, 3, 4, 5, 6, 7] : List Int)) := ⟨_, rfl⟩
  replace H : (inclineref21_Op.l0 k y363 y366 0 a0_0 l0_1) = some (r1, r2, r3, r4) := by first | (rw [hy366]; with_reducible exact H) | (have H2_ := (Option.bind_some _ _).symm.trans H; rw [hy366]; with_reducible exact H2_) | (have H2_ := (Option.bind_some _ _).symm.trans H; with_reducible exact H2_) | with_reducible exact H | (rw [hy366]; exact H) | exact H
  have Ny366 := Aside0.mk hy366
  clear hy366
  have H' := Aside0.mk H
  clear H
  go_enter Tryd.func19, Tryd.ntmps19
  go_wp2_with (first | ((with_reducible refine gate_dst (N := 1) rfl ?_); (try (refine gate_guard (by rfl) ?_; dsimp only)); refine box_event ?hg (N := 1) ?hd (cs := #[.string a0_0, .slice A0_1 l0_1.length c0_1]) (t := 30) ?hr ?_; (case hd => rfl); (case hg => rfl); (case hr => first | (go_simp; done) | (go_simp; rfl)); intro gb361 hg w2 hbox hb; have n0_ := Aside0.mk (below_step (by repeat (first | (with_reducible first | exact HB.out | apply below_alloc | apply pw_below_drewN | apply below_drew1) | exact HB.out)) hb); have n1_ := Aside0.mk (hbox); have n2_ := Aside0.mk ((by rw [hg]; exact (below_size (by repeat (first | (with_reducible first | exact HB.out | apply below_alloc | apply pw_below_drewN | apply below_drew1) | exact HB.out))) : w.heap.size ≤ gb361)); have n3_ := Aside0.mk ((by rw [hg]; exact (below_size (by repeat (first | (with_reducible first | exact HB.out | apply below_alloc | apply pw_below_drewN | apply below_drew1) | exact HB.out))) : w.heap.size ≤ gb361)); clear HB; have HB := n0_; have BK361 := n1_; have GW361 := n2_; have GE361 := n3_; clear n0_ n1_ n2_ n3_; clear hb hbox hg) | ((with_reducible refine gate_dst (N := 2) rfl ?_); (try (refine gate_guard (by rfl) ?_; dsimp only)); refine box_event ?hg (N := 2) ?hd (cs := #[.int .i64 0, .int .u64 0, .int .u64 0]) (t := 38) ?hr ?_; (case hd => rfl); (case hg => rfl); (case hr => first | (go_simp; done) | (go_simp; rfl)); intro gb362 hg w3 hbox hb; have n0_ := Aside0.mk (blk_below (g := gb361) (o := .cells #[.string a0_0, .slice A0_1 l0_1.length c0_1] 30 (0, 0)) (by (with_reducible repeat (first | refine blk_drewN ?_ _ | refine blk_drew ?_ | refine blk_alloc ?_ _)); exact BK361.out) hb); have n1_ := Aside0.mk (below_step (by repeat (first | (with_reducible first | exact HB.out | apply below_alloc | apply pw_below_drewN | apply below_drew1 | refine below_set ?_ GE361.out) | exact HB.out)) hb); have n2_ := Aside0.mk (hbox); have n3_ := Aside0.mk ((by rw [hg]; exact (below_size (by repeat (first | (with_reducible first | exact HB.out | apply below_alloc | apply pw_below_drewN | apply below_drew1 | refine below_set ?_ GE361.out) | exact HB.out))) : w.heap.size ≤ gb362)); have n4_ := Aside0.mk ((by rw [hg]; exact (below_size (by repeat (first | (with_reducible first | exact HB.out | apply below_alloc | apply pw_below_drewN | apply below_drew1 | refine below_set ?_ GE361.out) | exact HB.out))) : w.heap.size ≤ gb362)); have n5_ := Aside0.mk ((by rw [hg]; exact Nat.ne_of_lt (blk_lt (g := gb361) (o := .cells #[.string a0_0, .slice A0_1 l0_1.length c0_1] 30 (0, 0)) (by (with_reducible repeat (first | refine blk_drewN ?_ _ | refine blk_drew ?_ | refine blk_alloc ?_ _)); exact BK361.out)) : gb361 ≠ gb362)); have n6_ := Aside0.mk ((by rw [hg]; exact Nat.ne_of_gt (blk_lt (g := gb361) (o := .cells #[.string a0_0, .slice A0_1 l0_1.length c0_1] 30 (0, 0)) (by (with_reducible repeat (first | refine blk_drewN ?_ _ | refine blk_drew ?_ | refine blk_alloc ?_ _)); exact BK361.out)) : gb362 ≠ gb361)); clear BK361; clear HB; have BK361 := n0_; have HB := n1_; have BK362 := n2_; have GW362 := n3_; have GE362 := n4_; have NB361_362 := n5_; have NB362_361 := n6_; clear n0_ n1_ n2_ n3_ n4_ n5_ n6_; clear hb hbox hg) | ((with_reducible refine gate_dst (N := 8) rfl ?_); (try (refine gate_guard (by rfl) ?_; dsimp only)); refine Kd.R_lit Kd.string _ 9 ?hg (N := 8) ?hd (xs := ([(⟨#[112, 117, 116]⟩ : ByteArray), (⟨#[100, 101, 108]⟩ : ByteArray), (⟨#[103, 101, 116]⟩ : ByteArray), (⟨#[102, 108, 111, 111, 114]⟩ : ByteArray), (⟨#[99, 101, 105, 108]⟩ : ByteArray), (⟨#[114, 97, 110, 107]⟩ : ByteArray), (⟨#[114, 97, 110, 103, 101]⟩ : ByteArray)] : List ByteArray)) (inner := [.string (⟨#[112, 117, 116]⟩ : ByteArray), .string (⟨#[100, 101, 108]⟩ : ByteArray), .string (⟨#[103, 101, 116]⟩ : ByteArray), .string (⟨#[102, 108, 111, 111, 114]⟩ : ByteArray), .string (⟨#[99, 101, 105, 108]⟩ : ByteArray), .string (⟨#[114, 97, 110, 107]⟩ : ByteArray), .string (⟨#[114, 97, 110, 103, 101]⟩ : ByteArray)]) (ok := fun _ => True) (okp := fun _ => True) ?hr ?hp (fun _ hk => hk) trivial (Below.refl _ _) (Nat.le_refl _) (by simp) ?_; (case hd => rfl); (case hg => rfl); (case hr => first | (go_simp; done) | (go_simp; rfl)); (case hp => exact (Reps.one (show Kd.M Kd.string _ _ _ (⟨#[112, 117, 116]⟩ : ByteArray) [.string (⟨#[112, 117, 116]⟩ : ByteArray)] from rfl) (Reps.one (show Kd.M Kd.string _ _ _ (⟨#[100, 101, 108]⟩ : ByteArray) [.string (⟨#[100, 101, 108]⟩ : ByteArray)] from rfl) (Reps.one (show Kd.M Kd.string _ _ _ (⟨#[103, 101, 116]⟩ : ByteArray) [.string (⟨#[103, 101, 116]⟩ : ByteArray)] from rfl) (Reps.one (show Kd.M Kd.string _ _ _ (⟨#[102, 108, 111, 111, 114]⟩ : ByteArray) [.string (⟨#[102, 108, 111, 111, 114]⟩ : ByteArray)] from rfl) (Reps.one (show Kd.M Kd.string _ _ _ (⟨#[99, 101, 105, 108]⟩ : ByteArray) [.string (⟨#[99, 101, 105, 108]⟩ : ByteArray)] from rfl) (Reps.one (show Kd.M Kd.string _ _ _ (⟨#[114, 97, 110, 107]⟩ : ByteArray) [.string (⟨#[114, 97, 110, 107]⟩ : ByteArray)] from rfl) (Reps.one (show Kd.M Kd.string _ _ _ (⟨#[114, 97, 110, 103, 101]⟩ : ByteArray) [.string (⟨#[114, 97, 110, 103, 101]⟩ : ByteArray)] from rfl) (Reps.none _ _))))))))); intro v364 w4 ho5 hb hg_ hnew_; clear hg_ hnew_; (first | rw [← Ny363.out] at ho5 | (simp only [Int.reduceToNat] at ho5; rw [← Ny363.out] at ho5)); have n0_ := Aside0.mk (Kd.R_lower ho5 (below_size (by repeat (first | (with_reducible first | exact HB.out | apply below_alloc | apply pw_below_drewN | apply below_drew1 | refine below_set ?_ GE361.out | refine below_set ?_ GE362.out) | exact HB.out)))); have n1_ := Aside0.mk (blk_below (g := gb361) (o := .cells #[.string a0_0, .slice A0_1 l0_1.length c0_1] 30 (0, 0)) (by (with_reducible repeat (first | refine blk_drewN ?_ _ | refine blk_drew ?_ | refine blk_alloc ?_ _)); exact BK361.out) hb); have n2_ := Aside0.mk (blk_below (g := gb362) (o := .cells #[.int .i64 0, .int .u64 0, .int .u64 0] 38 (0, 0)) (by (with_reducible repeat (first | refine blk_drewN ?_ _ | refine blk_drew ?_ | refine blk_alloc ?_ _)); exact BK362.out) hb); have n3_ := Aside0.mk (below_step (by repeat (first | (with_reducible first | exact HB.out | apply below_alloc | apply pw_below_drewN | apply below_drew1 | refine below_set ?_ GE361.out | refine below_set ?_ GE362.out) | exact HB.out)) hb); clear BK361; clear BK362; clear HB; have HO365 := n0_; have BK361 := n1_; have BK362 := n2_; have HB := n3_; clear n0_ n1_ n2_ n3_; clear hb ho5) | ((with_reducible refine gate_dst (N := 9) rfl ?_); (try (refine gate_guard (by rfl) ?_; dsimp only)); refine Kd.R_lit (Kd.int .i64) _ 3 ?hg (N := 9) ?hd (xs := ([1, 2, 3, 4, 5, 6, 7] : List Int)) (inner := [.int .i64 1, .int .i64 2, .int .i64 3, .int .i64 4, .int .i64 5, .int .i64 6, .int .i64 7]) (ok := fun _ => True) (okp := fun _ => True) ?hr ?hp (fun _ hk => hk) trivial (Below.refl _ _) (Nat.le_refl _) (by simp) ?_; (case hd => rfl); (case hg => rfl); (case hr => first | (go_simp; done) | (go_simp; rfl)); (case hp => exact (Reps.one (show Kd.M (Kd.int .i64) _ _ _ 1 [.int .i64 1] from rfl) (Reps.one (show Kd.M (Kd.int .i64) _ _ _ 2 [.int .i64 2] from rfl) (Reps.one (show Kd.M (Kd.int .i64) _ _ _ 3 [.int .i64 3] from rfl) (Reps.one (show Kd.M (Kd.int .i64) _ _ _ 4 [.int .i64 4] from rfl) (Reps.one (show Kd.M (Kd.int .i64) _ _ _ 5 [.int .i64 5] from rfl) (Reps.one (show Kd.M (Kd.int .i64) _ _ _ 6 [.int .i64 6] from rfl) (Reps.one (show Kd.M (Kd.int .i64) _ _ _ 7 [.int .i64 7] from rfl) (Reps.none _ _))))))))); intro v367 w6 ho7 hb hg_ hnew_; clear hg_ hnew_; (first | rw [← Ny366.out] at ho7 | (simp only [Int.reduceToNat] at ho7; rw [← Ny366.out] at ho7)); have n0_ := Aside0.mk (Kd.R_below (by (with_reducible repeat (first | apply Kd.R_alloc | apply Kd.R_drewN | apply Kd.R_drew)); exact HO365.out) hb); have n1_ := Aside0.mk (Kd.R_lower ho7 (below_size (by repeat (first | (with_reducible first | exact HB.out | apply below_alloc | apply pw_below_drewN | apply below_drew1 | refine below_set ?_ GE361.out | refine below_set ?_ GE362.out) | exact HB.out)))); have n2_ := Aside0.mk (blk_below (g := gb361) (o := .cells #[.string a0_0, .slice A0_1 l0_1.length c0_1] 30 (0, 0)) (by (with_reducible repeat (first | refine blk_drewN ?_ _ | refine blk_drew ?_ | refine blk_alloc ?_ _)); exact BK361.out) hb); have n3_ := Aside0.mk (blk_below (g := gb362) (o := .cells #[.int .i64 0, .int .u64 0, .int .u64 0] 38 (0, 0)) (by (with_reducible repeat (first | refine blk_drewN ?_ _ | refine blk_drew ?_ | refine blk_alloc ?_ _)); exact BK362.out) hb); have n4_ := Aside0.mk (below_step (by repeat (first | (with_reducible first | exact HB.out | apply below_alloc | apply pw_below_drewN | apply below_drew1 | refine below_set ?_ GE361.out | refine below_set ?_ GE362.out) | exact HB.out)) hb); clear HO365; clear BK361; clear BK362; clear HB; have HO365 := n0_; have HO368 := n1_; have BK361 := n2_; have BK362 := n3_; have HB := n4_; clear n0_ n1_ n2_ n3_ n4_; clear hb ho7))
  go_loopg [6] k (fun kq v6 w' => ∃ (x6_1 : Int) (x363000_1 : Int) (x363001_1 : Int) (x363002_1 : Int), v6 = .int .i64 x6_1 ∧ Aside0 (inclineref21_Op.l0 kq y363 y366 x6_1 a0_0 l0_1 = some (r1, r2, r3, r4)) ∧ Aside0 (kq ≤ k) ∧ Aside0 (Kd.R Kd.string 9 w' w.heap.size (fun _ => True) v364 y363) ∧ Aside0 (Kd.R (Kd.int .i64) 3 w' w.heap.size (fun _ => True) v367 y366) ∧ Aside0 (w'.heap[gb361]? = some (.cells #[.string a0_0, (.slice A0_1 l0_1.length c0_1)] 30 (0, 0))) ∧ Aside0 (w'.heap[gb362]? = some (.cells #[.int .i64 x363000_1, .int .u64 x363001_1, .int .u64 x363002_1] 38 (0, 0))) ∧ Aside0 (Below w.heap.size w w'))
  case atStart => exact ⟨(0), (0), (0), (0), (by first | rfl | (simp; done) | (simp [*]; done)), H', ⟨Nat.le_refl _⟩, ⟨by (with_reducible repeat (first | apply Kd.R_alloc | apply Kd.R_drewN | apply Kd.R_drew)); exact HO365.out⟩, ⟨by (with_reducible repeat (first | apply Kd.R_alloc | apply Kd.R_drewN | apply Kd.R_drew)); exact HO368.out⟩, ⟨by (with_reducible repeat (first | refine blk_drewN ?_ _ | refine blk_drew ?_ | refine blk_alloc ?_ _)); exact BK361.out⟩, ⟨by (with_reducible repeat (first | refine blk_drewN ?_ _ | refine blk_drew ?_ | refine blk_alloc ?_ _)); exact BK362.out⟩, ⟨by repeat (first | (with_reducible first | exact HB.out | apply below_alloc | apply pw_below_drewN | apply below_drew1 | refine below_set ?_ GE361.out | refine below_set ?_ GE362.out) | exact HB.out)⟩⟩
  case round =>
    clear H'
    try clear c1
    try clear p2
    obtain ⟨x6_1, x363000_1, x363001_1, x363002_1, rfl, HA, HK1, HO_4, HO_5, BK361, BK362, HB⟩ := hrel
    cases gk with
    | zero => exact absurd HA.out (by simp [inclineref21_Op.l0])
    | succ k1 =>
      have H := HA.out
      clear HA
      simp only [inclineref21_Op.l0] at H
      by_cases c8 : x6_1 < (y363.length : Int)
      · rw [if_pos c8] at H
        have c8b0 : decide (x6_1 < (y363.length : Int)) = true := decide_eq_true c8
        clear c8
        have HC9 := Aside0.mk H
        clear H
        obtain ⟨Ao10, co10, eo10⟩ := Kd.R_slice HO_4.out
        subst eo10
        go_upto_region 6 with (fail)
        go_cut [31] (fun v31 wc => ∃ (kq : Nat) (x31_8 : Bool), v31 = .bool x31_8 ∧ Aside0 (inclineref21_Op.j1 kq y363 y366 x6_1 x31_8 a0_0 l0_1 = some (r1, r2, r3, r4)) ∧ Aside0 (kq ≤ k1) ∧ Aside0 (Kd.R Kd.string 9 wc w.heap.size (fun _ => True) (.slice Ao10 y363.length co10) y363) ∧ Aside0 (Kd.R (Kd.int .i64) 3 wc w.heap.size (fun _ => True) v367 y366) ∧ Aside0 (wc.heap[gb361]? = some (.cells #[.string a0_0, (.slice A0_1 l0_1.length c0_1)] 30 (0, 0))) ∧ Aside0 (wc.heap[gb362]? = some (.cells #[.int .i64 x363000_1, .int .u64 x363001_1, .int .u64 x363002_1] 38 (0, 0))) ∧ Aside0 (Below w.heap.size w wc))
        case first =>
          have H := HC9.out
          clear HC9
          by_cases c11 : 0 ≤ x6_1
          · rw [if_pos c11] at H
            have c11b0 : decide (0 ≤ x6_1) = true := decide_eq_true c11
            clear c11
            (first | rw [c11b0] | (simp only [i64_w, i32_w]; rw [c11b0]) | skip)
            by_cases c12 : (rdOf ByteArray.empty y363 x6_1).toList = a0_0.toList
            · rw [if_pos c12] at H
              have c12b0 : ((rdOf ByteArray.empty y363 x6_1).toList == a0_0.toList) = true := beq_iff_eq.mpr c12
              have c12b1 : ((rdOf ByteArray.empty y363 x6_1).toList != a0_0.toList) = false := bne_eq_false_iff_eq.mpr c12
              clear c12
              replace H := Option.bind_eq_some_iff.mp H
              obtain ⟨t370, A130, H⟩ := H
              replace H : (inclineref21_Op.j1 k1 y363 y366 x6_1 (t370 == (l0_1.length : Int)) a0_0 l0_1) = some (r1, r2, r3, r4) := H
              have A13 := Aside0.mk A130
              clear A130
              have H' := Aside0.mk H
              clear H
              try go_wp2
              have n0_ := Aside0.mk (Kd.R_drew HO_4.out)
              have n1_ := Aside0.mk (Kd.R_drew HO_5.out)
              have n2_ := Aside0.mk (blk_drew BK361.out)
              have n3_ := Aside0.mk (blk_drew BK362.out)
              have n4_ := Aside0.mk (below_drew1 HB.out)
              clear HO_4
              clear HO_5
              clear BK361
              clear BK362
              clear HB
              have HO_4 := n0_
              have HO_5 := n1_
              have BK361 := n2_
              have BK362 := n3_
              have HB := n4_
              clear n0_ n1_ n2_ n3_ n4_
              have p369 : 0 ≤ (x6_1 : Int) := of_decide_eq_true (by first | (with_reducible assumption) | assumption)
              have q369 : x6_1 < (y363.length : Int) := of_decide_eq_true (by first | (with_reducible assumption) | assumption)
              obtain ⟨ad369, e369, hx369_0⟩ := Kd.at_string (Kd.R_reads' HO_4.out).2.2 x6_1 p369 q369
              cases e369
              replace p369 := eq_true p369
              replace q369 := eq_true q369
              refine start_ (n := 16) (S := fun w' => w'.cell? ⟨gb361, 0, none⟩ = some (.string a0_0) ∧ w'.cell? ⟨gb361, 1, none⟩ = some (.slice A0_1 l0_1.length c0_1) ∧ w'.cell? (ad369.add (x6_1).toNat) = some (.string (rdOf ByteArray.empty y363 x6_1))) (ds := []) #[false, false, false, false, false, false, false, false, false, false, false, false, false, false, false, false] (by kernel_rfl) rfl rfl ⟨(blk_cell BK361.out 0).trans rfl, (blk_cell BK361.out 1).trans rfl, hx369_0⟩ (fun hHeld => ?_); refine with_tabW inclineref21_Op.tab6 inclineref21_Op.bits6 (fun HT_ HW_ => ?_)
              generalize wr.drew = w14 at HO_4 HO_5 BK361 BK362 HB hx369_0 hHeld ⊢
              refine pure_ (i := 0) (N := some 16) (v := ?_) (a' := ?_) #[true, false, false, false, false, false, false, false, false, false, false, false, false, false, false, false] rfl rfl (any_of HT_.out (by kernel_rfl)) (fun _ _ _ h => h) (Or.inl ⟨by rfl, ?_⟩) ?_ ?_
              rotate_left
              · intro w'
                go_simp
                with_reducible rfl
              rotate_left
              · simp only [Act.put, List.setIfInBounds_toArray, List.set_cons_zero, List.set_cons_succ, i64_w, i32_w]
                rfl
              refine pure_ (i := 1) (N := some 17) (v := ?_) (a' := ?_) #[true, true, false, false, false, false, false, false, false, false, false, false, false, false, false, false] rfl rfl (any_of HT_.out (by kernel_rfl)) (fun _ _ _ h => h) (Or.inl ⟨by rfl, ?_⟩) ?_ ?_
              rotate_left
              · intro w'
                go_simp
                with_reducible rfl
              rotate_left
              · simp only [Act.put, List.setIfInBounds_toArray, List.set_cons_zero, List.set_cons_succ, i64_w, i32_w]
                rfl
              refine pure_ (i := 2) (N := some 18) (v := ?_) (a' := ?_) #[true, true, true, false, false, false, false, false, false, false, false, false, false, false, false, false] rfl rfl (any_of HT_.out (by kernel_rfl)) (fun _ _ _ h => h) (Or.inl ⟨by rfl, ?_⟩) ?_ ?_
              rotate_left
              · intro w'
                go_simp
                with_reducible rfl
              rotate_left
              · simp only [Act.put, List.setIfInBounds_toArray, List.set_cons_zero, List.set_cons_succ, i64_w, i32_w]
                rfl
              refine pure_ (i := 4) (N := some 20) (v := ?_) (a' := ?_) #[true, true, true, false, true, false, false, false, false, false, false, false, false, false, false, false] rfl rfl (any_of HT_.out (by kernel_rfl)) (fun _ _ _ h => h) (Or.inl ⟨by rfl, ?_⟩) ?_ ?_
              rotate_left
              · intro w'
                go_simp
                with_reducible rfl
              rotate_left
              · simp only [Act.put, List.setIfInBounds_toArray, List.set_cons_zero, List.set_cons_succ, i64_w, i32_w]
                rfl
              refine take_ (i := 3) (N := some 19) (v := ?_) (a' := ?_) #[true, true, true, true, true, false, false, false, false, false, false, false, false, false, false, false] rfl rfl (take_ofW HT_.out HW_.out (by kernel_rfl)) (fun _ _ _ h => h) (Or.inl ⟨by rfl, ?_⟩) hHeld ?_ ?_
              rotate_left
              · rintro w' ⟨s0, s1, s2⟩
                go_simp
                with_reducible rfl
              rotate_left
              · simp only [Act.put, List.setIfInBounds_toArray, List.set_cons_zero, List.set_cons_succ, i64_w, i32_w]
                rfl
              refine take_ (i := 5) (N := some 21) (v := ?_) (a' := ?_) #[true, true, true, true, true, true, false, false, false, false, false, false, false, false, false, false] rfl rfl (take_ofW HT_.out HW_.out (by kernel_rfl)) (fun _ _ _ h => h) (Or.inl ⟨by rfl, ?_⟩) hHeld ?_ ?_
              rotate_left
              · rintro w' ⟨s0, s1, s2⟩
                go_simp
                with_reducible rfl
              rotate_left
              · simp only [Act.put, List.setIfInBounds_toArray, List.set_cons_zero, List.set_cons_succ, i64_w, i32_w]
                rfl
              refine pure_ (i := 6) (N := some 22) (v := ?_) (a' := ?_) #[true, true, true, true, true, true, true, false, false, false, false, false, false, false, false, false] rfl rfl (any_of HT_.out (by kernel_rfl)) (fun _ _ _ h => h) (Or.inl ⟨by rfl, ?_⟩) ?_ ?_
              rotate_left
              · intro w'
                go_simp
                with_reducible rfl
              rotate_left
              · simp only [Act.put, List.setIfInBounds_toArray, List.set_cons_zero, List.set_cons_succ, i64_w, i32_w]
                rfl
              refine pure_ (i := 7) (N := some 23) (v := ?_) (a' := ?_) #[true, true, true, true, true, true, true, true, false, false, false, false, false, false, false, false] rfl rfl (any_of HT_.out (by kernel_rfl)) (fun _ _ _ h => h) (Or.inl ⟨by rfl, ?_⟩) ?_ ?_
              rotate_left
              · intro w'
                go_simp
                with_reducible rfl
              rotate_left
              · simp only [Act.put, List.setIfInBounds_toArray, List.set_cons_zero, List.set_cons_succ, i64_w, i32_w]
                rfl
              refine pure_ (i := 8) (N := some 24) (v := ?_) (a' := ?_) #[true, true, true, true, true, true, true, true, true, false, false, false, false, false, false, false] rfl rfl (any_of HT_.out (by kernel_rfl)) (fun _ _ _ h => h) (Or.inl ⟨by rfl, ?_⟩) ?_ ?_
              rotate_left
              · intro w'
                go_simp
                with_reducible rfl
              rotate_left
              · simp only [Act.put, List.setIfInBounds_toArray, List.set_cons_zero, List.set_cons_succ, i64_w, i32_w]
                rfl
              refine pure_ (i := 11) (N := some 27) (v := ?_) (a' := ?_) #[true, true, true, true, true, true, true, true, true, false, false, true, false, false, false, false] rfl rfl (any_of HT_.out (by kernel_rfl)) (fun _ _ _ h => h) (Or.inl ⟨by rfl, ?_⟩) ?_ ?_
              rotate_left
              · intro w'
                go_simp
                with_reducible rfl
              rotate_left
              · simp only [Act.put, List.setIfInBounds_toArray, List.set_cons_zero, List.set_cons_succ, i64_w, i32_w]
                rfl
              refine take_ (i := 9) (N := some 25) (v := ?_) (a' := ?_) #[true, true, true, true, true, true, true, true, true, true, false, true, false, false, false, false] rfl rfl (take_ofW HT_.out HW_.out (by kernel_rfl)) (fun _ _ _ h => h) (Or.inl ⟨by rfl, ?_⟩) hHeld ?_ ?_
              rotate_left
              · rintro w' ⟨s0, s1, s2⟩
                go_simp
                with_reducible rfl
              rotate_left
              · simp only [Act.put, List.setIfInBounds_toArray, List.set_cons_zero, List.set_cons_succ, i64_w, i32_w]
                rfl
              refine take_ (i := 12) (N := some 28) (v := ?_) (a' := ?_) #[true, true, true, true, true, true, true, true, true, true, false, true, true, false, false, false] rfl rfl (take_ofW HT_.out HW_.out (by kernel_rfl)) (fun _ _ _ h => h) (Or.inl ⟨by rfl, ?_⟩) hHeld ?_ ?_
              rotate_left
              · rintro w' ⟨s0, s1, s2⟩
                go_simp
                with_reducible rfl
              rotate_left
              · simp only [Act.put, List.setIfInBounds_toArray, List.set_cons_zero, List.set_cons_succ, i64_w, i32_w]
                rfl
              refine pure_ (i := 13) (N := some 29) (v := ?_) (a' := ?_) #[true, true, true, true, true, true, true, true, true, true, false, true, true, true, false, false] rfl rfl (any_of HT_.out (by kernel_rfl)) (fun _ _ _ h => h) (Or.inl ⟨by rfl, ?_⟩) ?_ ?_
              rotate_left
              · intro w'
                go_simp
                with_reducible rfl
              rotate_left
              · simp only [Act.put, List.setIfInBounds_toArray, List.set_cons_zero, List.set_cons_succ, i64_w, i32_w]
                rfl
              refine one_ (i := 10) (N := some 26) #[true, true, true, true, true, true, true, true, true, true, true, true, true, true, false, false] rfl rfl (one_of HT_.out (by kernel_rfl)) (by decide) (fun K hK => ?_)
              refine goes_ Tryd.func29 (by kernel_rfl) rfl #[.string a0_0] (by rfl) rfl rfl (by (try simp only [List.map_toArray, List.map_cons, List.map_nil]); first | done | rfl | (simp only [List.length_drop, List.length_take]; rfl)) ?_
              with_reducible refine (inclineref21_Takes.calls k1 a0_0 t370 _ A13.out).mono ?_
              rintro e w' ⟨rfl, ⟨nd, rfl⟩⟩
              refine ⟨_, rfl, ?_⟩
              refine hK.out _ _ ⟨(blk_cell BK361.out 0).trans rfl, (blk_cell BK361.out 1).trans rfl, hHeld.2.2⟩ (fun hHeld => ?_)
              clear hK K
              refine norm_ (a' := ?_) ?_ ?_
              rotate_left
              · show Act.put _ (some 26) _ = _
                simp only [Act.put, List.setIfInBounds_toArray, List.set_cons_zero, List.set_cons_succ, i64_w, i32_w]
                rfl
              refine pure_ (i := 14) (N := some 30) (v := ?_) (a' := ?_) #[true, true, true, true, true, true, true, true, true, true, true, true, true, true, true, false] rfl rfl (any_of HT_.out (by kernel_rfl)) (fun _ _ _ h => h) (Or.inl ⟨by rfl, ?_⟩) ?_ ?_
              rotate_left
              · intro w'
                go_simp
                with_reducible rfl
              rotate_left
              · simp only [Act.put, List.setIfInBounds_toArray, List.set_cons_zero, List.set_cons_succ, i64_w, i32_w]
                rfl
              refine pure_ (i := 15) (N := some 31) (v := ?_) (a' := ?_) #[true, true, true, true, true, true, true, true, true, true, true, true, true, true, true, true] rfl rfl (any_of HT_.out (by kernel_rfl)) (fun _ _ _ h => h) (Or.inl ⟨by rfl, ?_⟩) ?_ ?_
              rotate_left
              · intro w'
                go_simp
                with_reducible rfl
              rotate_left
              · simp only [Act.put, List.setIfInBounds_toArray, List.set_cons_zero, List.set_cons_succ, i64_w, i32_w]
                rfl
              refine done_ (done_of HT_.out (by kernel_rfl)) ?_
              try go_wp2
              go_meet
              case rel => exact ⟨_, ((t370 == (l0_1.length : Int))), (by first | rfl | (simp; done) | (simp [*]; done)), H', ⟨by have := HK1.out; first | omega | exact Nat.le_refl _⟩, ⟨by (with_reducible repeat (first | apply Kd.R_alloc | apply Kd.R_drewN | apply Kd.R_drew)); exact HO_4.out⟩, ⟨by (with_reducible repeat (first | apply Kd.R_alloc | apply Kd.R_drewN | apply Kd.R_drew)); exact HO_5.out⟩, ⟨by (with_reducible repeat (first | refine blk_drewN ?_ _ | refine blk_drew ?_ | refine blk_alloc ?_ _)); exact BK361.out⟩, ⟨by (with_reducible repeat (first | refine blk_drewN ?_ _ | refine blk_drew ?_ | refine blk_alloc ?_ _)); exact BK362.out⟩, ⟨by repeat (first | (with_reducible first | exact HB.out | apply below_alloc | apply pw_below_drewN | apply below_drew1 | refine below_set ?_ GE361.out | refine below_set ?_ GE362.out) | exact HB.out)⟩⟩
            · rw [if_neg c12] at H
              have c12b0 : ((rdOf ByteArray.empty y363 x6_1).toList == a0_0.toList) = false := beq_eq_false_iff_ne.mpr c12
              have c12b1 : ((rdOf ByteArray.empty y363 x6_1).toList != a0_0.toList) = true := bne_iff_ne.mpr c12
              have H' := Aside0.mk H
              clear H
              try go_wp2
              have n0_ := Aside0.mk (Kd.R_drew HO_4.out)
              have n1_ := Aside0.mk (Kd.R_drew HO_5.out)
              have n2_ := Aside0.mk (blk_drew BK361.out)
              have n3_ := Aside0.mk (blk_drew BK362.out)
              have n4_ := Aside0.mk (below_drew1 HB.out)
              clear HO_4
              clear HO_5
              clear BK361
              clear BK362
              clear HB
              have HO_4 := n0_
              have HO_5 := n1_
              have BK361 := n2_
              have BK362 := n3_
              have HB := n4_
              clear n0_ n1_ n2_ n3_ n4_
              have p369 : 0 ≤ (x6_1 : Int) := of_decide_eq_true (by first | (with_reducible assumption) | assumption)
              have q369 : x6_1 < (y363.length : Int) := of_decide_eq_true (by first | (with_reducible assumption) | assumption)
              obtain ⟨ad369, e369, hx369_0⟩ := Kd.at_string (Kd.R_reads' HO_4.out).2.2 x6_1 p369 q369
              cases e369
              replace p369 := eq_true p369
              replace q369 := eq_true q369
              refine start_ (n := 16) (S := fun w' => w'.cell? ⟨gb361, 0, none⟩ = some (.string a0_0) ∧ w'.cell? ⟨gb361, 1, none⟩ = some (.slice A0_1 l0_1.length c0_1) ∧ w'.cell? (ad369.add (x6_1).toNat) = some (.string (rdOf ByteArray.empty y363 x6_1))) (ds := []) #[false, false, false, false, false, false, false, false, false, false, false, false, false, false, false, false] (by kernel_rfl) rfl rfl ⟨(blk_cell BK361.out 0).trans rfl, (blk_cell BK361.out 1).trans rfl, hx369_0⟩ (fun hHeld => ?_); refine with_tabW inclineref21_Op.tab6 inclineref21_Op.bits6 (fun HT_ HW_ => ?_)
              generalize wr.drew = w15 at HO_4 HO_5 BK361 BK362 HB hx369_0 hHeld ⊢
              refine pure_ (i := 0) (N := some 16) (v := ?_) (a' := ?_) #[true, false, false, false, false, false, false, false, false, false, false, false, false, false, false, false] rfl rfl (any_of HT_.out (by kernel_rfl)) (fun _ _ _ h => h) (Or.inl ⟨by rfl, ?_⟩) ?_ ?_
              rotate_left
              · intro w'
                go_simp
                with_reducible rfl
              rotate_left
              · simp only [Act.put, List.setIfInBounds_toArray, List.set_cons_zero, List.set_cons_succ, i64_w, i32_w]
                rfl
              refine pure_ (i := 1) (N := some 17) (v := ?_) (a' := ?_) #[true, true, false, false, false, false, false, false, false, false, false, false, false, false, false, false] rfl rfl (any_of HT_.out (by kernel_rfl)) (fun _ _ _ h => h) (Or.inl ⟨by rfl, ?_⟩) ?_ ?_
              rotate_left
              · intro w'
                go_simp
                with_reducible rfl
              rotate_left
              · simp only [Act.put, List.setIfInBounds_toArray, List.set_cons_zero, List.set_cons_succ, i64_w, i32_w]
                rfl
              refine pure_ (i := 2) (N := some 18) (v := ?_) (a' := ?_) #[true, true, true, false, false, false, false, false, false, false, false, false, false, false, false, false] rfl rfl (any_of HT_.out (by kernel_rfl)) (fun _ _ _ h => h) (Or.inl ⟨by rfl, ?_⟩) ?_ ?_
              rotate_left
              · intro w'
                go_simp
                with_reducible rfl
              rotate_left
              · simp only [Act.put, List.setIfInBounds_toArray, List.set_cons_zero, List.set_cons_succ, i64_w, i32_w]
                rfl
              refine pure_ (i := 4) (N := some 20) (v := ?_) (a' := ?_) #[true, true, true, false, true, false, false, false, false, false, false, false, false, false, false, false] rfl rfl (any_of HT_.out (by kernel_rfl)) (fun _ _ _ h => h) (Or.inl ⟨by rfl, ?_⟩) ?_ ?_
              rotate_left
              · intro w'
                go_simp
                with_reducible rfl
              rotate_left
              · simp only [Act.put, List.setIfInBounds_toArray, List.set_cons_zero, List.set_cons_succ, i64_w, i32_w]
                rfl
              refine take_ (i := 3) (N := some 19) (v := ?_) (a' := ?_) #[true, true, true, true, true, false, false, false, false, false, false, false, false, false, false, false] rfl rfl (take_ofW HT_.out HW_.out (by kernel_rfl)) (fun _ _ _ h => h) (Or.inl ⟨by rfl, ?_⟩) hHeld ?_ ?_
              rotate_left
              · rintro w' ⟨s0, s1, s2⟩
                go_simp
                with_reducible rfl
              rotate_left
              · simp only [Act.put, List.setIfInBounds_toArray, List.set_cons_zero, List.set_cons_succ, i64_w, i32_w]
                rfl
              refine take_ (i := 5) (N := some 21) (v := ?_) (a' := ?_) #[true, true, true, true, true, true, false, false, false, false, false, false, false, false, false, false] rfl rfl (take_ofW HT_.out HW_.out (by kernel_rfl)) (fun _ _ _ h => h) (Or.inl ⟨by rfl, ?_⟩) hHeld ?_ ?_
              rotate_left
              · rintro w' ⟨s0, s1, s2⟩
                go_simp
                with_reducible rfl
              rotate_left
              · simp only [Act.put, List.setIfInBounds_toArray, List.set_cons_zero, List.set_cons_succ, i64_w, i32_w]
                rfl
              refine pure_ (i := 6) (N := some 22) (v := ?_) (a' := ?_) #[true, true, true, true, true, true, true, false, false, false, false, false, false, false, false, false] rfl rfl (any_of HT_.out (by kernel_rfl)) (fun _ _ _ h => h) (Or.inl ⟨by rfl, ?_⟩) ?_ ?_
              rotate_left
              · intro w'
                go_simp
                with_reducible rfl
              rotate_left
              · simp only [Act.put, List.setIfInBounds_toArray, List.set_cons_zero, List.set_cons_succ, i64_w, i32_w]
                rfl
              refine pure_ (i := 7) (N := some 23) (v := ?_) (a' := ?_) #[true, true, true, true, true, true, true, true, false, false, false, false, false, false, false, false] rfl rfl (any_of HT_.out (by kernel_rfl)) (fun _ _ _ h => h) (Or.inl ⟨by rfl, ?_⟩) ?_ ?_
              rotate_left
              · intro w'
                go_simp
                with_reducible rfl
              rotate_left
              · simp only [Act.put, List.setIfInBounds_toArray, List.set_cons_zero, List.set_cons_succ, i64_w, i32_w]
                rfl
              refine pure_ (i := 8) (N := some 24) (v := undef) (a' := ?_) #[true, true, true, true, true, true, true, true, true, false, false, false, false, false, false, false] rfl rfl (any_of HT_.out (by kernel_rfl)) (fun _ _ _ h => h) (Or.inr ⟨by rfl, rfl⟩) ?_ ?_
              rotate_left
              · simp only [Act.put, List.setIfInBounds_toArray, List.set_cons_zero, List.set_cons_succ, i64_w, i32_w]
                rfl
              refine pure_ (i := 9) (N := some 25) (v := undef) (a' := ?_) #[true, true, true, true, true, true, true, true, true, true, false, false, false, false, false, false] rfl rfl (any_of HT_.out (by kernel_rfl)) (fun _ _ _ h => h) (Or.inr ⟨by rfl, rfl⟩) ?_ ?_
              rotate_left
              · simp only [Act.put, List.setIfInBounds_toArray, List.set_cons_zero, List.set_cons_succ, i64_w, i32_w]
                rfl
              refine pure_ (i := 10) (N := some 26) (v := undef) (a' := ?_) #[true, true, true, true, true, true, true, true, true, true, true, false, false, false, false, false] rfl rfl (any_of HT_.out (by kernel_rfl)) (fun _ _ _ h => h) (Or.inr ⟨by rfl, rfl⟩) ?_ ?_
              rotate_left
              · simp only [Act.put, List.setIfInBounds_toArray, List.set_cons_zero, List.set_cons_succ, i64_w, i32_w]
                rfl
              refine pure_ (i := 11) (N := some 27) (v := undef) (a' := ?_) #[true, true, true, true, true, true, true, true, true, true, true, true, false, false, false, false] rfl rfl (any_of HT_.out (by kernel_rfl)) (fun _ _ _ h => h) (Or.inr ⟨by rfl, rfl⟩) ?_ ?_
              rotate_left
              · simp only [Act.put, List.setIfInBounds_toArray, List.set_cons_zero, List.set_cons_succ, i64_w, i32_w]
                rfl
              refine pure_ (i := 12) (N := some 28) (v := undef) (a' := ?_) #[true, true, true, true, true, true, true, true, true, true, true, true, true, false, false, false] rfl rfl (any_of HT_.out (by kernel_rfl)) (fun _ _ _ h => h) (Or.inr ⟨by rfl, rfl⟩) ?_ ?_
              rotate_left
              · simp only [Act.put, List.setIfInBounds_toArray, List.set_cons_zero, List.set_cons_succ, i64_w, i32_w]
                rfl
              refine pure_ (i := 13) (N := some 29) (v := undef) (a' := ?_) #[true, true, true, true, true, true, true, true, true, true, true, true, true, true, false, false] rfl rfl (any_of HT_.out (by kernel_rfl)) (fun _ _ _ h => h) (Or.inr ⟨by rfl, rfl⟩) ?_ ?_
              rotate_left
              · simp only [Act.put, List.setIfInBounds_toArray, List.set_cons_zero, List.set_cons_succ, i64_w, i32_w]
                rfl
              refine pure_ (i := 14) (N := some 30) (v := undef) (a' := ?_) #[true, true, true, true, true, true, true, true, true, true, true, true, true, true, true, false] rfl rfl (any_of HT_.out (by kernel_rfl)) (fun _ _ _ h => h) (Or.inr ⟨by rfl, rfl⟩) ?_ ?_
              rotate_left
              · simp only [Act.put, List.setIfInBounds_toArray, List.set_cons_zero, List.set_cons_succ, i64_w, i32_w]
                rfl
              refine pure_ (i := 15) (N := some 31) (v := ?_) (a' := ?_) #[true, true, true, true, true, true, true, true, true, true, true, true, true, true, true, true] rfl rfl (any_of HT_.out (by kernel_rfl)) (fun _ _ _ h => h) (Or.inl ⟨by rfl, ?_⟩) ?_ ?_
              rotate_left
              · intro w'
                go_simp
                with_reducible rfl
              rotate_left
              · simp only [Act.put, List.setIfInBounds_toArray, List.set_cons_zero, List.set_cons_succ, i64_w, i32_w]
                rfl
              refine done_ (done_of HT_.out (by kernel_rfl)) ?_
              try go_wp2
              go_meet
              case rel => exact ⟨_, (false), (by first | rfl | (simp; done) | (simp [*]; done)), H', ⟨by have := HK1.out; first | omega | exact Nat.le_refl _⟩, ⟨by (with_reducible repeat (first | apply Kd.R_alloc | apply Kd.R_drewN | apply Kd.R_drew)); exact HO_4.out⟩, ⟨by (with_reducible repeat (first | apply Kd.R_alloc | apply Kd.R_drewN | apply Kd.R_drew)); exact HO_5.out⟩, ⟨by (with_reducible repeat (first | refine blk_drewN ?_ _ | refine blk_drew ?_ | refine blk_alloc ?_ _)); exact BK361.out⟩, ⟨by (with_reducible repeat (first | refine blk_drewN ?_ _ | refine blk_drew ?_ | refine blk_alloc ?_ _)); exact BK362.out⟩, ⟨by repeat (first | (with_reducible first | exact HB.out | apply below_alloc | apply pw_below_drewN | apply below_drew1 | refine below_set ?_ GE361.out | refine below_set ?_ GE362.out) | exact HB.out)⟩⟩
          · rw [if_neg c11] at H
            exact absurd H (by simp)
        case rest =>
          clear HC9
          try clear c1
          try clear c2
          try clear p2
          try clear p3
          try clear q3
          try clear hx3
          try clear c8
          try clear c8b0
          try clear c11
          try clear c11b0
          try clear c12
          try clear c12b0
          try clear c12b1
          try clear hx369_0
          try clear p2
          try clear p369
          try clear q369
          obtain ⟨kq, x31_8, rfl, HA, HJ8, HO_4, HO_5, BK361, BK362, HB⟩ := hcut
          cases kq with
          | zero => exact absurd HA.out (by simp [inclineref21_Op.j1])
          | succ kj8 =>
            have H := HA.out
            clear HA
            simp only [inclineref21_Op.j1] at H
            by_cases c16 : x31_8 = true
            · subst c16
              have H1 : (if 0 ≤ x6_1 then (if x6_1 < (y366.length : Int) then (if 0 < (l0_1.length : Int) then (if (l0_1.length : Int) > 1 then (if 1 < (l0_1.length : Int) then (some (rd y366 x6_1, rd l0_1 0, rd l0_1 1, true)) else (none)) else (some (rd y366 x6_1, rd l0_1 0, 0, true))) else (none)) else (none)) else (none)) = some (r1, r2, r3, r4) := by rw [if_pos rfl] at H; exact H
              clear H
              have H := H1
              clear H1
              by_cases c17 : 0 ≤ x6_1
              · rw [if_pos c17] at H
                have c17b0 : decide (0 ≤ x6_1) = true := decide_eq_true c17
                clear c17
                by_cases c18 : x6_1 < (y366.length : Int)
                · rw [if_pos c18] at H
                  have c18b0 : decide (x6_1 < (y366.length : Int)) = true := decide_eq_true c18
                  clear c18
                  by_cases c19 : 0 < (l0_1.length : Int)
                  · rw [if_pos c19] at H
                    have c19b0 : decide (0 < (l0_1.length : Int)) = true := decide_eq_true c19
                    have c19b1 : decide (0 < l0_1.length) = true := decide_eq_true (by omega)
                    clear c19
                    by_cases c20 : (l0_1.length : Int) > 1
                    · rw [if_pos c20] at H
                      have c20b0 : decide (1 < (l0_1.length : Int)) = true := decide_eq_true c20
                      have c20b1 : decide (1 < l0_1.length) = true := decide_eq_true (by omega)
                      clear c20
                      by_cases c21 : 1 < (l0_1.length : Int)
                      · rw [if_pos c21] at H
                        have c21b0 : decide (1 < (l0_1.length : Int)) = true := decide_eq_true c21
                        have c21b1 : decide (1 < l0_1.length) = true := decide_eq_true (by omega)
                        clear c21
                        simp only [Option.some.injEq, Prod.mk.injEq] at H
                        obtain ⟨rfl, rfl, rfl, rfl⟩ := H
                        try go_wp2
                        have n0_ := Aside0.mk (Kd.R_drew HO_4.out)
                        have n1_ := Aside0.mk (Kd.R_drew HO_5.out)
                        have n2_ := Aside0.mk (blk_drew BK361.out)
                        have n3_ := Aside0.mk (blk_drew BK362.out)
                        have n4_ := Aside0.mk (below_drew1 HB.out)
                        clear HO_4
                        clear HO_5
                        clear BK361
                        clear BK362
                        clear HB
                        have HO_4 := n0_
                        have HO_5 := n1_
                        have BK361 := n2_
                        have BK362 := n3_
                        have HB := n4_
                        clear n0_ n1_ n2_ n3_ n4_
                        obtain ⟨Ao23, co23, eo23⟩ := Kd.R_slice HO_5.out
                        (first | subst eo23 | (injection eo23 with f1_ f2_ f3_; have f4_ := f1_.symm; have f5_ := f3_.symm; clear f1_ f2_ f3_; subst f4_; subst f5_))
                        have p371 : 0 ≤ (x6_1 : Int) := of_decide_eq_true (by first | (with_reducible assumption) | assumption)
                        have q371 : x6_1 < (y366.length : Int) := of_decide_eq_true (by first | (with_reducible assumption) | assumption)
                        obtain ⟨ad371, e371, hx371_0⟩ := Kd.at_int (Kd.R_reads' HO_5.out).2.2 x6_1 p371 q371
                        cases e371
                        replace p371 := eq_true p371
                        replace q371 := eq_true q371
                        have p372 : 0 ≤ (0 : Int) := (by omega)
                        have q372 : 0 < (l0_1.length : Int) := of_decide_eq_true (by first | (with_reducible assumption) | assumption)
                        obtain ⟨ad372, e372, hx372_0⟩ := Kd.at_int HR0_1.out 0 p372 q372
                        have hw372_0 := hx372_0
                        (try rw [show ((0 : Int)).toNat = 0 from rfl] at hw372_0)
                        (try rw [show 0 * 1 = 0 from rfl] at hw372_0)
                        (try rw [Addr.add_zero'] at hw372_0)
                        cases e372
                        have qi372 : (0 < l0_1.length) = True := eq_true (by omega)
                        (try rw [show ((0 : Int)).toNat = 0 from rfl] at hx372_0)
                        (try rw [Addr.add_zero'] at hx372_0)
                        replace hx372_0 := (HB.out.cell (World.block_lt_of_cell? w _ hx372_0)).trans hx372_0
                        replace p372 := eq_true p372
                        replace q372 := eq_true q372
                        refine start_ (n := 11) (S := fun w' => w'.cell? ⟨gb361, 0, none⟩ = some (.string a0_0) ∧ w'.cell? ⟨gb361, 1, none⟩ = some (.slice (some ad372) l0_1.length c0_1) ∧ w'.cell? (ad371.add (x6_1).toNat) = some (.int .i64 (rd y366 x6_1)) ∧ w'.cell? ad372 = some (.int .u64 (rd l0_1 0))) (ds := []) #[false, false, false, false, false, false, false, false, false, false, false] (by kernel_rfl) rfl rfl ⟨(blk_cell BK361.out 0).trans rfl, (blk_cell BK361.out 1).trans rfl, hx371_0, ((HB.out.cell (World.block_lt_of_cell? w _ hw372_0)).trans hw372_0)⟩ (fun hHeld => ?_); refine with_tabW inclineref21_Op.tab7 inclineref21_Op.bits7 (fun HT_ HW_ => ?_)
                        generalize wc.drew = w22 at HO_4 HO_5 BK361 BK362 HB hx371_0 hx372_0 hHeld ⊢
                        refine pure_ (i := 0) (N := some 32) (v := ?_) (a' := ?_) #[true, false, false, false, false, false, false, false, false, false, false] rfl rfl (any_of HT_.out (by kernel_rfl)) (fun _ _ _ h => h) (Or.inl ⟨by rfl, ?_⟩) ?_ ?_
                        rotate_left
                        · intro w'
                          go_simp
                          with_reducible rfl
                        rotate_left
                        · simp only [Act.put, List.setIfInBounds_toArray, List.set_cons_zero, List.set_cons_succ, i64_w, i32_w]
                          rfl
                        refine pure_ (i := 1) (N := some 33) (v := ?_) (a' := ?_) #[true, true, false, false, false, false, false, false, false, false, false] rfl rfl (any_of HT_.out (by kernel_rfl)) (fun _ _ _ h => h) (Or.inl ⟨by rfl, ?_⟩) ?_ ?_
                        rotate_left
                        · intro w'
                          go_simp
                          with_reducible rfl
                        rotate_left
                        · simp only [Act.put, List.setIfInBounds_toArray, List.set_cons_zero, List.set_cons_succ, i64_w, i32_w]
                          rfl
                        refine pure_ (i := 2) (N := some 34) (v := ?_) (a' := ?_) #[true, true, true, false, false, false, false, false, false, false, false] rfl rfl (any_of HT_.out (by kernel_rfl)) (fun _ _ _ h => h) (Or.inl ⟨by rfl, ?_⟩) ?_ ?_
                        rotate_left
                        · intro w'
                          go_simp
                          with_reducible rfl
                        rotate_left
                        · simp only [Act.put, List.setIfInBounds_toArray, List.set_cons_zero, List.set_cons_succ, i64_w, i32_w]
                          rfl
                        refine pure_ (i := 4) (N := some 36) (v := ?_) (a' := ?_) #[true, true, true, false, true, false, false, false, false, false, false] rfl rfl (any_of HT_.out (by kernel_rfl)) (fun _ _ _ h => h) (Or.inl ⟨by rfl, ?_⟩) ?_ ?_
                        rotate_left
                        · intro w'
                          go_simp
                          with_reducible rfl
                        rotate_left
                        · simp only [Act.put, List.setIfInBounds_toArray, List.set_cons_zero, List.set_cons_succ, i64_w, i32_w]
                          rfl
                        refine take_ (i := 3) (N := some 35) (v := ?_) (a' := ?_) #[true, true, true, true, true, false, false, false, false, false, false] rfl rfl (take_ofW HT_.out HW_.out (by kernel_rfl)) (fun _ _ _ h => h) (Or.inl ⟨by rfl, ?_⟩) hHeld ?_ ?_
                        rotate_left
                        · rintro w' ⟨s0, s1, s2, s3⟩
                          go_simp
                          with_reducible rfl
                        rotate_left
                        · simp only [Act.put, List.setIfInBounds_toArray, List.set_cons_zero, List.set_cons_succ, i64_w, i32_w]
                          rfl
                        refine take_ (i := 5) (N := some 37) (v := ?_) (a' := ?_) #[true, true, true, true, true, true, false, false, false, false, false] rfl rfl (take_ofW HT_.out HW_.out (by kernel_rfl)) (fun _ _ _ h => h) (Or.inl ⟨by rfl, ?_⟩) hHeld ?_ ?_
                        rotate_left
                        · rintro w' ⟨s0, s1, s2, s3⟩
                          go_simp
                          with_reducible rfl
                        rotate_left
                        · simp only [Act.put, List.setIfInBounds_toArray, List.set_cons_zero, List.set_cons_succ, i64_w, i32_w]
                          rfl
                        refine pure_ (i := 6) (N := some 38) (v := ?_) (a' := ?_) #[true, true, true, true, true, true, true, false, false, false, false] rfl rfl (any_of HT_.out (by kernel_rfl)) (fun _ _ _ h => h) (Or.inl ⟨by rfl, ?_⟩) ?_ ?_
                        rotate_left
                        · intro w'
                          go_simp
                          with_reducible rfl
                        rotate_left
                        · simp only [Act.put, List.setIfInBounds_toArray, List.set_cons_zero, List.set_cons_succ, i64_w, i32_w]
                          rfl
                        refine take_ (i := 7) (N := some 39) (v := ?_) (a' := ?_) #[true, true, true, true, true, true, true, true, false, false, false] rfl rfl (take_ofW HT_.out HW_.out (by kernel_rfl)) (fun _ _ _ h => h) (Or.inl ⟨by rfl, ?_⟩) hHeld ?_ ?_
                        rotate_left
                        · rintro w' ⟨s0, s1, s2, s3⟩
                          go_simp
                          with_reducible rfl
                        rotate_left
                        · simp only [Act.put, List.setIfInBounds_toArray, List.set_cons_zero, List.set_cons_succ, i64_w, i32_w]
                          rfl
                        refine pure_ (i := 8) (N := some 40) (v := ?_) (a' := ?_) #[true, true, true, true, true, true, true, true, true, false, false] rfl rfl (any_of HT_.out (by kernel_rfl)) (fun _ _ _ h => h) (Or.inl ⟨by rfl, ?_⟩) ?_ ?_
                        rotate_left
                        · intro w'
                          go_simp
                          with_reducible rfl
                        rotate_left
                        · simp only [Act.put, List.setIfInBounds_toArray, List.set_cons_zero, List.set_cons_succ, i64_w, i32_w]
                          rfl
                        refine one_ (i := 9) (N := some 7) #[true, true, true, true, true, true, true, true, true, true, false] rfl rfl (one_of HT_.out (by kernel_rfl)) (by decide) (fun K hK => ?_)
                        refine box_step ?hg (N := 7) ?hd (cs := #[.int .i64 0, .int .u64 0, .int .u64 0]) (t := 38) ?hr ?_; (case hd => rfl); (case hg => rfl); (case hr => first | (go_simp; done) | (go_simp; rfl))
                        intro gb373 hg w24 hbox hb
                        have HS2_ := (hb.cell (World.block_lt_of_cell? _ _ (hHeld.2.2.1))).trans (hHeld.2.2.1)
                        have n0_ := Aside0.mk (Kd.R_below (by (with_reducible repeat (first | apply Kd.R_alloc | apply Kd.R_drewN | apply Kd.R_drew)); exact HO_4.out) hb)
                        have n1_ := Aside0.mk (Kd.R_below (by (with_reducible repeat (first | apply Kd.R_alloc | apply Kd.R_drewN | apply Kd.R_drew)); exact HO_5.out) hb)
                        have n2_ := Aside0.mk (blk_below (g := gb361) (o := .cells #[.string a0_0, .slice (some ad372) l0_1.length c0_1] 30 (0, 0)) (by (with_reducible repeat (first | refine blk_drewN ?_ _ | refine blk_drew ?_ | refine blk_alloc ?_ _)); exact BK361.out) hb)
                        have n3_ := Aside0.mk (blk_below (g := gb362) (o := .cells #[.int .i64 x363000_1, .int .u64 x363001_1, .int .u64 x363002_1] 38 (0, 0)) (by (with_reducible repeat (first | refine blk_drewN ?_ _ | refine blk_drew ?_ | refine blk_alloc ?_ _)); exact BK362.out) hb)
                        have n4_ := Aside0.mk (below_step (by repeat (first | (with_reducible first | exact HB.out | apply below_alloc | apply pw_below_drewN | apply below_drew1 | refine below_set ?_ GE361.out | refine below_set ?_ GE362.out) | exact HB.out)) hb)
                        have n5_ := Aside0.mk (hbox)
                        have n6_ := Aside0.mk ((by rw [hg]; exact (below_size (by repeat (first | (with_reducible first | exact HB.out | apply below_alloc | apply pw_below_drewN | apply below_drew1 | refine below_set ?_ GE361.out | refine below_set ?_ GE362.out) | exact HB.out))) : w.heap.size ≤ gb373))
                        have n7_ := Aside0.mk ((by rw [hg]; exact (below_size (by repeat (first | (with_reducible first | exact HB.out | apply below_alloc | apply pw_below_drewN | apply below_drew1 | refine below_set ?_ GE361.out | refine below_set ?_ GE362.out) | exact HB.out))) : w.heap.size ≤ gb373))
                        have n8_ := Aside0.mk ((by rw [hg]; exact Nat.ne_of_lt (blk_lt (g := gb361) (o := .cells #[.string a0_0, .slice (some ad372) l0_1.length c0_1] 30 (0, 0)) (by (with_reducible repeat (first | refine blk_drewN ?_ _ | refine blk_drew ?_ | refine blk_alloc ?_ _)); exact BK361.out)) : gb361 ≠ gb373))
                        have n9_ := Aside0.mk ((by rw [hg]; exact Nat.ne_of_gt (blk_lt (g := gb361) (o := .cells #[.string a0_0, .slice (some ad372) l0_1.length c0_1] 30 (0, 0)) (by (with_reducible repeat (first | refine blk_drewN ?_ _ | refine blk_drew ?_ | refine blk_alloc ?_ _)); exact BK361.out)) : gb373 ≠ gb361))
                        have n10_ := Aside0.mk ((by rw [hg]; exact Nat.ne_of_lt (blk_lt (g := gb362) (o := .cells #[.int .i64 x363000_1, .int .u64 x363001_1, .int .u64 x363002_1] 38 (0, 0)) (by (with_reducible repeat (first | refine blk_drewN ?_ _ | refine blk_drew ?_ | refine blk_alloc ?_ _)); exact BK362.out)) : gb362 ≠ gb373))
                        have n11_ := Aside0.mk ((by rw [hg]; exact Nat.ne_of_gt (blk_lt (g := gb362) (o := .cells #[.int .i64 x363000_1, .int .u64 x363001_1, .int .u64 x363002_1] 38 (0, 0)) (by (with_reducible repeat (first | refine blk_drewN ?_ _ | refine blk_drew ?_ | refine blk_alloc ?_ _)); exact BK362.out)) : gb373 ≠ gb362))
                        clear HO_4
                        clear HO_5
                        clear BK361
                        clear BK362
                        clear HB
                        have HO_4 := n0_
                        have HO_5 := n1_
                        have BK361 := n2_
                        have BK362 := n3_
                        have HB := n4_
                        have BK373 := n5_
                        have GW373 := n6_
                        have GE373 := n7_
                        have NB361_373 := n8_
                        have NB373_361 := n9_
                        have NB362_373 := n10_
                        have NB373_362 := n11_
                        clear n0_ n1_ n2_ n3_ n4_ n5_ n6_ n7_ n8_ n9_ n10_ n11_
                        clear hb hbox hg
                        refine hK.out _ _ ⟨(blk_cell BK361.out 0).trans rfl, (blk_cell BK361.out 1).trans rfl, HS2_, ((HB.out.cell (World.block_lt_of_cell? w _ hw372_0)).trans hw372_0)⟩ (fun hHeld => ?_)
                        clear hK K
                        refine norm_ (a' := ?_) ?_ ?_
                        rotate_left
                        · show Act.put _ (some 7) _ = _
                          simp only [Act.put, List.setIfInBounds_toArray, List.set_cons_zero, List.set_cons_succ, i64_w, i32_w]
                          rfl
                        refine one_ (i := 10) (N := none) #[true, true, true, true, true, true, true, true, true, true, true] rfl rfl (one_of HT_.out (by kernel_rfl)) (by decide) (fun K hK => ?_)
                        have hs25 : w24.cell? ⟨gb373, 0, none⟩ = some (.int .i64 0) := (blk_cell BK373.out 0).trans rfl
                        have hfs25 := blk_frozen BK373.out 0
                        have hns25_0 := NB361_373.out
                        have hns25_1 := NB362_373.out
                        have hms25_0 := NB373_361.out
                        have hms25_1 := NB373_362.out
                        have hs26 : w24.cell? ⟨gb373, 1, none⟩ = some (.int .u64 0) := (blk_cell BK373.out 1).trans rfl
                        have hfs26 := blk_frozen BK373.out 1
                        have hns26_0 := NB361_373.out
                        have hns26_1 := NB362_373.out
                        have hms26_0 := NB373_361.out
                        have hms26_1 := NB373_362.out
                        have hs27 : w24.cell? ⟨gb373, 2, none⟩ = some (.int .u64 0) := (blk_cell BK373.out 2).trans rfl
                        have hfs27 := blk_frozen BK373.out 2
                        have hns27_0 := NB361_373.out
                        have hns27_1 := NB362_373.out
                        have hms27_0 := NB373_361.out
                        have hms27_1 := NB373_362.out
                        refine skip_ (w1 := ?_) (by rfl) rfl ?_ ?_
                        rotate_left
                        · go_simp
                          rfl
                        refine hK.out _ _ ⟨((cell_far (p := ⟨gb373, _, none⟩) NB361_373.out _).trans (((cell_far (p := ⟨gb373, _, none⟩) NB361_373.out _).trans (((cell_far (p := ⟨gb373, _, none⟩) NB361_373.out _).trans (hHeld.1)))))), ((cell_far (p := ⟨gb373, _, none⟩) NB361_373.out _).trans (((cell_far (p := ⟨gb373, _, none⟩) NB361_373.out _).trans (((cell_far (p := ⟨gb373, _, none⟩) NB361_373.out _).trans (hHeld.2.1)))))), ((cell_far (p := ⟨gb373, _, none⟩) (by first | exact Kd.own_blk (Kd.R_ne HO_5.out BK373.out (by decide)) | (rw [add_block]; exact Kd.own_blk (Kd.R_ne HO_5.out BK373.out (by decide))) | (show (Addr.add _ _).block ≠ _; rw [add_block]; exact Kd.own_blk (Kd.R_ne HO_5.out BK373.out (by decide))) | (dsimp only; exact Kd.own_blk (Kd.R_ne HO_5.out BK373.out (by decide)))) _).trans (((cell_far (p := ⟨gb373, _, none⟩) (by first | exact Kd.own_blk (Kd.R_ne HO_5.out BK373.out (by decide)) | (rw [add_block]; exact Kd.own_blk (Kd.R_ne HO_5.out BK373.out (by decide))) | (show (Addr.add _ _).block ≠ _; rw [add_block]; exact Kd.own_blk (Kd.R_ne HO_5.out BK373.out (by decide))) | (dsimp only; exact Kd.own_blk (Kd.R_ne HO_5.out BK373.out (by decide)))) _).trans (((cell_far (p := ⟨gb373, _, none⟩) (by first | exact Kd.own_blk (Kd.R_ne HO_5.out BK373.out (by decide)) | (rw [add_block]; exact Kd.own_blk (Kd.R_ne HO_5.out BK373.out (by decide))) | (show (Addr.add _ _).block ≠ _; rw [add_block]; exact Kd.own_blk (Kd.R_ne HO_5.out BK373.out (by decide))) | (dsimp only; exact Kd.own_blk (Kd.R_ne HO_5.out BK373.out (by decide)))) _).trans (hHeld.2.2.1)))))), ((cell_far (p := ⟨gb373, _, none⟩) (by first | exact Nat.ne_of_lt (Nat.lt_of_lt_of_le (by have := World.block_lt_of_cell? _ _ hw372_0; first | rwa [add_block] at this | exact this) GW373.out) | (rw [add_block]; exact Nat.ne_of_lt (Nat.lt_of_lt_of_le (by have := World.block_lt_of_cell? _ _ hw372_0; first | rwa [add_block] at this | exact this) GW373.out)) | (show (Addr.add _ _).block ≠ _; rw [add_block]; exact Nat.ne_of_lt (Nat.lt_of_lt_of_le (by have := World.block_lt_of_cell? _ _ hw372_0; first | rwa [add_block] at this | exact this) GW373.out)) | (dsimp only; exact Nat.ne_of_lt (Nat.lt_of_lt_of_le (by have := World.block_lt_of_cell? _ _ hw372_0; first | rwa [add_block] at this | exact this) GW373.out))) _).trans (((cell_far (p := ⟨gb373, _, none⟩) (by first | exact Nat.ne_of_lt (Nat.lt_of_lt_of_le (by have := World.block_lt_of_cell? _ _ hw372_0; first | rwa [add_block] at this | exact this) GW373.out) | (rw [add_block]; exact Nat.ne_of_lt (Nat.lt_of_lt_of_le (by have := World.block_lt_of_cell? _ _ hw372_0; first | rwa [add_block] at this | exact this) GW373.out)) | (show (Addr.add _ _).block ≠ _; rw [add_block]; exact Nat.ne_of_lt (Nat.lt_of_lt_of_le (by have := World.block_lt_of_cell? _ _ hw372_0; first | rwa [add_block] at this | exact this) GW373.out)) | (dsimp only; exact Nat.ne_of_lt (Nat.lt_of_lt_of_le (by have := World.block_lt_of_cell? _ _ hw372_0; first | rwa [add_block] at this | exact this) GW373.out))) _).trans (((cell_far (p := ⟨gb373, _, none⟩) (by first | exact Nat.ne_of_lt (Nat.lt_of_lt_of_le (by have := World.block_lt_of_cell? _ _ hw372_0; first | rwa [add_block] at this | exact this) GW373.out) | (rw [add_block]; exact Nat.ne_of_lt (Nat.lt_of_lt_of_le (by have := World.block_lt_of_cell? _ _ hw372_0; first | rwa [add_block] at this | exact this) GW373.out)) | (show (Addr.add _ _).block ≠ _; rw [add_block]; exact Nat.ne_of_lt (Nat.lt_of_lt_of_le (by have := World.block_lt_of_cell? _ _ hw372_0; first | rwa [add_block] at this | exact this) GW373.out)) | (dsimp only; exact Nat.ne_of_lt (Nat.lt_of_lt_of_le (by have := World.block_lt_of_cell? _ _ hw372_0; first | rwa [add_block] at this | exact this) GW373.out))) _).trans (hHeld.2.2.2))))))⟩ (fun hHeld => ?_)
                        clear hK K
                        refine done_ (done_of HT_.out (by kernel_rfl)) ?_
                        have hnb28 := NB361_362.out
                        have hnc28 := NB362_361.out
                        have hnb29 := NB361_373.out
                        have hnc29 := NB373_361.out
                        have hcz30_0 : w24.cell? ⟨gb361, 0, none⟩ = some (.string a0_0) := (blk_cell BK361.out 0).trans rfl
                        have hcz30_1 : w24.cell? ⟨gb361, 1, none⟩ = some (.slice (some ad372) l0_1.length c0_1) := (blk_cell BK361.out 1).trans rfl
                        have hfz30_0 := blk_frozen BK361.out 0
                        have hfz30_1 := blk_frozen BK361.out 1
                        have p374 : 0 ≤ (1 : Int) := (by omega)
                        have q374 : 1 < (l0_1.length : Int) := of_decide_eq_true (by first | (with_reducible assumption) | assumption)
                        obtain ⟨ad374, e374, hx374_0⟩ := Kd.at_int HR0_1.out 1 p374 q374
                        obtain rfl : ad372 = ad374 := (by injection e374)
                        (try simp only [show (1 : Int).toNat = 1 from rfl, Nat.reduceMul, Nat.reduceEqDiff, Go.Addr.add, ↓reduceIte] at hx374_0)
                        have qi374 : (1 < l0_1.length) = True := eq_true (by omega)
                        (try rw [show ((1 : Int)).toNat = 1 from rfl] at hx374_0)
                        have hn374_0 : ad372.block ≠ gb373 := Nat.ne_of_lt (Nat.lt_of_lt_of_le (by have := World.block_lt_of_cell? _ _ hx374_0; first | rwa [add_block] at this | exact this) GW373.out)
                        have hn374_1 : ad372.block ≠ gb373 := Nat.ne_of_lt (Nat.lt_of_lt_of_le (by have := World.block_lt_of_cell? _ _ hx374_0; first | rwa [add_block] at this | exact this) GW373.out)
                        have hn374_2 : ad372.block ≠ gb373 := Nat.ne_of_lt (Nat.lt_of_lt_of_le (by have := World.block_lt_of_cell? _ _ hx374_0; first | rwa [add_block] at this | exact this) GW373.out)
                        replace hx374_0 := (HB.out.cell (World.block_lt_of_cell? w _ hx374_0)).trans hx374_0
                        replace hx374_0 := (cell_far (p := ⟨gb373, 0, none⟩) (by first | (rw [add_block]; exact hn374_0) | (show (Addr.add _ _).block ≠ _; rw [add_block]; exact hn374_0) | exact hn374_0) (.int .i64 (rd y366 x6_1))).trans hx374_0
                        replace hx374_0 := (cell_far (p := ⟨gb373, 1, none⟩) (by first | (rw [add_block]; exact hn374_1) | (show (Addr.add _ _).block ≠ _; rw [add_block]; exact hn374_1) | exact hn374_1) (.int .u64 (rd l0_1 0))).trans hx374_0
                        replace hx374_0 := (cell_far (p := ⟨gb373, 2, none⟩) (by first | (rw [add_block]; exact hn374_2) | (show (Addr.add _ _).block ≠ _; rw [add_block]; exact hn374_2) | exact hn374_2) (.int .u64 0)).trans hx374_0
                        clear hn374_0
                        clear hn374_1
                        clear hn374_2
                        replace p374 := eq_true p374
                        replace q374 := eq_true q374
                        have hnb31 := NB373_362.out
                        have hnc31 := NB362_373.out
                        have hcz32_0 : w24.cell? ⟨gb373, 0, none⟩ = some (.int .i64 0) := (blk_cell BK373.out 0).trans rfl
                        have hcz32_1 : w24.cell? ⟨gb373, 1, none⟩ = some (.int .u64 0) := (blk_cell BK373.out 1).trans rfl
                        have hcz32_2 : w24.cell? ⟨gb373, 2, none⟩ = some (.int .u64 0) := (blk_cell BK373.out 2).trans rfl
                        have hfz32_0 := blk_frozen BK373.out 0
                        have hfz32_1 := blk_frozen BK373.out 1
                        have hfz32_2 := blk_frozen BK373.out 2
                        have hcz33_0 : w24.cell? ⟨gb362, 0, none⟩ = some (.int .i64 x363000_1) := (blk_cell BK362.out 0).trans rfl
                        have hcz33_1 : w24.cell? ⟨gb362, 1, none⟩ = some (.int .u64 x363001_1) := (blk_cell BK362.out 1).trans rfl
                        have hcz33_2 : w24.cell? ⟨gb362, 2, none⟩ = some (.int .u64 x363002_1) := (blk_cell BK362.out 2).trans rfl
                        have hfz33_0 := blk_frozen BK362.out 0
                        have hfz33_1 := blk_frozen BK362.out 1
                        have hfz33_2 := blk_frozen BK362.out 2
                        have hdbl : ((((w24.setCell ⟨gb373, 0, none⟩ (.int .i64 (rd y366 x6_1))).setCell ⟨gb373, 1, none⟩ (.int .u64 (rd l0_1 0))).setCell ⟨gb373, 2, none⟩ (.int .u64 0)).setCell ⟨gb373, 2, none⟩ (.int .u64 (rd l0_1 1))).cell? ⟨gb373, 2, none⟩ = some (.int .u64 (rd l0_1 1)) := (blk_cell (blk_put (blk_put (blk_put (blk_put BK373.out 0 (.int .i64 (rd y366 x6_1)) rfl) 1 (.int .u64 (rd l0_1 0)) rfl) 2 (.int .u64 0) rfl) 2 (.int .u64 (rd l0_1 1)) rfl) 2).trans rfl
                        try go_wp2
                        refine bodyPost_ret (results_ct rfl _ _ gb362 38 #[.int .i64 (rd y366 x6_1), .int .u64 (rd l0_1 0), .int .u64 (rd l0_1 1)] (0, 0) _ rfl (by (with_reducible repeat (first | refine blk_drewN ?_ _ | refine blk_drew ?_ | refine blk_alloc ?_ _)); refine blk_put (cs := #[.int .i64 (rd y366 x6_1), .int .u64 (rd l0_1 0), .int .u64 x363002_1]) ?_ 2 _ rfl; (with_reducible repeat (first | refine blk_drewN ?_ _ | refine blk_drew ?_ | refine blk_alloc ?_ _)); refine blk_put (cs := #[.int .i64 (rd y366 x6_1), .int .u64 x363001_1, .int .u64 x363002_1]) ?_ 1 _ rfl; (with_reducible repeat (first | refine blk_drewN ?_ _ | refine blk_drew ?_ | refine blk_alloc ?_ _)); refine blk_put (cs := #[.int .i64 x363000_1, .int .u64 x363001_1, .int .u64 x363002_1]) ?_ 0 _ rfl; (with_reducible repeat (first | refine blk_drewN ?_ _ | refine blk_drew ?_ | refine blk_alloc ?_ _)); refine blk_far ?_ NB362_373.out _; (with_reducible repeat (first | refine blk_drewN ?_ _ | refine blk_drew ?_ | refine blk_alloc ?_ _)); refine blk_far ?_ NB362_373.out _; (with_reducible repeat (first | refine blk_drewN ?_ _ | refine blk_drew ?_ | refine blk_alloc ?_ _)); refine blk_far ?_ NB362_373.out _; (with_reducible repeat (first | refine blk_drewN ?_ _ | refine blk_drew ?_ | refine blk_alloc ?_ _)); refine blk_far ?_ NB362_373.out _; (with_reducible repeat (first | refine blk_drewN ?_ _ | refine blk_drew ?_ | refine blk_alloc ?_ _)); exact BK362.out) Tryd.underlying38 rfl (by kernel_rfl)) rfl ?_
                        exact ⟨by first | rfl | (simp [errW_none, errW_some] <;> rfl) | (simp [*, errW_none, errW_some] <;> rfl), by repeat (first | (with_reducible first | exact HB.out | apply below_alloc | apply pw_below_drewN | apply below_drew1 | refine below_set ?_ GE361.out | refine below_set ?_ GE362.out | refine below_set ?_ GE373.out) | exact HB.out)⟩
                      · rw [if_neg c21] at H
                        exact absurd H (by simp)
                    · rw [if_neg c20] at H
                      have c20b0 : decide (1 < (l0_1.length : Int)) = false := decide_eq_false c20
                      have c20b1 : decide (1 < l0_1.length) = false := decide_eq_false (by omega)
                      clear c20
                      simp only [Option.some.injEq, Prod.mk.injEq] at H
                      obtain ⟨rfl, rfl, rfl, rfl⟩ := H
                      try go_wp2
                      have n0_ := Aside0.mk (Kd.R_drew HO_4.out)
                      have n1_ := Aside0.mk (Kd.R_drew HO_5.out)
                      have n2_ := Aside0.mk (blk_drew BK361.out)
                      have n3_ := Aside0.mk (blk_drew BK362.out)
                      have n4_ := Aside0.mk (below_drew1 HB.out)
                      clear HO_4
                      clear HO_5
                      clear BK361
                      clear BK362
                      clear HB
                      have HO_4 := n0_
                      have HO_5 := n1_
                      have BK361 := n2_
                      have BK362 := n3_
                      have HB := n4_
                      clear n0_ n1_ n2_ n3_ n4_
                      obtain ⟨Ao35, co35, eo35⟩ := Kd.R_slice HO_5.out
                      (first | subst eo35 | (injection eo35 with f1_ f2_ f3_; have f4_ := f1_.symm; have f5_ := f3_.symm; clear f1_ f2_ f3_; subst f4_; subst f5_))
                      have p371 : 0 ≤ (x6_1 : Int) := of_decide_eq_true (by first | (with_reducible assumption) | assumption)
                      have q371 : x6_1 < (y366.length : Int) := of_decide_eq_true (by first | (with_reducible assumption) | assumption)
                      obtain ⟨ad371, e371, hx371_0⟩ := Kd.at_int (Kd.R_reads' HO_5.out).2.2 x6_1 p371 q371
                      cases e371
                      replace p371 := eq_true p371
                      replace q371 := eq_true q371
                      have p372 : 0 ≤ (0 : Int) := (by omega)
                      have q372 : 0 < (l0_1.length : Int) := of_decide_eq_true (by first | (with_reducible assumption) | assumption)
                      obtain ⟨ad372, e372, hx372_0⟩ := Kd.at_int HR0_1.out 0 p372 q372
                      have hw372_0 := hx372_0
                      (try rw [show ((0 : Int)).toNat = 0 from rfl] at hw372_0)
                      (try rw [show 0 * 1 = 0 from rfl] at hw372_0)
                      (try rw [Addr.add_zero'] at hw372_0)
                      cases e372
                      have qi372 : (0 < l0_1.length) = True := eq_true (by omega)
                      (try rw [show ((0 : Int)).toNat = 0 from rfl] at hx372_0)
                      (try rw [Addr.add_zero'] at hx372_0)
                      replace hx372_0 := (HB.out.cell (World.block_lt_of_cell? w _ hx372_0)).trans hx372_0
                      replace p372 := eq_true p372
                      replace q372 := eq_true q372
                      refine start_ (n := 11) (S := fun w' => w'.cell? ⟨gb361, 0, none⟩ = some (.string a0_0) ∧ w'.cell? ⟨gb361, 1, none⟩ = some (.slice (some ad372) l0_1.length c0_1) ∧ w'.cell? (ad371.add (x6_1).toNat) = some (.int .i64 (rd y366 x6_1)) ∧ w'.cell? ad372 = some (.int .u64 (rd l0_1 0))) (ds := []) #[false, false, false, false, false, false, false, false, false, false, false] (by kernel_rfl) rfl rfl ⟨(blk_cell BK361.out 0).trans rfl, (blk_cell BK361.out 1).trans rfl, hx371_0, ((HB.out.cell (World.block_lt_of_cell? w _ hw372_0)).trans hw372_0)⟩ (fun hHeld => ?_); refine with_tabW inclineref21_Op.tab7 inclineref21_Op.bits7 (fun HT_ HW_ => ?_)
                      generalize wc.drew = w34 at HO_4 HO_5 BK361 BK362 HB hx371_0 hx372_0 hHeld ⊢
                      refine pure_ (i := 0) (N := some 32) (v := ?_) (a' := ?_) #[true, false, false, false, false, false, false, false, false, false, false] rfl rfl (any_of HT_.out (by kernel_rfl)) (fun _ _ _ h => h) (Or.inl ⟨by rfl, ?_⟩) ?_ ?_
                      rotate_left
                      · intro w'
                        go_simp
                        with_reducible rfl
                      rotate_left
                      · simp only [Act.put, List.setIfInBounds_toArray, List.set_cons_zero, List.set_cons_succ, i64_w, i32_w]
                        rfl
                      refine pure_ (i := 1) (N := some 33) (v := ?_) (a' := ?_) #[true, true, false, false, false, false, false, false, false, false, false] rfl rfl (any_of HT_.out (by kernel_rfl)) (fun _ _ _ h => h) (Or.inl ⟨by rfl, ?_⟩) ?_ ?_
                      rotate_left
                      · intro w'
                        go_simp
                        with_reducible rfl
                      rotate_left
                      · simp only [Act.put, List.setIfInBounds_toArray, List.set_cons_zero, List.set_cons_succ, i64_w, i32_w]
                        rfl
                      refine pure_ (i := 2) (N := some 34) (v := ?_) (a' := ?_) #[true, true, true, false, false, false, false, false, false, false, false] rfl rfl (any_of HT_.out (by kernel_rfl)) (fun _ _ _ h => h) (Or.inl ⟨by rfl, ?_⟩) ?_ ?_
                      rotate_left
                      · intro w'
                        go_simp
                        with_reducible rfl
                      rotate_left
                      · simp only [Act.put, List.setIfInBounds_toArray, List.set_cons_zero, List.set_cons_succ, i64_w, i32_w]
                        rfl
                      refine pure_ (i := 4) (N := some 36) (v := ?_) (a' := ?_) #[true, true, true, false, true, false, false, false, false, false, false] rfl rfl (any_of HT_.out (by kernel_rfl)) (fun _ _ _ h => h) (Or.inl ⟨by rfl, ?_⟩) ?_ ?_
                      rotate_left
                      · intro w'
                        go_simp
                        with_reducible rfl
                      rotate_left
                      · simp only [Act.put, List.setIfInBounds_toArray, List.set_cons_zero, List.set_cons_succ, i64_w, i32_w]
                        rfl
                      refine take_ (i := 3) (N := some 35) (v := ?_) (a' := ?_) #[true, true, true, true, true, false, false, false, false, false, false] rfl rfl (take_ofW HT_.out HW_.out (by kernel_rfl)) (fun _ _ _ h => h) (Or.inl ⟨by rfl, ?_⟩) hHeld ?_ ?_
                      rotate_left
                      · rintro w' ⟨s0, s1, s2, s3⟩
                        go_simp
                        with_reducible rfl
                      rotate_left
                      · simp only [Act.put, List.setIfInBounds_toArray, List.set_cons_zero, List.set_cons_succ, i64_w, i32_w]
                        rfl
                      refine take_ (i := 5) (N := some 37) (v := ?_) (a' := ?_) #[true, true, true, true, true, true, false, false, false, false, false] rfl rfl (take_ofW HT_.out HW_.out (by kernel_rfl)) (fun _ _ _ h => h) (Or.inl ⟨by rfl, ?_⟩) hHeld ?_ ?_
                      rotate_left
                      · rintro w' ⟨s0, s1, s2, s3⟩
                        go_simp
                        with_reducible rfl
                      rotate_left
                      · simp only [Act.put, List.setIfInBounds_toArray, List.set_cons_zero, List.set_cons_succ, i64_w, i32_w]
                        rfl
                      refine pure_ (i := 6) (N := some 38) (v := ?_) (a' := ?_) #[true, true, true, true, true, true, true, false, false, false, false] rfl rfl (any_of HT_.out (by kernel_rfl)) (fun _ _ _ h => h) (Or.inl ⟨by rfl, ?_⟩) ?_ ?_
                      rotate_left
                      · intro w'
                        go_simp
                        with_reducible rfl
                      rotate_left
                      · simp only [Act.put, List.setIfInBounds_toArray, List.set_cons_zero, List.set_cons_succ, i64_w, i32_w]
                        rfl
                      refine take_ (i := 7) (N := some 39) (v := ?_) (a' := ?_) #[true, true, true, true, true, true, true, true, false, false, false] rfl rfl (take_ofW HT_.out HW_.out (by kernel_rfl)) (fun _ _ _ h => h) (Or.inl ⟨by rfl, ?_⟩) hHeld ?_ ?_
                      rotate_left
                      · rintro w' ⟨s0, s1, s2, s3⟩
                        go_simp
                        with_reducible rfl
                      rotate_left
                      · simp only [Act.put, List.setIfInBounds_toArray, List.set_cons_zero, List.set_cons_succ, i64_w, i32_w]
                        rfl
                      refine pure_ (i := 8) (N := some 40) (v := ?_) (a' := ?_) #[true, true, true, true, true, true, true, true, true, false, false] rfl rfl (any_of HT_.out (by kernel_rfl)) (fun _ _ _ h => h) (Or.inl ⟨by rfl, ?_⟩) ?_ ?_
                      rotate_left
                      · intro w'
                        go_simp
                        with_reducible rfl
                      rotate_left
                      · simp only [Act.put, List.setIfInBounds_toArray, List.set_cons_zero, List.set_cons_succ, i64_w, i32_w]
                        rfl
                      refine one_ (i := 9) (N := some 7) #[true, true, true, true, true, true, true, true, true, true, false] rfl rfl (one_of HT_.out (by kernel_rfl)) (by decide) (fun K hK => ?_)
                      refine box_step ?hg (N := 7) ?hd (cs := #[.int .i64 0, .int .u64 0, .int .u64 0]) (t := 38) ?hr ?_; (case hd => rfl); (case hg => rfl); (case hr => first | (go_simp; done) | (go_simp; rfl))
                      intro gb373 hg w36 hbox hb
                      have HS2_ := (hb.cell (World.block_lt_of_cell? _ _ (hHeld.2.2.1))).trans (hHeld.2.2.1)
                      have n0_ := Aside0.mk (Kd.R_below (by (with_reducible repeat (first | apply Kd.R_alloc | apply Kd.R_drewN | apply Kd.R_drew)); exact HO_4.out) hb)
                      have n1_ := Aside0.mk (Kd.R_below (by (with_reducible repeat (first | apply Kd.R_alloc | apply Kd.R_drewN | apply Kd.R_drew)); exact HO_5.out) hb)
                      have n2_ := Aside0.mk (blk_below (g := gb361) (o := .cells #[.string a0_0, .slice (some ad372) l0_1.length c0_1] 30 (0, 0)) (by (with_reducible repeat (first | refine blk_drewN ?_ _ | refine blk_drew ?_ | refine blk_alloc ?_ _)); exact BK361.out) hb)
                      have n3_ := Aside0.mk (blk_below (g := gb362) (o := .cells #[.int .i64 x363000_1, .int .u64 x363001_1, .int .u64 x363002_1] 38 (0, 0)) (by (with_reducible repeat (first | refine blk_drewN ?_ _ | refine blk_drew ?_ | refine blk_alloc ?_ _)); exact BK362.out) hb)
                      have n4_ := Aside0.mk (below_step (by repeat (first | (with_reducible first | exact HB.out | apply below_alloc | apply pw_below_drewN | apply below_drew1 | refine below_set ?_ GE361.out | refine below_set ?_ GE362.out) | exact HB.out)) hb)
                      have n5_ := Aside0.mk (hbox)
                      have n6_ := Aside0.mk ((by rw [hg]; exact (below_size (by repeat (first | (with_reducible first | exact HB.out | apply below_alloc | apply pw_below_drewN | apply below_drew1 | refine below_set ?_ GE361.out | refine below_set ?_ GE362.out) | exact HB.out))) : w.heap.size ≤ gb373))
                      have n7_ := Aside0.mk ((by rw [hg]; exact (below_size (by repeat (first | (with_reducible first | exact HB.out | apply below_alloc | apply pw_below_drewN | apply below_drew1 | refine below_set ?_ GE361.out | refine below_set ?_ GE362.out) | exact HB.out))) : w.heap.size ≤ gb373))
                      have n8_ := Aside0.mk ((by rw [hg]; exact Nat.ne_of_lt (blk_lt (g := gb361) (o := .cells #[.string a0_0, .slice (some ad372) l0_1.length c0_1] 30 (0, 0)) (by (with_reducible repeat (first | refine blk_drewN ?_ _ | refine blk_drew ?_ | refine blk_alloc ?_ _)); exact BK361.out)) : gb361 ≠ gb373))
                      have n9_ := Aside0.mk ((by rw [hg]; exact Nat.ne_of_gt (blk_lt (g := gb361) (o := .cells #[.string a0_0, .slice (some ad372) l0_1.length c0_1] 30 (0, 0)) (by (with_reducible repeat (first | refine blk_drewN ?_ _ | refine blk_drew ?_ | refine blk_alloc ?_ _)); exact BK361.out)) : gb373 ≠ gb361))
                      have n10_ := Aside0.mk ((by rw [hg]; exact Nat.ne_of_lt (blk_lt (g := gb362) (o := .cells #[.int .i64 x363000_1, .int .u64 x363001_1, .int .u64 x363002_1] 38 (0, 0)) (by (with_reducible repeat (first | refine blk_drewN ?_ _ | refine blk_drew ?_ | refine blk_alloc ?_ _)); exact BK362.out)) : gb362 ≠ gb373))
                      have n11_ := Aside0.mk ((by rw [hg]; exact Nat.ne_of_gt (blk_lt (g := gb362) (o := .cells #[.int .i64 x363000_1, .int .u64 x363001_1, .int .u64 x363002_1] 38 (0, 0)) (by (with_reducible repeat (first | refine blk_drewN ?_ _ | refine blk_drew ?_ | refine blk_alloc ?_ _)); exact BK362.out)) : gb373 ≠ gb362))
                      clear HO_4
                      clear HO_5
                      clear BK361
                      clear BK362
                      clear HB
                      have HO_4 := n0_
                      have HO_5 := n1_
                      have BK361 := n2_
                      have BK362 := n3_
                      have HB := n4_
                      have BK373 := n5_
                      have GW373 := n6_
                      have GE373 := n7_
                      have NB361_373 := n8_
                      have NB373_361 := n9_
                      have NB362_373 := n10_
                      have NB373_362 := n11_
                      clear n0_ n1_ n2_ n3_ n4_ n5_ n6_ n7_ n8_ n9_ n10_ n11_
                      clear hb hbox hg
                      refine hK.out _ _ ⟨(blk_cell BK361.out 0).trans rfl, (blk_cell BK361.out 1).trans rfl, HS2_, ((HB.out.cell (World.block_lt_of_cell? w _ hw372_0)).trans hw372_0)⟩ (fun hHeld => ?_)
                      clear hK K
                      refine norm_ (a' := ?_) ?_ ?_
                      rotate_left
                      · show Act.put _ (some 7) _ = _
                        simp only [Act.put, List.setIfInBounds_toArray, List.set_cons_zero, List.set_cons_succ, i64_w, i32_w]
                        rfl
                      refine one_ (i := 10) (N := none) #[true, true, true, true, true, true, true, true, true, true, true] rfl rfl (one_of HT_.out (by kernel_rfl)) (by decide) (fun K hK => ?_)
                      have hs37 : w36.cell? ⟨gb373, 0, none⟩ = some (.int .i64 0) := (blk_cell BK373.out 0).trans rfl
                      have hfs37 := blk_frozen BK373.out 0
                      have hns37_0 := NB361_373.out
                      have hns37_1 := NB362_373.out
                      have hms37_0 := NB373_361.out
                      have hms37_1 := NB373_362.out
                      have hs38 : w36.cell? ⟨gb373, 1, none⟩ = some (.int .u64 0) := (blk_cell BK373.out 1).trans rfl
                      have hfs38 := blk_frozen BK373.out 1
                      have hns38_0 := NB361_373.out
                      have hns38_1 := NB362_373.out
                      have hms38_0 := NB373_361.out
                      have hms38_1 := NB373_362.out
                      have hs39 : w36.cell? ⟨gb373, 2, none⟩ = some (.int .u64 0) := (blk_cell BK373.out 2).trans rfl
                      have hfs39 := blk_frozen BK373.out 2
                      have hns39_0 := NB361_373.out
                      have hns39_1 := NB362_373.out
                      have hms39_0 := NB373_361.out
                      have hms39_1 := NB373_362.out
                      refine skip_ (w1 := ?_) (by rfl) rfl ?_ ?_
                      rotate_left
                      · go_simp
                        rfl
                      refine hK.out _ _ ⟨((cell_far (p := ⟨gb373, _, none⟩) NB361_373.out _).trans (((cell_far (p := ⟨gb373, _, none⟩) NB361_373.out _).trans (((cell_far (p := ⟨gb373, _, none⟩) NB361_373.out _).trans (hHeld.1)))))), ((cell_far (p := ⟨gb373, _, none⟩) NB361_373.out _).trans (((cell_far (p := ⟨gb373, _, none⟩) NB361_373.out _).trans (((cell_far (p := ⟨gb373, _, none⟩) NB361_373.out _).trans (hHeld.2.1)))))), ((cell_far (p := ⟨gb373, _, none⟩) (by first | exact Kd.own_blk (Kd.R_ne HO_5.out BK373.out (by decide)) | (rw [add_block]; exact Kd.own_blk (Kd.R_ne HO_5.out BK373.out (by decide))) | (show (Addr.add _ _).block ≠ _; rw [add_block]; exact Kd.own_blk (Kd.R_ne HO_5.out BK373.out (by decide))) | (dsimp only; exact Kd.own_blk (Kd.R_ne HO_5.out BK373.out (by decide)))) _).trans (((cell_far (p := ⟨gb373, _, none⟩) (by first | exact Kd.own_blk (Kd.R_ne HO_5.out BK373.out (by decide)) | (rw [add_block]; exact Kd.own_blk (Kd.R_ne HO_5.out BK373.out (by decide))) | (show (Addr.add _ _).block ≠ _; rw [add_block]; exact Kd.own_blk (Kd.R_ne HO_5.out BK373.out (by decide))) | (dsimp only; exact Kd.own_blk (Kd.R_ne HO_5.out BK373.out (by decide)))) _).trans (((cell_far (p := ⟨gb373, _, none⟩) (by first | exact Kd.own_blk (Kd.R_ne HO_5.out BK373.out (by decide)) | (rw [add_block]; exact Kd.own_blk (Kd.R_ne HO_5.out BK373.out (by decide))) | (show (Addr.add _ _).block ≠ _; rw [add_block]; exact Kd.own_blk (Kd.R_ne HO_5.out BK373.out (by decide))) | (dsimp only; exact Kd.own_blk (Kd.R_ne HO_5.out BK373.out (by decide)))) _).trans (hHeld.2.2.1)))))), ((cell_far (p := ⟨gb373, _, none⟩) (by first | exact Nat.ne_of_lt (Nat.lt_of_lt_of_le (by have := World.block_lt_of_cell? _ _ hw372_0; first | rwa [add_block] at this | exact this) GW373.out) | (rw [add_block]; exact Nat.ne_of_lt (Nat.lt_of_lt_of_le (by have := World.block_lt_of_cell? _ _ hw372_0; first | rwa [add_block] at this | exact this) GW373.out)) | (show (Addr.add _ _).block ≠ _; rw [add_block]; exact Nat.ne_of_lt (Nat.lt_of_lt_of_le (by have := World.block_lt_of_cell? _ _ hw372_0; first | rwa [add_block] at this | exact this) GW373.out)) | (dsimp only; exact Nat.ne_of_lt (Nat.lt_of_lt_of_le (by have := World.block_lt_of_cell? _ _ hw372_0; first | rwa [add_block] at this | exact this) GW373.out))) _).trans (((cell_far (p := ⟨gb373, _, none⟩) (by first | exact Nat.ne_of_lt (Nat.lt_of_lt_of_le (by have := World.block_lt_of_cell? _ _ hw372_0; first | rwa [add_block] at this | exact this) GW373.out) | (rw [add_block]; exact Nat.ne_of_lt (Nat.lt_of_lt_of_le (by have := World.block_lt_of_cell? _ _ hw372_0; first | rwa [add_block] at this | exact this) GW373.out)) | (show (Addr.add _ _).block ≠ _; rw [add_block]; exact Nat.ne_of_lt (Nat.lt_of_lt_of_le (by have := World.block_lt_of_cell? _ _ hw372_0; first | rwa [add_block] at this | exact this) GW373.out)) | (dsimp only; exact Nat.ne_of_lt (Nat.lt_of_lt_of_le (by have := World.block_lt_of_cell? _ _ hw372_0; first | rwa [add_block] at this | exact this) GW373.out))) _).trans (((cell_far (p := ⟨gb373, _, none⟩) (by first | exact Nat.ne_of_lt (Nat.lt_of_lt_of_le (by have := World.block_lt_of_cell? _ _ hw372_0; first | rwa [add_block] at this | exact this) GW373.out) | (rw [add_block]; exact Nat.ne_of_lt (Nat.lt_of_lt_of_le (by have := World.block_lt_of_cell? _ _ hw372_0; first | rwa [add_block] at this | exact this) GW373.out)) | (show (Addr.add _ _).block ≠ _; rw [add_block]; exact Nat.ne_of_lt (Nat.lt_of_lt_of_le (by have := World.block_lt_of_cell? _ _ hw372_0; first | rwa [add_block] at this | exact this) GW373.out)) | (dsimp only; exact Nat.ne_of_lt (Nat.lt_of_lt_of_le (by have := World.block_lt_of_cell? _ _ hw372_0; first | rwa [add_block] at this | exact this) GW373.out))) _).trans (hHeld.2.2.2))))))⟩ (fun hHeld => ?_)
                      clear hK K
                      refine done_ (done_of HT_.out (by kernel_rfl)) ?_
                      have hnb40 := NB361_362.out
                      have hnc40 := NB362_361.out
                      have hnb41 := NB361_373.out
                      have hnc41 := NB373_361.out
                      have hcz42_0 : w36.cell? ⟨gb361, 0, none⟩ = some (.string a0_0) := (blk_cell BK361.out 0).trans rfl
                      have hcz42_1 : w36.cell? ⟨gb361, 1, none⟩ = some (.slice (some ad372) l0_1.length c0_1) := (blk_cell BK361.out 1).trans rfl
                      have hfz42_0 := blk_frozen BK361.out 0
                      have hfz42_1 := blk_frozen BK361.out 1
                      have hnb43 := NB373_362.out
                      have hnc43 := NB362_373.out
                      have hcz44_0 : w36.cell? ⟨gb373, 0, none⟩ = some (.int .i64 0) := (blk_cell BK373.out 0).trans rfl
                      have hcz44_1 : w36.cell? ⟨gb373, 1, none⟩ = some (.int .u64 0) := (blk_cell BK373.out 1).trans rfl
                      have hcz44_2 : w36.cell? ⟨gb373, 2, none⟩ = some (.int .u64 0) := (blk_cell BK373.out 2).trans rfl
                      have hfz44_0 := blk_frozen BK373.out 0
                      have hfz44_1 := blk_frozen BK373.out 1
                      have hfz44_2 := blk_frozen BK373.out 2
                      have hcz45_0 : w36.cell? ⟨gb362, 0, none⟩ = some (.int .i64 x363000_1) := (blk_cell BK362.out 0).trans rfl
                      have hcz45_1 : w36.cell? ⟨gb362, 1, none⟩ = some (.int .u64 x363001_1) := (blk_cell BK362.out 1).trans rfl
                      have hcz45_2 : w36.cell? ⟨gb362, 2, none⟩ = some (.int .u64 x363002_1) := (blk_cell BK362.out 2).trans rfl
                      have hfz45_0 := blk_frozen BK362.out 0
                      have hfz45_1 := blk_frozen BK362.out 1
                      have hfz45_2 := blk_frozen BK362.out 2
                      try go_wp2
                      refine bodyPost_ret (results_ct rfl _ _ gb362 38 #[.int .i64 (rd y366 x6_1), .int .u64 (rd l0_1 0), .int .u64 0] (0, 0) _ rfl (by (with_reducible repeat (first | refine blk_drewN ?_ _ | refine blk_drew ?_ | refine blk_alloc ?_ _)); refine blk_put (cs := #[.int .i64 (rd y366 x6_1), .int .u64 (rd l0_1 0), .int .u64 x363002_1]) ?_ 2 _ rfl; (with_reducible repeat (first | refine blk_drewN ?_ _ | refine blk_drew ?_ | refine blk_alloc ?_ _)); refine blk_put (cs := #[.int .i64 (rd y366 x6_1), .int .u64 x363001_1, .int .u64 x363002_1]) ?_ 1 _ rfl; (with_reducible repeat (first | refine blk_drewN ?_ _ | refine blk_drew ?_ | refine blk_alloc ?_ _)); refine blk_put (cs := #[.int .i64 x363000_1, .int .u64 x363001_1, .int .u64 x363002_1]) ?_ 0 _ rfl; (with_reducible repeat (first | refine blk_drewN ?_ _ | refine blk_drew ?_ | refine blk_alloc ?_ _)); refine blk_far ?_ NB362_373.out _; (with_reducible repeat (first | refine blk_drewN ?_ _ | refine blk_drew ?_ | refine blk_alloc ?_ _)); refine blk_far ?_ NB362_373.out _; (with_reducible repeat (first | refine blk_drewN ?_ _ | refine blk_drew ?_ | refine blk_alloc ?_ _)); refine blk_far ?_ NB362_373.out _; (with_reducible repeat (first | refine blk_drewN ?_ _ | refine blk_drew ?_ | refine blk_alloc ?_ _)); exact BK362.out) Tryd.underlying38 rfl (by kernel_rfl)) rfl ?_
                      exact ⟨by first | rfl | (simp [errW_none, errW_some] <;> rfl) | (simp [*, errW_none, errW_some] <;> rfl), by repeat (first | (with_reducible first | exact HB.out | apply below_alloc | apply pw_below_drewN | apply below_drew1 | refine below_set ?_ GE361.out | refine below_set ?_ GE362.out | refine below_set ?_ GE373.out) | exact HB.out)⟩
                  · rw [if_neg c19] at H
                    exact absurd H (by simp)
                · rw [if_neg c18] at H
                  exact absurd H (by simp)
              · rw [if_neg c17] at H
                exact absurd H (by simp)
            · replace c16 := Bool.eq_false_iff.mpr c16
              subst c16
              have H1 : (inclineref21_Op.l0 kj8 y363 y366 (wrap64 (x6_1 + 1)) a0_0 l0_1) = some (r1, r2, r3, r4) := by rw [if_neg (show ¬ (false = true) by decide)] at H; exact H
              clear H
              have H := H1
              clear H1
              have H' := Aside0.mk H
              clear H
              go_wp2
              go_roundg kj8
              case measure => have := HK1.out; have := HJ8.out; omega
              case rel => exact ⟨(wrap64 (x6_1 + 1)), (x363000_1), (x363001_1), (x363002_1), (by first | rfl | (simp; done) | (simp [*]; done)), H', ⟨by have := HK1.out; have := HJ8.out; omega⟩, ⟨by (with_reducible repeat (first | apply Kd.R_alloc | apply Kd.R_drewN | apply Kd.R_drew)); exact HO_4.out⟩, ⟨by (with_reducible repeat (first | apply Kd.R_alloc | apply Kd.R_drewN | apply Kd.R_drew)); exact HO_5.out⟩, ⟨by (with_reducible repeat (first | refine blk_drewN ?_ _ | refine blk_drew ?_ | refine blk_alloc ?_ _)); exact BK361.out⟩, ⟨by (with_reducible repeat (first | refine blk_drewN ?_ _ | refine blk_drew ?_ | refine blk_alloc ?_ _)); exact BK362.out⟩, ⟨by repeat (first | (with_reducible first | exact HB.out | apply below_alloc | apply pw_below_drewN | apply below_drew1 | refine below_set ?_ GE361.out | refine below_set ?_ GE362.out) | exact HB.out)⟩⟩
      · rw [if_neg c8] at H
        have c8b0 : decide (x6_1 < (y363.length : Int)) = false := decide_eq_false c8
        clear c8
        simp only [Option.some.injEq, Prod.mk.injEq] at H
        obtain ⟨rfl, rfl, rfl, rfl⟩ := H
        obtain ⟨Ao46, co46, eo46⟩ := Kd.R_slice HO_4.out
        subst eo46
        have hnb47 := NB362_361.out
        have hnc47 := NB361_362.out
        have hcz48_0 : wr.cell? ⟨gb362, 0, none⟩ = some (.int .i64 x363000_1) := (blk_cell BK362.out 0).trans rfl
        have hcz48_1 : wr.cell? ⟨gb362, 1, none⟩ = some (.int .u64 x363001_1) := (blk_cell BK362.out 1).trans rfl
        have hcz48_2 : wr.cell? ⟨gb362, 2, none⟩ = some (.int .u64 x363002_1) := (blk_cell BK362.out 2).trans rfl
        have hfz48_0 := blk_frozen BK362.out 0
        have hfz48_1 := blk_frozen BK362.out 1
        have hfz48_2 := blk_frozen BK362.out 2
        go_wp2
        refine bodyPost_ret (results_ct rfl _ _ gb362 38 #[.int .i64 0, .int .u64 0, .int .u64 0] (0, 0) _ rfl (by (with_reducible repeat (first | refine blk_drewN ?_ _ | refine blk_drew ?_ | refine blk_alloc ?_ _)); refine blk_put (cs := #[.int .i64 0, .int .u64 0, .int .u64 x363002_1]) ?_ 2 _ rfl; (with_reducible repeat (first | refine blk_drewN ?_ _ | refine blk_drew ?_ | refine blk_alloc ?_ _)); refine blk_put (cs := #[.int .i64 0, .int .u64 x363001_1, .int .u64 x363002_1]) ?_ 1 _ rfl; (with_reducible repeat (first | refine blk_drewN ?_ _ | refine blk_drew ?_ | refine blk_alloc ?_ _)); refine blk_put (cs := #[.int .i64 x363000_1, .int .u64 x363001_1, .int .u64 x363002_1]) ?_ 0 _ rfl; (with_reducible repeat (first | refine blk_drewN ?_ _ | refine blk_drew ?_ | refine blk_alloc ?_ _)); exact BK362.out) Tryd.underlying38 rfl (by kernel_rfl)) rfl ?_
        exact ⟨by first | rfl | (simp [errW_none, errW_some] <;> rfl) | (simp [*, errW_none, errW_some] <;> rfl), by repeat (first | (with_reducible first | exact HB.out | apply below_alloc | apply pw_below_drewN | apply below_drew1 | refine below_set ?_ GE361.out | refine below_set ?_ GE362.out) | exact HB.out)⟩

end Go.Proofs.YtlfoaaeelcmhiaaDoor.G
end

section
-- Written by a program of this session (wip/gprint.py: the kit's print, with contracts proved by hand)
namespace Go.Proofs.YtlfoaaeelcmhiaaDoor.G
open Go.RowKit Go.Proofs.YtlfoaaeelcmhiaaDoorW.PrintWords Go.Proofs.YtlfoaaeelcmhiaaDoorW.PrintLast Go.Proofs.YtlfoaaeelcmhiaaDoorW.PrintMore
attribute [local go_sem] max2_int min2_int max_two min_two max_three min_three max_four min_four   -- for this text's walks alone
set_option linter.unusedVariables false
set_option linter.unusedSimpArgs false

attribute [local go_sem high] eqA38
/-! ### inclinelaw21_ScriptOps: function 5 -/
def inclinelaw21_ScriptOps.f (k : Nat) (a0_0 : ByteArray) (l0_1 : List Int) : Option (Bool) := (inclinelaw21_shown.f k).bind fun t376 => (if t376 = true then ((script_Op.f k a0_0 l0_1).bind fun bt377 => ((inclineref21_Op.f k a0_0 l0_1).bind fun bt382 => (if (bt377.1 == bt382.1 && (bt377.2.1 == bt382.2.1 && (bt377.2.2.1 == bt382.2.2.1))) = true then (some (bt377.2.2.2 == bt382.2.2.2)) else (none)))) else (none))
theorem inclinelaw21_ScriptOps.mono : ∀ a0 a1 k, LeO (inclinelaw21_ScriptOps.f k a0 a1) (inclinelaw21_ScriptOps.f (k + 1) a0 a1) := by
  intro a0 a1 k
  unfold inclinelaw21_ScriptOps.f
  repeat' first
      | (with_reducible exact inclinelaw21_shown.mono _)
      | (with_reducible exact inclineref21_Op.mono _ _ _)
      | (with_reducible exact script_Op.mono _ _ _)
      | (with_reducible exact LeO.refl _)
      | (with_reducible exact LeO.none _)
      | (with_reducible refine LeO.ite ?_ ?_)
      | (with_reducible refine LeO.bind ?_ (fun _ => ?_))
      | exact inclinelaw21_shown.mono _
      | exact inclineref21_Op.mono _ _ _
      | exact script_Op.mono _ _ _
      | exact LeO.none _
      | refine LeO.ite ?_ ?_
      | refine LeO.bind ?_ (fun _ => ?_)
set_option maxHeartbeats 8000000 in
set_option maxRecDepth 100000 in
theorem inclinelaw21_ScriptOps.calls (k : Nat) (a0_0 : ByteArray) (A0_1 : Option Addr) (c0_1 : Nat) (l0_1 : List Int) (r : Bool) (w : World) (hr0_1 : Kd.C (Kd.int .u64) w A0_1 l0_1.length l0_1) (hc0_1 : l0_1.length ≤ c0_1) (hT : Tabs w) (h : inclinelaw21_ScriptOps.f k a0_0 l0_1 = some r) :
    Calls Tryd.prog 5 #[.agg #[.string a0_0, .slice A0_1 l0_1.length c0_1]] w fun e w' => e = .returned (.bool r) ∧ Below w.heap.size w w' := by
  have HT := Aside0.mk hT
  clear hT
  have hu30 := Tryd.underlying30
  have hu38 := Tryd.underlying38
  have HR0_1 := Aside0.mk hr0_1
  have HC0_1 := Aside0.mk hc0_1
  clear hr0_1 hc0_1
  have HB := Aside0.mk (Below.refl w.heap.size w)
  have H : ((inclinelaw21_shown.f k).bind fun t376 => (if t376 = true then ((script_Op.f k a0_0 l0_1).bind fun bt377 => ((inclineref21_Op.f k a0_0 l0_1).bind fun bt382 => (if (bt377.1 == bt382.1 && (bt377.2.1 == bt382.2.1 && (bt377.2.2.1 == bt382.2.2.1))) = true then (some (bt377.2.2.2 == bt382.2.2.2)) else (none)))) else (none))) = some r := h
  clear h
  replace H := Option.bind_eq_some_iff.mp H
  obtain ⟨t376, A20, H⟩ := H
  replace H : (if t376 = true then ((script_Op.f k a0_0 l0_1).bind fun bt377 => ((inclineref21_Op.f k a0_0 l0_1).bind fun bt382 => (if (bt377.1 == bt382.1 && (bt377.2.1 == bt382.2.1 && (bt377.2.2.1 == bt382.2.2.1))) = true then (some (bt377.2.2.2 == bt382.2.2.2)) else (none)))) else (none)) = some r := H
  have A2 := Aside0.mk A20
  clear A20
  by_cases c3 : t376 = true
  · subst c3
    have H1 : ((script_Op.f k a0_0 l0_1).bind fun bt377 => ((inclineref21_Op.f k a0_0 l0_1).bind fun bt382 => (if (bt377.1 == bt382.1 && (bt377.2.1 == bt382.2.1 && (bt377.2.2.1 == bt382.2.2.1))) = true then (some (bt377.2.2.2 == bt382.2.2.2)) else (none)))) = some r := by rw [if_pos rfl] at H; exact H
    clear H
    have H := H1
    clear H1
    replace H := Option.bind_eq_some_iff.mp H
    obtain ⟨⟨t377, t378, t379, t380⟩, A40, H⟩ := H
    replace H : ((inclineref21_Op.f k a0_0 l0_1).bind fun bt382 => (if (t377 == bt382.1 && (t378 == bt382.2.1 && (t379 == bt382.2.2.1))) = true then (some (t380 == bt382.2.2.2)) else (none))) = some r := H
    have A4 := Aside0.mk A40
    clear A40
    replace H := Option.bind_eq_some_iff.mp H
    obtain ⟨⟨t382, t383, t384, t385⟩, A50, H⟩ := H
    replace H : (if (t377 == t382 && (t378 == t383 && (t379 == t384))) = true then (some (t380 == t385)) else (none)) = some r := H
    have A5 := Aside0.mk A50
    clear A50
    by_cases c6 : (t377 == t382 && (t378 == t383 && (t379 == t384))) = true
    · rw [if_pos c6] at H
      have c6b0 : (t377 == t382 && (t378 == t383 && (t379 == t384))) = true := c6
      (try (have c6b1 : decide (t377 = t382 && (t378 == t383 && (t379 == t384))) = true := by simpa using c6))
      (try (have c6b2 : (t377 == t382 && (t378 == t383 && (t379 == t384))) = true := by simpa using c6))
      clear c6
      obtain rfl := Option.some.inj H
      go_enter Tryd.func5, Tryd.ntmps5
      go_wp2_with (first | ((with_reducible refine gate_dst (N := 1) rfl ?_); refine box_event ?hg (N := 1) ?hd (cs := #[.string a0_0, .slice A0_1 l0_1.length c0_1]) (t := 30) ?hr ?_; (case hd => rfl); (case hg => rfl); (case hr => first | (go_simp; done) | (go_simp; rfl)); intro gb375 hg w7 hbox hb; have n0_ := Aside0.mk (below_step (by repeat (first | (with_reducible first | exact HB.out | apply below_alloc | apply pw_below_drewN | apply below_drew1) | exact HB.out)) hb); have n1_ := Aside0.mk (hbox); have n2_ := Aside0.mk ((by rw [hg]; exact (below_size (by repeat (first | (with_reducible first | exact HB.out | apply below_alloc | apply pw_below_drewN | apply below_drew1) | exact HB.out))) : w.heap.size ≤ gb375)); have n3_ := Aside0.mk ((by rw [hg]; exact (below_size (by repeat (first | (with_reducible first | exact HB.out | apply below_alloc | apply pw_below_drewN | apply below_drew1) | exact HB.out))) : w.heap.size ≤ gb375)); clear HB; have HB := n0_; have BK375 := n1_; have GW375 := n2_; have GE375 := n3_; clear n0_ n1_ n2_ n3_; clear hb hbox hg) | ((with_reducible refine gate_callee (f := 11) rfl ?_); refine goesL_ (some 8) rfl rfl Tryd.func11 (by kernel_rfl) rfl #[] rfl (by (try simp only [List.map_toArray, List.map_cons, List.map_nil]); first | done | rfl | (simp only [List.length_drop, List.length_take]; rfl)) ?_; (with_reducible refine (inclinelaw21_shown.calls k  true _ ?sideT A2.out).mono ?_); (case sideT => exact Tabs.keep HT.out (by repeat (first | (with_reducible first | exact HB.out | apply below_alloc | apply pw_below_drewN | apply below_drew1) | exact HB.out))); rintro e w8 ⟨rfl, hb⟩; refine ⟨_, rfl, ?_⟩; have n0_ := Aside0.mk (blk_below (g := gb375) (o := .cells #[.string a0_0, .slice A0_1 l0_1.length c0_1] 30 (0, 0)) (by (with_reducible repeat (first | refine blk_drewN ?_ _ | refine blk_drew ?_ | refine blk_alloc ?_ _)); exact BK375.out) hb); have n1_ := Aside0.mk (below_step (by repeat (first | (with_reducible first | exact HB.out | apply below_alloc | apply pw_below_drewN | apply below_drew1 | refine below_set ?_ GE375.out) | exact HB.out)) hb); clear BK375; clear HB; have BK375 := n0_; have HB := n1_; clear n0_ n1_; (try clear hb); (try clear hb2); (try clear hk); (try clear hi); have hcz9_0 : w8.cell? ⟨gb375, 0, none⟩ = some (.string a0_0) := (blk_cell BK375.out 0).trans rfl; have hcz9_1 : w8.cell? ⟨gb375, 1, none⟩ = some (.slice A0_1 l0_1.length c0_1) := (blk_cell BK375.out 1).trans rfl; have hfz9_0 := blk_frozen BK375.out 0; have hfz9_1 := blk_frozen BK375.out 1) | ((with_reducible refine gate_callee (f := 18) rfl ?_); refine goesL_ (some 13) rfl rfl Tryd.func18 (by kernel_rfl) rfl #[.agg #[.string a0_0, .slice A0_1 l0_1.length c0_1]] rfl (by (try simp only [List.map_toArray, List.map_cons, List.map_nil]); first | done | rfl | (simp only [List.length_drop, List.length_take]; rfl)) ?_; (with_reducible refine (script_Op.calls k a0_0 _ _ l0_1 t377 t378 t379 t380 _ ?side1 ?side2 A4.out).mono ?_); (case side1 => repeat (first | exact (Kd.C_below HR0_1.out HB.out) | (with_reducible refine Kd.C_alloc ?_ _) | (with_reducible refine Kd.C_drewN ?_ _) | (with_reducible refine Kd.C_drew ?_))); (case side2 => exact HC0_1.out); rintro e w10 ⟨rfl, hb⟩; refine ⟨_, rfl, ?_⟩; have n0_ := Aside0.mk (blk_below (g := gb375) (o := .cells #[.string a0_0, .slice A0_1 l0_1.length c0_1] 30 (0, 0)) (by (with_reducible repeat (first | refine blk_drewN ?_ _ | refine blk_drew ?_ | refine blk_alloc ?_ _)); exact BK375.out) hb); have n1_ := Aside0.mk (below_step (by repeat (first | (with_reducible first | exact HB.out | apply below_alloc | apply pw_below_drewN | apply below_drew1 | refine below_set ?_ GE375.out) | exact HB.out)) hb); clear BK375; clear HB; have BK375 := n0_; have HB := n1_; clear n0_ n1_; (try clear hb); (try clear hb2); (try clear hk); (try clear hi)) | ((with_reducible refine gate_dst (N := 4) rfl ?_); refine box_event ?hg (N := 4) ?hd (cs := #[.int .i64 0, .int .u64 0, .int .u64 0]) (t := 38) ?hr ?_; (case hd => rfl); (case hg => rfl); (case hr => first | (go_simp; done) | (go_simp; rfl)); intro gb381 hg w11 hbox hb; have n0_ := Aside0.mk (blk_below (g := gb375) (o := .cells #[.string a0_0, .slice A0_1 l0_1.length c0_1] 30 (0, 0)) (by (with_reducible repeat (first | refine blk_drewN ?_ _ | refine blk_drew ?_ | refine blk_alloc ?_ _)); exact BK375.out) hb); have n1_ := Aside0.mk (below_step (by repeat (first | (with_reducible first | exact HB.out | apply below_alloc | apply pw_below_drewN | apply below_drew1 | refine below_set ?_ GE375.out) | exact HB.out)) hb); have n2_ := Aside0.mk (hbox); have n3_ := Aside0.mk ((by rw [hg]; exact (below_size (by repeat (first | (with_reducible first | exact HB.out | apply below_alloc | apply pw_below_drewN | apply below_drew1 | refine below_set ?_ GE375.out) | exact HB.out))) : w.heap.size ≤ gb381)); have n4_ := Aside0.mk ((by rw [hg]; exact (below_size (by repeat (first | (with_reducible first | exact HB.out | apply below_alloc | apply pw_below_drewN | apply below_drew1 | refine below_set ?_ GE375.out) | exact HB.out))) : w.heap.size ≤ gb381)); have n5_ := Aside0.mk ((by rw [hg]; exact Nat.ne_of_lt (blk_lt (g := gb375) (o := .cells #[.string a0_0, .slice A0_1 l0_1.length c0_1] 30 (0, 0)) (by (with_reducible repeat (first | refine blk_drewN ?_ _ | refine blk_drew ?_ | refine blk_alloc ?_ _)); exact BK375.out)) : gb375 ≠ gb381)); have n6_ := Aside0.mk ((by rw [hg]; exact Nat.ne_of_gt (blk_lt (g := gb375) (o := .cells #[.string a0_0, .slice A0_1 l0_1.length c0_1] 30 (0, 0)) (by (with_reducible repeat (first | refine blk_drewN ?_ _ | refine blk_drew ?_ | refine blk_alloc ?_ _)); exact BK375.out)) : gb381 ≠ gb375)); clear BK375; clear HB; have BK375 := n0_; have HB := n1_; have BK381 := n2_; have GW381 := n3_; have GE381 := n4_; have NB375_381 := n5_; have NB381_375 := n6_; clear n0_ n1_ n2_ n3_ n4_ n5_ n6_; clear hb hbox hg; have hnb12 := NB381_375.out; have hnc12 := NB375_381.out; have hcz13_0 : w11.cell? ⟨gb381, 0, none⟩ = some (.int .i64 0) := (blk_cell BK381.out 0).trans rfl; have hcz13_1 : w11.cell? ⟨gb381, 1, none⟩ = some (.int .u64 0) := (blk_cell BK381.out 1).trans rfl; have hcz13_2 : w11.cell? ⟨gb381, 2, none⟩ = some (.int .u64 0) := (blk_cell BK381.out 2).trans rfl; have hfz13_0 := blk_frozen BK381.out 0; have hfz13_1 := blk_frozen BK381.out 1; have hfz13_2 := blk_frozen BK381.out 2; have hcz14_0 : w11.cell? ⟨gb375, 0, none⟩ = some (.string a0_0) := (blk_cell BK375.out 0).trans rfl; have hcz14_1 : w11.cell? ⟨gb375, 1, none⟩ = some (.slice A0_1 l0_1.length c0_1) := (blk_cell BK375.out 1).trans rfl; have hfz14_0 := blk_frozen BK375.out 0; have hfz14_1 := blk_frozen BK375.out 1) | ((with_reducible refine gate_callee (f := 19) rfl ?_); refine goesL_ (some 18) rfl rfl Tryd.func19 (by kernel_rfl) rfl #[.agg #[.string a0_0, .slice A0_1 l0_1.length c0_1]] rfl (by (try simp only [List.map_toArray, List.map_cons, List.map_nil]); first | done | rfl | (simp only [List.length_drop, List.length_take]; rfl)) ?_; (with_reducible refine (inclineref21_Op.calls k a0_0 _ _ l0_1 t382 t383 t384 t385 _ ?side1 ?side2 A5.out).mono ?_); (case side1 => exact Kd.C_below HR0_1.out (by repeat (first | (with_reducible first | exact HB.out | apply below_alloc | apply pw_below_drewN | apply below_drew1 | refine below_set ?_ GE375.out | refine below_set ?_ GE381.out) | exact HB.out))); (case side2 => exact HC0_1.out); rintro e w15 ⟨rfl, hb⟩; refine ⟨_, rfl, ?_⟩; have n0_ := Aside0.mk (blk_below (g := gb375) (o := .cells #[.string a0_0, .slice A0_1 l0_1.length c0_1] 30 (0, 0)) (by (with_reducible repeat (first | refine blk_drewN ?_ _ | refine blk_drew ?_ | refine blk_alloc ?_ _)); refine blk_far ?_ NB375_381.out _; (with_reducible repeat (first | refine blk_drewN ?_ _ | refine blk_drew ?_ | refine blk_alloc ?_ _)); refine blk_far ?_ NB375_381.out _; (with_reducible repeat (first | refine blk_drewN ?_ _ | refine blk_drew ?_ | refine blk_alloc ?_ _)); refine blk_far ?_ NB375_381.out _; (with_reducible repeat (first | refine blk_drewN ?_ _ | refine blk_drew ?_ | refine blk_alloc ?_ _)); exact BK375.out) hb); have n1_ := Aside0.mk (blk_below (g := gb381) (o := .cells #[.int .i64 t377, .int .u64 t378, .int .u64 t379] 38 (0, 0)) (by (with_reducible repeat (first | refine blk_drewN ?_ _ | refine blk_drew ?_ | refine blk_alloc ?_ _)); refine blk_put (cs := #[.int .i64 t377, .int .u64 t378, .int .u64 0]) ?_ 2 _ rfl; (with_reducible repeat (first | refine blk_drewN ?_ _ | refine blk_drew ?_ | refine blk_alloc ?_ _)); refine blk_put (cs := #[.int .i64 t377, .int .u64 0, .int .u64 0]) ?_ 1 _ rfl; (with_reducible repeat (first | refine blk_drewN ?_ _ | refine blk_drew ?_ | refine blk_alloc ?_ _)); refine blk_put (cs := #[.int .i64 0, .int .u64 0, .int .u64 0]) ?_ 0 _ rfl; (with_reducible repeat (first | refine blk_drewN ?_ _ | refine blk_drew ?_ | refine blk_alloc ?_ _)); exact BK381.out) hb); have n2_ := Aside0.mk (below_step (by repeat (first | (with_reducible first | exact HB.out | apply below_alloc | apply pw_below_drewN | apply below_drew1 | refine below_set ?_ GE375.out | refine below_set ?_ GE381.out) | exact HB.out)) hb); clear BK375; clear BK381; clear HB; have BK375 := n0_; have BK381 := n1_; have HB := n2_; clear n0_ n1_ n2_; (try clear hb); (try clear hb2); (try clear hk); (try clear hi)) | ((with_reducible refine gate_dst (N := 6) rfl ?_); refine box_event ?hg (N := 6) ?hd (cs := #[.int .i64 0, .int .u64 0, .int .u64 0]) (t := 38) ?hr ?_; (case hd => rfl); (case hg => rfl); (case hr => first | (go_simp; done) | (go_simp; rfl)); intro gb386 hg w16 hbox hb; have n0_ := Aside0.mk (blk_below (g := gb375) (o := .cells #[.string a0_0, .slice A0_1 l0_1.length c0_1] 30 (0, 0)) (by (with_reducible repeat (first | refine blk_drewN ?_ _ | refine blk_drew ?_ | refine blk_alloc ?_ _)); exact BK375.out) hb); have n1_ := Aside0.mk (blk_below (g := gb381) (o := .cells #[.int .i64 t377, .int .u64 t378, .int .u64 t379] 38 (0, 0)) (by (with_reducible repeat (first | refine blk_drewN ?_ _ | refine blk_drew ?_ | refine blk_alloc ?_ _)); exact BK381.out) hb); have n2_ := Aside0.mk (below_step (by repeat (first | (with_reducible first | exact HB.out | apply below_alloc | apply pw_below_drewN | apply below_drew1 | refine below_set ?_ GE375.out | refine below_set ?_ GE381.out) | exact HB.out)) hb); have n3_ := Aside0.mk (hbox); have n4_ := Aside0.mk ((by rw [hg]; exact (below_size (by repeat (first | (with_reducible first | exact HB.out | apply below_alloc | apply pw_below_drewN | apply below_drew1 | refine below_set ?_ GE375.out | refine below_set ?_ GE381.out) | exact HB.out))) : w.heap.size ≤ gb386)); have n5_ := Aside0.mk ((by rw [hg]; exact (below_size (by repeat (first | (with_reducible first | exact HB.out | apply below_alloc | apply pw_below_drewN | apply below_drew1 | refine below_set ?_ GE375.out | refine below_set ?_ GE381.out) | exact HB.out))) : w.heap.size ≤ gb386)); have n6_ := Aside0.mk ((by rw [hg]; exact Nat.ne_of_lt (blk_lt (g := gb375) (o := .cells #[.string a0_0, .slice A0_1 l0_1.length c0_1] 30 (0, 0)) (by (with_reducible repeat (first | refine blk_drewN ?_ _ | refine blk_drew ?_ | refine blk_alloc ?_ _)); exact BK375.out)) : gb375 ≠ gb386)); have n7_ := Aside0.mk ((by rw [hg]; exact Nat.ne_of_gt (blk_lt (g := gb375) (o := .cells #[.string a0_0, .slice A0_1 l0_1.length c0_1] 30 (0, 0)) (by (with_reducible repeat (first | refine blk_drewN ?_ _ | refine blk_drew ?_ | refine blk_alloc ?_ _)); exact BK375.out)) : gb386 ≠ gb375)); have n8_ := Aside0.mk ((by rw [hg]; exact Nat.ne_of_lt (blk_lt (g := gb381) (o := .cells #[.int .i64 t377, .int .u64 t378, .int .u64 t379] 38 (0, 0)) (by (with_reducible repeat (first | refine blk_drewN ?_ _ | refine blk_drew ?_ | refine blk_alloc ?_ _)); exact BK381.out)) : gb381 ≠ gb386)); have n9_ := Aside0.mk ((by rw [hg]; exact Nat.ne_of_gt (blk_lt (g := gb381) (o := .cells #[.int .i64 t377, .int .u64 t378, .int .u64 t379] 38 (0, 0)) (by (with_reducible repeat (first | refine blk_drewN ?_ _ | refine blk_drew ?_ | refine blk_alloc ?_ _)); exact BK381.out)) : gb386 ≠ gb381)); clear BK375; clear BK381; clear HB; have BK375 := n0_; have BK381 := n1_; have HB := n2_; have BK386 := n3_; have GW386 := n4_; have GE386 := n5_; have NB375_386 := n6_; have NB386_375 := n7_; have NB381_386 := n8_; have NB386_381 := n9_; clear n0_ n1_ n2_ n3_ n4_ n5_ n6_ n7_ n8_ n9_; clear hb hbox hg; have hnb17 := NB386_375.out; have hnc17 := NB375_386.out; have hnb18 := NB386_381.out; have hnc18 := NB381_386.out; have hcz19_0 : w16.cell? ⟨gb386, 0, none⟩ = some (.int .i64 0) := (blk_cell BK386.out 0).trans rfl; have hcz19_1 : w16.cell? ⟨gb386, 1, none⟩ = some (.int .u64 0) := (blk_cell BK386.out 1).trans rfl; have hcz19_2 : w16.cell? ⟨gb386, 2, none⟩ = some (.int .u64 0) := (blk_cell BK386.out 2).trans rfl; have hfz19_0 := blk_frozen BK386.out 0; have hfz19_1 := blk_frozen BK386.out 1; have hfz19_2 := blk_frozen BK386.out 2; have hcz20_0 : w16.cell? ⟨gb381, 0, none⟩ = some (.int .i64 t377) := (blk_cell BK381.out 0).trans rfl; have hcz20_1 : w16.cell? ⟨gb381, 1, none⟩ = some (.int .u64 t378) := (blk_cell BK381.out 1).trans rfl; have hcz20_2 : w16.cell? ⟨gb381, 2, none⟩ = some (.int .u64 t379) := (blk_cell BK381.out 2).trans rfl; have hfz20_0 := blk_frozen BK381.out 0; have hfz20_1 := blk_frozen BK381.out 1; have hfz20_2 := blk_frozen BK381.out 2))
      go_ret
      exact ⟨by first | rfl | (simp [errW_none, errW_some] <;> rfl) | (simp [*, errW_none, errW_some] <;> rfl), by repeat (first | (with_reducible first | exact HB.out | apply below_alloc | apply pw_below_drewN | apply below_drew1 | refine below_set ?_ GE375.out | refine below_set ?_ GE381.out | refine below_set ?_ GE386.out) | exact HB.out)⟩
    · rw [if_neg c6] at H
      exact absurd H (by simp)
  · replace c3 := Bool.eq_false_iff.mpr c3
    subst c3
    have H1 : (none) = some r := by rw [if_neg (show ¬ (false = true) by decide)] at H; exact H
    clear H
    have H := H1
    clear H1
    exact absurd H (by simp)

end Go.Proofs.YtlfoaaeelcmhiaaDoor.G
end

section
/- Plain laws, on: the operation of a command. -/
namespace Go.Proofs.YtlfoaaeelcmhiaaDoor.Pure
open Go.RowKit Go.Proofs.YtlfoaaeelcmhiaaDoor.G
open Go.Proofs.YtlfoaaeelcmhiaaDoorW.PrintWords hiding nums
set_option linter.unusedVariables false
set_option linter.unusedSimpArgs false
def kindTable : List (Bytes × Int) := [([112, 117, 116], 1), ([100, 101, 108], 2), ([103, 101, 116], 3), ([102, 108, 111, 111, 114], 4), ([99, 101, 105, 108], 5), ([114, 97, 110, 107], 6), ([114, 97, 110, 103, 101], 7)]
def opGo (w : Bytes) (ns : List Int) : List (Bytes × Int) → Int × Int × Int × Bool
  | [] => (0, 0, 0, false)
  | (v, kd) :: r => if v = w ∧ takesL w = (ns.length : Int) then (kd, rd ns 0, if 1 < ns.length then rd ns 1 else 0, true) else opGo w ns r
theorem refOp_l0 (w : ByteArray) (ns : List Int) (tb : List (Bytes × Int)) (htb : tb.length ≤ 100) (hpos : ∀ x ∈ tb, 0 < takesL x.1) : ∀ (d i k : Nat), tb.length = i + d → 2 * d + 10 ≤ k →
    inclineref21_Op.l0 k (tb.map fun x => mk x.1) (tb.map fun x => x.2) (i : Int) w ns = some (opGo (bl w) ns (tb.drop i)) := by
  intro d
  induction d with
  | zero =>
    intro i k h1 hk
    obtain ⟨k, rfl⟩ : ∃ m, k = m + 1 := ⟨k - 1, by omega⟩
    rw [inclineref21_Op.l0, if_neg (by rw [List.length_map]; omega), List.drop_eq_nil_of_le (by omega)]
    rfl
  | succ d ih =>
    intro i k h1 hk
    obtain ⟨k, rfl⟩ : ∃ m, k = m + 2 := ⟨k - 2, by omega⟩
    have hi : i < tb.length := by omega
    have hrd : rdOf ByteArray.empty (tb.map fun x => mk x.1) (i : Int) = mk tb[i].1 := by rw [rdOf_get _ _ i (by rw [List.length_map]; exact hi), List.getElem_map]
    have hrk : rd (tb.map fun x => x.2) (i : Int) = tb[i].2 := by rw [rd_get _ i (by rw [List.length_map]; exact hi), List.getElem_map]
    have e1 : (i : Int) + 1 = ((i + 1 : Nat) : Int) := rfl
    have hnext : inclineref21_Op.j1 (k + 1) (tb.map fun x => mk x.1) (tb.map fun x => x.2) (i : Int) false w ns = some (opGo (bl w) ns (tb.drop (i + 1))) := by
      rw [inclineref21_Op.j1, if_neg (by decide), w64 (by omega) (by omega), e1]
      exact ih (i + 1) k (by omega) (by omega)
    rw [List.drop_eq_getElem_cons hi, inclineref21_Op.l0, if_pos (by rw [List.length_map]; omega), if_pos (by omega), hrd, toList_bl, toList_bl, bl_mk]
    unfold opGo
    by_cases hw : tb[i].1 = bl w
    · rw [if_pos hw, refTakes_is (k + 1) (by omega), Option.bind_some]
      by_cases ht : takesL (bl w) = (ns.length : Int)
      · have hp := hpos _ (List.getElem_mem hi)
        rw [hw] at hp
        rw [if_pos ⟨hw, ht⟩, beq_iff_eq.2 ht, inclineref21_Op.j1, if_pos rfl, if_pos (by omega), if_pos (by rw [List.length_map]; omega), if_pos (by omega), hrk]
        by_cases h1' : 1 < ns.length
        · rw [if_pos (by omega), if_pos (by omega), if_pos h1']
        · rw [if_neg (by omega), if_neg h1']
      · rw [if_neg (fun h => ht h.2), beq_eq_false_iff_ne.2 ht]
        exact hnext
    · rw [if_neg hw, if_neg (fun h => hw h.1)]
      exact hnext
theorem refOp_is (w : ByteArray) (ns : List Int) (k : Nat) (hk : 30 ≤ k) : inclineref21_Op.f k w ns = some (opGo (bl w) ns kindTable) := by
  have hp : ∀ x ∈ kindTable, 0 < takesL x.1 := by decide
  exact refOp_l0 w ns kindTable (by decide) hp 7 0 k rfl (by omega)
theorem op_is (w : ByteArray) (ns : List Int) (k : Nat) (hk : 30 ≤ k) : script_Op.f k w ns = some (opGo (bl w) ns kindTable) := by
  obtain ⟨k, rfl⟩ : ∃ m, k = m + 1 := ⟨k - 1, by omega⟩
  have no : ∀ a b c : Int, script_Op.j0 (k + 1) true w ns a b c = some (0, 0, 0, false) := fun a b c => by rw [script_Op.j0, if_pos rfl]
  have yes : ∀ a : Int, 0 < ns.length → script_Op.j0 (k + 1) false w ns a 0 0 = some (a, rd ns 0, if 1 < ns.length then rd ns 1 else 0, true) := fun a h => by
    rw [script_Op.j0, if_neg (by decide), if_pos (by omega)]
    by_cases h1 : 1 < ns.length
    · rw [if_pos (by omega), if_pos (by omega), if_pos h1]
    · rw [if_neg (by omega), if_neg h1]
  unfold script_Op.f script_kind.f
  rw [takes_is _ (by omega)]
  simp only [toList_bl]
  generalize bl w = l
  have hmain : ∀ (kd n : Int), kd ≠ 0 → 0 < n → (if kd = 0 then script_Op.j0 (k + 1) true w ns kd 0 0 else script_Op.j0 (k + 1) ((ns.length : Int) != n) w ns kd 0 0) = some (if n = (ns.length : Int) then (kd, rd ns 0, if 1 < ns.length then rd ns 1 else 0, true) else (0, 0, 0, false)) := by
    intro kd n hk0 hn
    rw [if_neg hk0]
    by_cases h : n = (ns.length : Int)
    · rw [if_pos h, bne_eq_false_iff_eq.2 h.symm]; exact yes kd (by omega)
    · rw [if_neg h, bne_iff_ne.2 (fun e => h e.symm)]; exact no _ _ _
  induction l using takesL_cases
  case h e1 e2 e3 e4 e5 e6 e7 e8 e9 e10 e11 e12 =>
    simp only [if_neg e2, if_neg e5, if_neg e6, if_neg e7, if_neg e8, if_neg e9, if_neg e3, Option.bind_some]
    rw [if_pos trivial, no]
    simp [opGo, kindTable, Ne.symm e2, Ne.symm e3, Ne.symm e5, Ne.symm e6, Ne.symm e7, Ne.symm e8, Ne.symm e9]
  case h2 => exact (hmain 1 2 (by decide) (by decide)).trans (by simp [opGo, kindTable, takesL])
  case h3 => exact (hmain 7 2 (by decide) (by decide)).trans (by simp [opGo, kindTable, takesL])
  case h5 => exact (hmain 2 1 (by decide) (by decide)).trans (by simp [opGo, kindTable, takesL])
  case h6 => exact (hmain 3 1 (by decide) (by decide)).trans (by simp [opGo, kindTable, takesL])
  case h7 => exact (hmain 4 1 (by decide) (by decide)).trans (by simp [opGo, kindTable, takesL])
  case h8 => exact (hmain 5 1 (by decide) (by decide)).trans (by simp [opGo, kindTable, takesL])
  case h9 => exact (hmain 6 1 (by decide) (by decide)).trans (by simp [opGo, kindTable, takesL])
  all_goals exact no 0 0 0
theorem ScriptOps (w : ByteArray) (ns : List Int) : ∃ k, inclinelaw21_ScriptOps.f k w ns = some true := by
  obtain ⟨K, hK⟩ := shown_is
  refine ⟨K + 30, ?_⟩
  unfold inclinelaw21_ScriptOps.f
  rw [hK _ (by omega), Option.bind_some, if_pos rfl, op_is w ns _ (by omega), Option.bind_some, refOp_is w ns _ (by omega), Option.bind_some]
  simp
end Go.Proofs.YtlfoaaeelcmhiaaDoor.Pure
end

section
/- ScriptOps: its walk. -/
namespace Go.Proofs.YtlfoaaeelcmhiaaDoor
open Go.RowKit Go.Proofs.YtlfoaaeelcmhiaaDoor.Reading G
open Go.Proofs.YtlfoaaeelcmhiaaDoorW.PrintWords hiding nums
set_option linter.unusedVariables false
theorem Walks.ScriptOps {w : World} (hT : Tabs w) (cs0 : List Value) (x0 : S30) (hK0 : k30.K w x0 cs0) (hg0 : good30 x0) :
    Calls Tryd.prog 5 #[.agg cs0.toArray] w fun e w' => e = .returned (.bool true) ∧ Below w.heap.size w w' := by
  obtain ⟨A, c, rfl, hl, hC⟩ := k30_open hK0
  obtain ⟨k, hk⟩ := Pure.ScriptOps x0.f0 x0.f1
  exact inclinelaw21_ScriptOps.calls k _ A c _ true w hC hl hT hk
end Go.Proofs.YtlfoaaeelcmhiaaDoor
end

section
/- The row of ScriptOps: for every input the law answers true, and each argument reads as it did. Out of its walk (Walks.ScriptOps). -/
namespace Go.Proofs.YtlfoaaeelcmhiaaDoor.rowScriptOps
open Go.ChangeShapes Go.WideShapes Go.ChangeAt Go.RowKit Go.Proofs.YtlfoaaeelcmhiaaDoor.Reading
open Go.ChangeMaps (open_string shut_string)
set_option linter.unusedVariables false
theorem own : ownKnob Tryd.prog.godebug = none := by kernel_rfl
theorem laidOut : laidOutB Tryd.prog = true := by kernel_rfl
set_option maxRecDepth 100000 in
theorem contract (H : Type) (enc : TypeId × Value → H) (W : World) (base : Nat) (args : Array Value) (ds gs : List (DataW H)) (before : List MemPlace)
    (hval0 : ∀ (j : Nat) t v, Tryd.f5.params[j]? = some t → args[j]? = some v → Value.okWide Tryd.prog W .any base t v)
    (hW : DataW.Whole enc Tryd.prog Tryd.f5.params.toList Rows.scriptOpsSpec.vars false W args.toList ds gs before) (hL : laidMetH Tryd.prog Rows.scriptOpsRow.laid W)
    (hsz0 : (DataW.weightsEach Tryd.prog (Tryd.f5.params.toList ++ Rows.scriptOpsSpec.plain.varTypes Tryd.prog) (ds ++ gs)).all (· ≤ reachBytes) = true) :
    Calls Tryd.prog 5 args W fun e W' => ∃ v, e = .returned v ∧ Rows.scriptOpsSpec.post enc Tryd.prog Tryd.f5 false true false false W args v W' := by
  have hval := hval0
  have hsz := hsz0
  have hW' := hW
  obtain ⟨p, q, hA0, hV, rfl, hfz, hnd⟩ := hW
  have hA : DataW.TrodAll enc Tryd.prog W 0 (fun _ => true) true Tryd.f5.params.toList args.toList ds p := hA0
  rw [Tryd.params5] at hA hval hsz
  obtain ⟨v0, vs0, d0, ds0, p0, q0, hargs, rfl, rfl, h0, r0⟩ := trodAll_cons hA
  obtain ⟨rfl, rfl, rfl⟩ := trodAll_nil r0
  obtain rfl : args = #[v0] := by cases args; simp_all
  obtain ⟨rfl, rfl⟩ := trodVars_none hV
  have hwt := weights_at hsz
  have k0 := h0
  have lt0 : ∀ x ∈ p0, x.block < W.heap.size := by obtain ⟨m, hm⟩ := k0; exact DataW.trod_lt m _ _ _ hm
  have wt0 : ∀ n ∈ DataW.weights Tryd.prog 30 d0, n ≤ reach := fun n hn => hwt n (by simp only [List.cons_append, List.nil_append, List.append_nil, DataW.weightsEach, List.mem_append]; first | exact hn | exact (.inl hn) | exact hn)
  obtain ⟨cs0, x0, rfl, hK0, hg0, hb0⟩ := agg_top (okWide_struct' Tryd.underlying30 (hval 0 30 v0 rfl rfl)) (open30 enc W 0 (fun _ => true) true) h0 wt0
  clear hA0 hval0 hsz0 hsz
  refine (Walks.ScriptOps (tabs_of hL) cs0 x0 hK0 hg0).mono fun e W' ⟨he, bel⟩ => ?_
  subst he
  exact ⟨_, rfl, _, _, _, [], _, [], hW', trodAll_mk1 (shut_bool Tryd.underlying4 _), (trodAll_cons_mk (Below.trod laidOut (by kernel_rfl) (of_decide_eq_true (by kernel_rfl)) k0 bel lt0) trodAll_mk0), rfl, bel.frame _, fun h => by cases h⟩
set_option maxRecDepth 100000 in
theorem lifted (os : Os) (started : os.Started) (H : Type) (enc : TypeId × Value → H) (F : Stop.Interp) :
    ReturnsInHanded {} Tryd.checked os 5 .any ((OpenSpec.ofChange Rows.scriptOpsSpec).preRow enc Tryd.prog Tryd.f5 Rows.scriptOpsRow.domain false Rows.scriptOpsRow.laid) (((OpenSpec.ofChange Rows.scriptOpsSpec).at F).post enc Tryd.prog Tryd.f5 false true false false) := by
  obtain ⟨places, hx⟩ : ∃ places, DataW.whole enc Tryd.prog ((laidWorld os).forCall (fun _ _ => 0) ⟨#[], #[.agg #[.string ByteArray.empty, .slice none 0 0]], []⟩).memory Tryd.f5.params.toList Rows.scriptOpsSpec.vars false (#[.agg #[.string ByteArray.empty, .slice none 0 0]] : Array Value).toList 8 = some ([.agg [.lit (.string []), .nil]], [], places) := ⟨[], by kernel_rfl⟩
  refine returnsInHanded_of_row (C := Tryd.checked) (s := (OpenSpec.ofChange Rows.scriptOpsSpec)) own started (by kernel_rfl) Tryd.func5
    (witness_row_at (enc := enc) (C := Tryd.checked) false (laidWorld os) #[.agg #[.string ByteArray.empty, .slice none 0 0]] rfl (by kernel_rfl) (by kernel_rfl) (by kernel_rfl)
      (OpenSpec.preRow_of_cond 8 hx (by kernel_rfl) (fun k hk => by cases hk) (by kernel_rfl) (laid_met os _))) ?_
  intro W base args ds gs before hval hW _ hcond hsz hL _ _
  exact contract H enc W base args ds gs before hval hW hL hsz
theorem over : Rows.scriptOpsRow.holds Tryd.pinned (OpenSpec.ofChange Rows.scriptOpsSpec) :=
  OpenClaim.holds_of_cond 5 Tryd.f5 rfl rfl rfl rfl rfl rfl rfl ⟨rfl, rfl, rfl, rfl, rfl⟩ rfl rfl rfl rfl rfl (by kernel_rfl) Tryd.func5 (by kernel_rfl)
    (of_decide_eq_true (by kernel_rfl)) (by unfold Func.isWrapper; first | (rw [if_pos (by decide +kernel)]; kernel_rfl) | (rw [if_neg (by decide +kernel)]; exact ⟨rfl, rfl⟩))
    (fun os started H enc _ F => by rw [OpenClaim.pre_eq_preRow]; exact lifted os started H enc F)
theorem plain (f : FuncId) (fn : Func) (hf : Tryd.pinned.checked.prog.funcNamed "incline/inclinelaw21.ScriptOps" = some f) (hfn : Tryd.pinned.checked.prog.funcs[f]? = some fn) :
    false = Tryd.pinned.checked.prog.looks [] ∧ ∀ (j : Nat) t, fn.params[j]? = some t → Tryd.pinned.checked.prog.wantsStandIn t = false := by
  obtain rfl : f = 5 := Option.some.inj ((show Tryd.prog.funcNamed "incline/inclinelaw21.ScriptOps" = some 5 by kernel_rfl).symm.trans hf) |>.symm
  obtain rfl : fn = Tryd.f5 := (Option.some.inj (Tryd.func5.symm.trans hfn)).symm
  refine ⟨by kernel_rfl, fun j t ht => ?_⟩
  rw [Tryd.params5] at ht
  have hm : t ∈ [30] := by simpa using Array.mem_of_getElem? ht
  have hall : ([30].all fun u => !Tryd.prog.wantsStandIn u) = true := by kernel_rfl
  exact (show Tryd.prog.wantsStandIn t = false by simpa using List.all_eq_true.1 hall t hm)
end Go.Proofs.YtlfoaaeelcmhiaaDoor.rowScriptOps
namespace Go.Proofs.YtlfoaaeelcmhiaaDoor
/-- The card. -/
theorem scriptOps_holds : Rows.ScriptOpsCardSaid :=
  Claim7.holds_tied_plain_at .later [] _ _ _ _ rowScriptOps.over (fun _ h => by cases h) (by kernel_rfl) (fun _ h => by cases h) scriptOps_row_tie rfl ⟨rfl, rfl⟩ (by kernel_rfl) rfl rowScriptOps.plain (by kernel_rfl)
#print axioms scriptOps_holds
end Go.Proofs.YtlfoaaeelcmhiaaDoor
end
