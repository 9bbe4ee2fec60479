/- Some of the claim's own texts, in one file: Gx11, Gx12, Gx13, Gx14, Gx15, Gx16, Gx17, Gx, Shelf, TopF, TopM. Conditions: each theorem's own. -/
import Derived.Test.YtjlegggkibbkjaaZTop1
import Derived.Shelf.Small.Bits
import Derived.Shelf.Strconv.Itoa0
import Derived.Shelf.Bits.Mul64
import Derived.Test.YtjlegggkibbkjaaProg
import Derived.Lib.Agree
import Derived.KernelRfl
import Derived.WalkKit
import Derived.Below
import Derived.OwnWalk
import Derived.Deep.AppendLies
import Derived.Deep.Draws
import Derived.Laws.Rows
import Derived.Lib.Hide
import Derived.Laws.OwnMore
import Derived.Deep.OwnRows
section
-- Written by a program of this session (wip/gprint.py: the kit's print, with contracts proved by hand)
namespace Go.Proofs.Ytjlegggkibbkjaa.G
open Go.RowKit Go.Proofs.YtjlegggkibbkjaaW.PrintWords Go.Proofs.YtjlegggkibbkjaaW.PrintLast Go.Proofs.YtjlegggkibbkjaaW.PrintMore
attribute [local go_sem] max2_int min2_int max_two min_two max_three min_three max_four min_four   -- for this text's walks alone
set_option linter.unusedVariables false
set_option linter.unusedSimpArgs false

/-! ### hull_below: function 23 -/
def hull_below.f (a0_0 : Int) (a0_1 : Int) (a1_0 : Int) (a1_1 : Int) : Option (Bool) := if a1_1 = 0 then (some (a0_1 != 0)) else (if a0_1 = 0 then (some false) else ((wide_Times.f (wrap64 (a0_0)) a1_1).bind fun bt130 => ((wide_Times.f (wrap64 (a1_0)) a0_1).bind fun bt132 => ((wide_Cmp.f bt130.1 bt130.2 bt132.1 bt132.2).bind fun t134 => (some (decide (t134 < 0)))))))
def hull_below.T3 : Bool × List (List Nat × List Nat) := (true, [([], []), ([0], [0]), ([1], [1]), ([2], [2]), ([3], [3]), ([4, 3], [3, 4]), ([5, 3], [3, 5]), ([3], [3]), ([7, 3], [3, 7]), ([6, 8, 3, 3], [3, 6, 8]), ([3], [3]), ([10, 3], [3, 10]), ([11, 3], [3, 11]), ([3], [3]), ([13, 3], [3, 13]), ([12, 14, 9, 3], [3, 12, 14]), ([9, 15, 15, 3], [3, 9, 15]), ([16, 3], [3, 16]), ([3, 17], [3, 17]), ([18, 16, 0, 1, 2, 3, 4, 5, 6, 7, 8, 9, 10, 11, 12, 13, 14, 15, 16, 17, 18], [18])])
def hull_below.B3 : List Nat := [0, 1, 3, 7, 15, 31, 63, 15, 143, 511, 15, 1039, 3087, 15, 8207, 32767, 65535, 131071, 262143, 524287]
theorem hull_below.tab3 : rtab .any (opsOf Try.f23 3) = hull_below.T3 := by kernel_rfl
theorem hull_below.bits3 : waitsOk hull_below.T3.2 hull_below.B3 = true := by kernel_rfl
set_option maxHeartbeats 8000000 in
set_option maxRecDepth 100000 in
theorem hull_below.calls (a0_0 : Int) (a0_1 : Int) (a1_0 : Int) (a1_1 : Int) (r : Bool) (w : World) (h : hull_below.f a0_0 a0_1 a1_0 a1_1 = some r) :
    Calls Try.prog 23 #[.agg #[.int .u64 a0_0, .int .u64 a0_1], .agg #[.int .u64 a1_0, .int .u64 a1_1]] w fun e w' => e = .returned (.bool r) ∧ Below w.heap.size w w' := by
  have hu58 := Try.underlying58
  have HB := Aside0.mk (Below.refl w.heap.size w)
  have H : (if a1_1 = 0 then (some (a0_1 != 0)) else (if a0_1 = 0 then (some false) else ((wide_Times.f (wrap64 (a0_0)) a1_1).bind fun bt130 => ((wide_Times.f (wrap64 (a1_0)) a0_1).bind fun bt132 => ((wide_Cmp.f bt130.1 bt130.2 bt132.1 bt132.2).bind fun t134 => (some (decide (t134 < 0)))))))) = some r := h
  clear h
  by_cases c3 : a1_1 = 0
  · rw [if_pos c3] at H
    have c3b0 : (a1_1 == 0) = true := beq_iff_eq.mpr c3
    have c3b1 : (a1_1 != 0) = false := bne_eq_false_iff_eq.mpr c3
    clear c3
    obtain rfl := Option.some.inj H
    go_enter Try.func23, Try.ntmps23
    go_wp2_with (first | ((with_reducible refine gate_dst (N := 2) rfl ?_); refine box_event ?hg (N := 2) ?hd (cs := #[.int .u64 a0_0, .int .u64 a0_1]) (t := 58) ?hr ?_; (case hd => rfl); (case hg => rfl); (case hr => first | (go_simp; done) | (go_simp; rfl)); intro gb128 hg w4 hbox hb; have n0_ := Aside0.mk (below_step (by repeat (first | (with_reducible first | exact HB.out | apply below_alloc | apply pw_below_drewN | apply below_drew1) | exact HB.out)) hb); have n1_ := Aside0.mk (hbox); have n2_ := Aside0.mk ((by rw [hg]; exact (below_size (by repeat (first | (with_reducible first | exact HB.out | apply below_alloc | apply pw_below_drewN | apply below_drew1) | exact HB.out))) : w.heap.size ≤ gb128)); have n3_ := Aside0.mk ((by rw [hg]; exact (below_size (by repeat (first | (with_reducible first | exact HB.out | apply below_alloc | apply pw_below_drewN | apply below_drew1) | exact HB.out))) : w.heap.size ≤ gb128)); clear HB; have HB := n0_; have BK128 := n1_; have GW128 := n2_; have GE128 := n3_; clear n0_ n1_ n2_ n3_; clear hb hbox hg) | ((with_reducible refine gate_dst (N := 3) rfl ?_); refine box_event ?hg (N := 3) ?hd (cs := #[.int .u64 a1_0, .int .u64 a1_1]) (t := 58) ?hr ?_; (case hd => rfl); (case hg => rfl); (case hr => first | (go_simp; done) | (go_simp; rfl)); intro gb129 hg w5 hbox hb; have n0_ := Aside0.mk (blk_below (g := gb128) (o := .cells #[.int .u64 a0_0, .int .u64 a0_1] 58 (0, 0)) (by (with_reducible repeat (first | refine blk_drewN ?_ _ | refine blk_drew ?_ | refine blk_alloc ?_ _)); exact BK128.out) hb); have n1_ := Aside0.mk (below_step (by repeat (first | (with_reducible first | exact HB.out | apply below_alloc | apply pw_below_drewN | apply below_drew1 | refine below_set ?_ GE128.out) | exact HB.out)) hb); have n2_ := Aside0.mk (hbox); have n3_ := Aside0.mk ((by rw [hg]; exact (below_size (by repeat (first | (with_reducible first | exact HB.out | apply below_alloc | apply pw_below_drewN | apply below_drew1 | refine below_set ?_ GE128.out) | exact HB.out))) : w.heap.size ≤ gb129)); have n4_ := Aside0.mk ((by rw [hg]; exact (below_size (by repeat (first | (with_reducible first | exact HB.out | apply below_alloc | apply pw_below_drewN | apply below_drew1 | refine below_set ?_ GE128.out) | exact HB.out))) : w.heap.size ≤ gb129)); have n5_ := Aside0.mk ((by rw [hg]; exact Nat.ne_of_lt (blk_lt (g := gb128) (o := .cells #[.int .u64 a0_0, .int .u64 a0_1] 58 (0, 0)) (by (with_reducible repeat (first | refine blk_drewN ?_ _ | refine blk_drew ?_ | refine blk_alloc ?_ _)); exact BK128.out)) : gb128 ≠ gb129)); have n6_ := Aside0.mk ((by rw [hg]; exact Nat.ne_of_gt (blk_lt (g := gb128) (o := .cells #[.int .u64 a0_0, .int .u64 a0_1] 58 (0, 0)) (by (with_reducible repeat (first | refine blk_drewN ?_ _ | refine blk_drew ?_ | refine blk_alloc ?_ _)); exact BK128.out)) : gb129 ≠ gb128)); clear BK128; clear HB; have BK128 := n0_; have HB := n1_; have BK129 := n2_; have GW129 := n3_; have GE129 := n4_; have NB128_129 := n5_; have NB129_128 := n6_; clear n0_ n1_ n2_ n3_ n4_ n5_ n6_; clear hb hbox hg; have hnb6 := NB129_128.out; have hnc6 := NB128_129.out; have hcz7_0 : w5.cell? ⟨gb129, 0, none⟩ = some (.int .u64 a1_0) := (blk_cell BK129.out 0).trans rfl; have hcz7_1 : w5.cell? ⟨gb129, 1, none⟩ = some (.int .u64 a1_1) := (blk_cell BK129.out 1).trans rfl; have hfz7_0 := blk_frozen BK129.out 0; have hfz7_1 := blk_frozen BK129.out 1; have hcz8_0 : w5.cell? ⟨gb128, 0, none⟩ = some (.int .u64 a0_0) := (blk_cell BK128.out 0).trans rfl; have hcz8_1 : w5.cell? ⟨gb128, 1, none⟩ = some (.int .u64 a0_1) := (blk_cell BK128.out 1).trans rfl; have hfz8_0 := blk_frozen BK128.out 0; have hfz8_1 := blk_frozen BK128.out 1))
    go_ret
    exact ⟨by first | rfl | (simp [errW_none, errW_some] <;> rfl) | (simp [*, errW_none, errW_some] <;> rfl), by repeat (first | (with_reducible first | exact HB.out | apply below_alloc | apply pw_below_drewN | apply below_drew1 | refine below_set ?_ GE128.out | refine below_set ?_ GE129.out) | exact HB.out)⟩
  · rw [if_neg c3] at H
    have c3b0 : (a1_1 == 0) = false := beq_eq_false_iff_ne.mpr c3
    have c3b1 : (a1_1 != 0) = true := bne_iff_ne.mpr c3
    by_cases c9 : a0_1 = 0
    · rw [if_pos c9] at H
      have c9b0 : (a0_1 == 0) = true := beq_iff_eq.mpr c9
      have c9b1 : (a0_1 != 0) = false := bne_eq_false_iff_eq.mpr c9
      clear c9
      obtain rfl := Option.some.inj H
      go_enter Try.func23, Try.ntmps23
      try go_wp2_with (first | ((with_reducible refine gate_dst (N := 2) rfl ?_); refine box_event ?hg (N := 2) ?hd (cs := #[.int .u64 a0_0, .int .u64 a0_1]) (t := 58) ?hr ?_; (case hd => rfl); (case hg => rfl); (case hr => first | (go_simp; done) | (go_simp; rfl)); intro gb128 hg w10 hbox hb; have n0_ := Aside0.mk (below_step (by repeat (first | (with_reducible first | exact HB.out | apply below_alloc | apply pw_below_drewN | apply below_drew1) | exact HB.out)) hb); have n1_ := Aside0.mk (hbox); have n2_ := Aside0.mk ((by rw [hg]; exact (below_size (by repeat (first | (with_reducible first | exact HB.out | apply below_alloc | apply pw_below_drewN | apply below_drew1) | exact HB.out))) : w.heap.size ≤ gb128)); have n3_ := Aside0.mk ((by rw [hg]; exact (below_size (by repeat (first | (with_reducible first | exact HB.out | apply below_alloc | apply pw_below_drewN | apply below_drew1) | exact HB.out))) : w.heap.size ≤ gb128)); clear HB; have HB := n0_; have BK128 := n1_; have GW128 := n2_; have GE128 := n3_; clear n0_ n1_ n2_ n3_; clear hb hbox hg) | ((with_reducible refine gate_dst (N := 3) rfl ?_); refine box_event ?hg (N := 3) ?hd (cs := #[.int .u64 a1_0, .int .u64 a1_1]) (t := 58) ?hr ?_; (case hd => rfl); (case hg => rfl); (case hr => first | (go_simp; done) | (go_simp; rfl)); intro gb129 hg w11 hbox hb; have n0_ := Aside0.mk (blk_below (g := gb128) (o := .cells #[.int .u64 a0_0, .int .u64 a0_1] 58 (0, 0)) (by (with_reducible repeat (first | refine blk_drewN ?_ _ | refine blk_drew ?_ | refine blk_alloc ?_ _)); exact BK128.out) hb); have n1_ := Aside0.mk (below_step (by repeat (first | (with_reducible first | exact HB.out | apply below_alloc | apply pw_below_drewN | apply below_drew1 | refine below_set ?_ GE128.out) | exact HB.out)) hb); have n2_ := Aside0.mk (hbox); have n3_ := Aside0.mk ((by rw [hg]; exact (below_size (by repeat (first | (with_reducible first | exact HB.out | apply below_alloc | apply pw_below_drewN | apply below_drew1 | refine below_set ?_ GE128.out) | exact HB.out))) : w.heap.size ≤ gb129)); have n4_ := Aside0.mk ((by rw [hg]; exact (below_size (by repeat (first | (with_reducible first | exact HB.out | apply below_alloc | apply pw_below_drewN | apply below_drew1 | refine below_set ?_ GE128.out) | exact HB.out))) : w.heap.size ≤ gb129)); have n5_ := Aside0.mk ((by rw [hg]; exact Nat.ne_of_lt (blk_lt (g := gb128) (o := .cells #[.int .u64 a0_0, .int .u64 a0_1] 58 (0, 0)) (by (with_reducible repeat (first | refine blk_drewN ?_ _ | refine blk_drew ?_ | refine blk_alloc ?_ _)); exact BK128.out)) : gb128 ≠ gb129)); have n6_ := Aside0.mk ((by rw [hg]; exact Nat.ne_of_gt (blk_lt (g := gb128) (o := .cells #[.int .u64 a0_0, .int .u64 a0_1] 58 (0, 0)) (by (with_reducible repeat (first | refine blk_drewN ?_ _ | refine blk_drew ?_ | refine blk_alloc ?_ _)); exact BK128.out)) : gb129 ≠ gb128)); clear BK128; clear HB; have BK128 := n0_; have HB := n1_; have BK129 := n2_; have GW129 := n3_; have GE129 := n4_; have NB128_129 := n5_; have NB129_128 := n6_; clear n0_ n1_ n2_ n3_ n4_ n5_ n6_; clear hb hbox hg; have hnb12 := NB129_128.out; have hnc12 := NB128_129.out; have hcz13_0 : w11.cell? ⟨gb129, 0, none⟩ = some (.int .u64 a1_0) := (blk_cell BK129.out 0).trans rfl; have hcz13_1 : w11.cell? ⟨gb129, 1, none⟩ = some (.int .u64 a1_1) := (blk_cell BK129.out 1).trans rfl; have hfz13_0 := blk_frozen BK129.out 0; have hfz13_1 := blk_frozen BK129.out 1))
      have n0_ := Aside0.mk (blk_drew BK128.out)
      have n1_ := Aside0.mk (blk_drew BK129.out)
      have n2_ := Aside0.mk (below_drew1 HB.out)
      clear BK128
      clear BK129
      clear HB
      have BK128 := n0_
      have BK129 := n1_
      have HB := n2_
      clear n0_ n1_ n2_
      refine start_ (n := 20) (S := fun w' => w'.cell? ⟨gb128, 0, none⟩ = some (.int .u64 a0_0) ∧ w'.cell? ⟨gb128, 1, none⟩ = some (.int .u64 a0_1)) (ds := []) #[false, false, false, false, false, false, false, false, false, false, false, false, false, false, false, false, false, false, false, false] (by kernel_rfl) rfl rfl ⟨(blk_cell BK128.out 0).trans rfl, (blk_cell BK128.out 1).trans rfl⟩ (fun hHeld => ?_); refine with_tabW hull_below.tab3 hull_below.bits3 (fun HT_ HW_ => ?_)
      generalize w11.drew = w14 at BK128 BK129 HB hHeld ⊢
      refine pure_ (i := 0) (N := some 11) (v := ?_) (a' := ?_) #[true, false, false, false, false, false, false, false, false, false, false, false, false, false, false, false, false, false, false, false] rfl rfl (any_of HT_.out (by kernel_rfl)) (fun _ _ _ h => h) (Or.inl ⟨by rfl, ?_⟩) ?_ ?_
      rotate_left
      · intro w'
        go_simp
        with_reducible rfl
      rotate_left
      · simp only [Act.put, List.setIfInBounds_toArray, List.set_cons_zero, List.set_cons_succ, i64_w, i32_w]
        rfl
      refine take_ (i := 1) (N := some 12) (v := ?_) (a' := ?_) #[true, true, false, false, false, false, false, false, false, false, false, false, false, false, false, false, false, false, false, false] rfl rfl (take_ofW HT_.out HW_.out (by kernel_rfl)) (fun _ _ _ h => h) (Or.inl ⟨by rfl, ?_⟩) hHeld ?_ ?_
      rotate_left
      · rintro w' ⟨s0, s1⟩
        go_simp
        with_reducible rfl
      rotate_left
      · simp only [Act.put, List.setIfInBounds_toArray, List.set_cons_zero, List.set_cons_succ, i64_w, i32_w]
        rfl
      refine pure_ (i := 2) (N := some 13) (v := ?_) (a' := ?_) #[true, true, true, false, false, false, false, false, false, false, false, false, false, false, false, false, false, false, false, false] rfl rfl (any_of HT_.out (by kernel_rfl)) (fun _ _ _ h => h) (Or.inl ⟨by rfl, ?_⟩) ?_ ?_
      rotate_left
      · intro w'
        go_simp
        with_reducible rfl
      rotate_left
      · simp only [Act.put, List.setIfInBounds_toArray, List.set_cons_zero, List.set_cons_succ, i64_w, i32_w]
        rfl
      refine pure_ (i := 3) (N := some 14) (v := ?_) (a' := ?_) #[true, true, true, true, false, false, false, false, false, false, false, false, false, false, false, false, false, false, false, false] rfl rfl (any_of HT_.out (by kernel_rfl)) (fun _ _ _ h => h) (Or.inl ⟨by rfl, ?_⟩) ?_ ?_
      rotate_left
      · intro w'
        go_simp
        with_reducible rfl
      rotate_left
      · simp only [Act.put, List.setIfInBounds_toArray, List.set_cons_zero, List.set_cons_succ, i64_w, i32_w]
        rfl
      refine pure_ (i := 4) (N := some 15) (v := undef) (a' := ?_) #[true, true, true, true, true, false, false, false, false, false, false, false, false, false, false, false, false, false, false, false] rfl rfl (any_of HT_.out (by kernel_rfl)) (fun _ _ _ h => h) (Or.inr ⟨by rfl, rfl⟩) ?_ ?_
      rotate_left
      · simp only [Act.put, List.setIfInBounds_toArray, List.set_cons_zero, List.set_cons_succ, i64_w, i32_w]
        rfl
      refine pure_ (i := 5) (N := some 16) (v := undef) (a' := ?_) #[true, true, true, true, true, true, false, false, false, false, false, false, false, false, false, false, false, false, false, false] rfl rfl (any_of HT_.out (by kernel_rfl)) (fun _ _ _ h => h) (Or.inr ⟨by rfl, rfl⟩) ?_ ?_
      rotate_left
      · simp only [Act.put, List.setIfInBounds_toArray, List.set_cons_zero, List.set_cons_succ, i64_w, i32_w]
        rfl
      refine pure_ (i := 6) (N := some 17) (v := undef) (a' := ?_) #[true, true, true, true, true, true, true, false, false, false, false, false, false, false, false, false, false, false, false, false] rfl rfl (any_of HT_.out (by kernel_rfl)) (fun _ _ _ h => h) (Or.inr ⟨by rfl, rfl⟩) ?_ ?_
      rotate_left
      · simp only [Act.put, List.setIfInBounds_toArray, List.set_cons_zero, List.set_cons_succ, i64_w, i32_w]
        rfl
      refine pure_ (i := 7) (N := some 18) (v := undef) (a' := ?_) #[true, true, true, true, true, true, true, true, false, false, false, false, false, false, false, false, false, false, false, false] rfl rfl (any_of HT_.out (by kernel_rfl)) (fun _ _ _ h => h) (Or.inr ⟨by rfl, rfl⟩) ?_ ?_
      rotate_left
      · simp only [Act.put, List.setIfInBounds_toArray, List.set_cons_zero, List.set_cons_succ, i64_w, i32_w]
        rfl
      refine pure_ (i := 8) (N := some 19) (v := undef) (a' := ?_) #[true, true, true, true, true, true, true, true, true, false, false, false, false, false, false, false, false, false, false, false] rfl rfl (any_of HT_.out (by kernel_rfl)) (fun _ _ _ h => h) (Or.inr ⟨by rfl, rfl⟩) ?_ ?_
      rotate_left
      · simp only [Act.put, List.setIfInBounds_toArray, List.set_cons_zero, List.set_cons_succ, i64_w, i32_w]
        rfl
      refine pure_ (i := 9) (N := some 20) (v := undef) (a' := ?_) #[true, true, true, true, true, true, true, true, true, true, false, false, false, false, false, false, false, false, false, false] rfl rfl (any_of HT_.out (by kernel_rfl)) (fun _ _ _ h => h) (Or.inr ⟨by rfl, rfl⟩) ?_ ?_
      rotate_left
      · simp only [Act.put, List.setIfInBounds_toArray, List.set_cons_zero, List.set_cons_succ, i64_w, i32_w]
        rfl
      refine pure_ (i := 10) (N := some 21) (v := undef) (a' := ?_) #[true, true, true, true, true, true, true, true, true, true, true, false, false, false, false, false, false, false, false, false] rfl rfl (any_of HT_.out (by kernel_rfl)) (fun _ _ _ h => h) (Or.inr ⟨by rfl, rfl⟩) ?_ ?_
      rotate_left
      · simp only [Act.put, List.setIfInBounds_toArray, List.set_cons_zero, List.set_cons_succ, i64_w, i32_w]
        rfl
      refine pure_ (i := 11) (N := some 22) (v := undef) (a' := ?_) #[true, true, true, true, true, true, true, true, true, true, true, true, false, false, false, false, false, false, false, false] rfl rfl (any_of HT_.out (by kernel_rfl)) (fun _ _ _ h => h) (Or.inr ⟨by rfl, rfl⟩) ?_ ?_
      rotate_left
      · simp only [Act.put, List.setIfInBounds_toArray, List.set_cons_zero, List.set_cons_succ, i64_w, i32_w]
        rfl
      refine pure_ (i := 12) (N := some 23) (v := undef) (a' := ?_) #[true, true, true, true, true, true, true, true, true, true, true, true, true, false, false, false, false, false, false, false] rfl rfl (any_of HT_.out (by kernel_rfl)) (fun _ _ _ h => h) (Or.inr ⟨by rfl, rfl⟩) ?_ ?_
      rotate_left
      · simp only [Act.put, List.setIfInBounds_toArray, List.set_cons_zero, List.set_cons_succ, i64_w, i32_w]
        rfl
      refine pure_ (i := 13) (N := some 24) (v := undef) (a' := ?_) #[true, true, true, true, true, true, true, true, true, true, true, true, true, true, false, false, false, false, false, false] rfl rfl (any_of HT_.out (by kernel_rfl)) (fun _ _ _ h => h) (Or.inr ⟨by rfl, rfl⟩) ?_ ?_
      rotate_left
      · simp only [Act.put, List.setIfInBounds_toArray, List.set_cons_zero, List.set_cons_succ, i64_w, i32_w]
        rfl
      refine pure_ (i := 14) (N := some 25) (v := undef) (a' := ?_) #[true, true, true, true, true, true, true, true, true, true, true, true, true, true, true, false, false, false, false, false] rfl rfl (any_of HT_.out (by kernel_rfl)) (fun _ _ _ h => h) (Or.inr ⟨by rfl, rfl⟩) ?_ ?_
      rotate_left
      · simp only [Act.put, List.setIfInBounds_toArray, List.set_cons_zero, List.set_cons_succ, i64_w, i32_w]
        rfl
      refine pure_ (i := 15) (N := some 26) (v := undef) (a' := ?_) #[true, true, true, true, true, true, true, true, true, true, true, true, true, true, true, true, false, false, false, false] rfl rfl (any_of HT_.out (by kernel_rfl)) (fun _ _ _ h => h) (Or.inr ⟨by rfl, rfl⟩) ?_ ?_
      rotate_left
      · simp only [Act.put, List.setIfInBounds_toArray, List.set_cons_zero, List.set_cons_succ, i64_w, i32_w]
        rfl
      refine pure_ (i := 16) (N := some 27) (v := undef) (a' := ?_) #[true, true, true, true, true, true, true, true, true, true, true, true, true, true, true, true, true, false, false, false] rfl rfl (any_of HT_.out (by kernel_rfl)) (fun _ _ _ h => h) (Or.inr ⟨by rfl, rfl⟩) ?_ ?_
      rotate_left
      · simp only [Act.put, List.setIfInBounds_toArray, List.set_cons_zero, List.set_cons_succ, i64_w, i32_w]
        rfl
      refine pure_ (i := 17) (N := some 28) (v := undef) (a' := ?_) #[true, true, true, true, true, true, true, true, true, true, true, true, true, true, true, true, true, true, false, false] rfl rfl (any_of HT_.out (by kernel_rfl)) (fun _ _ _ h => h) (Or.inr ⟨by rfl, rfl⟩) ?_ ?_
      rotate_left
      · simp only [Act.put, List.setIfInBounds_toArray, List.set_cons_zero, List.set_cons_succ, i64_w, i32_w]
        rfl
      refine pure_ (i := 18) (N := some 29) (v := ?_) (a' := ?_) #[true, true, true, true, true, true, true, true, true, true, true, true, true, true, true, true, true, true, true, false] rfl rfl (any_of HT_.out (by kernel_rfl)) (fun _ _ _ h => h) (Or.inl ⟨by rfl, ?_⟩) ?_ ?_
      rotate_left
      · intro w'
        go_simp
        with_reducible rfl
      rotate_left
      · simp only [Act.put, List.setIfInBounds_toArray, List.set_cons_zero, List.set_cons_succ, i64_w, i32_w]
        rfl
      refine pure_ (i := 19) (N := some 4) (v := ?_) (a' := ?_) #[true, true, true, true, true, true, true, true, true, true, true, true, true, true, true, true, true, true, true, true] rfl rfl (any_of HT_.out (by kernel_rfl)) (fun _ _ _ h => h) (Or.inl ⟨by rfl, ?_⟩) ?_ ?_
      rotate_left
      · intro w'
        go_simp
        with_reducible rfl
      rotate_left
      · simp only [Act.put, List.setIfInBounds_toArray, List.set_cons_zero, List.set_cons_succ, i64_w, i32_w]
        rfl
      refine done_ (done_of HT_.out (by kernel_rfl)) ?_
      try go_wp2
      go_ret
      exact ⟨by first | rfl | (simp [errW_none, errW_some] <;> rfl) | (simp [*, errW_none, errW_some] <;> rfl), by repeat (first | (with_reducible first | exact HB.out | apply below_alloc | apply pw_below_drewN | apply below_drew1 | refine below_set ?_ GE128.out | refine below_set ?_ GE129.out) | exact HB.out)⟩
    · rw [if_neg c9] at H
      have c9b0 : (a0_1 == 0) = false := beq_eq_false_iff_ne.mpr c9
      have c9b1 : (a0_1 != 0) = true := bne_iff_ne.mpr c9
      replace H := Option.bind_eq_some_iff.mp H
      obtain ⟨⟨t130, t131⟩, A150, H⟩ := H
      replace H : ((wide_Times.f (wrap64 (a1_0)) a0_1).bind fun bt132 => ((wide_Cmp.f t130 t131 bt132.1 bt132.2).bind fun t134 => (some (decide (t134 < 0))))) = some r := H
      have A15 := Aside0.mk A150
      clear A150
      replace H := Option.bind_eq_some_iff.mp H
      obtain ⟨⟨t132, t133⟩, A160, H⟩ := H
      replace H : ((wide_Cmp.f t130 t131 t132 t133).bind fun t134 => (some (decide (t134 < 0)))) = some r := H
      have A16 := Aside0.mk A160
      clear A160
      replace H := Option.bind_eq_some_iff.mp H
      obtain ⟨t134, A170, H⟩ := H
      replace H : (some (decide (t134 < 0))) = some r := H
      have A17 := Aside0.mk A170
      clear A170
      obtain rfl := Option.some.inj H
      go_enter Try.func23, Try.ntmps23
      try go_wp2_with (first | ((with_reducible refine gate_dst (N := 2) rfl ?_); refine box_event ?hg (N := 2) ?hd (cs := #[.int .u64 a0_0, .int .u64 a0_1]) (t := 58) ?hr ?_; (case hd => rfl); (case hg => rfl); (case hr => first | (go_simp; done) | (go_simp; rfl)); intro gb128 hg w18 hbox hb; have n0_ := Aside0.mk (below_step (by repeat (first | (with_reducible first | exact HB.out | apply below_alloc | apply pw_below_drewN | apply below_drew1) | exact HB.out)) hb); have n1_ := Aside0.mk (hbox); have n2_ := Aside0.mk ((by rw [hg]; exact (below_size (by repeat (first | (with_reducible first | exact HB.out | apply below_alloc | apply pw_below_drewN | apply below_drew1) | exact HB.out))) : w.heap.size ≤ gb128)); have n3_ := Aside0.mk ((by rw [hg]; exact (below_size (by repeat (first | (with_reducible first | exact HB.out | apply below_alloc | apply pw_below_drewN | apply below_drew1) | exact HB.out))) : w.heap.size ≤ gb128)); clear HB; have HB := n0_; have BK128 := n1_; have GW128 := n2_; have GE128 := n3_; clear n0_ n1_ n2_ n3_; clear hb hbox hg) | ((with_reducible refine gate_dst (N := 3) rfl ?_); refine box_event ?hg (N := 3) ?hd (cs := #[.int .u64 a1_0, .int .u64 a1_1]) (t := 58) ?hr ?_; (case hd => rfl); (case hg => rfl); (case hr => first | (go_simp; done) | (go_simp; rfl)); intro gb129 hg w19 hbox hb; have n0_ := Aside0.mk (blk_below (g := gb128) (o := .cells #[.int .u64 a0_0, .int .u64 a0_1] 58 (0, 0)) (by (with_reducible repeat (first | refine blk_drewN ?_ _ | refine blk_drew ?_ | refine blk_alloc ?_ _)); exact BK128.out) hb); have n1_ := Aside0.mk (below_step (by repeat (first | (with_reducible first | exact HB.out | apply below_alloc | apply pw_below_drewN | apply below_drew1 | refine below_set ?_ GE128.out) | exact HB.out)) hb); have n2_ := Aside0.mk (hbox); have n3_ := Aside0.mk ((by rw [hg]; exact (below_size (by repeat (first | (with_reducible first | exact HB.out | apply below_alloc | apply pw_below_drewN | apply below_drew1 | refine below_set ?_ GE128.out) | exact HB.out))) : w.heap.size ≤ gb129)); have n4_ := Aside0.mk ((by rw [hg]; exact (below_size (by repeat (first | (with_reducible first | exact HB.out | apply below_alloc | apply pw_below_drewN | apply below_drew1 | refine below_set ?_ GE128.out) | exact HB.out))) : w.heap.size ≤ gb129)); have n5_ := Aside0.mk ((by rw [hg]; exact Nat.ne_of_lt (blk_lt (g := gb128) (o := .cells #[.int .u64 a0_0, .int .u64 a0_1] 58 (0, 0)) (by (with_reducible repeat (first | refine blk_drewN ?_ _ | refine blk_drew ?_ | refine blk_alloc ?_ _)); exact BK128.out)) : gb128 ≠ gb129)); have n6_ := Aside0.mk ((by rw [hg]; exact Nat.ne_of_gt (blk_lt (g := gb128) (o := .cells #[.int .u64 a0_0, .int .u64 a0_1] 58 (0, 0)) (by (with_reducible repeat (first | refine blk_drewN ?_ _ | refine blk_drew ?_ | refine blk_alloc ?_ _)); exact BK128.out)) : gb129 ≠ gb128)); clear BK128; clear HB; have BK128 := n0_; have HB := n1_; have BK129 := n2_; have GW129 := n3_; have GE129 := n4_; have NB128_129 := n5_; have NB129_128 := n6_; clear n0_ n1_ n2_ n3_ n4_ n5_ n6_; clear hb hbox hg; have hnb20 := NB129_128.out; have hnc20 := NB128_129.out; have hcz21_0 : w19.cell? ⟨gb129, 0, none⟩ = some (.int .u64 a1_0) := (blk_cell BK129.out 0).trans rfl; have hcz21_1 : w19.cell? ⟨gb129, 1, none⟩ = some (.int .u64 a1_1) := (blk_cell BK129.out 1).trans rfl; have hfz21_0 := blk_frozen BK129.out 0; have hfz21_1 := blk_frozen BK129.out 1))
      have n0_ := Aside0.mk (blk_drew BK128.out)
      have n1_ := Aside0.mk (blk_drew BK129.out)
      have n2_ := Aside0.mk (below_drew1 HB.out)
      clear BK128
      clear BK129
      clear HB
      have BK128 := n0_
      have BK129 := n1_
      have HB := n2_
      clear n0_ n1_ n2_
      refine start_ (n := 20) (S := fun w' => w'.cell? ⟨gb128, 0, none⟩ = some (.int .u64 a0_0) ∧ w'.cell? ⟨gb128, 1, none⟩ = some (.int .u64 a0_1) ∧ w'.cell? ⟨gb129, 0, none⟩ = some (.int .u64 a1_0) ∧ w'.cell? ⟨gb129, 1, none⟩ = some (.int .u64 a1_1)) (ds := []) #[false, false, false, false, false, false, false, false, false, false, false, false, false, false, false, false, false, false, false, false] (by kernel_rfl) rfl rfl ⟨(blk_cell BK128.out 0).trans rfl, (blk_cell BK128.out 1).trans rfl, (blk_cell BK129.out 0).trans rfl, (blk_cell BK129.out 1).trans rfl⟩ (fun hHeld => ?_); refine with_tabW hull_below.tab3 hull_below.bits3 (fun HT_ HW_ => ?_)
      generalize w19.drew = w22 at BK128 BK129 HB hHeld ⊢
      refine pure_ (i := 0) (N := some 11) (v := ?_) (a' := ?_) #[true, false, false, false, false, false, false, false, false, false, false, false, false, false, false, false, false, false, false, false] rfl rfl (any_of HT_.out (by kernel_rfl)) (fun _ _ _ h => h) (Or.inl ⟨by rfl, ?_⟩) ?_ ?_
      rotate_left
      · intro w'
        go_simp
        with_reducible rfl
      rotate_left
      · simp only [Act.put, List.setIfInBounds_toArray, List.set_cons_zero, List.set_cons_succ, i64_w, i32_w]
        rfl
      refine take_ (i := 1) (N := some 12) (v := ?_) (a' := ?_) #[true, true, false, false, false, false, false, false, false, false, false, false, false, false, false, false, false, false, false, false] rfl rfl (take_ofW HT_.out HW_.out (by kernel_rfl)) (fun _ _ _ h => h) (Or.inl ⟨by rfl, ?_⟩) hHeld ?_ ?_
      rotate_left
      · rintro w' ⟨s0, s1, s2, s3⟩
        go_simp
        with_reducible rfl
      rotate_left
      · simp only [Act.put, List.setIfInBounds_toArray, List.set_cons_zero, List.set_cons_succ, i64_w, i32_w]
        rfl
      refine pure_ (i := 2) (N := some 13) (v := ?_) (a' := ?_) #[true, true, true, false, false, false, false, false, false, false, false, false, false, false, false, false, false, false, false, false] rfl rfl (any_of HT_.out (by kernel_rfl)) (fun _ _ _ h => h) (Or.inl ⟨by rfl, ?_⟩) ?_ ?_
      rotate_left
      · intro w'
        go_simp
        with_reducible rfl
      rotate_left
      · simp only [Act.put, List.setIfInBounds_toArray, List.set_cons_zero, List.set_cons_succ, i64_w, i32_w]
        rfl
      refine pure_ (i := 3) (N := some 14) (v := ?_) (a' := ?_) #[true, true, true, true, false, false, false, false, false, false, false, false, false, false, false, false, false, false, false, false] rfl rfl (any_of HT_.out (by kernel_rfl)) (fun _ _ _ h => h) (Or.inl ⟨by rfl, ?_⟩) ?_ ?_
      rotate_left
      · intro w'
        go_simp
        with_reducible rfl
      rotate_left
      · simp only [Act.put, List.setIfInBounds_toArray, List.set_cons_zero, List.set_cons_succ, i64_w, i32_w]
        rfl
      refine pure_ (i := 4) (N := some 15) (v := ?_) (a' := ?_) #[true, true, true, true, true, false, false, false, false, false, false, false, false, false, false, false, false, false, false, false] rfl rfl (any_of HT_.out (by kernel_rfl)) (fun _ _ _ h => h) (Or.inl ⟨by rfl, ?_⟩) ?_ ?_
      rotate_left
      · intro w'
        go_simp
        with_reducible rfl
      rotate_left
      · simp only [Act.put, List.setIfInBounds_toArray, List.set_cons_zero, List.set_cons_succ, i64_w, i32_w]
        rfl
      refine pure_ (i := 7) (N := some 18) (v := ?_) (a' := ?_) #[true, true, true, true, true, false, false, true, false, false, false, false, false, false, false, false, false, false, false, false] rfl rfl (any_of HT_.out (by kernel_rfl)) (fun _ _ _ h => h) (Or.inl ⟨by rfl, ?_⟩) ?_ ?_
      rotate_left
      · intro w'
        go_simp
        with_reducible rfl
      rotate_left
      · simp only [Act.put, List.setIfInBounds_toArray, List.set_cons_zero, List.set_cons_succ, i64_w, i32_w]
        rfl
      refine pure_ (i := 10) (N := some 21) (v := ?_) (a' := ?_) #[true, true, true, true, true, false, false, true, false, false, true, false, false, false, false, false, false, false, false, false] rfl rfl (any_of HT_.out (by kernel_rfl)) (fun _ _ _ h => h) (Or.inl ⟨by rfl, ?_⟩) ?_ ?_
      rotate_left
      · intro w'
        go_simp
        with_reducible rfl
      rotate_left
      · simp only [Act.put, List.setIfInBounds_toArray, List.set_cons_zero, List.set_cons_succ, i64_w, i32_w]
        rfl
      refine pure_ (i := 13) (N := some 24) (v := ?_) (a' := ?_) #[true, true, true, true, true, false, false, true, false, false, true, false, false, true, false, false, false, false, false, false] rfl rfl (any_of HT_.out (by kernel_rfl)) (fun _ _ _ h => h) (Or.inl ⟨by rfl, ?_⟩) ?_ ?_
      rotate_left
      · intro w'
        go_simp
        with_reducible rfl
      rotate_left
      · simp only [Act.put, List.setIfInBounds_toArray, List.set_cons_zero, List.set_cons_succ, i64_w, i32_w]
        rfl
      refine take_ (i := 5) (N := some 16) (v := ?_) (a' := ?_) #[true, true, true, true, true, true, false, true, false, false, true, false, false, true, false, false, false, false, false, false] rfl rfl (take_ofW HT_.out HW_.out (by kernel_rfl)) (fun _ _ _ h => h) (Or.inl ⟨by rfl, ?_⟩) hHeld ?_ ?_
      rotate_left
      · rintro w' ⟨s0, s1, s2, s3⟩
        go_simp
        with_reducible rfl
      rotate_left
      · simp only [Act.put, List.setIfInBounds_toArray, List.set_cons_zero, List.set_cons_succ, i64_w, i32_w]
        rfl
      refine pure_ (i := 6) (N := some 17) (v := ?_) (a' := ?_) #[true, true, true, true, true, true, true, true, false, false, true, false, false, true, false, false, false, false, false, false] rfl rfl (any_of HT_.out (by kernel_rfl)) (fun _ _ _ h => h) (Or.inl ⟨by rfl, ?_⟩) ?_ ?_
      rotate_left
      · intro w'
        go_simp
        with_reducible rfl
      rotate_left
      · simp only [Act.put, List.setIfInBounds_toArray, List.set_cons_zero, List.set_cons_succ, i64_w, i32_w]
        rfl
      refine take_ (i := 8) (N := some 19) (v := ?_) (a' := ?_) #[true, true, true, true, true, true, true, true, true, false, true, false, false, true, false, false, false, false, false, false] rfl rfl (take_ofW HT_.out HW_.out (by kernel_rfl)) (fun _ _ _ h => h) (Or.inl ⟨by rfl, ?_⟩) hHeld ?_ ?_
      rotate_left
      · rintro w' ⟨s0, s1, s2, s3⟩
        go_simp
        with_reducible rfl
      rotate_left
      · simp only [Act.put, List.setIfInBounds_toArray, List.set_cons_zero, List.set_cons_succ, i64_w, i32_w]
        rfl
      refine take_ (i := 11) (N := some 22) (v := ?_) (a' := ?_) #[true, true, true, true, true, true, true, true, true, false, true, true, false, true, false, false, false, false, false, false] rfl rfl (take_ofW HT_.out HW_.out (by kernel_rfl)) (fun _ _ _ h => h) (Or.inl ⟨by rfl, ?_⟩) hHeld ?_ ?_
      rotate_left
      · rintro w' ⟨s0, s1, s2, s3⟩
        go_simp
        with_reducible rfl
      rotate_left
      · simp only [Act.put, List.setIfInBounds_toArray, List.set_cons_zero, List.set_cons_succ, i64_w, i32_w]
        rfl
      refine pure_ (i := 12) (N := some 23) (v := ?_) (a' := ?_) #[true, true, true, true, true, true, true, true, true, false, true, true, true, true, false, false, false, false, false, false] rfl rfl (any_of HT_.out (by kernel_rfl)) (fun _ _ _ h => h) (Or.inl ⟨by rfl, ?_⟩) ?_ ?_
      rotate_left
      · intro w'
        go_simp
        with_reducible rfl
      rotate_left
      · simp only [Act.put, List.setIfInBounds_toArray, List.set_cons_zero, List.set_cons_succ, i64_w, i32_w]
        rfl
      refine take_ (i := 14) (N := some 25) (v := ?_) (a' := ?_) #[true, true, true, true, true, true, true, true, true, false, true, true, true, true, true, false, false, false, false, false] rfl rfl (take_ofW HT_.out HW_.out (by kernel_rfl)) (fun _ _ _ h => h) (Or.inl ⟨by rfl, ?_⟩) hHeld ?_ ?_
      rotate_left
      · rintro w' ⟨s0, s1, s2, s3⟩
        go_simp
        with_reducible rfl
      rotate_left
      · simp only [Act.put, List.setIfInBounds_toArray, List.set_cons_zero, List.set_cons_succ, i64_w, i32_w]
        rfl
      refine one_ (i := 9) (N := some 20) #[true, true, true, true, true, true, true, true, true, true, true, true, true, true, true, false, false, false, false, false] rfl rfl (one_of HT_.out (by kernel_rfl)) (by decide) (fun K hK => ?_)
      refine goes_ Try.func36 (by kernel_rfl) rfl #[.int .i64 (wrap64 (a0_0)), .int .u64 a1_1] (by rfl) rfl rfl (by (try simp only [List.map_toArray, List.map_cons, List.map_nil]); first | done | rfl | (simp only [List.length_drop, List.length_take]; rfl)) ?_
      with_reducible refine (wide_Times.calls (wrap64 (a0_0)) a1_1 t130 t131 _ A15.out).mono ?_
      rintro e w23 ⟨rfl, hb⟩
      refine ⟨_, rfl, ?_⟩
      have n0_ := Aside0.mk (blk_below (g := gb128) (o := .cells #[.int .u64 a0_0, .int .u64 a0_1] 58 (0, 0)) (by (with_reducible repeat (first | refine blk_drewN ?_ _ | refine blk_drew ?_ | refine blk_alloc ?_ _)); exact BK128.out) hb)
      have n1_ := Aside0.mk (blk_below (g := gb129) (o := .cells #[.int .u64 a1_0, .int .u64 a1_1] 58 (0, 0)) (by (with_reducible repeat (first | refine blk_drewN ?_ _ | refine blk_drew ?_ | refine blk_alloc ?_ _)); exact BK129.out) hb)
      have n2_ := Aside0.mk (below_step (by repeat (first | (with_reducible first | exact HB.out | apply below_alloc | apply pw_below_drewN | apply below_drew1 | refine below_set ?_ GE128.out | refine below_set ?_ GE129.out) | exact HB.out)) hb)
      clear BK128
      clear BK129
      clear HB
      have BK128 := n0_
      have BK129 := n1_
      have HB := n2_
      clear n0_ n1_ n2_
      (try clear hb)
      (try clear hb2)
      (try clear hk)
      (try clear hi)
      refine hK.out _ _ ⟨(blk_cell BK128.out 0).trans rfl, (blk_cell BK128.out 1).trans rfl, (blk_cell BK129.out 0).trans rfl, (blk_cell BK129.out 1).trans rfl⟩ (fun hHeld => ?_)
      clear hK K
      refine norm_ (a' := ?_) ?_ ?_
      rotate_left
      · show Act.put _ (some 20) _ = _
        simp only [Act.put, List.setIfInBounds_toArray, List.set_cons_zero, List.set_cons_succ, i64_w, i32_w]
        rfl
      refine one_ (i := 15) (N := some 26) #[true, true, true, true, true, true, true, true, true, true, true, true, true, true, true, true, false, false, false, false] rfl rfl (one_of HT_.out (by kernel_rfl)) (by decide) (fun K hK => ?_)
      refine goes_ Try.func36 (by kernel_rfl) rfl #[.int .i64 (wrap64 (a1_0)), .int .u64 a0_1] (by rfl) rfl rfl (by (try simp only [List.map_toArray, List.map_cons, List.map_nil]); first | done | rfl | (simp only [List.length_drop, List.length_take]; rfl)) ?_
      with_reducible refine (wide_Times.calls (wrap64 (a1_0)) a0_1 t132 t133 _ A16.out).mono ?_
      rintro e w24 ⟨rfl, hb⟩
      refine ⟨_, rfl, ?_⟩
      have n0_ := Aside0.mk (blk_below (g := gb128) (o := .cells #[.int .u64 a0_0, .int .u64 a0_1] 58 (0, 0)) (by (with_reducible repeat (first | refine blk_drewN ?_ _ | refine blk_drew ?_ | refine blk_alloc ?_ _)); exact BK128.out) hb)
      have n1_ := Aside0.mk (blk_below (g := gb129) (o := .cells #[.int .u64 a1_0, .int .u64 a1_1] 58 (0, 0)) (by (with_reducible repeat (first | refine blk_drewN ?_ _ | refine blk_drew ?_ | refine blk_alloc ?_ _)); exact BK129.out) hb)
      have n2_ := Aside0.mk (below_step (by repeat (first | (with_reducible first | exact HB.out | apply below_alloc | apply pw_below_drewN | apply below_drew1 | refine below_set ?_ GE128.out | refine below_set ?_ GE129.out) | exact HB.out)) hb)
      clear BK128
      clear BK129
      clear HB
      have BK128 := n0_
      have BK129 := n1_
      have HB := n2_
      clear n0_ n1_ n2_
      (try clear hb)
      (try clear hb2)
      (try clear hk)
      (try clear hi)
      refine hK.out _ _ ⟨(blk_cell BK128.out 0).trans rfl, (blk_cell BK128.out 1).trans rfl, (blk_cell BK129.out 0).trans rfl, (blk_cell BK129.out 1).trans rfl⟩ (fun hHeld => ?_)
      clear hK K
      refine norm_ (a' := ?_) ?_ ?_
      rotate_left
      · show Act.put _ (some 26) _ = _
        simp only [Act.put, List.setIfInBounds_toArray, List.set_cons_zero, List.set_cons_succ, i64_w, i32_w]
        rfl
      refine one_ (i := 16) (N := some 27) #[true, true, true, true, true, true, true, true, true, true, true, true, true, true, true, true, true, false, false, false] rfl rfl (one_of HT_.out (by kernel_rfl)) (by decide) (fun K hK => ?_)
      refine goes_ Try.func35 (by kernel_rfl) rfl #[.agg #[.int .i64 t130, .int .u64 t131], .agg #[.int .i64 t132, .int .u64 t133]] (by rfl) rfl rfl (by (try simp only [List.map_toArray, List.map_cons, List.map_nil]); first | done | rfl | (simp only [List.length_drop, List.length_take]; rfl)) ?_
      with_reducible refine (wide_Cmp.calls t130 t131 t132 t133 t134 _ A17.out).mono ?_
      rintro e w25 ⟨rfl, hb⟩
      refine ⟨_, rfl, ?_⟩
      have n0_ := Aside0.mk (blk_below (g := gb128) (o := .cells #[.int .u64 a0_0, .int .u64 a0_1] 58 (0, 0)) (by (with_reducible repeat (first | refine blk_drewN ?_ _ | refine blk_drew ?_ | refine blk_alloc ?_ _)); exact BK128.out) hb)
      have n1_ := Aside0.mk (blk_below (g := gb129) (o := .cells #[.int .u64 a1_0, .int .u64 a1_1] 58 (0, 0)) (by (with_reducible repeat (first | refine blk_drewN ?_ _ | refine blk_drew ?_ | refine blk_alloc ?_ _)); exact BK129.out) hb)
      have n2_ := Aside0.mk (below_step (by repeat (first | (with_reducible first | exact HB.out | apply below_alloc | apply pw_below_drewN | apply below_drew1 | refine below_set ?_ GE128.out | refine below_set ?_ GE129.out) | exact HB.out)) hb)
      clear BK128
      clear BK129
      clear HB
      have BK128 := n0_
      have BK129 := n1_
      have HB := n2_
      clear n0_ n1_ n2_
      (try clear hb)
      (try clear hb2)
      (try clear hk)
      (try clear hi)
      refine hK.out _ _ ⟨(blk_cell BK128.out 0).trans rfl, (blk_cell BK128.out 1).trans rfl, (blk_cell BK129.out 0).trans rfl, (blk_cell BK129.out 1).trans rfl⟩ (fun hHeld => ?_)
      clear hK K
      refine norm_ (a' := ?_) ?_ ?_
      rotate_left
      · show Act.put _ (some 27) _ = _
        simp only [Act.put, List.setIfInBounds_toArray, List.set_cons_zero, List.set_cons_succ, i64_w, i32_w]
        rfl
      refine pure_ (i := 17) (N := some 28) (v := ?_) (a' := ?_) #[true, true, true, true, true, true, true, true, true, true, true, true, true, true, true, true, true, true, false, false] rfl rfl (any_of HT_.out (by kernel_rfl)) (fun _ _ _ h => h) (Or.inl ⟨by rfl, ?_⟩) ?_ ?_
      rotate_left
      · intro w'
        go_simp
        with_reducible rfl
      rotate_left
      · simp only [Act.put, List.setIfInBounds_toArray, List.set_cons_zero, List.set_cons_succ, i64_w, i32_w]
        rfl
      refine pure_ (i := 18) (N := some 29) (v := ?_) (a' := ?_) #[true, true, true, true, true, true, true, true, true, true, true, true, true, true, true, true, true, true, true, false] rfl rfl (any_of HT_.out (by kernel_rfl)) (fun _ _ _ h => h) (Or.inl ⟨by rfl, ?_⟩) ?_ ?_
      rotate_left
      · intro w'
        go_simp
        with_reducible rfl
      rotate_left
      · simp only [Act.put, List.setIfInBounds_toArray, List.set_cons_zero, List.set_cons_succ, i64_w, i32_w]
        rfl
      refine pure_ (i := 19) (N := some 4) (v := ?_) (a' := ?_) #[true, true, true, true, true, true, true, true, true, true, true, true, true, true, true, true, true, true, true, true] rfl rfl (any_of HT_.out (by kernel_rfl)) (fun _ _ _ h => h) (Or.inl ⟨by rfl, ?_⟩) ?_ ?_
      rotate_left
      · intro w'
        go_simp
        with_reducible rfl
      rotate_left
      · simp only [Act.put, List.setIfInBounds_toArray, List.set_cons_zero, List.set_cons_succ, i64_w, i32_w]
        rfl
      refine done_ (done_of HT_.out (by kernel_rfl)) ?_
      try go_wp2
      go_ret
      exact ⟨by first | rfl | (simp [errW_none, errW_some] <;> rfl) | (simp [*, errW_none, errW_some] <;> rfl), by repeat (first | (with_reducible first | exact HB.out | apply below_alloc | apply pw_below_drewN | apply below_drew1 | refine below_set ?_ GE128.out | refine below_set ?_ GE129.out) | exact HB.out)⟩

end Go.Proofs.Ytjlegggkibbkjaa.G
end

section
-- Written by a program of this session (wip/gprint.py: the kit's print, with contracts proved by hand)
namespace Go.Proofs.Ytjlegggkibbkjaa.G
open Go.RowKit Go.Proofs.YtjlegggkibbkjaaW.PrintWords Go.Proofs.YtjlegggkibbkjaaW.PrintLast Go.Proofs.YtjlegggkibbkjaaW.PrintMore
attribute [local go_sem] max2_int min2_int max_two min_two max_three min_three max_four min_four   -- for this text's walks alone
set_option linter.unusedVariables false
set_option linter.unusedSimpArgs false

/-! ### ratio_Lowest: function 34 -/
def ratio_Lowest.l0 : Nat → Int → Int → Int → Int → Option (Int × Int × Int)
  | 0, _, _, _, _ => none
  | k + 1, x0, x1, x6, x7 => if x6 > 0 then (if x6 = 0 then (none) else (ratio_Lowest.l0 k x0 x1 (Int.tmod x7 x6) x6)) else (if x7 = 0 then (none) else (some (IntKind.u64.wrap (Int.tdiv x0 x7), IntKind.u64.wrap (Int.tdiv x1 x7), 0)))
def ratio_Lowest.f (k : Nat) (a0 : Int) (a1 : Int) : Option (Int × Int × Int) := if a1 = 0 then (some (0, 0, 20)) else (ratio_Lowest.l0 k a0 a1 a0 a1)
theorem ratio_Lowest.mono_l : ∀ k, (∀ y0 y1 y2 y3, LeO (ratio_Lowest.l0 k y0 y1 y2 y3) (ratio_Lowest.l0 (k + 1) y0 y1 y2 y3))
  | 0 => fun _ _ _ _ r h => by simp [ratio_Lowest.l0] at h
  | k + 1 => by
    have ih0 := ratio_Lowest.mono_l k
    · intro y0 y1 y2 y3
      unfold ratio_Lowest.l0
      repeat' first
      | (with_reducible exact ih0 _ _ _ _)
      | (with_reducible exact LeO.refl _)
      | (with_reducible exact LeO.none _)
      | (with_reducible refine LeO.ite ?_ ?_)
      | (with_reducible refine LeO.bind ?_ (fun _ => ?_))
      | exact ih0 _ _ _ _
      | exact LeO.none _
      | refine LeO.ite ?_ ?_
      | refine LeO.bind ?_ (fun _ => ?_)
theorem ratio_Lowest.mono : ∀ a0 a1 k, LeO (ratio_Lowest.f k a0 a1) (ratio_Lowest.f (k + 1) a0 a1) := by
  intro a0 a1 k
  have ih0 := ratio_Lowest.mono_l k
  unfold ratio_Lowest.f
  repeat' first
      | (with_reducible exact ih0 _ _ _ _)
      | (with_reducible exact LeO.refl _)
      | (with_reducible exact LeO.none _)
      | (with_reducible refine LeO.ite ?_ ?_)
      | (with_reducible refine LeO.bind ?_ (fun _ => ?_))
      | exact ih0 _ _ _ _
      | exact LeO.none _
      | refine LeO.ite ?_ ?_
      | refine LeO.bind ?_ (fun _ => ?_)
def ratio_Lowest.T6 : Bool × List (List Nat × List Nat) := (true, [([], []), ([], []), ([0, 1], [0, 1]), ([], []), ([], []), ([3, 4], [3, 4]), ([2, 5], [2, 5]), ([6, 0, 1, 2, 3, 4, 5, 6], [6]), ([7, 0, 1, 2, 3, 4, 5, 6, 7], [])])
def ratio_Lowest.B6 : List Nat := [0, 0, 3, 0, 0, 24, 63, 127, 255]
theorem ratio_Lowest.tab6 : rtab .any (opsOf Try.f34 6) = ratio_Lowest.T6 := by kernel_rfl
theorem ratio_Lowest.bits6 : waitsOk ratio_Lowest.T6.2 ratio_Lowest.B6 = true := by kernel_rfl
set_option maxHeartbeats 8000000 in
set_option maxRecDepth 100000 in
theorem ratio_Lowest.calls (k : Nat) (a0 : Int) (a1 : Int) (r1 : Int) (r2 : Int) (r3 : Int) (w : World) (h : ratio_Lowest.f k a0 a1 = some (r1, r2, r3)) :
    Calls Try.prog 34 #[.int .u64 a0, .int .u64 a1] w fun e w' => e = .returned (.tuple #[.agg #[.int .u64 r1, .int .u64 r2], .int .i64 r3]) ∧ Below w.heap.size w w' := by
  have hu58 := Try.underlying58
  have HB := Aside0.mk (Below.refl w.heap.size w)
  have H : (if a1 = 0 then (some (0, 0, 20)) else (ratio_Lowest.l0 k a0 a1 a0 a1)) = some (r1, r2, r3) := h
  clear h
  by_cases c3 : a1 = 0
  · rw [if_pos c3] at H
    have c3b0 : (a1 == 0) = true := beq_iff_eq.mpr c3
    have c3b1 : (a1 != 0) = false := bne_eq_false_iff_eq.mpr c3
    clear c3
    simp only [Option.some.injEq, Prod.mk.injEq] at H
    obtain ⟨rfl, rfl, rfl⟩ := H
    go_enter Try.func34, Try.ntmps34
    go_wp2_with (first | ((with_reducible refine gate_dst (N := 4) rfl ?_); refine box_event ?hg (N := 4) ?hd (cs := #[.int .u64 0, .int .u64 0]) (t := 58) ?hr ?_; (case hd => rfl); (case hg => rfl); (case hr => first | (go_simp; done) | (go_simp; rfl)); intro gb135 hg w4 hbox hb; have n0_ := Aside0.mk (below_step (by repeat (first | (with_reducible first | exact HB.out | apply below_alloc | apply pw_below_drewN | apply below_drew1) | exact HB.out)) hb); have n1_ := Aside0.mk (hbox); have n2_ := Aside0.mk ((by rw [hg]; exact (below_size (by repeat (first | (with_reducible first | exact HB.out | apply below_alloc | apply pw_below_drewN | apply below_drew1) | exact HB.out))) : w.heap.size ≤ gb135)); have n3_ := Aside0.mk ((by rw [hg]; exact (below_size (by repeat (first | (with_reducible first | exact HB.out | apply below_alloc | apply pw_below_drewN | apply below_drew1) | exact HB.out))) : w.heap.size ≤ gb135)); clear HB; have HB := n0_; have BK135 := n1_; have GW135 := n2_; have GE135 := n3_; clear n0_ n1_ n2_ n3_; clear hb hbox hg; have hcz5_0 : w4.cell? ⟨gb135, 0, none⟩ = some (.int .u64 0) := (blk_cell BK135.out 0).trans rfl; have hcz5_1 : w4.cell? ⟨gb135, 1, none⟩ = some (.int .u64 0) := (blk_cell BK135.out 1).trans rfl; have hfz5_0 := blk_frozen BK135.out 0; have hfz5_1 := blk_frozen BK135.out 1))
    refine bodyPost_ret (results_ct rfl _ _ gb135 58 #[.int .u64 0, .int .u64 0] (0, 0) _ rfl (by (with_reducible repeat (first | refine blk_drewN ?_ _ | refine blk_drew ?_ | refine blk_alloc ?_ _)); refine blk_put (cs := #[.int .u64 0, .int .u64 0]) ?_ 1 _ rfl; (with_reducible repeat (first | refine blk_drewN ?_ _ | refine blk_drew ?_ | refine blk_alloc ?_ _)); refine blk_put (cs := #[.int .u64 0, .int .u64 0]) ?_ 0 _ rfl; (with_reducible repeat (first | refine blk_drewN ?_ _ | refine blk_drew ?_ | refine blk_alloc ?_ _)); exact BK135.out) Try.underlying58 rfl (by kernel_rfl)) rfl ?_
    exact ⟨by first | rfl | (simp [errW_none, errW_some] <;> rfl) | (simp [*, errW_none, errW_some] <;> rfl), by repeat (first | (with_reducible first | exact HB.out | apply below_alloc | apply pw_below_drewN | apply below_drew1 | refine below_set ?_ GE135.out) | exact HB.out)⟩
  · rw [if_neg c3] at H
    have c3b0 : (a1 == 0) = false := beq_eq_false_iff_ne.mpr c3
    have c3b1 : (a1 != 0) = true := bne_iff_ne.mpr c3
    have H' := Aside0.mk H
    clear H
    go_enter Try.func34, Try.ntmps34
    go_wp2_with (first | ((with_reducible refine gate_dst (N := 4) rfl ?_); refine box_event ?hg (N := 4) ?hd (cs := #[.int .u64 0, .int .u64 0]) (t := 58) ?hr ?_; (case hd => rfl); (case hg => rfl); (case hr => first | (go_simp; done) | (go_simp; rfl)); intro gb135 hg w6 hbox hb; have n0_ := Aside0.mk (below_step (by repeat (first | (with_reducible first | exact HB.out | apply below_alloc | apply pw_below_drewN | apply below_drew1) | exact HB.out)) hb); have n1_ := Aside0.mk (hbox); have n2_ := Aside0.mk ((by rw [hg]; exact (below_size (by repeat (first | (with_reducible first | exact HB.out | apply below_alloc | apply pw_below_drewN | apply below_drew1) | exact HB.out))) : w.heap.size ≤ gb135)); have n3_ := Aside0.mk ((by rw [hg]; exact (below_size (by repeat (first | (with_reducible first | exact HB.out | apply below_alloc | apply pw_below_drewN | apply below_drew1) | exact HB.out))) : w.heap.size ≤ gb135)); clear HB; have HB := n0_; have BK135 := n1_; have GW135 := n2_; have GE135 := n3_; clear n0_ n1_ n2_ n3_; clear hb hbox hg))
    go_loopg [6, 7] k (fun kq v6 v7 w' => ∃ (x6_1 : Int) (x7_1 : Int), v6 = .int .u64 x6_1 ∧ v7 = .int .u64 x7_1 ∧ Aside0 (ratio_Lowest.l0 kq a0 a1 x6_1 x7_1 = some (r1, r2, r3)) ∧ Aside0 (kq ≤ k) ∧ Aside0 (w'.heap[gb135]? = some (.cells #[.int .u64 0, .int .u64 0] 58 (0, 0))) ∧ Aside0 (Below w.heap.size w w'))
    case atStart => exact ⟨(a0), (a1), (by first | rfl | (simp; done) | (simp [*]; done)), (by first | rfl | (simp; done) | (simp [*]; done)), H', ⟨Nat.le_refl _⟩, ⟨by (with_reducible repeat (first | refine blk_drewN ?_ _ | refine blk_drew ?_ | refine blk_alloc ?_ _)); exact BK135.out⟩, ⟨by repeat (first | (with_reducible first | exact HB.out | apply below_alloc | apply pw_below_drewN | apply below_drew1 | refine below_set ?_ GE135.out) | exact HB.out)⟩⟩
    case round =>
      clear H'
      try clear p2
      try clear c3
      try clear c3b0
      try clear c3b1
      try clear hcz5_0
      try clear hcz5_1
      try clear hfz5_0
      try clear hfz5_1
      obtain ⟨x6_1, x7_1, rfl, rfl, HA, HK1, BK135, HB⟩ := hrel
      cases gk with
      | zero => exact absurd HA.out (by simp [ratio_Lowest.l0])
      | succ k1 =>
        have H := HA.out
        clear HA
        simp only [ratio_Lowest.l0] at H
        by_cases c7 : x6_1 > 0
        · rw [if_pos c7] at H
          have c7b0 : decide (0 < x6_1) = true := decide_eq_true c7
          clear c7
          by_cases c8 : x6_1 = 0
          · rw [if_pos c8] at H
            exact absurd H (by simp)
          · rw [if_neg c8] at H
            have c8b0 : (x6_1 == 0) = false := beq_eq_false_iff_ne.mpr c8
            have c8b1 : (x6_1 != 0) = true := bne_iff_ne.mpr c8
            have H' := Aside0.mk H
            clear H
            go_wp2
            go_roundg k1
            case measure => have := HK1.out; omega
            case rel => exact ⟨(Int.tmod x7_1 x6_1), (x6_1), (by first | rfl | (simp; done) | (simp [*]; done)), (by first | rfl | (simp; done) | (simp [*]; done)), H', ⟨by have := HK1.out; omega⟩, ⟨by (with_reducible repeat (first | refine blk_drewN ?_ _ | refine blk_drew ?_ | refine blk_alloc ?_ _)); exact BK135.out⟩, ⟨by repeat (first | (with_reducible first | exact HB.out | apply below_alloc | apply pw_below_drewN | apply below_drew1 | refine below_set ?_ GE135.out) | exact HB.out)⟩⟩
        · rw [if_neg c7] at H
          have c7b0 : decide (0 < x6_1) = false := decide_eq_false c7
          clear c7
          by_cases c9 : x7_1 = 0
          · rw [if_pos c9] at H
            exact absurd H (by simp)
          · rw [if_neg c9] at H
            have c9b0 : (x7_1 == 0) = false := beq_eq_false_iff_ne.mpr c9
            have c9b1 : (x7_1 != 0) = true := bne_iff_ne.mpr c9
            simp only [Option.some.injEq, Prod.mk.injEq] at H
            obtain ⟨rfl, rfl, rfl⟩ := H
            try go_wp2
            have n0_ := Aside0.mk (blk_drew BK135.out)
            have n1_ := Aside0.mk (below_drew1 HB.out)
            clear BK135
            clear HB
            have BK135 := n0_
            have HB := n1_
            clear n0_ n1_
            refine start_ (n := 9) (S := fun w' => True) (ds := []) #[false, false, false, false, false, false, false, false, false] (by kernel_rfl) rfl rfl trivial (fun hHeld => ?_); refine with_tabW ratio_Lowest.tab6 ratio_Lowest.bits6 (fun HT_ HW_ => ?_)
            generalize wr.drew = w10 at BK135 HB hHeld ⊢
            refine pure_ (i := 0) (N := some 19) (v := ?_) (a' := ?_) #[true, false, false, false, false, false, false, false, false] rfl rfl (any_of HT_.out (by kernel_rfl)) (fun _ _ _ h => h) (Or.inl ⟨by rfl, ?_⟩) ?_ ?_
            rotate_left
            · intro w'
              go_simp
              with_reducible rfl
            rotate_left
            · simp only [Act.put, List.setIfInBounds_toArray, List.set_cons_zero, List.set_cons_succ, i64_w, i32_w]
              rfl
            refine pure_ (i := 1) (N := some 20) (v := ?_) (a' := ?_) #[true, true, false, false, false, false, false, false, false] rfl rfl (any_of HT_.out (by kernel_rfl)) (fun _ _ _ h => h) (Or.inl ⟨by rfl, ?_⟩) ?_ ?_
            rotate_left
            · intro w'
              go_simp
              with_reducible rfl
            rotate_left
            · simp only [Act.put, List.setIfInBounds_toArray, List.set_cons_zero, List.set_cons_succ, i64_w, i32_w]
              rfl
            refine pure_ (i := 2) (N := some 21) (v := ?_) (a' := ?_) #[true, true, true, false, false, false, false, false, false] rfl rfl (any_of HT_.out (by kernel_rfl)) (fun _ _ _ h => h) (Or.inl ⟨by rfl, ?_⟩) ?_ ?_
            rotate_left
            · intro w'
              go_simp
              with_reducible rfl
            rotate_left
            · simp only [Act.put, List.setIfInBounds_toArray, List.set_cons_zero, List.set_cons_succ, i64_w, i32_w]
              rfl
            refine pure_ (i := 3) (N := some 22) (v := ?_) (a' := ?_) #[true, true, true, true, false, false, false, false, false] rfl rfl (any_of HT_.out (by kernel_rfl)) (fun _ _ _ h => h) (Or.inl ⟨by rfl, ?_⟩) ?_ ?_
            rotate_left
            · intro w'
              go_simp
              with_reducible rfl
            rotate_left
            · simp only [Act.put, List.setIfInBounds_toArray, List.set_cons_zero, List.set_cons_succ, i64_w, i32_w]
              rfl
            refine pure_ (i := 4) (N := some 23) (v := ?_) (a' := ?_) #[true, true, true, true, true, false, false, false, false] rfl rfl (any_of HT_.out (by kernel_rfl)) (fun _ _ _ h => h) (Or.inl ⟨by rfl, ?_⟩) ?_ ?_
            rotate_left
            · intro w'
              go_simp
              with_reducible rfl
            rotate_left
            · simp only [Act.put, List.setIfInBounds_toArray, List.set_cons_zero, List.set_cons_succ, i64_w, i32_w]
              rfl
            refine pure_ (i := 5) (N := some 24) (v := ?_) (a' := ?_) #[true, true, true, true, true, true, false, false, false] rfl rfl (any_of HT_.out (by kernel_rfl)) (fun _ _ _ h => h) (Or.inl ⟨by rfl, ?_⟩) ?_ ?_
            rotate_left
            · intro w'
              go_simp
              with_reducible rfl
            rotate_left
            · simp only [Act.put, List.setIfInBounds_toArray, List.set_cons_zero, List.set_cons_succ, i64_w, i32_w]
              rfl
            refine pure_ (i := 6) (N := some 25) (v := ?_) (a' := ?_) #[true, true, true, true, true, true, true, false, false] rfl rfl (any_of HT_.out (by kernel_rfl)) (fun _ _ _ h => h) (Or.inl ⟨by rfl, ?_⟩) ?_ ?_
            rotate_left
            · intro w'
              go_simp
              with_reducible rfl
            rotate_left
            · simp only [Act.put, List.setIfInBounds_toArray, List.set_cons_zero, List.set_cons_succ, i64_w, i32_w]
              rfl
            refine one_ (i := 7) (N := none) #[true, true, true, true, true, true, true, true, false] rfl rfl (one_of HT_.out (by kernel_rfl)) (by decide) (fun K hK => ?_)
            have hs11 : w10.cell? ⟨gb135, 0, none⟩ = some (.int .u64 0) := (blk_cell BK135.out 0).trans rfl
            have hfs11 := blk_frozen BK135.out 0
            have hs12 : w10.cell? ⟨gb135, 1, none⟩ = some (.int .u64 0) := (blk_cell BK135.out 1).trans rfl
            have hfs12 := blk_frozen BK135.out 1
            refine skip_ (w1 := ?_) (by rfl) rfl ?_ ?_
            rotate_left
            · go_simp
              rfl
            refine hK.out _ _ trivial (fun hHeld => ?_)
            clear hK K
            refine pure_ (i := 8) (N := some 5) (v := ?_) (a' := ?_) #[true, true, true, true, true, true, true, true, true] rfl rfl (any_of HT_.out (by kernel_rfl)) (fun _ _ _ h => h) (Or.inl ⟨by rfl, ?_⟩) ?_ ?_
            rotate_left
            · intro w'
              go_simp
              with_reducible rfl
            rotate_left
            · simp only [Act.put, List.setIfInBounds_toArray, List.set_cons_zero, List.set_cons_succ, i64_w, i32_w]
              rfl
            refine done_ (done_of HT_.out (by kernel_rfl)) ?_
            try go_wp2
            refine bodyPost_ret (results_ct rfl _ _ gb135 58 #[.int .u64 (IntKind.u64.wrap (Int.tdiv a0 x7_1)), .int .u64 (IntKind.u64.wrap (Int.tdiv a1 x7_1))] (0, 0) _ rfl (by (with_reducible repeat (first | refine blk_drewN ?_ _ | refine blk_drew ?_ | refine blk_alloc ?_ _)); refine blk_put (cs := #[.int .u64 (IntKind.u64.wrap (Int.tdiv a0 x7_1)), .int .u64 0]) ?_ 1 _ rfl; (with_reducible repeat (first | refine blk_drewN ?_ _ | refine blk_drew ?_ | refine blk_alloc ?_ _)); refine blk_put (cs := #[.int .u64 0, .int .u64 0]) ?_ 0 _ rfl; (with_reducible repeat (first | refine blk_drewN ?_ _ | refine blk_drew ?_ | refine blk_alloc ?_ _)); exact BK135.out) Try.underlying58 rfl (by kernel_rfl)) rfl ?_
            exact ⟨by first | rfl | (simp [errW_none, errW_some] <;> rfl) | (simp [*, errW_none, errW_some] <;> rfl), by repeat (first | (with_reducible first | exact HB.out | apply below_alloc | apply pw_below_drewN | apply below_drew1 | refine below_set ?_ GE135.out) | exact HB.out)⟩

end Go.Proofs.Ytjlegggkibbkjaa.G
end

section
-- Written by a program of this session (wip/gprint.py: the kit's print, with contracts proved by hand)
namespace Go.Proofs.Ytjlegggkibbkjaa.G
open Go.RowKit Go.Proofs.YtjlegggkibbkjaaW.PrintWords Go.Proofs.YtjlegggkibbkjaaW.PrintLast Go.Proofs.YtjlegggkibbkjaaW.PrintMore
attribute [local go_sem] max2_int min2_int max_two min_two max_three min_three max_four min_four   -- for this text's walks alone
set_option linter.unusedVariables false
set_option linter.unusedSimpArgs false

/-! ### hull_between: function 22 -/
def hull_between.f (k : Nat) (a0_0 : Int) (a0_1 : Int) (a1_0 : Int) (a1_1 : Int) : Option (Int × Int) := (ratio_Lowest.f k (IntKind.u64.wrap (wrap64 (a1_1 - a0_1))) (IntKind.u64.wrap (a1_0 - a0_0))).bind fun bt139 => (some (bt139.1, bt139.2.1))
theorem hull_between.mono : ∀ a0 a1 a2 a3 k, LeO (hull_between.f k a0 a1 a2 a3) (hull_between.f (k + 1) a0 a1 a2 a3) := by
  intro a0 a1 a2 a3 k
  unfold hull_between.f
  repeat' first
      | (with_reducible exact ratio_Lowest.mono _ _ _)
      | (with_reducible exact LeO.refl _)
      | (with_reducible exact LeO.none _)
      | (with_reducible refine LeO.ite ?_ ?_)
      | (with_reducible refine LeO.bind ?_ (fun _ => ?_))
      | exact ratio_Lowest.mono _ _ _
      | exact LeO.none _
      | refine LeO.ite ?_ ?_
      | refine LeO.bind ?_ (fun _ => ?_)
set_option maxHeartbeats 8000000 in
set_option maxRecDepth 100000 in
theorem hull_between.calls (k : Nat) (a0_0 : Int) (a0_1 : Int) (a1_0 : Int) (a1_1 : Int) (r1 : Int) (r2 : Int) (w : World) (h : hull_between.f k a0_0 a0_1 a1_0 a1_1 = some (r1, r2)) :
    Calls Try.prog 22 #[.agg #[.int .u64 a0_0, .int .i64 a0_1], .agg #[.int .u64 a1_0, .int .i64 a1_1]] w fun e w' => e = .returned (.agg #[.int .u64 r1, .int .u64 r2]) ∧ Below w.heap.size w w' := by
  have hu64 := Try.underlying64
  have hu58 := Try.underlying58
  have HB := Aside0.mk (Below.refl w.heap.size w)
  have H : ((ratio_Lowest.f k (IntKind.u64.wrap (wrap64 (a1_1 - a0_1))) (IntKind.u64.wrap (a1_0 - a0_0))).bind fun bt139 => (some (bt139.1, bt139.2.1))) = some (r1, r2) := h
  clear h
  replace H := Option.bind_eq_some_iff.mp H
  obtain ⟨⟨t139, t140, t141⟩, A30, H⟩ := H
  replace H : (some (t139, t140)) = some (r1, r2) := H
  have A3 := Aside0.mk A30
  clear A30
  simp only [Option.some.injEq, Prod.mk.injEq] at H
  obtain ⟨rfl, rfl⟩ := H
  go_enter Try.func22, Try.ntmps22
  go_wp2_with (first | ((with_reducible refine gate_dst (N := 2) rfl ?_); refine box_event ?hg (N := 2) ?hd (cs := #[.int .u64 a0_0, .int .i64 a0_1]) (t := 64) ?hr ?_; (case hd => rfl); (case hg => rfl); (case hr => first | (go_simp; done) | (go_simp; rfl)); intro gb136 hg w4 hbox hb; have n0_ := Aside0.mk (below_step (by repeat (first | (with_reducible first | exact HB.out | apply below_alloc | apply pw_below_drewN | apply below_drew1) | exact HB.out)) hb); have n1_ := Aside0.mk (hbox); have n2_ := Aside0.mk ((by rw [hg]; exact (below_size (by repeat (first | (with_reducible first | exact HB.out | apply below_alloc | apply pw_below_drewN | apply below_drew1) | exact HB.out))) : w.heap.size ≤ gb136)); have n3_ := Aside0.mk ((by rw [hg]; exact (below_size (by repeat (first | (with_reducible first | exact HB.out | apply below_alloc | apply pw_below_drewN | apply below_drew1) | exact HB.out))) : w.heap.size ≤ gb136)); clear HB; have HB := n0_; have BK136 := n1_; have GW136 := n2_; have GE136 := n3_; clear n0_ n1_ n2_ n3_; clear hb hbox hg) | ((with_reducible refine gate_dst (N := 3) rfl ?_); refine box_event ?hg (N := 3) ?hd (cs := #[.int .u64 a1_0, .int .i64 a1_1]) (t := 64) ?hr ?_; (case hd => rfl); (case hg => rfl); (case hr => first | (go_simp; done) | (go_simp; rfl)); intro gb137 hg w5 hbox hb; have n0_ := Aside0.mk (blk_below (g := gb136) (o := .cells #[.int .u64 a0_0, .int .i64 a0_1] 64 (0, 0)) (by (with_reducible repeat (first | refine blk_drewN ?_ _ | refine blk_drew ?_ | refine blk_alloc ?_ _)); exact BK136.out) hb); have n1_ := Aside0.mk (below_step (by repeat (first | (with_reducible first | exact HB.out | apply below_alloc | apply pw_below_drewN | apply below_drew1 | refine below_set ?_ GE136.out) | exact HB.out)) hb); have n2_ := Aside0.mk (hbox); have n3_ := Aside0.mk ((by rw [hg]; exact (below_size (by repeat (first | (with_reducible first | exact HB.out | apply below_alloc | apply pw_below_drewN | apply below_drew1 | refine below_set ?_ GE136.out) | exact HB.out))) : w.heap.size ≤ gb137)); have n4_ := Aside0.mk ((by rw [hg]; exact (below_size (by repeat (first | (with_reducible first | exact HB.out | apply below_alloc | apply pw_below_drewN | apply below_drew1 | refine below_set ?_ GE136.out) | exact HB.out))) : w.heap.size ≤ gb137)); have n5_ := Aside0.mk ((by rw [hg]; exact Nat.ne_of_lt (blk_lt (g := gb136) (o := .cells #[.int .u64 a0_0, .int .i64 a0_1] 64 (0, 0)) (by (with_reducible repeat (first | refine blk_drewN ?_ _ | refine blk_drew ?_ | refine blk_alloc ?_ _)); exact BK136.out)) : gb136 ≠ gb137)); have n6_ := Aside0.mk ((by rw [hg]; exact Nat.ne_of_gt (blk_lt (g := gb136) (o := .cells #[.int .u64 a0_0, .int .i64 a0_1] 64 (0, 0)) (by (with_reducible repeat (first | refine blk_drewN ?_ _ | refine blk_drew ?_ | refine blk_alloc ?_ _)); exact BK136.out)) : gb137 ≠ gb136)); clear BK136; clear HB; have BK136 := n0_; have HB := n1_; have BK137 := n2_; have GW137 := n3_; have GE137 := n4_; have NB136_137 := n5_; have NB137_136 := n6_; clear n0_ n1_ n2_ n3_ n4_ n5_ n6_; clear hb hbox hg) | ((with_reducible refine gate_dst (N := 4) rfl ?_); refine box_event ?hg (N := 4) ?hd (cs := #[.int .u64 0, .int .u64 0]) (t := 58) ?hr ?_; (case hd => rfl); (case hg => rfl); (case hr => first | (go_simp; done) | (go_simp; rfl)); intro gb138 hg w6 hbox hb; have n0_ := Aside0.mk (blk_below (g := gb136) (o := .cells #[.int .u64 a0_0, .int .i64 a0_1] 64 (0, 0)) (by (with_reducible repeat (first | refine blk_drewN ?_ _ | refine blk_drew ?_ | refine blk_alloc ?_ _)); exact BK136.out) hb); have n1_ := Aside0.mk (blk_below (g := gb137) (o := .cells #[.int .u64 a1_0, .int .i64 a1_1] 64 (0, 0)) (by (with_reducible repeat (first | refine blk_drewN ?_ _ | refine blk_drew ?_ | refine blk_alloc ?_ _)); exact BK137.out) hb); have n2_ := Aside0.mk (below_step (by repeat (first | (with_reducible first | exact HB.out | apply below_alloc | apply pw_below_drewN | apply below_drew1 | refine below_set ?_ GE136.out | refine below_set ?_ GE137.out) | exact HB.out)) hb); have n3_ := Aside0.mk (hbox); have n4_ := Aside0.mk ((by rw [hg]; exact (below_size (by repeat (first | (with_reducible first | exact HB.out | apply below_alloc | apply pw_below_drewN | apply below_drew1 | refine below_set ?_ GE136.out | refine below_set ?_ GE137.out) | exact HB.out))) : w.heap.size ≤ gb138)); have n5_ := Aside0.mk ((by rw [hg]; exact (below_size (by repeat (first | (with_reducible first | exact HB.out | apply below_alloc | apply pw_below_drewN | apply below_drew1 | refine below_set ?_ GE136.out | refine below_set ?_ GE137.out) | exact HB.out))) : w.heap.size ≤ gb138)); have n6_ := Aside0.mk ((by rw [hg]; exact Nat.ne_of_lt (blk_lt (g := gb136) (o := .cells #[.int .u64 a0_0, .int .i64 a0_1] 64 (0, 0)) (by (with_reducible repeat (first | refine blk_drewN ?_ _ | refine blk_drew ?_ | refine blk_alloc ?_ _)); exact BK136.out)) : gb136 ≠ gb138)); have n7_ := Aside0.mk ((by rw [hg]; exact Nat.ne_of_gt (blk_lt (g := gb136) (o := .cells #[.int .u64 a0_0, .int .i64 a0_1] 64 (0, 0)) (by (with_reducible repeat (first | refine blk_drewN ?_ _ | refine blk_drew ?_ | refine blk_alloc ?_ _)); exact BK136.out)) : gb138 ≠ gb136)); have n8_ := Aside0.mk ((by rw [hg]; exact Nat.ne_of_lt (blk_lt (g := gb137) (o := .cells #[.int .u64 a1_0, .int .i64 a1_1] 64 (0, 0)) (by (with_reducible repeat (first | refine blk_drewN ?_ _ | refine blk_drew ?_ | refine blk_alloc ?_ _)); exact BK137.out)) : gb137 ≠ gb138)); have n9_ := Aside0.mk ((by rw [hg]; exact Nat.ne_of_gt (blk_lt (g := gb137) (o := .cells #[.int .u64 a1_0, .int .i64 a1_1] 64 (0, 0)) (by (with_reducible repeat (first | refine blk_drewN ?_ _ | refine blk_drew ?_ | refine blk_alloc ?_ _)); exact BK137.out)) : gb138 ≠ gb137)); clear BK136; clear BK137; clear HB; have BK136 := n0_; have BK137 := n1_; have HB := n2_; have BK138 := n3_; have GW138 := n4_; have GE138 := n5_; have NB136_138 := n6_; have NB138_136 := n7_; have NB137_138 := n8_; have NB138_137 := n9_; clear n0_ n1_ n2_ n3_ n4_ n5_ n6_ n7_ n8_ n9_; clear hb hbox hg; have hnb7 := NB137_136.out; have hnc7 := NB136_137.out; have hnb8 := NB137_138.out; have hnc8 := NB138_137.out; have hcz9_0 : w6.cell? ⟨gb137, 0, none⟩ = some (.int .u64 a1_0) := (blk_cell BK137.out 0).trans rfl; have hcz9_1 : w6.cell? ⟨gb137, 1, none⟩ = some (.int .i64 a1_1) := (blk_cell BK137.out 1).trans rfl; have hfz9_0 := blk_frozen BK137.out 0; have hfz9_1 := blk_frozen BK137.out 1; have hnb10 := NB136_138.out; have hnc10 := NB138_136.out; have hcz11_0 : w6.cell? ⟨gb136, 0, none⟩ = some (.int .u64 a0_0) := (blk_cell BK136.out 0).trans rfl; have hcz11_1 : w6.cell? ⟨gb136, 1, none⟩ = some (.int .i64 a0_1) := (blk_cell BK136.out 1).trans rfl; have hfz11_0 := blk_frozen BK136.out 0; have hfz11_1 := blk_frozen BK136.out 1) | ((with_reducible refine gate_callee (f := 34) rfl ?_); refine goesL_ (some 19) rfl rfl Try.func34 (by kernel_rfl) rfl #[.int .u64 (IntKind.u64.wrap (wrap64 (a1_1 - a0_1))), .int .u64 (IntKind.u64.wrap (a1_0 - a0_0))] rfl (by (try simp only [List.map_toArray, List.map_cons, List.map_nil]); first | done | rfl | (simp only [List.length_drop, List.length_take]; rfl)) ?_; (with_reducible refine (ratio_Lowest.calls k (IntKind.u64.wrap (wrap64 (a1_1 - a0_1))) (IntKind.u64.wrap (a1_0 - a0_0)) t139 t140 t141 _ A3.out).mono ?_); rintro e w12 ⟨rfl, hb⟩; refine ⟨_, rfl, ?_⟩; have n0_ := Aside0.mk (blk_below (g := gb136) (o := .cells #[.int .u64 a0_0, .int .i64 a0_1] 64 (0, 0)) (by (with_reducible repeat (first | refine blk_drewN ?_ _ | refine blk_drew ?_ | refine blk_alloc ?_ _)); exact BK136.out) hb); have n1_ := Aside0.mk (blk_below (g := gb137) (o := .cells #[.int .u64 a1_0, .int .i64 a1_1] 64 (0, 0)) (by (with_reducible repeat (first | refine blk_drewN ?_ _ | refine blk_drew ?_ | refine blk_alloc ?_ _)); exact BK137.out) hb); have n2_ := Aside0.mk (blk_below (g := gb138) (o := .cells #[.int .u64 0, .int .u64 0] 58 (0, 0)) (by (with_reducible repeat (first | refine blk_drewN ?_ _ | refine blk_drew ?_ | refine blk_alloc ?_ _)); exact BK138.out) hb); have n3_ := Aside0.mk (below_step (by repeat (first | (with_reducible first | exact HB.out | apply below_alloc | apply pw_below_drewN | apply below_drew1 | refine below_set ?_ GE136.out | refine below_set ?_ GE137.out | refine below_set ?_ GE138.out) | exact HB.out)) hb); clear BK136; clear BK137; clear BK138; clear HB; have BK136 := n0_; have BK137 := n1_; have BK138 := n2_; have HB := n3_; clear n0_ n1_ n2_ n3_; (try clear hb); (try clear hb2); (try clear hk); (try clear hi)) | ((with_reducible refine gate_dst (N := 5) rfl ?_); refine box_event ?hg (N := 5) ?hd (cs := #[.int .u64 0, .int .u64 0]) (t := 58) ?hr ?_; (case hd => rfl); (case hg => rfl); (case hr => first | (go_simp; done) | (go_simp; rfl)); intro gb142 hg w13 hbox hb; have n0_ := Aside0.mk (blk_below (g := gb136) (o := .cells #[.int .u64 a0_0, .int .i64 a0_1] 64 (0, 0)) (by (with_reducible repeat (first | refine blk_drewN ?_ _ | refine blk_drew ?_ | refine blk_alloc ?_ _)); exact BK136.out) hb); have n1_ := Aside0.mk (blk_below (g := gb137) (o := .cells #[.int .u64 a1_0, .int .i64 a1_1] 64 (0, 0)) (by (with_reducible repeat (first | refine blk_drewN ?_ _ | refine blk_drew ?_ | refine blk_alloc ?_ _)); exact BK137.out) hb); have n2_ := Aside0.mk (blk_below (g := gb138) (o := .cells #[.int .u64 0, .int .u64 0] 58 (0, 0)) (by (with_reducible repeat (first | refine blk_drewN ?_ _ | refine blk_drew ?_ | refine blk_alloc ?_ _)); exact BK138.out) hb); have n3_ := Aside0.mk (below_step (by repeat (first | (with_reducible first | exact HB.out | apply below_alloc | apply pw_below_drewN | apply below_drew1 | refine below_set ?_ GE136.out | refine below_set ?_ GE137.out | refine below_set ?_ GE138.out) | exact HB.out)) hb); have n4_ := Aside0.mk (hbox); have n5_ := Aside0.mk ((by rw [hg]; exact (below_size (by repeat (first | (with_reducible first | exact HB.out | apply below_alloc | apply pw_below_drewN | apply below_drew1 | refine below_set ?_ GE136.out | refine below_set ?_ GE137.out | refine below_set ?_ GE138.out) | exact HB.out))) : w.heap.size ≤ gb142)); have n6_ := Aside0.mk ((by rw [hg]; exact (below_size (by repeat (first | (with_reducible first | exact HB.out | apply below_alloc | apply pw_below_drewN | apply below_drew1 | refine below_set ?_ GE136.out | refine below_set ?_ GE137.out | refine below_set ?_ GE138.out) | exact HB.out))) : w.heap.size ≤ gb142)); have n7_ := Aside0.mk ((by rw [hg]; exact Nat.ne_of_lt (blk_lt (g := gb136) (o := .cells #[.int .u64 a0_0, .int .i64 a0_1] 64 (0, 0)) (by (with_reducible repeat (first | refine blk_drewN ?_ _ | refine blk_drew ?_ | refine blk_alloc ?_ _)); exact BK136.out)) : gb136 ≠ gb142)); have n8_ := Aside0.mk ((by rw [hg]; exact Nat.ne_of_gt (blk_lt (g := gb136) (o := .cells #[.int .u64 a0_0, .int .i64 a0_1] 64 (0, 0)) (by (with_reducible repeat (first | refine blk_drewN ?_ _ | refine blk_drew ?_ | refine blk_alloc ?_ _)); exact BK136.out)) : gb142 ≠ gb136)); have n9_ := Aside0.mk ((by rw [hg]; exact Nat.ne_of_lt (blk_lt (g := gb137) (o := .cells #[.int .u64 a1_0, .int .i64 a1_1] 64 (0, 0)) (by (with_reducible repeat (first | refine blk_drewN ?_ _ | refine blk_drew ?_ | refine blk_alloc ?_ _)); exact BK137.out)) : gb137 ≠ gb142)); have n10_ := Aside0.mk ((by rw [hg]; exact Nat.ne_of_gt (blk_lt (g := gb137) (o := .cells #[.int .u64 a1_0, .int .i64 a1_1] 64 (0, 0)) (by (with_reducible repeat (first | refine blk_drewN ?_ _ | refine blk_drew ?_ | refine blk_alloc ?_ _)); exact BK137.out)) : gb142 ≠ gb137)); have n11_ := Aside0.mk ((by rw [hg]; exact Nat.ne_of_lt (blk_lt (g := gb138) (o := .cells #[.int .u64 0, .int .u64 0] 58 (0, 0)) (by (with_reducible repeat (first | refine blk_drewN ?_ _ | refine blk_drew ?_ | refine blk_alloc ?_ _)); exact BK138.out)) : gb138 ≠ gb142)); have n12_ := Aside0.mk ((by rw [hg]; exact Nat.ne_of_gt (blk_lt (g := gb138) (o := .cells #[.int .u64 0, .int .u64 0] 58 (0, 0)) (by (with_reducible repeat (first | refine blk_drewN ?_ _ | refine blk_drew ?_ | refine blk_alloc ?_ _)); exact BK138.out)) : gb142 ≠ gb138)); clear BK136; clear BK137; clear BK138; clear HB; have BK136 := n0_; have BK137 := n1_; have BK138 := n2_; have HB := n3_; have BK142 := n4_; have GW142 := n5_; have GE142 := n6_; have NB136_142 := n7_; have NB142_136 := n8_; have NB137_142 := n9_; have NB142_137 := n10_; have NB138_142 := n11_; have NB142_138 := n12_; clear n0_ n1_ n2_ n3_ n4_ n5_ n6_ n7_ n8_ n9_ n10_ n11_ n12_; clear hb hbox hg; have hnb14 := NB142_136.out; have hnc14 := NB136_142.out; have hnb15 := NB142_137.out; have hnc15 := NB137_142.out; have hnb16 := NB142_138.out; have hnc16 := NB138_142.out; have hcz17_0 : w13.cell? ⟨gb142, 0, none⟩ = some (.int .u64 0) := (blk_cell BK142.out 0).trans rfl; have hcz17_1 : w13.cell? ⟨gb142, 1, none⟩ = some (.int .u64 0) := (blk_cell BK142.out 1).trans rfl; have hfz17_0 := blk_frozen BK142.out 0; have hfz17_1 := blk_frozen BK142.out 1; have hcz18_0 : w13.cell? ⟨gb138, 0, none⟩ = some (.int .u64 0) := (blk_cell BK138.out 0).trans rfl; have hcz18_1 : w13.cell? ⟨gb138, 1, none⟩ = some (.int .u64 0) := (blk_cell BK138.out 1).trans rfl; have hfz18_0 := blk_frozen BK138.out 0; have hfz18_1 := blk_frozen BK138.out 1))
  refine bodyPost_ret (results_cell_row rfl _ _ gb138 58 #[.int .u64 t139, .int .u64 t140] (0, 0) _ rfl (by (with_reducible repeat (first | refine blk_drewN ?_ _ | refine blk_drew ?_ | refine blk_alloc ?_ _)); refine blk_put (cs := #[.int .u64 t139, .int .u64 0]) ?_ 1 _ rfl; (with_reducible repeat (first | refine blk_drewN ?_ _ | refine blk_drew ?_ | refine blk_alloc ?_ _)); refine blk_put (cs := #[.int .u64 0, .int .u64 0]) ?_ 0 _ rfl; (with_reducible repeat (first | refine blk_drewN ?_ _ | refine blk_drew ?_ | refine blk_alloc ?_ _)); refine blk_far ?_ NB138_142.out _; (with_reducible repeat (first | refine blk_drewN ?_ _ | refine blk_drew ?_ | refine blk_alloc ?_ _)); refine blk_far ?_ NB138_142.out _; (with_reducible repeat (first | refine blk_drewN ?_ _ | refine blk_drew ?_ | refine blk_alloc ?_ _)); exact BK138.out) Try.underlying58 rfl (by kernel_rfl)) rfl ?_
  exact ⟨by first | rfl | (simp [errW_none, errW_some] <;> rfl) | (simp [*, errW_none, errW_some] <;> rfl), by repeat (first | (with_reducible first | exact HB.out | apply below_alloc | apply pw_below_drewN | apply below_drew1 | refine below_set ?_ GE136.out | refine below_set ?_ GE137.out | refine below_set ?_ GE138.out | refine below_set ?_ GE142.out) | exact HB.out)⟩

end Go.Proofs.Ytjlegggkibbkjaa.G
end

section
-- Written by a program of this session (wip/gprint.py: the kit's print, with contracts proved by hand)
namespace Go.Proofs.Ytjlegggkibbkjaa.G
open Go.RowKit Go.Proofs.YtjlegggkibbkjaaW.PrintWords Go.Proofs.YtjlegggkibbkjaaW.PrintLast Go.Proofs.YtjlegggkibbkjaaW.PrintMore
attribute [local go_sem] max2_int min2_int max_two min_two max_three min_three max_four min_four   -- for this text's walks alone
set_option linter.unusedVariables false
set_option linter.unusedSimpArgs false

/-! ### hull_bend: function 33 -/
def hull_bend.f (a0 : Int) : Option (Int) := if a0 = 0 then (some (-1)) else (some 1)
set_option maxHeartbeats 8000000 in
set_option maxRecDepth 100000 in
theorem hull_bend.calls (a0 : Int) (r : Int) (w : World) (h : hull_bend.f a0 = some r) :
    Calls Try.prog 33 #[.int .i64 a0] w fun e w' => e = .returned (.int .i64 r) ∧ Drawn0 w w' := by
  have H : (if a0 = 0 then (some (-1)) else (some 1)) = some r := h
  clear h
  by_cases c2 : a0 = 0
  · rw [if_pos c2] at H
    have c2b0 : (a0 == 0) = true := beq_iff_eq.mpr c2
    have c2b1 : (a0 != 0) = false := bne_eq_false_iff_eq.mpr c2
    clear c2
    obtain rfl := Option.some.inj H
    go_enter Try.func33, Try.ntmps33
    go_wp2
    go_ret
    exact ⟨by first | rfl | (simp; done) | (simp [*]; done), by repeat (first | exact Drawn0.refl _ | apply Drawn0.step)⟩
  · rw [if_neg c2] at H
    have c2b0 : (a0 == 0) = false := beq_eq_false_iff_ne.mpr c2
    have c2b1 : (a0 != 0) = true := bne_iff_ne.mpr c2
    obtain rfl := Option.some.inj H
    go_enter Try.func33, Try.ntmps33
    go_wp2
    go_ret
    exact ⟨by first | rfl | (simp; done) | (simp [*]; done), by repeat (first | exact Drawn0.refl _ | apply Drawn0.step)⟩

end Go.Proofs.Ytjlegggkibbkjaa.G
end

section
-- Written by a program of this session (wip/gprint.py: the kit's print, with contracts proved by hand)
namespace Go.Proofs.Ytjlegggkibbkjaa.G
open Go.RowKit Go.Proofs.YtjlegggkibbkjaaW.PrintWords Go.Proofs.YtjlegggkibbkjaaW.PrintLast Go.Proofs.YtjlegggkibbkjaaW.PrintMore
attribute [local go_sem] max2_int min2_int max_two min_two max_three min_three max_four min_four   -- for this text's walks alone
set_option linter.unusedVariables false
set_option linter.unusedSimpArgs false

/-! ### inclineref03_Rising: function 6 -/
def inclineref03_Rising.l0 : Nat → List Int → Int → Option (Bool)
  | 0, _, _ => none
  | k + 1, x0, x3 => if x3 < (x0.length : Int) then (if 0 ≤ x3 then (if 0 ≤ (wrap64 (x3 - 1)) then (if (wrap64 (x3 - 1)) < (x0.length : Int) then (if (rd x0 x3) ≤ (rd x0 (wrap64 (x3 - 1))) then (some false) else (inclineref03_Rising.l0 k x0 (wrap64 (x3 + 1)))) else (none)) else (none)) else (none)) else (some true)
def inclineref03_Rising.f (k : Nat) (l0 : List Int) : Option (Bool) := inclineref03_Rising.l0 k l0 1
theorem inclineref03_Rising.mono_l : ∀ k, (∀ y0 y1, LeO (inclineref03_Rising.l0 k y0 y1) (inclineref03_Rising.l0 (k + 1) y0 y1))
  | 0 => fun _ _ r h => by simp [inclineref03_Rising.l0] at h
  | k + 1 => by
    have ih0 := inclineref03_Rising.mono_l k
    · intro y0 y1
      unfold inclineref03_Rising.l0
      repeat' first
      | (with_reducible exact ih0 _ _)
      | (with_reducible exact LeO.refl _)
      | (with_reducible exact LeO.none _)
      | (with_reducible refine LeO.ite ?_ ?_)
      | (with_reducible refine LeO.bind ?_ (fun _ => ?_))
      | exact ih0 _ _
      | exact LeO.none _
      | refine LeO.ite ?_ ?_
      | refine LeO.bind ?_ (fun _ => ?_)
theorem inclineref03_Rising.mono : ∀ a0 k, LeO (inclineref03_Rising.f k a0) (inclineref03_Rising.f (k + 1) a0) := by
  intro a0 k
  have ih0 := inclineref03_Rising.mono_l k
  unfold inclineref03_Rising.f
  repeat' first
      | (with_reducible exact ih0 _ _)
      | (with_reducible exact LeO.refl _)
      | (with_reducible exact LeO.none _)
      | (with_reducible refine LeO.ite ?_ ?_)
      | (with_reducible refine LeO.bind ?_ (fun _ => ?_))
      | exact ih0 _ _
      | exact LeO.none _
      | refine LeO.ite ?_ ?_
      | refine LeO.bind ?_ (fun _ => ?_)
set_option maxHeartbeats 8000000 in
set_option maxRecDepth 100000 in
theorem inclineref03_Rising.calls (k : Nat) (A0 : Option Addr) (c0 : Nat) (l0 : List Int) (r : Bool) (w : World) (hr0 : Kd.C (Kd.int .u64) w A0 l0.length l0) (hc0 : l0.length ≤ c0) (h : inclineref03_Rising.f k l0 = some r) :
    Calls Try.prog 6 #[.slice A0 l0.length c0] w fun e w' => e = .returned (.bool r) ∧ Drawn0 w w' := by
  have HR0 := Aside0.mk hr0
  have HC0 := Aside0.mk hc0
  clear hr0 hc0
  have H : (inclineref03_Rising.l0 k l0 1) = some r := h
  clear h
  have H' := Aside0.mk H
  clear H
  go_enter Try.func6, Try.ntmps6
  go_wp2
  repeat (go_quiet (fail); try go_wp2)
  go_loopg [3] k (fun kq v3 w' => ∃ (x3_1 : Int), v3 = .int .i64 x3_1 ∧ Aside0 (inclineref03_Rising.l0 kq l0 x3_1 = some r) ∧ Aside0 (kq ≤ k) ∧ Drawn0 w w')
  case atStart => exact ⟨(1), (by first | rfl | (simp; done) | (simp [*]; done)), H', ⟨Nat.le_refl _⟩, by repeat (first | exact Drawn0.refl _ | apply Drawn0.step)⟩
  case round =>
    clear H'
    obtain ⟨x3_1, rfl, HA, HK1, ⟨m1, rfl⟩⟩ := hrel
    cases gk with
    | zero => exact absurd HA.out (by simp [inclineref03_Rising.l0])
    | succ k1 =>
      have H := HA.out
      clear HA
      simp only [inclineref03_Rising.l0] at H
      by_cases c2 : x3_1 < (l0.length : Int)
      · rw [if_pos c2] at H
        have c2b0 : decide (x3_1 < (l0.length : Int)) = true := decide_eq_true c2
        clear c2
        by_cases c3 : 0 ≤ x3_1
        · rw [if_pos c3] at H
          have c3b0 : decide (0 ≤ x3_1) = true := decide_eq_true c3
          clear c3
          obtain ⟨ji4, hji4⟩ : ∃ j_ : Int, (wrap64 (x3_1 - 1)) = j_ := ⟨_, rfl⟩
          replace H : (if 0 ≤ (ji4) then (if (ji4) < (l0.length : Int) then (if (rd l0 x3_1) ≤ (rd l0 (ji4)) then (some false) else (inclineref03_Rising.l0 k1 l0 (wrap64 (x3_1 + 1)))) else (none)) else (none)) = some r := by first | (rw [hji4] at H; exact H) | (simp only [hji4] at H ⊢; exact H)
          have hji4w : (IntKind.i64.wrap (x3_1 - 1)) = ji4 := (i64_w _).trans hji4
          by_cases c5 : 0 ≤ (ji4)
          · rw [if_pos c5] at H
            have c5b0 : decide (0 ≤ (ji4)) = true := decide_eq_true c5
            clear c5
            by_cases c6 : (ji4) < (l0.length : Int)
            · rw [if_pos c6] at H
              have c6b0 : decide ((ji4) < (l0.length : Int)) = true := decide_eq_true c6
              clear c6
              by_cases c7 : (rd l0 x3_1) ≤ (rd l0 (ji4))
              · rw [if_pos c7] at H
                have c7b0 : decide ((rd l0 x3_1) ≤ (rd l0 (ji4))) = true := decide_eq_true c7
                clear c7
                obtain rfl := Option.some.inj H
                have p143 : 0 ≤ (x3_1 : Int) := of_decide_eq_true (by first | (with_reducible assumption) | assumption)
                have q143 : x3_1 < (l0.length : Int) := of_decide_eq_true (by first | (with_reducible assumption) | assumption)
                obtain ⟨ad143, e143, hx143_0⟩ := Kd.at_int HR0.out x3_1 p143 q143
                cases e143
                replace p143 := eq_true p143
                replace q143 := eq_true q143
                have p144 : 0 ≤ ((ji4) : Int) := of_decide_eq_true (by first | (with_reducible assumption) | assumption)
                have q144 : (ji4) < (l0.length : Int) := of_decide_eq_true (by first | (with_reducible assumption) | assumption)
                obtain ⟨ad144, e144, hx144_0⟩ := Kd.at_int HR0.out (ji4) p144 q144
                obtain rfl : ad143 = ad144 := (by injection e144)
                replace p144 := eq_true p144
                replace q144 := eq_true q144
                go_wp2
                repeat (go_quiet (fail); try go_wp2)
                go_ret
                exact ⟨by first | rfl | (simp; done) | (simp only [← hji4] <;> (first | rfl | simp)) | (simp [*]; done), by repeat (first | exact Drawn0.refl _ | apply Drawn0.step)⟩
              · rw [if_neg c7] at H
                have c7b0 : decide ((rd l0 x3_1) ≤ (rd l0 (ji4))) = false := decide_eq_false c7
                clear c7
                have H' := Aside0.mk H
                clear H
                have p143 : 0 ≤ (x3_1 : Int) := of_decide_eq_true (by first | (with_reducible assumption) | assumption)
                have q143 : x3_1 < (l0.length : Int) := of_decide_eq_true (by first | (with_reducible assumption) | assumption)
                obtain ⟨ad143, e143, hx143_0⟩ := Kd.at_int HR0.out x3_1 p143 q143
                cases e143
                replace p143 := eq_true p143
                replace q143 := eq_true q143
                have p144 : 0 ≤ ((ji4) : Int) := of_decide_eq_true (by first | (with_reducible assumption) | assumption)
                have q144 : (ji4) < (l0.length : Int) := of_decide_eq_true (by first | (with_reducible assumption) | assumption)
                obtain ⟨ad144, e144, hx144_0⟩ := Kd.at_int HR0.out (ji4) p144 q144
                obtain rfl : ad143 = ad144 := (by injection e144)
                replace p144 := eq_true p144
                replace q144 := eq_true q144
                go_wp2
                repeat (go_quiet (fail); try go_wp2)
                go_roundg k1
                case measure => have := HK1.out; omega
                case rel => exact ⟨(wrap64 (x3_1 + 1)), (by first | rfl | (simp; done) | (simp [*]; done)), H', ⟨by have := HK1.out; omega⟩, by repeat (first | exact Drawn0.refl _ | apply Drawn0.step)⟩
            · rw [if_neg c6] at H
              exact absurd H (by simp)
          · rw [if_neg c5] at H
            exact absurd H (by simp)
        · rw [if_neg c3] at H
          exact absurd H (by simp)
      · rw [if_neg c2] at H
        have c2b0 : decide (x3_1 < (l0.length : Int)) = false := decide_eq_false c2
        clear c2
        obtain rfl := Option.some.inj H
        go_wp2
        repeat (go_quiet (fail); try go_wp2)
        go_ret
        exact ⟨by first | rfl | (simp; done) | (simp [*]; done), by repeat (first | exact Drawn0.refl _ | apply Drawn0.step)⟩

/-- THE ONE PURE STATEMENT of inclineref03_Rising: yours. -/
def inclineref03_Rising.Pure : Prop := ∀ (l0 : List Int), l0.length ≤ maxLen → l0.length * 8 ≤ 140737488351232 → (∀ x ∈ l0, (Lit.int .u64 x).wf = true) → ∃ k, inclineref03_Rising.f k l0 = some true
theorem inclineref03_Rising.walk (P : inclineref03_Rising.Pure) (a0 : Option Addr) (len0 cap0 : Nat) (z0 : List Int) (w : World) (w0 : (a0 = none ∧ len0 = 0 ∧ cap0 = 0 ∧ z0 = []) ∨ ∃ x, a0 = some x ∧ len0 ≤ cap0 ∧ cap0 ≤ maxLen ∧ z0.length = cap0 ∧ (∀ i, i < z0.length → w.cell? (x.add i) = some (.int .u64 (z0.getD i 0))) ∧ ∀ n ∈ z0, (Lit.int .u64 n).wf = true) (y0 : len0 * 8 ≤ 140737488351232) :
    Calls Try.prog 6 #[.slice a0 len0 cap0] w fun e w' => e = .returned (.bool true) ∧ Below w.heap.size w w' := by
  obtain ⟨l0, rfl, hr0, hm0, hw0, hc0⟩ := ReadsInt.ofRowC w0
  obtain ⟨k, h⟩ := P l0 hm0 y0 hw0
  refine (inclineref03_Rising.calls k _ _ l0 true w (Kd.C_of_reads (d := (0 : Int)) (h1 := fun _ => rfl) hr0) hc0 h).mono ?_
  rintro e w' ⟨rfl, hd⟩
  exact ⟨rfl, hd.below⟩

end Go.Proofs.Ytjlegggkibbkjaa.G
end

section
-- Written by a program of this session (wip/gprint.py: the kit's print, with contracts proved by hand)
namespace Go.Proofs.Ytjlegggkibbkjaa.G
open Go.RowKit Go.Proofs.YtjlegggkibbkjaaW.PrintWords Go.Proofs.YtjlegggkibbkjaaW.PrintLast Go.Proofs.YtjlegggkibbkjaaW.PrintMore
attribute [local go_sem] max2_int min2_int max_two min_two max_three min_three max_four min_four   -- for this text's walks alone
set_option linter.unusedVariables false
set_option linter.unusedSimpArgs false

/-! ### levels_MaxHeight: function 9 -/
mutual
def levels_MaxHeight.j0 : Nat → Int → Int → Bool → Option (Int)
  | 0, _, _, _ => none
  | k + 1, x0, x1, x5 => if x5 = true then (some 0) else (if x0 ≤ (wrap64 ((wrap64 (2 * x1)) - 1)) then (some 1) else (if x1 = 0 then (none) else ((levels_MaxHeight.f k (wrap64 ((wrap64 (Int.tdiv x0 x1)) + 1)) x1).bind fun t145 => (some (wrap64 (1 + t145))))))
def levels_MaxHeight.f : Nat → Int → Int → Option (Int)
  | 0, _, _ => none
  | k + 1, a0, a1 => if a0 < 1 then (levels_MaxHeight.j0 k a0 a1 true) else (if a1 < 2 then (levels_MaxHeight.j0 k a0 a1 true) else (levels_MaxHeight.j0 k a0 a1 (decide (a1 > 64))))
end
theorem levels_MaxHeight.mono_l : ∀ k, (∀ y0 y1, LeO (levels_MaxHeight.f k y0 y1) (levels_MaxHeight.f (k + 1) y0 y1)) ∧ (∀ y0 y1 y2, LeO (levels_MaxHeight.j0 k y0 y1 y2) (levels_MaxHeight.j0 (k + 1) y0 y1 y2))
  | 0 => ⟨fun _ _ r h => by simp [levels_MaxHeight.f] at h, fun _ _ _ r h => by simp [levels_MaxHeight.j0] at h⟩
  | k + 1 => by
    obtain ⟨ih0, ih1⟩ := levels_MaxHeight.mono_l k
    refine ⟨?_, ?_⟩
    · intro y0 y1
      unfold levels_MaxHeight.f
      repeat' first
      | (with_reducible exact ih0 _ _)
      | (with_reducible exact ih1 _ _ _)
      | (with_reducible exact LeO.refl _)
      | (with_reducible exact LeO.none _)
      | (with_reducible refine LeO.ite ?_ ?_)
      | (with_reducible refine LeO.bind ?_ (fun _ => ?_))
      | exact ih0 _ _
      | exact ih1 _ _ _
      | exact LeO.none _
      | refine LeO.ite ?_ ?_
      | refine LeO.bind ?_ (fun _ => ?_)
    · intro y0 y1 y2
      unfold levels_MaxHeight.j0
      repeat' first
      | (with_reducible exact ih0 _ _)
      | (with_reducible exact ih1 _ _ _)
      | (with_reducible exact LeO.refl _)
      | (with_reducible exact LeO.none _)
      | (with_reducible refine LeO.ite ?_ ?_)
      | (with_reducible refine LeO.bind ?_ (fun _ => ?_))
      | exact ih0 _ _
      | exact ih1 _ _ _
      | exact LeO.none _
      | refine LeO.ite ?_ ?_
      | refine LeO.bind ?_ (fun _ => ?_)
theorem levels_MaxHeight.mono : ∀ a0 a1 k, LeO (levels_MaxHeight.f k a0 a1) (levels_MaxHeight.f (k + 1) a0 a1) := by
  intro a0 a1 k
  obtain ⟨ih0, ih1⟩ := levels_MaxHeight.mono_l k
  exact ih0 a0 a1
set_option maxHeartbeats 8000000 in
set_option maxRecDepth 100000 in
theorem levels_MaxHeight.calls (k : Nat) : ∀ (a0 : Int) (a1 : Int) (r : Int) (w : World) (h : levels_MaxHeight.f k a0 a1 = some r),
    Calls Try.prog 9 #[.int .i64 a0, .int .i64 a1] w fun e w' => e = .returned (.int .i64 r) ∧ Drawn0 w w' := by
  induction k using Nat.strongRecOn with
  | _ k ih =>
  intro a0 a1 r w h
  cases k with
  | zero => exact absurd h (by simp [levels_MaxHeight.f])
  | succ k =>
  simp only [levels_MaxHeight.f] at h
  have H : (if a0 < 1 then (levels_MaxHeight.j0 k a0 a1 true) else (if a1 < 2 then (levels_MaxHeight.j0 k a0 a1 true) else (levels_MaxHeight.j0 k a0 a1 (decide (a1 > 64))))) = some r := h
  clear h
  have HC3 := Aside0.mk H
  clear H
  go_enter Try.func9, Try.ntmps9
  go_upto_region 1 with (fail)
  go_cut [5] (fun v5 wc => ∃ (kq : Nat) (x5_2 : Bool), v5 = .bool x5_2 ∧ Aside0 (levels_MaxHeight.j0 kq a0 a1 x5_2 = some r) ∧ Aside0 (kq ≤ k) ∧ Drawn0 w wc)
  case first =>
    have H := HC3.out
    clear HC3
    by_cases c4 : a0 < 1
    · rw [if_pos c4] at H
      have c4b0 : decide (a0 < 1) = true := decide_eq_true c4
      clear c4
      (first | rw [c4b0] | (simp only [i64_w, i32_w]; rw [c4b0]) | skip)
      have H' := Aside0.mk H
      clear H
      go_wp2
      go_meet
      case rel => exact ⟨_, (true), (by first | rfl | (simp; done) | (simp [*]; done)), H', ⟨by first | omega | exact Nat.le_refl _⟩, by repeat (first | exact Drawn0.refl _ | apply Drawn0.step)⟩
    · rw [if_neg c4] at H
      have c4b0 : decide (a0 < 1) = false := decide_eq_false c4
      clear c4
      (first | rw [c4b0] | (simp only [i64_w, i32_w]; rw [c4b0]) | skip)
      by_cases c5 : a1 < 2
      · rw [if_pos c5] at H
        have c5b0 : decide (a1 < 2) = true := decide_eq_true c5
        clear c5
        have H' := Aside0.mk H
        clear H
        go_wp2
        go_meet
        case rel => exact ⟨_, (true), (by first | rfl | (simp; done) | (simp [*]; done)), H', ⟨by first | omega | exact Nat.le_refl _⟩, by repeat (first | exact Drawn0.refl _ | apply Drawn0.step)⟩
      · rw [if_neg c5] at H
        have c5b0 : decide (a1 < 2) = false := decide_eq_false c5
        clear c5
        have H' := Aside0.mk H
        clear H
        go_wp2
        go_meet
        case rel => exact ⟨_, (decide (a1 > 64)), (by first | rfl | (simp; done) | (simp [*]; done)), H', ⟨by first | omega | exact Nat.le_refl _⟩, by repeat (first | exact Drawn0.refl _ | apply Drawn0.step)⟩
  case rest =>
    clear HC3
    try clear p2
    try clear c4
    try clear c4b0
    try clear c5
    try clear c5b0
    obtain ⟨kq, x5_2, rfl, HA, HJ2, ⟨mc2, rfl⟩⟩ := hcut
    cases kq with
    | zero => exact absurd HA.out (by simp [levels_MaxHeight.j0])
    | succ kj2 =>
      have H := HA.out
      clear HA
      simp only [levels_MaxHeight.j0] at H
      by_cases c6 : x5_2 = true
      · subst c6
        have H1 : (some 0) = some r := by rw [if_pos rfl] at H; exact H
        clear H
        have H := H1
        clear H1
        obtain rfl := Option.some.inj H
        go_wp2
        go_ret
        exact ⟨by first | rfl | (simp; done) | (simp [*]; done), by repeat (first | exact Drawn0.refl _ | apply Drawn0.step)⟩
      · replace c6 := Bool.eq_false_iff.mpr c6
        subst c6
        have H1 : (if a0 ≤ (wrap64 ((wrap64 (2 * a1)) - 1)) then (some 1) else (if a1 = 0 then (none) else ((levels_MaxHeight.f kj2 (wrap64 ((wrap64 (Int.tdiv a0 a1)) + 1)) a1).bind fun t145 => (some (wrap64 (1 + t145)))))) = some r := by rw [if_neg (show ¬ (false = true) by decide)] at H; exact H
        clear H
        have H := H1
        clear H1
        by_cases c7 : a0 ≤ (wrap64 ((wrap64 (2 * a1)) - 1))
        · rw [if_pos c7] at H
          have c7b0 : decide (a0 ≤ (wrap64 ((wrap64 (2 * a1)) - 1))) = true := decide_eq_true c7
          clear c7
          obtain rfl := Option.some.inj H
          go_wp2
          go_ret
          exact ⟨by first | rfl | (simp; done) | (simp [*]; done), by repeat (first | exact Drawn0.refl _ | apply Drawn0.step)⟩
        · rw [if_neg c7] at H
          have c7b0 : decide (a0 ≤ (wrap64 ((wrap64 (2 * a1)) - 1))) = false := decide_eq_false c7
          clear c7
          by_cases c8 : a1 = 0
          · rw [if_pos c8] at H
            exact absurd H (by simp)
          · rw [if_neg c8] at H
            have c8b0 : (a1 == 0) = false := beq_eq_false_iff_ne.mpr c8
            have c8b1 : (a1 != 0) = true := bne_iff_ne.mpr c8
            replace H := Option.bind_eq_some_iff.mp H
            obtain ⟨t145, A90, H⟩ := H
            replace H : (some (wrap64 (1 + t145))) = some r := H
            have A9 := Aside0.mk A90
            clear A90
            obtain rfl := Option.some.inj H
            go_wp2_with (first | ((with_reducible refine gate_callee (f := 9) rfl ?_); refine goesL_ (some 27) rfl rfl Try.func9 (by kernel_rfl) rfl #[.int .i64 (wrap64 ((wrap64 (Int.tdiv a0 a1)) + 1)), .int .i64 a1] rfl (by (try simp only [List.map_toArray, List.map_cons, List.map_nil]); first | done | rfl | (simp only [List.length_drop, List.length_take]; rfl)) ?_; (with_reducible refine (ih kj2 (by have := HJ2.out; omega) (wrap64 ((wrap64 (Int.tdiv a0 a1)) + 1)) a1 t145 _ A9.out).mono ?_); rintro e w' ⟨rfl, ⟨nd, rfl⟩⟩; refine ⟨_, rfl, ?_⟩))
            go_ret
            exact ⟨by first | rfl | (simp; done) | (simp [*]; done), by repeat (first | exact Drawn0.refl _ | apply Drawn0.step)⟩

end Go.Proofs.Ytjlegggkibbkjaa.G
end

section
-- Written by a program of this session (wip/gprint.py: the kit's print, with contracts proved by hand)
namespace Go.Proofs.Ytjlegggkibbkjaa.G
open Go.RowKit Go.Proofs.YtjlegggkibbkjaaW.PrintWords Go.Proofs.YtjlegggkibbkjaaW.PrintLast Go.Proofs.YtjlegggkibbkjaaW.PrintMore
attribute [local go_sem] max2_int min2_int max_two min_two max_three min_three max_four min_four   -- for this text's walks alone
set_option linter.unusedVariables false
set_option linter.unusedSimpArgs false

/-! ### inclinetop_eps: function 7 -/
def inclinetop_eps.f (a0 : Int) : Option (Bool) := if a0 ≥ 2 then (some (decide (a0 ≤ 64))) else (some false)
set_option maxHeartbeats 8000000 in
set_option maxRecDepth 100000 in
theorem inclinetop_eps.calls (a0 : Int) (r : Bool) (w : World) (h : inclinetop_eps.f a0 = some r) :
    Calls Try.prog 7 #[.int .i64 a0] w fun e w' => e = .returned (.bool r) ∧ Drawn0 w w' := by
  have H : (if a0 ≥ 2 then (some (decide (a0 ≤ 64))) else (some false)) = some r := h
  clear h
  by_cases c2 : a0 ≥ 2
  · rw [if_pos c2] at H
    have c2b0 : decide (2 ≤ a0) = true := decide_eq_true c2
    clear c2
    obtain rfl := Option.some.inj H
    go_enter Try.func7, Try.ntmps7
    go_wp2
    go_ret
    exact ⟨by first | rfl | (simp; done) | (simp [*]; done), by repeat (first | exact Drawn0.refl _ | apply Drawn0.step)⟩
  · rw [if_neg c2] at H
    have c2b0 : decide (2 ≤ a0) = false := decide_eq_false c2
    clear c2
    obtain rfl := Option.some.inj H
    go_enter Try.func7, Try.ntmps7
    go_wp2
    go_ret
    exact ⟨by first | rfl | (simp; done) | (simp [*]; done), by repeat (first | exact Drawn0.refl _ | apply Drawn0.step)⟩

/-- THE ONE PURE STATEMENT of inclinetop_eps: yours. -/
def inclinetop_eps.Pure : Prop := ∀ (a0 : Int), (Lit.int .i64 a0).wf = true → inclinetop_eps.f a0 = some true
theorem inclinetop_eps.walk (P : inclinetop_eps.Pure) (a0 : Int) (w : World) (w0 : (Lit.int .i64 a0).wf = true) :
    Calls Try.prog 7 #[.int .i64 a0] w fun e w' => e = .returned (.bool true) ∧ Below w.heap.size w w' := by
  have h := P a0 w0
  refine (inclinetop_eps.calls a0 true w h).mono ?_
  rintro e w' ⟨rfl, hd⟩
  exact ⟨rfl, hd.below⟩

end Go.Proofs.Ytjlegggkibbkjaa.G
end

section
-- Written by a program of this session (wip/gprint.py: the kit's print, with contracts proved by hand)
namespace Go.Proofs.Ytjlegggkibbkjaa.G
open Go.RowKit Go.Proofs.YtjlegggkibbkjaaW.PrintWords Go.Proofs.YtjlegggkibbkjaaW.PrintLast Go.Proofs.YtjlegggkibbkjaaW.PrintMore
attribute [local go_sem] max2_int min2_int max_two min_two max_three min_three max_four min_four   -- for this text's walks alone
set_option linter.unusedVariables false
set_option linter.unusedSimpArgs false

end Go.Proofs.Ytjlegggkibbkjaa.G
end

section
/-
  DERIVED: THE SHELF's CONTRACTS AT THIS DUMP, IN PLAIN WORDS (tools/lay-plain.mjs out of 'TryShelf.lean', which tools/lay-shelf.mjs wrote): THE SAME DECLARATIONS UNDER THE SAME NAMES: 'import', 'namespace', 'open', 'def', 'theorem' AND NOTHING ELSE: no command of the shelf's: FOR A HAND-IN. Each laying: the table of numbers ('.._ren') and one theorem, a field a fact of the dump's own or the kernel's comparison; each contract: ONE APPLICATION.
-/
namespace Go.Proofs
open Go.Shelf
def Try.lays134_ren : Go.Shelf.Ren := ⟨fun | 134 => 27 | 129 => 39 | n => n, fun | 53 => 31 | 3 => 3 | 4 => 4 | 46 => 76 | 5 => 5 | 9 => 9 | n => n, fun | n => n⟩
theorem Try.lays134 : Go.Proofs.Lays.n134 Try.prog Try.lays134_ren := {
  mixed := by kernel_rfl
  f129 := Try.func39.trans (congrArg some (by kernel_rfl))
  f134 := Try.func27.trans (congrArg some (by kernel_rfl))
  t3 := Try.underlying3
  a3 := Try.isAgg3
  z3 := Try.sizeOf3
  v3 := Try.zeroValue3
  t4 := Try.underlying4
  a4 := Try.isAgg4
  z4 := Try.sizeOf4
  v4 := Try.zeroValue4
  t5 := Try.underlying5
  a5 := Try.isAgg5
  z5 := Try.sizeOf5
  v5 := Try.zeroValue5
  t9 := Try.underlying9
  a9 := Try.isAgg9
  z9 := Try.sizeOf9
  v9 := Try.zeroValue9
  t46 := Try.underlying76
  a46 := Try.isAgg76
  z46 := Try.sizeOf76
  v46 := Try.zeroValue76
  t53 := Try.underlying31
  a53 := Try.isAgg31
  z53 := Try.sizeOf31
  v53 := Try.zeroValue31 }
/-- bits.LeadingZeros64: "LeadingZeros64 returns the number of leading zero bits in x; the result is 64 for x == 0.": IT RETURNS '64 - Lib.bitLen x'; the world is as it was. ITS CALLEE bits.Len64 IS MET BY ITS OWN CONTRACT OFF THE SHELF (lay that first): entered in place it sends the kernel out of memory. (LAID: no walk: one application.) -/
theorem Try.bits_LeadingZeros64 (x : Int) (w : World) (h0 : 0 ≤ x) (h1 : x ≤ 18446744073709551615) :
    Calls Try.prog 27 #[.int .u64 x] w fun e w' => e = .returned (.int .i64 (64 - (Lib.bitLen x.toNat : Int))) ∧ w' = w := Any.bits_LeadingZeros64 Try.lays134 x w h0 h1
def Try.lays129_ren : Go.Shelf.Ren := ⟨fun | 129 => 39 | n => n, fun | 53 => 31 | 3 => 3 | 4 => 4 | 46 => 76 | 5 => 5 | 9 => 9 | n => n, fun | n => n⟩
theorem Try.lays129 : Go.Proofs.Lays.n129 Try.prog Try.lays129_ren := {
  mixed := by kernel_rfl
  f129 := Try.func39.trans (congrArg some (by kernel_rfl))
  t3 := Try.underlying3
  a3 := Try.isAgg3
  z3 := Try.sizeOf3
  v3 := Try.zeroValue3
  t4 := Try.underlying4
  a4 := Try.isAgg4
  z4 := Try.sizeOf4
  v4 := Try.zeroValue4
  t5 := Try.underlying5
  a5 := Try.isAgg5
  z5 := Try.sizeOf5
  v5 := Try.zeroValue5
  t9 := Try.underlying9
  a9 := Try.isAgg9
  z9 := Try.sizeOf9
  v9 := Try.zeroValue9
  t46 := Try.underlying76
  a46 := Try.isAgg76
  z46 := Try.sizeOf76
  v46 := Try.zeroValue76
  t53 := Try.underlying31
  a53 := Try.isAgg31
  z53 := Try.sizeOf31
  v53 := Try.zeroValue31 }
/-- bits.Len64: "Len64 returns the minimum number of bits required to represent x; the result is 0 for x == 0.": IT RETURNS 'Lib.bitLen x'; the world is as it was. ('h0', 'h1': x is a uint64.) (LAID: no walk: one application.) -/
theorem Try.bits_Len64 (x : Int) (w : World) (h0 : 0 ≤ x) (h1 : x ≤ 18446744073709551615) :
    Calls Try.prog 39 #[.int .u64 x] w fun e w' => e = .returned (.int .i64 (Lib.bitLen x.toNat)) ∧ w' = w := Any.bits_Len64 Try.lays129 x w h0 h1
def Try.lays264_ren : Go.Shelf.Ren := ⟨fun | 264 => 38 | n => n, fun | 53 => 31 | 46 => 76 | n => n, fun | n => n⟩
theorem Try.lays264 : Go.Proofs.Lays.n264 Try.prog Try.lays264_ren := {
  mixed := by kernel_rfl
  f264 := Try.func38.trans (congrArg some (by kernel_rfl))
  t46 := Try.underlying76
  a46 := Try.isAgg76
  z46 := Try.sizeOf76
  v46 := Try.zeroValue76
  t53 := Try.underlying31
  a53 := Try.isAgg31
  z53 := Try.sizeOf31
  v53 := Try.zeroValue31 }
open Go.RowKit Go.Lib in
theorem Try.bits_Mul64 (x y : Nat) (hx : x < 18446744073709551616) (hy : y < 18446744073709551616) (w : World) :
    Calls Try.prog 38 #[.int .u64 x, .int .u64 y] w fun e w' => e = .returned (.tuple #[.int .u64 ((x * y / 18446744073709551616 : Nat) : Int), .int .u64 ((x * y % 18446744073709551616 : Nat) : Int)]) ∧ w' = w := Any.bits_Mul64 Try.lays264 x y hx hy w
end Go.Proofs
end

section
/- What the fitting reckons, as plain functions; what always holds of it. -/
namespace Go.Proofs.Ytjlegggkibbkjaa.Pure
open Go Go.RowKit Go.Proofs.Ytjlegggkibbkjaa.G
set_option linter.unusedVariables false
abbrev Pt := Int × Int
def steepF (a b c : Pt) : Int := (hull_steeper.f a.1 a.2 b.1 b.2 c.1 c.2).getD 0
def turnF (a b c : Pt) : Int := (hull_turn.f a.1 a.2 b.1 b.2 c.1 c.2).getD 0
def belowF (a b : Int × Int) : Bool := (hull_below.f a.1 a.2 b.1 b.2).getD false
def bendF (side : Int) : Int := if side = 0 then -1 else 1
theorem cmpI_some (a b : Int) : ∃ r, cmp_Compare_int64.f a b = some r := by
  simp only [cmp_Compare_int64.f, cmp_isNaN_int64.f, Option.bind_some]
  repeat (first | exact ⟨_, rfl⟩ | split)
theorem cmpU_some (a b : Int) : ∃ r, cmp_Compare_uint64.f a b = some r := by
  simp only [cmp_Compare_uint64.f, cmp_isNaN_uint64.f, Option.bind_some]
  repeat (first | exact ⟨_, rfl⟩ | split)
theorem cmp_some (a b c d : Int) : ∃ r, wide_Cmp.f a b c d = some r := by
  unfold wide_Cmp.f
  split
  · exact ⟨_, rfl⟩
  · split
    · obtain ⟨r, h⟩ := cmpU_some b d; rw [h]; exact ⟨_, rfl⟩
    · obtain ⟨r, h⟩ := cmpI_some a c; rw [h]; exact ⟨_, rfl⟩
theorem times_some (a b : Int) : ∃ r, wide_Times.f a b = some r := by
  unfold wide_Times.f bits_Mul64.f
  rw [Option.bind_some]
  split <;> exact ⟨_, rfl⟩
theorem steep_some (a b c : Pt) : hull_steeper.f a.1 a.2 b.1 b.2 c.1 c.2 = some (steepF a b c) := by
  have h : ∃ r, hull_steeper.f a.1 a.2 b.1 b.2 c.1 c.2 = some r := by
    unfold hull_steeper.f
    obtain ⟨x, hx⟩ := times_some (wrap64 (c.2 - a.2)) (IntKind.u64.wrap (c.1 - b.1))
    obtain ⟨y, hy⟩ := times_some (wrap64 (c.2 - b.2)) (IntKind.u64.wrap (c.1 - a.1))
    obtain ⟨z, hz⟩ := cmp_some x.1 x.2 y.1 y.2
    rw [hx, Option.bind_some, hy, Option.bind_some, hz]
    exact ⟨_, rfl⟩
  obtain ⟨r, h⟩ := h
  unfold steepF; rw [h]; rfl
theorem turn_some (a b c : Pt) : hull_turn.f a.1 a.2 b.1 b.2 c.1 c.2 = some (turnF a b c) := by
  have h : ∃ r, hull_turn.f a.1 a.2 b.1 b.2 c.1 c.2 = some r := by
    unfold hull_turn.f
    obtain ⟨x, hx⟩ := times_some (wrap64 (b.2 - a.2)) (IntKind.u64.wrap (c.1 - a.1))
    obtain ⟨y, hy⟩ := times_some (wrap64 (c.2 - a.2)) (IntKind.u64.wrap (b.1 - a.1))
    obtain ⟨z, hz⟩ := cmp_some x.1 x.2 y.1 y.2
    rw [hx, Option.bind_some, hy, Option.bind_some, hz]
    exact ⟨_, rfl⟩
  obtain ⟨r, h⟩ := h
  unfold turnF; rw [h]; rfl
theorem below_some (a b : Int × Int) : hull_below.f a.1 a.2 b.1 b.2 = some (belowF a b) := by
  have h : ∃ r, hull_below.f a.1 a.2 b.1 b.2 = some r := by
    unfold hull_below.f
    split
    · exact ⟨_, rfl⟩
    · split
      · exact ⟨_, rfl⟩
      · obtain ⟨x, hx⟩ := times_some (wrap64 a.1) b.2
        obtain ⟨y, hy⟩ := times_some (wrap64 b.1) a.2
        obtain ⟨z, hz⟩ := cmp_some x.1 x.2 y.1 y.2
        rw [hx, Option.bind_some, hy, Option.bind_some, hz]
        exact ⟨_, rfl⟩
  obtain ⟨r, h⟩ := h
  unfold belowF; rw [h]; rfl
theorem bend_some (side : Int) : hull_bend.f side = some (bendF side) := by
  unfold hull_bend.f bendF
  split <;> rfl
/-- In lowest terms. -/
def lowF (n d : Int) : Int × Int := (n / (Nat.gcd n.toNat d.toNat : Int), d / (Nat.gcd n.toNat d.toNat : Int))
def betwF (p q : Pt) : Int × Int := lowF (IntKind.u64.wrap (wrap64 (q.2 - p.2))) (IntKind.u64.wrap (q.1 - p.1))
theorem u64_of {n : Int} (h0 : 0 ≤ n) (h1 : n < 18446744073709551616) : IntKind.u64.wrap n = n := by rw [IntKind.wrap_u64]; omega
theorem low_l0 (n d : Int) : ∀ (k : Nat) (a b : Nat), a < k → 0 < b → 0 ≤ n → 0 ≤ d → n < 18446744073709551616 → d < 18446744073709551616 →
    ratio_Lowest.l0 k n d (a : Int) (b : Int) = some (n / (Nat.gcd a b : Int), d / (Nat.gcd a b : Int), 0) := by
  intro k
  induction k with
  | zero => intro a b h; omega
  | succ k ih =>
    intro a b hk hb hn hd hn2 hd2
    simp only [ratio_Lowest.l0]
    by_cases ha : a = 0
    · subst ha
      rw [if_neg (by decide), if_neg (by omega), Nat.gcd_zero_left]
      have e1 : Int.tdiv n (b : Int) = n / (b : Int) := Int.tdiv_eq_ediv_of_nonneg hn
      have e2 : Int.tdiv d (b : Int) = d / (b : Int) := Int.tdiv_eq_ediv_of_nonneg hd
      have q1 : 0 ≤ n / (b : Int) := Int.ediv_nonneg hn (by omega)
      have q2 : 0 ≤ d / (b : Int) := Int.ediv_nonneg hd (by omega)
      have q3 : n / (b : Int) ≤ n := Int.ediv_le_self _ hn
      have q4 : d / (b : Int) ≤ d := Int.ediv_le_self _ hd
      rw [e1, e2, u64_of q1 (by omega), u64_of q2 (by omega)]
    · rw [if_pos (by omega), if_neg (by omega)]
      have e : Int.tmod (b : Int) (a : Int) = ((b % a : Nat) : Int) := by
        rw [Int.tmod_eq_emod_of_nonneg (by omega)]; rfl
      have hlt : b % a < a := Nat.mod_lt _ (by omega)
      rw [e, ih (b % a) a (by omega) (by omega) hn hd hn2 hd2, ← Nat.gcd_rec]

theorem low_f {n d : Int} (hn : 0 ≤ n) (hd : 0 < d) (hn2 : n < 18446744073709551616) (hd2 : d < 18446744073709551616) : ∃ k, ratio_Lowest.f k n d = some ((lowF n d).1, (lowF n d).2, 0) := by
  refine ⟨n.toNat + 1, ?_⟩
  unfold ratio_Lowest.f
  rw [if_neg (by omega)]
  have h := low_l0 n d (n.toNat + 1) n.toNat d.toNat (by omega) (by omega) hn (by omega) hn2 hd2
  rw [Int.toNat_of_nonneg hn, Int.toNat_of_nonneg (by omega)] at h
  exact h
theorem betw_f {p q : Pt} (h : p.1 < q.1) (h0 : 0 ≤ p.1) (h1 : q.1 < 18446744073709551616) : ∃ k, hull_between.f k p.1 p.2 q.1 q.2 = some (betwF p q) := by
  have hw : ∀ x, 0 ≤ IntKind.u64.wrap x ∧ IntKind.u64.wrap x < 18446744073709551616 := fun x => by rw [IntKind.wrap_u64]; omega
  have hd : IntKind.u64.wrap (q.1 - p.1) = q.1 - p.1 := u64_of (by omega) (by omega)
  obtain ⟨k, hk⟩ := low_f (hw (wrap64 (q.2 - p.2))).1 (d := IntKind.u64.wrap (q.1 - p.1)) (by rw [hd]; omega) (hw _).2 (hw _).2
  refine ⟨k, ?_⟩
  unfold hull_between.f
  rw [hk]
  rfl
theorem low_le {n d : Int} (hn : 0 ≤ n) (hd : 0 ≤ d) : 0 ≤ (lowF n d).1 ∧ (lowF n d).1 ≤ n ∧ 0 ≤ (lowF n d).2 ∧ (lowF n d).2 ≤ d :=
  ⟨Int.ediv_nonneg hn (by omega), Int.ediv_le_self _ hn, Int.ediv_nonneg hd (by omega), Int.ediv_le_self _ hd⟩
/-- sort.Search. -/
def searchF (f : Nat → Bool) : Nat → Nat → Nat → Nat
  | 0, i, _ => i
  | k + 1, i, j => if i < j then (if f ((i + j) / 2) then searchF f k i ((i + j) / 2) else searchF f k ((i + j) / 2 + 1) j) else i
theorem searchF_le (f : Nat → Bool) : ∀ (k i j : Nat), i ≤ j → i ≤ searchF f k i j ∧ searchF f k i j ≤ j := by
  intro k
  induction k with
  | zero => intro i j h; simp only [searchF]; omega
  | succ k ih =>
    intro i j h
    simp only [searchF]
    split
    · split
      · have := ih i ((i + j) / 2) (by omega); omega
      · have := ih ((i + j) / 2 + 1) j (by omega); omega
    · omega
theorem searchF_fuel (f : Nat → Bool) : ∀ (k k' i j : Nat), j - i ≤ k → j - i ≤ k' → searchF f k i j = searchF f k' i j := by
  intro k
  induction k with
  | zero =>
    intro k' i j h h'
    cases k' with
    | zero => rfl
    | succ k' => simp only [searchF]; rw [if_neg (by omega)]
  | succ k ih =>
    intro k' i j h h'
    cases k' with
    | zero => simp only [searchF]; rw [if_neg (by omega)]
    | succ k' =>
      simp only [searchF]
      split
      · split
        · exact ih k' _ _ (by omega) (by omega)
        · exact ih k' _ _ (by omega) (by omega)
      · rfl
def geF (side v : Int) : Bool := decide (0 ≤ wrap64 (v * bendF side))
def pt (c : List Pt) (i : Nat) : Pt := c.getD i (0, 0)
def testF (side : Int) (c : List Pt) (p : Pt) (i : Nat) : Bool := geF side (steepF (pt c i) (pt c (i + 1)) p)
def touchI (side : Int) (c : List Pt) (p : Pt) : Nat := searchF (testF side c p) (c.length - 1) 0 (c.length - 1)
def touchF (side : Int) (c : List Pt) (p : Pt) : Pt := pt c (touchI side c p)
theorem pt_mem {c : List Pt} {i : Nat} (h : i < c.length) : pt c i ∈ c := by
  unfold pt; rw [List.getD_eq_getElem?_getD, List.getElem?_eq_getElem h]; exact List.getElem_mem h
theorem touchI_lt {side : Int} {c : List Pt} {p : Pt} (h : 0 < c.length) : touchI side c p < c.length := by
  have := (searchF_le (testF side c p) (c.length - 1) 0 (c.length - 1) (Nat.zero_le _)).2
  unfold touchI; omega
theorem touchF_mem {side : Int} {c : List Pt} {p : Pt} (h : 0 < c.length) : touchF side c p ∈ c := pt_mem (touchI_lt h)
/-- How many of the chain's first n points stay. -/
def keepF (side : Int) (c : List Pt) (p : Pt) : Nat → Nat
  | 0 => 0
  | 1 => 1
  | n + 2 => if geF side (turnF (pt c n) (pt c (n + 1)) p) then keepF side c p (n + 1) else n + 2
theorem keepF_le (side : Int) (c : List Pt) (p : Pt) : ∀ n, keepF side c p n ≤ n
  | 0 => Nat.le_refl _
  | 1 => Nat.le_refl _
  | n + 2 => by
    simp only [keepF]
    split
    · have := keepF_le side c p (n + 1); omega
    · exact Nat.le_refl _
def laidF (side : Int) (c : List Pt) (p : Pt) : List Pt := c.take (keepF side c p c.length) ++ [p]
theorem laidF_mem {side : Int} {c : List Pt} {p x : Pt} (h : x ∈ laidF side c p) : x ∈ c ∨ x = p := by
  unfold laidF at h
  rcases List.mem_append.1 h with h | h
  · exact .inl (List.mem_of_mem_take h)
  · exact .inr (List.mem_singleton.1 h)
/-- A fit. -/
structure FitS where
  e : Int
  count : Nat
  last : Int
  least : Int × Int
  most : Int × Int
  lo : List Pt
  up : List Pt
def newF (eps : Int) : FitS := ⟨eps - 1, 0, 0, (0, 1), (1, 0), [], []⟩
def leastF (s : FitS) (k : Int) : Int × Int :=
  if (touchF 1 s.up (k, s.count - s.e)).2 < s.count - s.e then
    (if belowF s.least (betwF (touchF 1 s.up (k, s.count - s.e)) (k, s.count - s.e)) then betwF (touchF 1 s.up (k, s.count - s.e)) (k, s.count - s.e) else s.least)
  else s.least
def mostF (s : FitS) (k : Int) : Int × Int :=
  if belowF (betwF (touchF 0 s.lo (k, s.count + s.e)) (k, s.count + s.e)) s.most then betwF (touchF 0 s.lo (k, s.count + s.e)) (k, s.count + s.e) else s.most
def nextF (s : FitS) (k : Int) (l m : Int × Int) : FitS := ⟨s.e, s.count + 1, k, l, m, laidF 0 s.lo (k, s.count - s.e), laidF 1 s.up (k, s.count + s.e)⟩
def addF (s : FitS) (k : Int) : Option FitS :=
  if s.count = 0 then some (nextF s k s.least s.most)
  else if belowF (mostF s k) (leastF s k) then none else some (nextF s k (leastF s k) (mostF s k))
def addAll (s : FitS) : List Int → Option FitS
  | [] => some s
  | k :: r => (addF s k).bind fun t => addAll t r
theorem addAll_snoc (s : FitS) (l : List Int) (k : Int) : addAll s (l ++ [k]) = (addAll s l).bind fun t => addF t k := by
  induction l generalizing s with
  | nil => simp only [List.nil_append, addAll, Option.bind_some]; cases addF s k <;> rfl
  | cons x l ih =>
    simp only [List.cons_append, addAll]
    cases addF s x with
    | none => rfl
    | some t => simp only [Option.bind_some]; exact ih t
theorem addAll_append (s : FitS) (a b : List Int) : addAll s (a ++ b) = (addAll s a).bind fun t => addAll t b := by
  induction a generalizing s with
  | nil => rfl
  | cons x a ih =>
    simp only [List.cons_append, addAll]
    cases addF s x with
    | none => rfl
    | some t => simp only [Option.bind_some]; exact ih t
/-- What always holds of a fit. -/
structure Inv (s : FitS) : Prop where
  e : 1 ≤ s.e ∧ s.e ≤ 63
  lo : ∀ p ∈ s.lo, (∃ j : Nat, j < s.count ∧ p.2 = j - s.e) ∧ 0 ≤ p.1 ∧ p.1 ≤ s.last
  up : ∀ p ∈ s.up, (∃ j : Nat, j < s.count ∧ p.2 = j + s.e) ∧ 0 ≤ p.1 ∧ p.1 ≤ s.last
  some1 : 0 < s.count → 0 < s.lo.length ∧ 0 < s.up.length
  none1 : s.count = 0 → s.lo = [] ∧ s.up = []
  len : s.lo.length ≤ s.count ∧ s.up.length ≤ s.count
  last : 0 ≤ s.last ∧ s.last < 18446744073709551616
  least : 0 ≤ s.least.1 ∧ s.least.1 < 18446744073709551616 ∧ 0 ≤ s.least.2 ∧ s.least.2 < 18446744073709551616
  few : (s.count : Int) ≤ 2 * s.e + 1 → s.least = (0, 1)
  most : 0 ≤ s.most.1 ∧ s.most.1 < 9223372036854775808 ∧ 0 ≤ s.most.2 ∧ s.most.2 < 18446744073709551616
theorem inv_new {eps : Int} (h : 2 ≤ eps ∧ eps ≤ 64) : Inv (newF eps) where
  e := by show 1 ≤ eps - 1 ∧ eps - 1 ≤ 63; omega
  lo := fun p hp => nomatch hp
  up := fun p hp => nomatch hp
  some1 := fun h => absurd h (Nat.lt_irrefl 0)
  none1 := fun _ => ⟨rfl, rfl⟩
  len := ⟨Nat.le_refl _, Nat.le_refl _⟩
  last := by show (0 : Int) ≤ 0 ∧ (0 : Int) < 18446744073709551616; omega
  least := by show (0 : Int) ≤ 0 ∧ (0 : Int) < 18446744073709551616 ∧ (0 : Int) ≤ 1 ∧ (1 : Int) < 18446744073709551616; omega
  few := fun _ => rfl
  most := by show (0 : Int) ≤ 1 ∧ (1 : Int) < 9223372036854775808 ∧ (0 : Int) ≤ 0 ∧ (0 : Int) < 18446744073709551616; omega
theorem u64_rng (x : Int) : 0 ≤ IntKind.u64.wrap x ∧ IntKind.u64.wrap x < 18446744073709551616 := by rw [IntKind.wrap_u64]; omega
theorem betw_rng (p q : Pt) : 0 ≤ (betwF p q).1 ∧ (betwF p q).1 < 18446744073709551616 ∧ 0 ≤ (betwF p q).2 ∧ (betwF p q).2 < 18446744073709551616 := by
  obtain ⟨h1, h2, h3, h4⟩ := low_le (u64_rng (wrap64 (q.2 - p.2))).1 (u64_rng (q.1 - p.1)).1
  have h5 := (u64_rng (wrap64 (q.2 - p.2))).2
  have h6 := (u64_rng (q.1 - p.1)).2
  unfold betwF
  omega
theorem betw_num {p q : Pt} (h : 0 ≤ q.2 - p.2) (h2 : q.2 - p.2 < 9223372036854775808) : (betwF p q).1 ≤ q.2 - p.2 := by
  have e : wrap64 (q.2 - p.2) = q.2 - p.2 := by unfold wrap64; omega
  obtain ⟨h1, h3, _⟩ := low_le (u64_rng (wrap64 (q.2 - p.2))).1 (u64_rng (q.1 - p.1)).1
  rw [e, u64_of h (by omega)] at h3
  unfold betwF
  rw [e, u64_of h (by omega)]
  exact h3
section
variable {s s' : FitS} {k : Int}
theorem Inv.leastR (h : Inv s) (hc : 0 < s.count) : 0 ≤ (leastF s k).1 ∧ (leastF s k).1 < 18446744073709551616 ∧ 0 ≤ (leastF s k).2 ∧ (leastF s k).2 < 18446744073709551616 := by
  unfold Pure.leastF
  split
  · split
    · exact betw_rng _ _
    · exact h.least
  · exact h.least
theorem Inv.leastFew (h : Inv s) (hc : 0 < s.count) (hf : (s.count : Int) ≤ 2 * s.e) : leastF s k = (0, 1) := by
  unfold Pure.leastF
  obtain ⟨⟨j, hj, hy⟩, _⟩ := h.up _ (touchF_mem (side := 1) (p := (k, s.count - s.e)) (h.some1 hc).2)
  rw [if_neg (by rw [hy]; omega)]
  exact h.few (by omega)
theorem Inv.mostR (h : Inv s) (hc : 0 < s.count) (hn : s.count ≤ 1099511627776) : 0 ≤ (mostF s k).1 ∧ (mostF s k).1 < 9223372036854775808 ∧ 0 ≤ (mostF s k).2 ∧ (mostF s k).2 < 18446744073709551616 := by
  unfold Pure.mostF
  split
  · obtain ⟨⟨j, hj, hy⟩, _⟩ := h.lo _ (touchF_mem (side := 0) (p := (k, s.count + s.e)) (h.some1 hc).1)
    have he := h.e
    have h1 := betw_rng (touchF 0 s.lo (k, s.count + s.e)) (k, s.count + s.e)
    have h2 := betw_num (p := touchF 0 s.lo (k, s.count + s.e)) (q := (k, s.count + s.e)) (by show 0 ≤ (s.count : Int) + s.e - _; rw [hy]; omega) (by show (s.count : Int) + s.e - _ < _; rw [hy]; omega)
    have h3 : (s.count : Int) + s.e - (touchF 0 s.lo (k, s.count + s.e)).2 < 9223372036854775808 := by rw [hy]; omega
    refine ⟨h1.1, ?_, h1.2.2.1, h1.2.2.2⟩
    exact Int.lt_of_le_of_lt h2 h3
  · exact h.most
theorem Inv.next (h : Inv s) (hk : 0 < s.count → s.last < k) (h0 : 0 ≤ k) (h1 : k < 18446744073709551616) {l m : Int × Int} (hl : 0 ≤ l.1 ∧ l.1 < 18446744073709551616 ∧ 0 ≤ l.2 ∧ l.2 < 18446744073709551616) (hm : 0 ≤ m.1 ∧ m.1 < 9223372036854775808 ∧ 0 ≤ m.2 ∧ m.2 < 18446744073709551616)
    (hf : (s.count : Int) ≤ 2 * s.e → l = (0, 1)) : Inv (nextF s k l m) := by
  have hle : ∀ x, x ≤ s.last → 0 < s.count → x ≤ k := fun x hx hc => by have := hk hc; omega
  have hpos : ∀ {c : List Pt} {x : Pt}, x ∈ c → c.length ≤ s.count → 0 < s.count := fun hx hc => Nat.lt_of_lt_of_le (List.length_pos_of_mem hx) hc
  refine ⟨h.e, fun p hp => ?_, fun p hp => ?_, fun _ => ⟨?_, ?_⟩, (fun hc => nomatch hc), ⟨?_, ?_⟩, ⟨h0, h1⟩, hl, fun hc => hf ?_, hm⟩
  · rcases laidF_mem hp with hp2 | rfl
    · obtain ⟨⟨j, hj, hy⟩, q1, q2⟩ := h.lo p hp2
      exact ⟨⟨j, Nat.lt_succ_of_lt hj, hy⟩, q1, hle _ q2 (hpos hp2 h.len.1)⟩
    · exact ⟨⟨s.count, Nat.lt_succ_self _, rfl⟩, h0, Int.le_refl _⟩
  · rcases laidF_mem hp with hp2 | rfl
    · obtain ⟨⟨j, hj, hy⟩, q1, q2⟩ := h.up p hp2
      exact ⟨⟨j, Nat.lt_succ_of_lt hj, hy⟩, q1, hle _ q2 (hpos hp2 h.len.2)⟩
    · exact ⟨⟨s.count, Nat.lt_succ_self _, rfl⟩, h0, Int.le_refl _⟩
  · show 0 < (laidF _ _ _).length; unfold laidF; simp
  · show 0 < (laidF _ _ _).length; unfold laidF; simp
  · show (laidF 0 s.lo (k, s.count - s.e)).length ≤ s.count + 1
    have := h.len.1
    unfold laidF; simp; omega
  · show (laidF 1 s.up (k, s.count + s.e)).length ≤ s.count + 1
    have := h.len.2
    unfold laidF; simp; omega
  · have : ((s.count + 1 : Nat) : Int) ≤ 2 * s.e + 1 := hc
    omega
theorem Inv.add (h : Inv s) (hk : 0 < s.count → s.last < k) (h0 : 0 ≤ k) (h1 : k < 18446744073709551616) (hn : s.count ≤ 1099511627776) (ha : addF s k = some s') : Inv s' ∧ s'.count = s.count + 1 ∧ s'.last = k ∧ s'.e = s.e := by
  unfold addF at ha
  split at ha
  · rename_i hc
    injection ha with ha
    subst ha
    exact ⟨h.next hk h0 h1 h.least h.most (fun _ => h.few (by have := h.e; omega)), rfl, rfl, rfl⟩
  · rename_i hc
    split at ha
    · cases ha
    · injection ha with ha
      subst ha
      exact ⟨h.next hk h0 h1 (h.leastR (by omega)) (h.mostR (by omega) hn) (fun hf => h.leastFew (by omega) hf), rfl, rfl, rfl⟩
end
theorem mul_hi {a b : Nat} (ha : a < 18446744073709551616) (hb : b < 18446744073709551616) : bits_Mul64.f a b = some (((a * b / 18446744073709551616 : Nat) : Int), ((a * b % 18446744073709551616 : Nat) : Int)) := by
  obtain ⟨r1, r2, h⟩ : ∃ r1 r2, bits_Mul64.f a b = some (r1, r2) := ⟨_, _, rfl⟩
  have h1 := bits_Mul64.calls a b r1 r2 default h
  have h2 := Try.bits_Mul64 a b ha hb default
  have e := Lib.agree (by kernel_rfl) h1 h2
  injection e with e
  have e2 : #[Value.int .u64 r1, Value.int .u64 r2] = #[Value.int .u64 ((a * b / 18446744073709551616 : Nat) : Int), .int .u64 ((a * b % 18446744073709551616 : Nat) : Int)] := e
  simp only [Array.mk.injEq, List.cons.injEq, Value.int.injEq, true_and, and_true] at e2
  rw [h, e2.1, e2.2]
theorem w0 : wrap64 0 = 0 := by unfold wrap64; omega
/-- No slope without a sign is below nought. -/
theorem below_zero {m : Int × Int} (h0 : 0 ≤ m.1) (h1 : m.1 < 9223372036854775808) (h2 : 0 ≤ m.2) (h3 : m.2 < 18446744073709551616) : belowF m (0, 1) = false := by
  have h := below_some m (0, 1)
  unfold hull_below.f at h
  rw [if_neg (by decide)] at h
  split at h
  · injection h with h; exact h.symm
  · have e1 : wide_Times.f (wrap64 m.1) 1 = some (0, m.1) := by
      have ew : wrap64 m.1 = m.1 := by unfold wrap64; omega
      obtain ⟨n, hn⟩ : ∃ n : Nat, m.1 = (n : Int) := ⟨m.1.toNat, by omega⟩
      have hm := mul_hi (a := n) (b := 1) (by omega) (by omega)
      unfold wide_Times.f
      rw [ew, u64_of h0 (by omega), hn]
      rw [show ((1 : Nat) : Int) = 1 from rfl] at hm
      rw [hm, Option.bind_some, if_neg (by omega)]
      have q1 : n * 1 / 18446744073709551616 = 0 := by omega
      have q2 : n * 1 % 18446744073709551616 = n := by omega
      rw [q1, q2]
      show some (wrap64 0, (n : Int)) = _
      rw [w0]
    have e2 : wide_Times.f (wrap64 0) m.2 = some (0, 0) := by
      have ew : wrap64 0 = 0 := w0
      obtain ⟨n, hn⟩ : ∃ n : Nat, m.2 = (n : Int) := ⟨m.2.toNat, by omega⟩
      have hm := mul_hi (a := 0) (b := n) (by omega) (by omega)
      unfold wide_Times.f
      rw [ew, u64_of (by decide) (by decide), hn]
      rw [show ((0 : Nat) : Int) = 0 from rfl] at hm
      rw [hm, Option.bind_some, if_neg (by decide)]
      rw [Nat.zero_mul]
      show some (wrap64 0, (0 : Int)) = _
      rw [w0]
    rw [e1, Option.bind_some, e2, Option.bind_some] at h
    have h4 : wide_Cmp.f 0 m.1 0 0 = some (if m.1 = 0 then 0 else 1) := by
      unfold wide_Cmp.f
      by_cases hz : m.1 = 0
      · rw [hz]; rfl
      · rw [if_neg (by simp [hz]), if_pos rfl]
        simp only [cmp_Compare_uint64.f, cmp_isNaN_uint64.f, Option.bind_some]
        rw [if_neg (by simp), if_neg (by simp), if_neg (by omega), if_pos (by omega), if_neg hz]
        rfl
    rw [h4, Option.bind_some] at h
    injection h with h
    rw [← h]
    exact decide_eq_false (by split <;> omega)
theorem Inv.few_fits {s : FitS} {k : Int} (h : Inv s) (hf : (s.count : Int) ≤ 2 * s.e) (hn : s.count ≤ 1099511627776) : addF s k ≠ none := by
  unfold addF
  split
  · exact fun h => nomatch h
  · rename_i hc
    have hm := h.mostR (k := k) (by omega) hn
    rw [h.leastFew (by omega) hf, below_zero hm.1 hm.2.1 hm.2.2.1 hm.2.2.2]
    exact fun h => nomatch h
end Go.Proofs.Ytjlegggkibbkjaa.Pure
end

section
/- Blocks that are turned; rows of points; a fit in memory. -/
namespace Go.Proofs.Ytjlegggkibbkjaa.M
open Go Go.RowKit Go.Proofs.Ytjlegggkibbkjaa.Pure
set_option linter.unusedVariables false
abbrev Blocks := Nat → Prop
structure Turned (T T' : Blocks) (A A' : World) : Prop where
  os : A'.os = A.os
  tape : A'.tape = A.tape
  output : A'.output = A.output
  size : A.heap.size ≤ A'.heap.size
  sub : ∀ k, T k → T' k
  new : ∀ k, T' k → T k ∨ (A.heap.size ≤ k ∧ k < A'.heap.size)
  same : ∀ k, k < A.heap.size → ¬ T k → A'.heap[k]? = A.heap[k]?
theorem Turned.refl (T : Blocks) (A : World) : Turned T T A A := ⟨rfl, rfl, rfl, Nat.le_refl _, fun _ h => h, fun _ h => .inl h, fun _ _ _ => rfl⟩
theorem Turned.trans {T T' T2 : Blocks} {A A' A2 : World} (h : Turned T T' A A') (k : Turned T' T2 A' A2) : Turned T T2 A A2 :=
  ⟨k.os.trans h.os, k.tape.trans h.tape, k.output.trans h.output, Nat.le_trans h.size k.size, fun j hj => k.sub j (h.sub j hj), fun j hj => (k.new j hj).elim (fun h1 => (h.new j h1).elim .inl (fun h2 => .inr ⟨h2.1, Nat.lt_of_lt_of_le h2.2 k.size⟩)) (fun h1 => .inr ⟨Nat.le_trans h.size h1.1, h1.2⟩),
    fun j hj hn => (k.same j (Nat.lt_of_lt_of_le hj h.size) (fun h2 => (h.new j h2).elim hn (fun h3 => absurd hj (by omega)))).trans (h.same j hj hn)⟩
theorem Turned.of_below {T : Blocks} {A A' : World} (h : Below A.heap.size A A') : Turned T T A A' := ⟨h.os, h.tape, h.output, h.size, fun _ h => h, fun _ h => .inl h, fun k hk _ => h.block k hk⟩
/-- Of a world that is new altogether. -/
theorem Turned.below {T T' : Blocks} {A A' : World} {base : Nat} (h : Turned T T' A A') (hb : base ≤ A.heap.size) (hT : ∀ k, T k → base ≤ k) : Below base A A' :=
  ⟨h.os, h.tape, h.output, h.size, fun k hk => h.same k (by omega) (fun h1 => by have := hT k h1; omega)⟩
theorem Below.cell1 {w w1 : World} {g j : Nat} {u : Value} (hb : Below w.heap.size w w1) (h : w.cell? ⟨g, j, none⟩ = some u) : w1.cell? ⟨g, j, none⟩ = some u := (hb.cell (World.block_lt_of_cell? _ _ h)).trans h
theorem below_drewN (w : World) (n : Nat) : Below w.heap.size w (w.drewN n) := ⟨rfl, rfl, rfl, Nat.le_refl _, fun _ _ => rfl⟩
theorem cell_of_row (W : World) (b j : Nat) (cs : Array Value) (t : TypeId) (fr : Nat × Nat) (h : W.heap[b]? = some (.cells cs t fr)) : W.cell? ⟨b, j, none⟩ = cs[j]? := by
  simp [World.cell?, h]
theorem alloc_new (w : World) (o : Obj) : (w.alloc o).heap[w.heap.size]? = some o := by unfold World.alloc; simp
theorem setCell_blk {W : World} {g j : Nat} {cs : Array Value} {t : TypeId} {fr : Nat × Nat} (h : W.heap[g]? = some (.cells cs t fr)) (u : Value) : (W.setCell ⟨g, j, none⟩ u).heap[g]? = some (.cells (cs.setIfInBounds j u) t fr) := by
  simp [World.setCell, Array.getElem?_modify, h]
theorem setCell_other (W : World) (g j : Nat) (u : Value) {k : Nat} (hk : k ≠ g) : (W.setCell ⟨g, j, none⟩ u).heap[k]? = W.heap[k]? := Below.heap_setCell W ⟨g, j, none⟩ u k hk
theorem setCell_size (W : World) (a : Addr) (u : Value) : (W.setCell a u).heap.size = W.heap.size := by simp [World.setCell]
theorem other_type {w : World} {k j : Nat} {cur cur2 : Array Value} {t t2 : TypeId} (h1 : w.heap[k]? = some (.cells cur t (0, 0))) (h2 : w.heap[j]? = some (.cells cur2 t2 (0, 0))) (ht : t ≠ t2) : k ≠ j := fun e => by
  subst e
  rw [h1] at h2
  injection h2 with h2
  injection h2 with _ h2 _
  exact ht h2
theorem row_typed {w : World} {base : Nat} {e : TypeId} {size n : Nat} {v : Value} {xs : List Value} (h : w.ownsRow base e size v n xs) (k : Nat) (hk : v.ownBlock = some k) : ∃ cur, w.heap[k]? = some (.cells cur e (0, 0)) := by
  rcases h.2 with ⟨rfl, _⟩ | ⟨g, cap, cur, rfl, hg, hh, r⟩
  · simp [Value.ownBlock] at hk
  · have : g = k := by simpa [Value.ownBlock] using hk
    subst this
    exact ⟨cur, hh⟩
theorem ownsRow_keep {w w' : World} {base e size n : Nat} {v : Value} {xs : List Value} (h : w.ownsRow base e size v n xs) (hk : ∀ k, v.ownBlock = some k → w'.heap[k]? = w.heap[k]?) : w'.ownsRow base e size v n xs := by
  refine ⟨h.1, ?_⟩
  rcases h.2 with hn | ⟨g, cap, cur, rfl, hb, hgg, rest⟩
  · exact .inl hn
  · exact .inr ⟨g, cap, cur, rfl, hb, (hk g (by simp [Value.ownBlock])).trans hgg, rest⟩
theorem ownsRow_lower {w : World} {base base' e size n : Nat} {v : Value} {xs : List Value} (h : w.ownsRow base e size v n xs) (hb : base' ≤ base) : w.ownsRow base' e size v n xs := by
  refine ⟨h.1, ?_⟩
  rcases h.2 with hn | ⟨g, cap, cur, rfl, hb2, rest⟩
  · exact .inl hn
  · exact .inr ⟨g, cap, cur, rfl, Nat.le_trans hb hb2, rest⟩
theorem own_form {w : World} {base e size n : Nat} {v : Value} {xs : List Value} (h : w.ownsRow base e size v n xs) : ∃ A c, v = .slice A n c ∧ n ≤ c := by
  rcases h.2 with ⟨e, hn⟩ | ⟨g, cap2, cur, e, _, _, h3, _⟩
  · exact ⟨none, 0, by rw [e, hn], by omega⟩
  · exact ⟨_, _, e, h3⟩
theorem own_cut {w : World} {base e size n g cap : Nat} {xs : List Value} (h : w.ownsRow base e size (.slice (some ⟨g, 0, none⟩) n cap) n xs) {m : Nat} (hm : m ≤ n) : w.ownsRow base e size (.slice (some ⟨g, 0, none⟩) m cap) m (xs.take (m * size)) := by
  have h1 := h.1
  refine ⟨by rw [List.length_take, h1, Nat.min_eq_left (Nat.mul_le_mul_right _ hm)], ?_⟩
  rcases h.2 with ⟨e, _⟩ | ⟨g2, cap2, cur, e, hb, hgg, h3, h4, h5, h6⟩
  · cases e
  · injection e with e e2 e3
    subst e3
    refine .inr ⟨g2, cap, cur, by rw [e], hb, hgg, Nat.le_trans hm h3, h4, h5, ?_⟩
    rw [← h6, List.take_take, Nat.min_eq_left (Nat.mul_le_mul_right _ hm)]
def pcells (p : Pt) : List Value := [.int .u64 p.1, .int .i64 p.2]
def prow (c : List Pt) : List Value := c.flatMap pcells
theorem prow_snoc (c : List Pt) (x : Pt) : prow (c ++ [x]) = prow c ++ pcells x := by simp [prow]
theorem prow_length (c : List Pt) : (prow c).length = c.length * 2 := by
  induction c with
  | nil => rfl
  | cons x l ih =>
    have e : prow (x :: l) = pcells x ++ prow l := rfl
    rw [e, List.length_append, ih]
    simp [pcells]
    omega
theorem prow_get (c : List Pt) : ∀ (j r : Nat) (x : Pt), c[j]? = some x → r < 2 → (prow c)[j * 2 + r]? = (pcells x)[r]? := by
  induction c with
  | nil => intro j r x h; simp at h
  | cons y l ih =>
    intro j r x h hr
    have e : prow (y :: l) = pcells y ++ prow l := rfl
    have hl : (pcells y).length = 2 := rfl
    rw [e]
    cases j with
    | zero =>
      simp only [List.getElem?_cons_zero, Option.some.injEq] at h
      subst h
      rw [List.getElem?_append_left (by omega), Nat.zero_mul, Nat.zero_add]
    | succ j =>
      rw [List.getElem?_append_right (by omega), hl, show (j + 1) * 2 + r - 2 = j * 2 + r from by omega]
      exact ih j r x (by simpa using h) hr
theorem prow_take (c : List Pt) (m : Nat) : prow (c.take m) = (prow c).take (m * 2) := by
  induction c generalizing m with
  | nil => simp [prow]
  | cons x l ih =>
    cases m with
    | zero => simp [prow]
    | succ m =>
      have e : prow (x :: l) = pcells x ++ prow l := rfl
      have e2 : prow ((x :: l).take (m + 1)) = pcells x ++ prow (l.take m) := rfl
      have hl : (pcells x ++ prow l).take (2 + m * 2) = pcells x ++ (prow l).take (m * 2) := by
        rw [List.take_append, List.take_of_length_le (show (pcells x).length ≤ 2 + m * 2 by show 2 ≤ _; omega), show 2 + m * 2 - (pcells x).length = m * 2 from by show 2 + m * 2 - 2 = _; omega]
      rw [e2, ih, e, show (m + 1) * 2 = 2 + m * 2 from by omega, hl]
/-- The cells of points from g on. -/
def PAt (W : World) (g : Nat) (c : List Pt) : Prop := ∀ j x, c[j]? = some x → W.cell? ⟨g, j * 2, none⟩ = some (.int .u64 x.1) ∧ W.cell? ⟨g, j * 2 + 1, none⟩ = some (.int .i64 x.2)
theorem pat_of_own {w : World} {base g cap n : Nat} {c : List Pt} (h : w.ownsRow base 64 2 (.slice (some ⟨g, 0, none⟩) n cap) n (prow c)) : PAt w g c := by
  have hc := h.cells (g := g) (by simp [Value.ownBlock])
  have hadd : ∀ j, (⟨g, 0, none⟩ : Addr).add j = ⟨g, j, none⟩ := fun j => by unfold Addr.add; split <;> simp_all
  intro j x hj
  refine ⟨?_, ?_⟩
  · have := hc (j * 2 + 0) _ ((prow_get c j 0 x hj (by omega)).trans rfl)
    rwa [hadd] at this
  · have := hc (j * 2 + 1) _ ((prow_get c j 1 x hj (by omega)).trans rfl)
    rwa [hadd] at this
theorem PAt.keep {W W' : World} {g : Nat} {c : List Pt} (h : PAt W g c) (hk : W'.heap[g]? = W.heap[g]?) : PAt W' g c := by
  have hc : ∀ i, W'.cell? ⟨g, i, none⟩ = W.cell? ⟨g, i, none⟩ := fun i => by unfold World.cell?; simp only [hk]
  intro j x hj
  rw [hc, hc]
  exact h j x hj
theorem PAt.pt {W : World} {g : Nat} {c : List Pt} (h : PAt W g c) {j : Nat} (hj : j < c.length) : W.cell? ⟨g, j * 2, none⟩ = some (.int .u64 (pt c j).1) ∧ W.cell? ⟨g, j * 2 + 1, none⟩ = some (.int .i64 (pt c j).2) := by
  have e : c[j]? = some (Pure.pt c j) := by unfold Pure.pt; rw [List.getD_eq_getElem?_getD, List.getElem?_eq_getElem hj]; rfl
  exact h j _ e
/-- A fit in memory: T are its blocks. -/
structure FitAt (w : World) (T : Blocks) (p : Nat) (s : FitS) (v0 v1 : Value) : Prop where
  blk : w.heap[p]? = some (.cells #[.int .i64 s.e, .int .i64 (s.count : Int), .int .u64 s.last, .int .u64 s.least.1, .int .u64 s.least.2, .int .u64 s.most.1, .int .u64 s.most.2, v0, v1] 62 (0, 0))
  r0 : w.ownsRow 0 64 2 v0 s.lo.length (prow s.lo)
  r1 : w.ownsRow 0 64 2 v1 s.up.length (prow s.up)
  own0 : ∀ k, v0.ownBlock = some k → T k
  own1 : ∀ k, v1.ownBlock = some k → T k
  ne : ∀ k, v0.ownBlock = some k → v1.ownBlock ≠ some k
  tp : T p
  lt : ∀ k, T k → k < w.heap.size
theorem FitAt.keep {w w' : World} {T T' : Blocks} {p : Nat} {s : FitS} {v0 v1 : Value} (h : FitAt w T p s v0 v1) (hk : ∀ k, T k → w'.heap[k]? = w.heap[k]?) (hT : ∀ k, T k → T' k) (hl : ∀ k, T' k → k < w'.heap.size) : FitAt w' T' p s v0 v1 :=
  ⟨(hk p h.tp).trans h.blk, ownsRow_keep h.r0 (fun k e => hk k (h.own0 k e)), ownsRow_keep h.r1 (fun k e => hk k (h.own1 k e)), fun k e => hT k (h.own0 k e), fun k e => hT k (h.own1 k e), h.ne, hT p h.tp, hl⟩
theorem FitAt.below {w w' : World} {T : Blocks} {p : Nat} {s : FitS} {v0 v1 : Value} (h : FitAt w T p s v0 v1) (hb : Below w.heap.size w w') : FitAt w' T p s v0 v1 :=
  h.keep (fun k hk => hb.block k (h.lt k hk)) (fun _ h => h) (fun k hk => Nat.lt_of_lt_of_le (h.lt k hk) hb.size)
end Go.Proofs.Ytjlegggkibbkjaa.M
end
