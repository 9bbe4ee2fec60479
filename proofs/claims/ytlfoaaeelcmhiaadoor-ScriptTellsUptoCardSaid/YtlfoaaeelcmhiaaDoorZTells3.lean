/- Some of the claim's own texts, in one file: Gx29, PlainI, PlainJ, PlainK, Gx1, Gx9, Gx10, Gx14, PlainL. Conditions: each theorem's own. -/
import Derived.Test.YtlfoaaeelcmhiaaDoorZTells1
import Derived.Test.YtlfoaaeelcmhiaaDoorZTells2
import Derived.KernelRfl
section
-- Written by a program of this session (wip/gprint.py: the kit's print, with contracts proved by hand)
namespace Go.Proofs.YtlfoaaeelcmhiaaDoor.G
open Go.RowKit Go.Proofs.YtlfoaaeelcmhiaaDoorW.PrintWords Go.Proofs.YtlfoaaeelcmhiaaDoorW.PrintLast Go.Proofs.YtlfoaaeelcmhiaaDoorW.PrintMore
attribute [local go_sem] max2_int min2_int max_two min_two max_three min_three max_four min_four   -- for this text's walks alone
set_option linter.unusedVariables false
set_option linter.unusedSimpArgs false

/-! ### inclineref21_Tell: function 21 -/
def inclineref21_Tell.j0 : Nat → Bool → Int → Int → Int → Int → Bool → Int → Int → Int → List (S50) → Option (ByteArray)
  | 0, _, _, _, _, _, _, _, _, _, _ => none
  | k + 1, x30, x390000, x390001, x390002, x391000, x391001, x391002, x391003, x391004, x391005 => if x30 = true then (if x391001 = true then (if x390000 = 3 then ((inclineref21_digits.f k x391003).bind fun t394 => (some t394)) else ((inclineref21_digits.f k x391002).bind fun t395 => (if t395.size + 1 ≤ 9223372036854775807 then ((inclineref21_digits.f k x391003).bind fun t396 => (if (t395 ++ (⟨#[32]⟩ : ByteArray)).size + t396.size ≤ 9223372036854775807 then (some ((t395 ++ (⟨#[32]⟩ : ByteArray)) ++ t396)) else (none))) else (none)))) else (some (⟨#[110, 111, 110, 101]⟩ : ByteArray))) else (some (⟨#[]⟩ : ByteArray))
def inclineref21_Tell.f (k : Nat) (a0_0 : Int) (a0_1 : Int) (a0_2 : Int) (a1_0 : Int) (a1_1 : Bool) (a1_2 : Int) (a1_3 : Int) (a1_4 : Int) (l1_5 : List (S50)) : Option (ByteArray) := if a1_0 = 0 then (if a0_0 = 1 then (some (⟨#[111, 107]⟩ : ByteArray)) else (if a0_0 = 2 then (if a1_1 = true then (some (⟨#[121, 101, 115]⟩ : ByteArray)) else (some (⟨#[110, 111]⟩ : ByteArray))) else (if a0_0 = 6 then ((inclineref21_signed.f k a1_4).bind fun t392 => (some t392)) else (if a0_0 = 7 then ((inclineref21_pairs.f l1_5).bind fun t393 => (some t393)) else (if a0_0 = 3 then (inclineref21_Tell.j0 k (a0_0 == 3) a0_0 a0_1 a0_2 a1_0 a1_1 a1_2 a1_3 a1_4 l1_5) else (if a0_0 = 4 then (inclineref21_Tell.j0 k (a0_0 == 4) a0_0 a0_1 a0_2 a1_0 a1_1 a1_2 a1_3 a1_4 l1_5) else (inclineref21_Tell.j0 k (a0_0 == 5) a0_0 a0_1 a0_2 a1_0 a1_1 a1_2 a1_3 a1_4 l1_5))))))) else ((inclineref21_signed.f k a1_0).bind fun t391 => (if 6 + t391.size ≤ 9223372036854775807 then (some ((⟨#[101, 114, 114, 111, 114, 32]⟩ : ByteArray) ++ t391)) else (none)))
theorem inclineref21_Tell.mono_l : ∀ k, (∀ y0 y1 y2 y3 y4 y5 y6 y7 y8 y9, LeO (inclineref21_Tell.j0 k y0 y1 y2 y3 y4 y5 y6 y7 y8 y9) (inclineref21_Tell.j0 (k + 1) y0 y1 y2 y3 y4 y5 y6 y7 y8 y9))
  | 0 => fun _ _ _ _ _ _ _ _ _ _ r h => by simp [inclineref21_Tell.j0] at h
  | k + 1 => by
    have ih0 := inclineref21_Tell.mono_l k
    · intro y0 y1 y2 y3 y4 y5 y6 y7 y8 y9
      unfold inclineref21_Tell.j0
      repeat' first
      | (with_reducible exact ih0 _ _ _ _ _ _ _ _ _ _)
      | (with_reducible exact inclineref21_digits.mono _ _)
      | (with_reducible exact inclineref21_signed.mono _ _)
      | (with_reducible exact LeO.refl _)
      | (with_reducible exact LeO.none _)
      | (with_reducible refine LeO.ite ?_ ?_)
      | (with_reducible refine LeO.bind ?_ (fun _ => ?_))
      | exact ih0 _ _ _ _ _ _ _ _ _ _
      | exact inclineref21_digits.mono _ _
      | exact inclineref21_signed.mono _ _
      | exact LeO.none _
      | refine LeO.ite ?_ ?_
      | refine LeO.bind ?_ (fun _ => ?_)
theorem inclineref21_Tell.mono : ∀ a0 a1 a2 a3 a4 a5 a6 a7 a8 k, LeO (inclineref21_Tell.f k a0 a1 a2 a3 a4 a5 a6 a7 a8) (inclineref21_Tell.f (k + 1) a0 a1 a2 a3 a4 a5 a6 a7 a8) := by
  intro a0 a1 a2 a3 a4 a5 a6 a7 a8 k
  have ih0 := inclineref21_Tell.mono_l k
  unfold inclineref21_Tell.f
  repeat' first
      | (with_reducible exact ih0 _ _ _ _ _ _ _ _ _ _)
      | (with_reducible exact inclineref21_digits.mono _ _)
      | (with_reducible exact inclineref21_signed.mono _ _)
      | (with_reducible exact LeO.refl _)
      | (with_reducible exact LeO.none _)
      | (with_reducible refine LeO.ite ?_ ?_)
      | (with_reducible refine LeO.bind ?_ (fun _ => ?_))
      | exact ih0 _ _ _ _ _ _ _ _ _ _
      | exact inclineref21_digits.mono _ _
      | exact inclineref21_signed.mono _ _
      | exact LeO.none _
      | refine LeO.ite ?_ ?_
      | refine LeO.bind ?_ (fun _ => ?_)
def inclineref21_Tell.T21 : Bool × List (List Nat × List Nat) := (true, [([], []), ([0], [0]), ([1], [1]), ([2], [2]), ([], []), ([4], [4]), ([5, 2], [5]), ([3, 6], [3, 6]), ([7, 6, 0, 1, 2, 3, 4, 5, 6, 7], [7])])
def inclineref21_Tell.B21 : List Nat := [0, 1, 3, 7, 0, 16, 55, 127, 255]
theorem inclineref21_Tell.tab21 : rtab .any (opsOf Tryd.f21 21) = inclineref21_Tell.T21 := by kernel_rfl
theorem inclineref21_Tell.bits21 : waitsOk inclineref21_Tell.T21.2 inclineref21_Tell.B21 = true := by kernel_rfl
set_option maxHeartbeats 8000000 in
set_option maxRecDepth 100000 in
theorem inclineref21_Tell.calls (k : Nat) (a0_0 : Int) (a0_1 : Int) (a0_2 : Int) (a1_0 : Int) (a1_1 : Bool) (a1_2 : Int) (a1_3 : Int) (a1_4 : Int) (A1_5 : Option Addr) (c1_5 : Nat) (l1_5 : List (S50)) (r : ByteArray) (w : World) (hr1_5 : Kd.C k50 w A1_5 l1_5.length l1_5) (hc1_5 : l1_5.length ≤ c1_5) (h : inclineref21_Tell.f k a0_0 a0_1 a0_2 a1_0 a1_1 a1_2 a1_3 a1_4 l1_5 = some r) :
    Calls Tryd.prog 21 #[.agg #[.int .i64 a0_0, .int .u64 a0_1, .int .u64 a0_2], .agg #[.int .i64 a1_0, .bool a1_1, .int .u64 a1_2, .int .u64 a1_3, .int .i64 a1_4, .slice A1_5 l1_5.length c1_5]] w fun e w' => e = .returned (.string r) ∧ Below w.heap.size w w' := by
  have hu38 := Tryd.underlying38
  have hu44 := Tryd.underlying44
  have HR1_5 := Aside0.mk hr1_5
  have HC1_5 := Aside0.mk hc1_5
  clear hr1_5 hc1_5
  have HB := Aside0.mk (Below.refl w.heap.size w)
  have H : (if a1_0 = 0 then (if a0_0 = 1 then (some (⟨#[111, 107]⟩ : ByteArray)) else (if a0_0 = 2 then (if a1_1 = true then (some (⟨#[121, 101, 115]⟩ : ByteArray)) else (some (⟨#[110, 111]⟩ : ByteArray))) else (if a0_0 = 6 then ((inclineref21_signed.f k a1_4).bind fun t392 => (some t392)) else (if a0_0 = 7 then ((inclineref21_pairs.f l1_5).bind fun t393 => (some t393)) else (if a0_0 = 3 then (inclineref21_Tell.j0 k (a0_0 == 3) a0_0 a0_1 a0_2 a1_0 a1_1 a1_2 a1_3 a1_4 l1_5) else (if a0_0 = 4 then (inclineref21_Tell.j0 k (a0_0 == 4) a0_0 a0_1 a0_2 a1_0 a1_1 a1_2 a1_3 a1_4 l1_5) else (inclineref21_Tell.j0 k (a0_0 == 5) a0_0 a0_1 a0_2 a1_0 a1_1 a1_2 a1_3 a1_4 l1_5))))))) else ((inclineref21_signed.f k a1_0).bind fun t391 => (if 6 + t391.size ≤ 9223372036854775807 then (some ((⟨#[101, 114, 114, 111, 114, 32]⟩ : ByteArray) ++ t391)) else (none)))) = some r := h
  clear h
  by_cases c3 : a1_0 = 0
  · rw [if_pos c3] at H
    have c3b0 : (a1_0 == 0) = true := beq_iff_eq.mpr c3
    have c3b1 : (a1_0 != 0) = false := bne_eq_false_iff_eq.mpr c3
    clear c3
    by_cases c4 : a0_0 = 1
    · rw [if_pos c4] at H
      have c4b0 : (a0_0 == 1) = true := beq_iff_eq.mpr c4
      have c4b1 : (a0_0 != 1) = false := bne_eq_false_iff_eq.mpr c4
      clear c4
      obtain rfl := Option.some.inj H
      go_enter Tryd.func21, Tryd.ntmps21
      go_wp2_with (first | ((with_reducible refine gate_dst (N := 2) rfl ?_); refine box_event ?hg (N := 2) ?hd (cs := #[.int .i64 a0_0, .int .u64 a0_1, .int .u64 a0_2]) (t := 38) ?hr ?_; (case hd => rfl); (case hg => rfl); (case hr => first | (go_simp; done) | (go_simp; rfl)); intro gb389 hg w5 hbox hb; have n0_ := Aside0.mk (below_step (by repeat (first | (with_reducible first | exact HB.out | apply below_alloc | apply pw_below_drewN | apply below_drew1) | exact HB.out)) hb); have n1_ := Aside0.mk (hbox); have n2_ := Aside0.mk ((by rw [hg]; exact (below_size (by repeat (first | (with_reducible first | exact HB.out | apply below_alloc | apply pw_below_drewN | apply below_drew1) | exact HB.out))) : w.heap.size ≤ gb389)); have n3_ := Aside0.mk ((by rw [hg]; exact (below_size (by repeat (first | (with_reducible first | exact HB.out | apply below_alloc | apply pw_below_drewN | apply below_drew1) | exact HB.out))) : w.heap.size ≤ gb389)); clear HB; have HB := n0_; have BK389 := n1_; have GW389 := n2_; have GE389 := n3_; clear n0_ n1_ n2_ n3_; clear hb hbox hg) | ((with_reducible refine gate_dst (N := 3) rfl ?_); refine box_event ?hg (N := 3) ?hd (cs := #[.int .i64 a1_0, .bool a1_1, .int .u64 a1_2, .int .u64 a1_3, .int .i64 a1_4, .slice A1_5 l1_5.length c1_5]) (t := 44) ?hr ?_; (case hd => rfl); (case hg => rfl); (case hr => first | (go_simp; done) | (go_simp; rfl)); intro gb390 hg w6 hbox hb; have n0_ := Aside0.mk (blk_below (g := gb389) (o := .cells #[.int .i64 a0_0, .int .u64 a0_1, .int .u64 a0_2] 38 (0, 0)) (by (with_reducible repeat (first | refine blk_drewN ?_ _ | refine blk_drew ?_ | refine blk_alloc ?_ _)); exact BK389.out) hb); have n1_ := Aside0.mk (below_step (by repeat (first | (with_reducible first | exact HB.out | apply below_alloc | apply pw_below_drewN | apply below_drew1 | refine below_set ?_ GE389.out) | exact HB.out)) hb); have n2_ := Aside0.mk (hbox); have n3_ := Aside0.mk ((by rw [hg]; exact (below_size (by repeat (first | (with_reducible first | exact HB.out | apply below_alloc | apply pw_below_drewN | apply below_drew1 | refine below_set ?_ GE389.out) | exact HB.out))) : w.heap.size ≤ gb390)); have n4_ := Aside0.mk ((by rw [hg]; exact (below_size (by repeat (first | (with_reducible first | exact HB.out | apply below_alloc | apply pw_below_drewN | apply below_drew1 | refine below_set ?_ GE389.out) | exact HB.out))) : w.heap.size ≤ gb390)); have n5_ := Aside0.mk ((by rw [hg]; exact Nat.ne_of_lt (blk_lt (g := gb389) (o := .cells #[.int .i64 a0_0, .int .u64 a0_1, .int .u64 a0_2] 38 (0, 0)) (by (with_reducible repeat (first | refine blk_drewN ?_ _ | refine blk_drew ?_ | refine blk_alloc ?_ _)); exact BK389.out)) : gb389 ≠ gb390)); have n6_ := Aside0.mk ((by rw [hg]; exact Nat.ne_of_gt (blk_lt (g := gb389) (o := .cells #[.int .i64 a0_0, .int .u64 a0_1, .int .u64 a0_2] 38 (0, 0)) (by (with_reducible repeat (first | refine blk_drewN ?_ _ | refine blk_drew ?_ | refine blk_alloc ?_ _)); exact BK389.out)) : gb390 ≠ gb389)); clear BK389; clear HB; have BK389 := n0_; have HB := n1_; have BK390 := n2_; have GW390 := n3_; have GE390 := n4_; have NB389_390 := n5_; have NB390_389 := n6_; clear n0_ n1_ n2_ n3_ n4_ n5_ n6_; clear hb hbox hg; have hnb7 := NB390_389.out; have hnc7 := NB389_390.out; have hcz8_0 : w6.cell? ⟨gb390, 0, none⟩ = some (.int .i64 a1_0) := (blk_cell BK390.out 0).trans rfl; have hcz8_1 : w6.cell? ⟨gb390, 1, none⟩ = some (.bool a1_1) := (blk_cell BK390.out 1).trans rfl; have hcz8_2 : w6.cell? ⟨gb390, 2, none⟩ = some (.int .u64 a1_2) := (blk_cell BK390.out 2).trans rfl; have hcz8_3 : w6.cell? ⟨gb390, 3, none⟩ = some (.int .u64 a1_3) := (blk_cell BK390.out 3).trans rfl; have hcz8_4 : w6.cell? ⟨gb390, 4, none⟩ = some (.int .i64 a1_4) := (blk_cell BK390.out 4).trans rfl; have hcz8_5 : w6.cell? ⟨gb390, 5, none⟩ = some (.slice A1_5 l1_5.length c1_5) := (blk_cell BK390.out 5).trans rfl; have hfz8_0 := blk_frozen BK390.out 0; have hfz8_1 := blk_frozen BK390.out 1; have hfz8_2 := blk_frozen BK390.out 2; have hfz8_3 := blk_frozen BK390.out 3; have hfz8_4 := blk_frozen BK390.out 4; have hfz8_5 := blk_frozen BK390.out 5; have hcz9_0 : w6.cell? ⟨gb389, 0, none⟩ = some (.int .i64 a0_0) := (blk_cell BK389.out 0).trans rfl; have hcz9_1 : w6.cell? ⟨gb389, 1, none⟩ = some (.int .u64 a0_1) := (blk_cell BK389.out 1).trans rfl; have hcz9_2 : w6.cell? ⟨gb389, 2, none⟩ = some (.int .u64 a0_2) := (blk_cell BK389.out 2).trans rfl; have hfz9_0 := blk_frozen BK389.out 0; have hfz9_1 := blk_frozen BK389.out 1; have hfz9_2 := blk_frozen BK389.out 2))
      go_ret
      exact ⟨by first | rfl | (simp [errW_none, errW_some] <;> rfl) | (simp [*, errW_none, errW_some] <;> rfl), by repeat (first | (with_reducible first | exact HB.out | apply below_alloc | apply pw_below_drewN | apply below_drew1 | refine below_set ?_ GE389.out | refine below_set ?_ GE390.out) | exact HB.out)⟩
    · rw [if_neg c4] at H
      have c4b0 : (a0_0 == 1) = false := beq_eq_false_iff_ne.mpr c4
      have c4b1 : (a0_0 != 1) = true := bne_iff_ne.mpr c4
      by_cases c10 : a0_0 = 2
      · rw [if_pos c10] at H
        have c10b0 : (a0_0 == 2) = true := beq_iff_eq.mpr c10
        have c10b1 : (a0_0 != 2) = false := bne_eq_false_iff_eq.mpr c10
        clear c10
        by_cases c11 : a1_1 = true
        · subst c11
          have H1 : (some (⟨#[121, 101, 115]⟩ : ByteArray)) = some r := by rw [if_pos rfl] at H; exact H
          clear H
          have H := H1
          clear H1
          obtain rfl := Option.some.inj H
          go_enter Tryd.func21, Tryd.ntmps21
          go_wp2_with (first | ((with_reducible refine gate_dst (N := 2) rfl ?_); refine box_event ?hg (N := 2) ?hd (cs := #[.int .i64 a0_0, .int .u64 a0_1, .int .u64 a0_2]) (t := 38) ?hr ?_; (case hd => rfl); (case hg => rfl); (case hr => first | (go_simp; done) | (go_simp; rfl)); intro gb389 hg w12 hbox hb; have n0_ := Aside0.mk (below_step (by repeat (first | (with_reducible first | exact HB.out | apply below_alloc | apply pw_below_drewN | apply below_drew1) | exact HB.out)) hb); have n1_ := Aside0.mk (hbox); have n2_ := Aside0.mk ((by rw [hg]; exact (below_size (by repeat (first | (with_reducible first | exact HB.out | apply below_alloc | apply pw_below_drewN | apply below_drew1) | exact HB.out))) : w.heap.size ≤ gb389)); have n3_ := Aside0.mk ((by rw [hg]; exact (below_size (by repeat (first | (with_reducible first | exact HB.out | apply below_alloc | apply pw_below_drewN | apply below_drew1) | exact HB.out))) : w.heap.size ≤ gb389)); clear HB; have HB := n0_; have BK389 := n1_; have GW389 := n2_; have GE389 := n3_; clear n0_ n1_ n2_ n3_; clear hb hbox hg) | ((with_reducible refine gate_dst (N := 3) rfl ?_); refine box_event ?hg (N := 3) ?hd (cs := #[.int .i64 a1_0, .bool true, .int .u64 a1_2, .int .u64 a1_3, .int .i64 a1_4, .slice A1_5 l1_5.length c1_5]) (t := 44) ?hr ?_; (case hd => rfl); (case hg => rfl); (case hr => first | (go_simp; done) | (go_simp; rfl)); intro gb390 hg w13 hbox hb; have n0_ := Aside0.mk (blk_below (g := gb389) (o := .cells #[.int .i64 a0_0, .int .u64 a0_1, .int .u64 a0_2] 38 (0, 0)) (by (with_reducible repeat (first | refine blk_drewN ?_ _ | refine blk_drew ?_ | refine blk_alloc ?_ _)); exact BK389.out) hb); have n1_ := Aside0.mk (below_step (by repeat (first | (with_reducible first | exact HB.out | apply below_alloc | apply pw_below_drewN | apply below_drew1 | refine below_set ?_ GE389.out) | exact HB.out)) hb); have n2_ := Aside0.mk (hbox); have n3_ := Aside0.mk ((by rw [hg]; exact (below_size (by repeat (first | (with_reducible first | exact HB.out | apply below_alloc | apply pw_below_drewN | apply below_drew1 | refine below_set ?_ GE389.out) | exact HB.out))) : w.heap.size ≤ gb390)); have n4_ := Aside0.mk ((by rw [hg]; exact (below_size (by repeat (first | (with_reducible first | exact HB.out | apply below_alloc | apply pw_below_drewN | apply below_drew1 | refine below_set ?_ GE389.out) | exact HB.out))) : w.heap.size ≤ gb390)); have n5_ := Aside0.mk ((by rw [hg]; exact Nat.ne_of_lt (blk_lt (g := gb389) (o := .cells #[.int .i64 a0_0, .int .u64 a0_1, .int .u64 a0_2] 38 (0, 0)) (by (with_reducible repeat (first | refine blk_drewN ?_ _ | refine blk_drew ?_ | refine blk_alloc ?_ _)); exact BK389.out)) : gb389 ≠ gb390)); have n6_ := Aside0.mk ((by rw [hg]; exact Nat.ne_of_gt (blk_lt (g := gb389) (o := .cells #[.int .i64 a0_0, .int .u64 a0_1, .int .u64 a0_2] 38 (0, 0)) (by (with_reducible repeat (first | refine blk_drewN ?_ _ | refine blk_drew ?_ | refine blk_alloc ?_ _)); exact BK389.out)) : gb390 ≠ gb389)); clear BK389; clear HB; have BK389 := n0_; have HB := n1_; have BK390 := n2_; have GW390 := n3_; have GE390 := n4_; have NB389_390 := n5_; have NB390_389 := n6_; clear n0_ n1_ n2_ n3_ n4_ n5_ n6_; clear hb hbox hg; have hnb14 := NB390_389.out; have hnc14 := NB389_390.out; have hcz15_0 : w13.cell? ⟨gb390, 0, none⟩ = some (.int .i64 a1_0) := (blk_cell BK390.out 0).trans rfl; have hcz15_1 : w13.cell? ⟨gb390, 1, none⟩ = some (.bool true) := (blk_cell BK390.out 1).trans rfl; have hcz15_2 : w13.cell? ⟨gb390, 2, none⟩ = some (.int .u64 a1_2) := (blk_cell BK390.out 2).trans rfl; have hcz15_3 : w13.cell? ⟨gb390, 3, none⟩ = some (.int .u64 a1_3) := (blk_cell BK390.out 3).trans rfl; have hcz15_4 : w13.cell? ⟨gb390, 4, none⟩ = some (.int .i64 a1_4) := (blk_cell BK390.out 4).trans rfl; have hcz15_5 : w13.cell? ⟨gb390, 5, none⟩ = some (.slice A1_5 l1_5.length c1_5) := (blk_cell BK390.out 5).trans rfl; have hfz15_0 := blk_frozen BK390.out 0; have hfz15_1 := blk_frozen BK390.out 1; have hfz15_2 := blk_frozen BK390.out 2; have hfz15_3 := blk_frozen BK390.out 3; have hfz15_4 := blk_frozen BK390.out 4; have hfz15_5 := blk_frozen BK390.out 5; have hcz16_0 : w13.cell? ⟨gb389, 0, none⟩ = some (.int .i64 a0_0) := (blk_cell BK389.out 0).trans rfl; have hcz16_1 : w13.cell? ⟨gb389, 1, none⟩ = some (.int .u64 a0_1) := (blk_cell BK389.out 1).trans rfl; have hcz16_2 : w13.cell? ⟨gb389, 2, none⟩ = some (.int .u64 a0_2) := (blk_cell BK389.out 2).trans rfl; have hfz16_0 := blk_frozen BK389.out 0; have hfz16_1 := blk_frozen BK389.out 1; have hfz16_2 := blk_frozen BK389.out 2))
          go_ret
          exact ⟨by first | rfl | (simp [errW_none, errW_some] <;> rfl) | (simp [*, errW_none, errW_some] <;> rfl), by repeat (first | (with_reducible first | exact HB.out | apply below_alloc | apply pw_below_drewN | apply below_drew1 | refine below_set ?_ GE389.out | refine below_set ?_ GE390.out) | exact HB.out)⟩
        · replace c11 := Bool.eq_false_iff.mpr c11
          subst c11
          have H1 : (some (⟨#[110, 111]⟩ : ByteArray)) = some r := by rw [if_neg (show ¬ (false = true) by decide)] at H; exact H
          clear H
          have H := H1
          clear H1
          obtain rfl := Option.some.inj H
          go_enter Tryd.func21, Tryd.ntmps21
          go_wp2_with (first | ((with_reducible refine gate_dst (N := 2) rfl ?_); refine box_event ?hg (N := 2) ?hd (cs := #[.int .i64 a0_0, .int .u64 a0_1, .int .u64 a0_2]) (t := 38) ?hr ?_; (case hd => rfl); (case hg => rfl); (case hr => first | (go_simp; done) | (go_simp; rfl)); intro gb389 hg w17 hbox hb; have n0_ := Aside0.mk (below_step (by repeat (first | (with_reducible first | exact HB.out | apply below_alloc | apply pw_below_drewN | apply below_drew1) | exact HB.out)) hb); have n1_ := Aside0.mk (hbox); have n2_ := Aside0.mk ((by rw [hg]; exact (below_size (by repeat (first | (with_reducible first | exact HB.out | apply below_alloc | apply pw_below_drewN | apply below_drew1) | exact HB.out))) : w.heap.size ≤ gb389)); have n3_ := Aside0.mk ((by rw [hg]; exact (below_size (by repeat (first | (with_reducible first | exact HB.out | apply below_alloc | apply pw_below_drewN | apply below_drew1) | exact HB.out))) : w.heap.size ≤ gb389)); clear HB; have HB := n0_; have BK389 := n1_; have GW389 := n2_; have GE389 := n3_; clear n0_ n1_ n2_ n3_; clear hb hbox hg) | ((with_reducible refine gate_dst (N := 3) rfl ?_); refine box_event ?hg (N := 3) ?hd (cs := #[.int .i64 a1_0, .bool false, .int .u64 a1_2, .int .u64 a1_3, .int .i64 a1_4, .slice A1_5 l1_5.length c1_5]) (t := 44) ?hr ?_; (case hd => rfl); (case hg => rfl); (case hr => first | (go_simp; done) | (go_simp; rfl)); intro gb390 hg w18 hbox hb; have n0_ := Aside0.mk (blk_below (g := gb389) (o := .cells #[.int .i64 a0_0, .int .u64 a0_1, .int .u64 a0_2] 38 (0, 0)) (by (with_reducible repeat (first | refine blk_drewN ?_ _ | refine blk_drew ?_ | refine blk_alloc ?_ _)); exact BK389.out) hb); have n1_ := Aside0.mk (below_step (by repeat (first | (with_reducible first | exact HB.out | apply below_alloc | apply pw_below_drewN | apply below_drew1 | refine below_set ?_ GE389.out) | exact HB.out)) hb); have n2_ := Aside0.mk (hbox); have n3_ := Aside0.mk ((by rw [hg]; exact (below_size (by repeat (first | (with_reducible first | exact HB.out | apply below_alloc | apply pw_below_drewN | apply below_drew1 | refine below_set ?_ GE389.out) | exact HB.out))) : w.heap.size ≤ gb390)); have n4_ := Aside0.mk ((by rw [hg]; exact (below_size (by repeat (first | (with_reducible first | exact HB.out | apply below_alloc | apply pw_below_drewN | apply below_drew1 | refine below_set ?_ GE389.out) | exact HB.out))) : w.heap.size ≤ gb390)); have n5_ := Aside0.mk ((by rw [hg]; exact Nat.ne_of_lt (blk_lt (g := gb389) (o := .cells #[.int .i64 a0_0, .int .u64 a0_1, .int .u64 a0_2] 38 (0, 0)) (by (with_reducible repeat (first | refine blk_drewN ?_ _ | refine blk_drew ?_ | refine blk_alloc ?_ _)); exact BK389.out)) : gb389 ≠ gb390)); have n6_ := Aside0.mk ((by rw [hg]; exact Nat.ne_of_gt (blk_lt (g := gb389) (o := .cells #[.int .i64 a0_0, .int .u64 a0_1, .int .u64 a0_2] 38 (0, 0)) (by (with_reducible repeat (first | refine blk_drewN ?_ _ | refine blk_drew ?_ | refine blk_alloc ?_ _)); exact BK389.out)) : gb390 ≠ gb389)); clear BK389; clear HB; have BK389 := n0_; have HB := n1_; have BK390 := n2_; have GW390 := n3_; have GE390 := n4_; have NB389_390 := n5_; have NB390_389 := n6_; clear n0_ n1_ n2_ n3_ n4_ n5_ n6_; clear hb hbox hg; have hnb19 := NB390_389.out; have hnc19 := NB389_390.out; have hcz20_0 : w18.cell? ⟨gb390, 0, none⟩ = some (.int .i64 a1_0) := (blk_cell BK390.out 0).trans rfl; have hcz20_1 : w18.cell? ⟨gb390, 1, none⟩ = some (.bool false) := (blk_cell BK390.out 1).trans rfl; have hcz20_2 : w18.cell? ⟨gb390, 2, none⟩ = some (.int .u64 a1_2) := (blk_cell BK390.out 2).trans rfl; have hcz20_3 : w18.cell? ⟨gb390, 3, none⟩ = some (.int .u64 a1_3) := (blk_cell BK390.out 3).trans rfl; have hcz20_4 : w18.cell? ⟨gb390, 4, none⟩ = some (.int .i64 a1_4) := (blk_cell BK390.out 4).trans rfl; have hcz20_5 : w18.cell? ⟨gb390, 5, none⟩ = some (.slice A1_5 l1_5.length c1_5) := (blk_cell BK390.out 5).trans rfl; have hfz20_0 := blk_frozen BK390.out 0; have hfz20_1 := blk_frozen BK390.out 1; have hfz20_2 := blk_frozen BK390.out 2; have hfz20_3 := blk_frozen BK390.out 3; have hfz20_4 := blk_frozen BK390.out 4; have hfz20_5 := blk_frozen BK390.out 5; have hcz21_0 : w18.cell? ⟨gb389, 0, none⟩ = some (.int .i64 a0_0) := (blk_cell BK389.out 0).trans rfl; have hcz21_1 : w18.cell? ⟨gb389, 1, none⟩ = some (.int .u64 a0_1) := (blk_cell BK389.out 1).trans rfl; have hcz21_2 : w18.cell? ⟨gb389, 2, none⟩ = some (.int .u64 a0_2) := (blk_cell BK389.out 2).trans rfl; have hfz21_0 := blk_frozen BK389.out 0; have hfz21_1 := blk_frozen BK389.out 1; have hfz21_2 := blk_frozen BK389.out 2))
          go_ret
          exact ⟨by first | rfl | (simp [errW_none, errW_some] <;> rfl) | (simp [*, errW_none, errW_some] <;> rfl), by repeat (first | (with_reducible first | exact HB.out | apply below_alloc | apply pw_below_drewN | apply below_drew1 | refine below_set ?_ GE389.out | refine below_set ?_ GE390.out) | exact HB.out)⟩
      · rw [if_neg c10] at H
        have c10b0 : (a0_0 == 2) = false := beq_eq_false_iff_ne.mpr c10
        have c10b1 : (a0_0 != 2) = true := bne_iff_ne.mpr c10
        by_cases c22 : a0_0 = 6
        · rw [if_pos c22] at H
          have c22b0 : (a0_0 == 6) = true := beq_iff_eq.mpr c22
          have c22b1 : (a0_0 != 6) = false := bne_eq_false_iff_eq.mpr c22
          clear c22
          replace H := Option.bind_eq_some_iff.mp H
          obtain ⟨t392, A230, H⟩ := H
          replace H : (some t392) = some r := H
          have A23 := Aside0.mk A230
          clear A230
          obtain rfl := Option.some.inj H
          go_enter Tryd.func21, Tryd.ntmps21
          go_wp2_with (first | ((with_reducible refine gate_dst (N := 2) rfl ?_); refine box_event ?hg (N := 2) ?hd (cs := #[.int .i64 a0_0, .int .u64 a0_1, .int .u64 a0_2]) (t := 38) ?hr ?_; (case hd => rfl); (case hg => rfl); (case hr => first | (go_simp; done) | (go_simp; rfl)); intro gb389 hg w24 hbox hb; have n0_ := Aside0.mk (below_step (by repeat (first | (with_reducible first | exact HB.out | apply below_alloc | apply pw_below_drewN | apply below_drew1) | exact HB.out)) hb); have n1_ := Aside0.mk (hbox); have n2_ := Aside0.mk ((by rw [hg]; exact (below_size (by repeat (first | (with_reducible first | exact HB.out | apply below_alloc | apply pw_below_drewN | apply below_drew1) | exact HB.out))) : w.heap.size ≤ gb389)); have n3_ := Aside0.mk ((by rw [hg]; exact (below_size (by repeat (first | (with_reducible first | exact HB.out | apply below_alloc | apply pw_below_drewN | apply below_drew1) | exact HB.out))) : w.heap.size ≤ gb389)); clear HB; have HB := n0_; have BK389 := n1_; have GW389 := n2_; have GE389 := n3_; clear n0_ n1_ n2_ n3_; clear hb hbox hg) | ((with_reducible refine gate_dst (N := 3) rfl ?_); refine box_event ?hg (N := 3) ?hd (cs := #[.int .i64 a1_0, .bool a1_1, .int .u64 a1_2, .int .u64 a1_3, .int .i64 a1_4, .slice A1_5 l1_5.length c1_5]) (t := 44) ?hr ?_; (case hd => rfl); (case hg => rfl); (case hr => first | (go_simp; done) | (go_simp; rfl)); intro gb390 hg w25 hbox hb; have n0_ := Aside0.mk (blk_below (g := gb389) (o := .cells #[.int .i64 a0_0, .int .u64 a0_1, .int .u64 a0_2] 38 (0, 0)) (by (with_reducible repeat (first | refine blk_drewN ?_ _ | refine blk_drew ?_ | refine blk_alloc ?_ _)); exact BK389.out) hb); have n1_ := Aside0.mk (below_step (by repeat (first | (with_reducible first | exact HB.out | apply below_alloc | apply pw_below_drewN | apply below_drew1 | refine below_set ?_ GE389.out) | exact HB.out)) hb); have n2_ := Aside0.mk (hbox); have n3_ := Aside0.mk ((by rw [hg]; exact (below_size (by repeat (first | (with_reducible first | exact HB.out | apply below_alloc | apply pw_below_drewN | apply below_drew1 | refine below_set ?_ GE389.out) | exact HB.out))) : w.heap.size ≤ gb390)); have n4_ := Aside0.mk ((by rw [hg]; exact (below_size (by repeat (first | (with_reducible first | exact HB.out | apply below_alloc | apply pw_below_drewN | apply below_drew1 | refine below_set ?_ GE389.out) | exact HB.out))) : w.heap.size ≤ gb390)); have n5_ := Aside0.mk ((by rw [hg]; exact Nat.ne_of_lt (blk_lt (g := gb389) (o := .cells #[.int .i64 a0_0, .int .u64 a0_1, .int .u64 a0_2] 38 (0, 0)) (by (with_reducible repeat (first | refine blk_drewN ?_ _ | refine blk_drew ?_ | refine blk_alloc ?_ _)); exact BK389.out)) : gb389 ≠ gb390)); have n6_ := Aside0.mk ((by rw [hg]; exact Nat.ne_of_gt (blk_lt (g := gb389) (o := .cells #[.int .i64 a0_0, .int .u64 a0_1, .int .u64 a0_2] 38 (0, 0)) (by (with_reducible repeat (first | refine blk_drewN ?_ _ | refine blk_drew ?_ | refine blk_alloc ?_ _)); exact BK389.out)) : gb390 ≠ gb389)); clear BK389; clear HB; have BK389 := n0_; have HB := n1_; have BK390 := n2_; have GW390 := n3_; have GE390 := n4_; have NB389_390 := n5_; have NB390_389 := n6_; clear n0_ n1_ n2_ n3_ n4_ n5_ n6_; clear hb hbox hg; have hnb26 := NB390_389.out; have hnc26 := NB389_390.out; have hcz27_0 : w25.cell? ⟨gb390, 0, none⟩ = some (.int .i64 a1_0) := (blk_cell BK390.out 0).trans rfl; have hcz27_1 : w25.cell? ⟨gb390, 1, none⟩ = some (.bool a1_1) := (blk_cell BK390.out 1).trans rfl; have hcz27_2 : w25.cell? ⟨gb390, 2, none⟩ = some (.int .u64 a1_2) := (blk_cell BK390.out 2).trans rfl; have hcz27_3 : w25.cell? ⟨gb390, 3, none⟩ = some (.int .u64 a1_3) := (blk_cell BK390.out 3).trans rfl; have hcz27_4 : w25.cell? ⟨gb390, 4, none⟩ = some (.int .i64 a1_4) := (blk_cell BK390.out 4).trans rfl; have hcz27_5 : w25.cell? ⟨gb390, 5, none⟩ = some (.slice A1_5 l1_5.length c1_5) := (blk_cell BK390.out 5).trans rfl; have hfz27_0 := blk_frozen BK390.out 0; have hfz27_1 := blk_frozen BK390.out 1; have hfz27_2 := blk_frozen BK390.out 2; have hfz27_3 := blk_frozen BK390.out 3; have hfz27_4 := blk_frozen BK390.out 4; have hfz27_5 := blk_frozen BK390.out 5; have hcz28_0 : w25.cell? ⟨gb389, 0, none⟩ = some (.int .i64 a0_0) := (blk_cell BK389.out 0).trans rfl; have hcz28_1 : w25.cell? ⟨gb389, 1, none⟩ = some (.int .u64 a0_1) := (blk_cell BK389.out 1).trans rfl; have hcz28_2 : w25.cell? ⟨gb389, 2, none⟩ = some (.int .u64 a0_2) := (blk_cell BK389.out 2).trans rfl; have hfz28_0 := blk_frozen BK389.out 0; have hfz28_1 := blk_frozen BK389.out 1; have hfz28_2 := blk_frozen BK389.out 2) | ((with_reducible refine gate_callee (f := 34) rfl ?_); refine goesL_ (some 24) rfl rfl Tryd.func34 (by kernel_rfl) rfl #[.int .i64 a1_4] rfl (by (try simp only [List.map_toArray, List.map_cons, List.map_nil]); first | done | rfl | (simp only [List.length_drop, List.length_take]; rfl)) ?_; (with_reducible refine (inclineref21_signed.calls k a1_4 t392 _ A23.out).mono ?_); rintro e w29 ⟨rfl, hb⟩; refine ⟨_, rfl, ?_⟩; have n0_ := Aside0.mk (blk_below (g := gb389) (o := .cells #[.int .i64 a0_0, .int .u64 a0_1, .int .u64 a0_2] 38 (0, 0)) (by (with_reducible repeat (first | refine blk_drewN ?_ _ | refine blk_drew ?_ | refine blk_alloc ?_ _)); exact BK389.out) hb); have n1_ := Aside0.mk (blk_below (g := gb390) (o := .cells #[.int .i64 a1_0, .bool a1_1, .int .u64 a1_2, .int .u64 a1_3, .int .i64 a1_4, .slice A1_5 l1_5.length c1_5] 44 (0, 0)) (by (with_reducible repeat (first | refine blk_drewN ?_ _ | refine blk_drew ?_ | refine blk_alloc ?_ _)); exact BK390.out) hb); have n2_ := Aside0.mk (below_step (by repeat (first | (with_reducible first | exact HB.out | apply below_alloc | apply pw_below_drewN | apply below_drew1 | refine below_set ?_ GE389.out | refine below_set ?_ GE390.out) | exact HB.out)) hb); clear BK389; clear BK390; clear HB; have BK389 := n0_; have BK390 := n1_; have HB := n2_; clear n0_ n1_ n2_; (try clear hb); (try clear hb2); (try clear hk); (try clear hi)))
          go_ret
          exact ⟨by first | rfl | (simp [errW_none, errW_some] <;> rfl) | (simp [*, errW_none, errW_some] <;> rfl), by repeat (first | (with_reducible first | exact HB.out | apply below_alloc | apply pw_below_drewN | apply below_drew1 | refine below_set ?_ GE389.out | refine below_set ?_ GE390.out) | exact HB.out)⟩
        · rw [if_neg c22] at H
          have c22b0 : (a0_0 == 6) = false := beq_eq_false_iff_ne.mpr c22
          have c22b1 : (a0_0 != 6) = true := bne_iff_ne.mpr c22
          by_cases c30 : a0_0 = 7
          · rw [if_pos c30] at H
            have c30b0 : (a0_0 == 7) = true := beq_iff_eq.mpr c30
            have c30b1 : (a0_0 != 7) = false := bne_eq_false_iff_eq.mpr c30
            clear c30
            replace H := Option.bind_eq_some_iff.mp H
            obtain ⟨t393, A310, H⟩ := H
            replace H : (some t393) = some r := H
            have A31 := Aside0.mk A310
            clear A310
            obtain rfl := Option.some.inj H
            go_enter Tryd.func21, Tryd.ntmps21
            go_wp2_with (first | ((with_reducible refine gate_dst (N := 2) rfl ?_); refine box_event ?hg (N := 2) ?hd (cs := #[.int .i64 a0_0, .int .u64 a0_1, .int .u64 a0_2]) (t := 38) ?hr ?_; (case hd => rfl); (case hg => rfl); (case hr => first | (go_simp; done) | (go_simp; rfl)); intro gb389 hg w32 hbox hb; have n0_ := Aside0.mk (below_step (by repeat (first | (with_reducible first | exact HB.out | apply below_alloc | apply pw_below_drewN | apply below_drew1) | exact HB.out)) hb); have n1_ := Aside0.mk (hbox); have n2_ := Aside0.mk ((by rw [hg]; exact (below_size (by repeat (first | (with_reducible first | exact HB.out | apply below_alloc | apply pw_below_drewN | apply below_drew1) | exact HB.out))) : w.heap.size ≤ gb389)); have n3_ := Aside0.mk ((by rw [hg]; exact (below_size (by repeat (first | (with_reducible first | exact HB.out | apply below_alloc | apply pw_below_drewN | apply below_drew1) | exact HB.out))) : w.heap.size ≤ gb389)); clear HB; have HB := n0_; have BK389 := n1_; have GW389 := n2_; have GE389 := n3_; clear n0_ n1_ n2_ n3_; clear hb hbox hg) | ((with_reducible refine gate_dst (N := 3) rfl ?_); refine box_event ?hg (N := 3) ?hd (cs := #[.int .i64 a1_0, .bool a1_1, .int .u64 a1_2, .int .u64 a1_3, .int .i64 a1_4, .slice A1_5 l1_5.length c1_5]) (t := 44) ?hr ?_; (case hd => rfl); (case hg => rfl); (case hr => first | (go_simp; done) | (go_simp; rfl)); intro gb390 hg w33 hbox hb; have n0_ := Aside0.mk (blk_below (g := gb389) (o := .cells #[.int .i64 a0_0, .int .u64 a0_1, .int .u64 a0_2] 38 (0, 0)) (by (with_reducible repeat (first | refine blk_drewN ?_ _ | refine blk_drew ?_ | refine blk_alloc ?_ _)); exact BK389.out) hb); have n1_ := Aside0.mk (below_step (by repeat (first | (with_reducible first | exact HB.out | apply below_alloc | apply pw_below_drewN | apply below_drew1 | refine below_set ?_ GE389.out) | exact HB.out)) hb); have n2_ := Aside0.mk (hbox); have n3_ := Aside0.mk ((by rw [hg]; exact (below_size (by repeat (first | (with_reducible first | exact HB.out | apply below_alloc | apply pw_below_drewN | apply below_drew1 | refine below_set ?_ GE389.out) | exact HB.out))) : w.heap.size ≤ gb390)); have n4_ := Aside0.mk ((by rw [hg]; exact (below_size (by repeat (first | (with_reducible first | exact HB.out | apply below_alloc | apply pw_below_drewN | apply below_drew1 | refine below_set ?_ GE389.out) | exact HB.out))) : w.heap.size ≤ gb390)); have n5_ := Aside0.mk ((by rw [hg]; exact Nat.ne_of_lt (blk_lt (g := gb389) (o := .cells #[.int .i64 a0_0, .int .u64 a0_1, .int .u64 a0_2] 38 (0, 0)) (by (with_reducible repeat (first | refine blk_drewN ?_ _ | refine blk_drew ?_ | refine blk_alloc ?_ _)); exact BK389.out)) : gb389 ≠ gb390)); have n6_ := Aside0.mk ((by rw [hg]; exact Nat.ne_of_gt (blk_lt (g := gb389) (o := .cells #[.int .i64 a0_0, .int .u64 a0_1, .int .u64 a0_2] 38 (0, 0)) (by (with_reducible repeat (first | refine blk_drewN ?_ _ | refine blk_drew ?_ | refine blk_alloc ?_ _)); exact BK389.out)) : gb390 ≠ gb389)); clear BK389; clear HB; have BK389 := n0_; have HB := n1_; have BK390 := n2_; have GW390 := n3_; have GE390 := n4_; have NB389_390 := n5_; have NB390_389 := n6_; clear n0_ n1_ n2_ n3_ n4_ n5_ n6_; clear hb hbox hg; have hnb34 := NB390_389.out; have hnc34 := NB389_390.out; have hcz35_0 : w33.cell? ⟨gb390, 0, none⟩ = some (.int .i64 a1_0) := (blk_cell BK390.out 0).trans rfl; have hcz35_1 : w33.cell? ⟨gb390, 1, none⟩ = some (.bool a1_1) := (blk_cell BK390.out 1).trans rfl; have hcz35_2 : w33.cell? ⟨gb390, 2, none⟩ = some (.int .u64 a1_2) := (blk_cell BK390.out 2).trans rfl; have hcz35_3 : w33.cell? ⟨gb390, 3, none⟩ = some (.int .u64 a1_3) := (blk_cell BK390.out 3).trans rfl; have hcz35_4 : w33.cell? ⟨gb390, 4, none⟩ = some (.int .i64 a1_4) := (blk_cell BK390.out 4).trans rfl; have hcz35_5 : w33.cell? ⟨gb390, 5, none⟩ = some (.slice A1_5 l1_5.length c1_5) := (blk_cell BK390.out 5).trans rfl; have hfz35_0 := blk_frozen BK390.out 0; have hfz35_1 := blk_frozen BK390.out 1; have hfz35_2 := blk_frozen BK390.out 2; have hfz35_3 := blk_frozen BK390.out 3; have hfz35_4 := blk_frozen BK390.out 4; have hfz35_5 := blk_frozen BK390.out 5; have hcz36_0 : w33.cell? ⟨gb389, 0, none⟩ = some (.int .i64 a0_0) := (blk_cell BK389.out 0).trans rfl; have hcz36_1 : w33.cell? ⟨gb389, 1, none⟩ = some (.int .u64 a0_1) := (blk_cell BK389.out 1).trans rfl; have hcz36_2 : w33.cell? ⟨gb389, 2, none⟩ = some (.int .u64 a0_2) := (blk_cell BK389.out 2).trans rfl; have hfz36_0 := blk_frozen BK389.out 0; have hfz36_1 := blk_frozen BK389.out 1; have hfz36_2 := blk_frozen BK389.out 2) | ((with_reducible refine gate_callee (f := 35) rfl ?_); refine goesL_ (some 29) rfl rfl Tryd.func35 (by kernel_rfl) rfl #[.slice A1_5 l1_5.length c1_5] rfl (by (try simp only [List.map_toArray, List.map_cons, List.map_nil]); first | done | rfl | (simp only [List.length_drop, List.length_take]; rfl)) ?_; (with_reducible refine (inclineref21_pairs.calls _ _ l1_5 t393 _ ?side1 ?side2 A31.out).mono ?_); (case side1 => repeat (first | exact (Kd.C_below HR1_5.out HB.out) | (with_reducible refine Kd.C_alloc ?_ _) | (with_reducible refine Kd.C_drewN ?_ _) | (with_reducible refine Kd.C_drew ?_))); (case side2 => exact HC1_5.out); rintro e w37 ⟨rfl, hb⟩; refine ⟨_, rfl, ?_⟩; have n0_ := Aside0.mk (blk_below (g := gb389) (o := .cells #[.int .i64 a0_0, .int .u64 a0_1, .int .u64 a0_2] 38 (0, 0)) (by (with_reducible repeat (first | refine blk_drewN ?_ _ | refine blk_drew ?_ | refine blk_alloc ?_ _)); exact BK389.out) hb); have n1_ := Aside0.mk (blk_below (g := gb390) (o := .cells #[.int .i64 a1_0, .bool a1_1, .int .u64 a1_2, .int .u64 a1_3, .int .i64 a1_4, .slice A1_5 l1_5.length c1_5] 44 (0, 0)) (by (with_reducible repeat (first | refine blk_drewN ?_ _ | refine blk_drew ?_ | refine blk_alloc ?_ _)); exact BK390.out) hb); have n2_ := Aside0.mk (below_step (by repeat (first | (with_reducible first | exact HB.out | apply below_alloc | apply pw_below_drewN | apply below_drew1 | refine below_set ?_ GE389.out | refine below_set ?_ GE390.out) | exact HB.out)) hb); clear BK389; clear BK390; clear HB; have BK389 := n0_; have BK390 := n1_; have HB := n2_; clear n0_ n1_ n2_; (try clear hb); (try clear hb2); (try clear hk); (try clear hi)))
            go_ret
            exact ⟨by first | rfl | (simp [errW_none, errW_some] <;> rfl) | (simp [*, errW_none, errW_some] <;> rfl), by repeat (first | (with_reducible first | exact HB.out | apply below_alloc | apply pw_below_drewN | apply below_drew1 | refine below_set ?_ GE389.out | refine below_set ?_ GE390.out) | exact HB.out)⟩
          · rw [if_neg c30] at H
            have c30b0 : (a0_0 == 7) = false := beq_eq_false_iff_ne.mpr c30
            have c30b1 : (a0_0 != 7) = true := bne_iff_ne.mpr c30
            have HC38 := Aside0.mk H
            clear H
            go_enter Tryd.func21, Tryd.ntmps21
            go_upto_if 30 with (first | ((with_reducible refine gate_dst (N := 2) rfl ?_); refine box_event ?hg (N := 2) ?hd (cs := #[.int .i64 a0_0, .int .u64 a0_1, .int .u64 a0_2]) (t := 38) ?hr ?_; (case hd => rfl); (case hg => rfl); (case hr => first | (go_simp; done) | (go_simp; rfl)); intro gb389 hg w39 hbox hb; have n0_ := Aside0.mk (below_step (by repeat (first | (with_reducible first | exact HB.out | apply below_alloc | apply pw_below_drewN | apply below_drew1) | exact HB.out)) hb); have n1_ := Aside0.mk (hbox); have n2_ := Aside0.mk ((by rw [hg]; exact (below_size (by repeat (first | (with_reducible first | exact HB.out | apply below_alloc | apply pw_below_drewN | apply below_drew1) | exact HB.out))) : w.heap.size ≤ gb389)); have n3_ := Aside0.mk ((by rw [hg]; exact (below_size (by repeat (first | (with_reducible first | exact HB.out | apply below_alloc | apply pw_below_drewN | apply below_drew1) | exact HB.out))) : w.heap.size ≤ gb389)); clear HB; have HB := n0_; have BK389 := n1_; have GW389 := n2_; have GE389 := n3_; clear n0_ n1_ n2_ n3_; clear hb hbox hg) | ((with_reducible refine gate_dst (N := 3) rfl ?_); refine box_event ?hg (N := 3) ?hd (cs := #[.int .i64 a1_0, .bool a1_1, .int .u64 a1_2, .int .u64 a1_3, .int .i64 a1_4, .slice A1_5 l1_5.length c1_5]) (t := 44) ?hr ?_; (case hd => rfl); (case hg => rfl); (case hr => first | (go_simp; done) | (go_simp; rfl)); intro gb390 hg w40 hbox hb; have n0_ := Aside0.mk (blk_below (g := gb389) (o := .cells #[.int .i64 a0_0, .int .u64 a0_1, .int .u64 a0_2] 38 (0, 0)) (by (with_reducible repeat (first | refine blk_drewN ?_ _ | refine blk_drew ?_ | refine blk_alloc ?_ _)); exact BK389.out) hb); have n1_ := Aside0.mk (below_step (by repeat (first | (with_reducible first | exact HB.out | apply below_alloc | apply pw_below_drewN | apply below_drew1 | refine below_set ?_ GE389.out) | exact HB.out)) hb); have n2_ := Aside0.mk (hbox); have n3_ := Aside0.mk ((by rw [hg]; exact (below_size (by repeat (first | (with_reducible first | exact HB.out | apply below_alloc | apply pw_below_drewN | apply below_drew1 | refine below_set ?_ GE389.out) | exact HB.out))) : w.heap.size ≤ gb390)); have n4_ := Aside0.mk ((by rw [hg]; exact (below_size (by repeat (first | (with_reducible first | exact HB.out | apply below_alloc | apply pw_below_drewN | apply below_drew1 | refine below_set ?_ GE389.out) | exact HB.out))) : w.heap.size ≤ gb390)); have n5_ := Aside0.mk ((by rw [hg]; exact Nat.ne_of_lt (blk_lt (g := gb389) (o := .cells #[.int .i64 a0_0, .int .u64 a0_1, .int .u64 a0_2] 38 (0, 0)) (by (with_reducible repeat (first | refine blk_drewN ?_ _ | refine blk_drew ?_ | refine blk_alloc ?_ _)); exact BK389.out)) : gb389 ≠ gb390)); have n6_ := Aside0.mk ((by rw [hg]; exact Nat.ne_of_gt (blk_lt (g := gb389) (o := .cells #[.int .i64 a0_0, .int .u64 a0_1, .int .u64 a0_2] 38 (0, 0)) (by (with_reducible repeat (first | refine blk_drewN ?_ _ | refine blk_drew ?_ | refine blk_alloc ?_ _)); exact BK389.out)) : gb390 ≠ gb389)); clear BK389; clear HB; have BK389 := n0_; have HB := n1_; have BK390 := n2_; have GW390 := n3_; have GE390 := n4_; have NB389_390 := n5_; have NB390_389 := n6_; clear n0_ n1_ n2_ n3_ n4_ n5_ n6_; clear hb hbox hg; have hnb41 := NB390_389.out; have hnc41 := NB389_390.out; have hcz42_0 : w40.cell? ⟨gb390, 0, none⟩ = some (.int .i64 a1_0) := (blk_cell BK390.out 0).trans rfl; have hcz42_1 : w40.cell? ⟨gb390, 1, none⟩ = some (.bool a1_1) := (blk_cell BK390.out 1).trans rfl; have hcz42_2 : w40.cell? ⟨gb390, 2, none⟩ = some (.int .u64 a1_2) := (blk_cell BK390.out 2).trans rfl; have hcz42_3 : w40.cell? ⟨gb390, 3, none⟩ = some (.int .u64 a1_3) := (blk_cell BK390.out 3).trans rfl; have hcz42_4 : w40.cell? ⟨gb390, 4, none⟩ = some (.int .i64 a1_4) := (blk_cell BK390.out 4).trans rfl; have hcz42_5 : w40.cell? ⟨gb390, 5, none⟩ = some (.slice A1_5 l1_5.length c1_5) := (blk_cell BK390.out 5).trans rfl; have hfz42_0 := blk_frozen BK390.out 0; have hfz42_1 := blk_frozen BK390.out 1; have hfz42_2 := blk_frozen BK390.out 2; have hfz42_3 := blk_frozen BK390.out 3; have hfz42_4 := blk_frozen BK390.out 4; have hfz42_5 := blk_frozen BK390.out 5; have hcz43_0 : w40.cell? ⟨gb389, 0, none⟩ = some (.int .i64 a0_0) := (blk_cell BK389.out 0).trans rfl; have hcz43_1 : w40.cell? ⟨gb389, 1, none⟩ = some (.int .u64 a0_1) := (blk_cell BK389.out 1).trans rfl; have hcz43_2 : w40.cell? ⟨gb389, 2, none⟩ = some (.int .u64 a0_2) := (blk_cell BK389.out 2).trans rfl; have hfz43_0 := blk_frozen BK389.out 0; have hfz43_1 := blk_frozen BK389.out 1; have hfz43_2 := blk_frozen BK389.out 2))
            (try simp only [Act.put, List.setIfInBounds_toArray, List.set_cons_zero, List.set_cons_succ])
            go_cut [30] (fun v30 wc => ∃ (kq : Nat) (x30_37 : Bool), v30 = .bool x30_37 ∧ Aside0 (inclineref21_Tell.j0 kq x30_37 a0_0 a0_1 a0_2 a1_0 a1_1 a1_2 a1_3 a1_4 l1_5 = some r) ∧ Aside0 (kq ≤ k) ∧ Aside0 (wc.heap[gb389]? = some (.cells #[.int .i64 a0_0, .int .u64 a0_1, .int .u64 a0_2] 38 (0, 0))) ∧ Aside0 (wc.heap[gb390]? = some (.cells #[.int .i64 a1_0, .bool a1_1, .int .u64 a1_2, .int .u64 a1_3, .int .i64 a1_4, (.slice A1_5 l1_5.length c1_5)] 44 (0, 0))) ∧ Aside0 (Below w.heap.size w wc))
            case first =>
              have H := HC38.out
              clear HC38
              by_cases c44 : a0_0 = 3
              · rw [if_pos c44] at H
                have c44b0 : (a0_0 == 3) = true := beq_iff_eq.mpr c44
                have c44b1 : (a0_0 != 3) = false := bne_eq_false_iff_eq.mpr c44
                clear c44
                (first | rw [c44b0] | (simp only [i64_w, i32_w]; rw [c44b0]) | skip)
                have H' := Aside0.mk H
                clear H
                go_wp2
                go_meet
                case rel => exact ⟨_, ((a0_0 == 3)), (by first | rfl | (simp; done) | (simp [*]; done)), H', ⟨by first | omega | exact Nat.le_refl _⟩, ⟨by (with_reducible repeat (first | refine blk_drewN ?_ _ | refine blk_drew ?_ | refine blk_alloc ?_ _)); exact BK389.out⟩, ⟨by (with_reducible repeat (first | refine blk_drewN ?_ _ | refine blk_drew ?_ | refine blk_alloc ?_ _)); exact BK390.out⟩, ⟨by repeat (first | (with_reducible first | exact HB.out | apply below_alloc | apply pw_below_drewN | apply below_drew1 | refine below_set ?_ GE389.out | refine below_set ?_ GE390.out) | exact HB.out)⟩⟩
              · rw [if_neg c44] at H
                have c44b0 : (a0_0 == 3) = false := beq_eq_false_iff_ne.mpr c44
                have c44b1 : (a0_0 != 3) = true := bne_iff_ne.mpr c44
                (first | rw [c44b0] | (simp only [i64_w, i32_w]; rw [c44b0]) | skip)
                by_cases c45 : a0_0 = 4
                · rw [if_pos c45] at H
                  have c45b0 : (a0_0 == 4) = true := beq_iff_eq.mpr c45
                  have c45b1 : (a0_0 != 4) = false := bne_eq_false_iff_eq.mpr c45
                  clear c45
                  have H' := Aside0.mk H
                  clear H
                  go_wp2
                  go_meet
                  case rel => exact ⟨_, ((a0_0 == 4)), (by first | rfl | (simp; done) | (simp [*]; done)), H', ⟨by first | omega | exact Nat.le_refl _⟩, ⟨by (with_reducible repeat (first | refine blk_drewN ?_ _ | refine blk_drew ?_ | refine blk_alloc ?_ _)); exact BK389.out⟩, ⟨by (with_reducible repeat (first | refine blk_drewN ?_ _ | refine blk_drew ?_ | refine blk_alloc ?_ _)); exact BK390.out⟩, ⟨by repeat (first | (with_reducible first | exact HB.out | apply below_alloc | apply pw_below_drewN | apply below_drew1 | refine below_set ?_ GE389.out | refine below_set ?_ GE390.out) | exact HB.out)⟩⟩
                · rw [if_neg c45] at H
                  have c45b0 : (a0_0 == 4) = false := beq_eq_false_iff_ne.mpr c45
                  have c45b1 : (a0_0 != 4) = true := bne_iff_ne.mpr c45
                  have H' := Aside0.mk H
                  clear H
                  go_wp2
                  go_meet
                  case rel => exact ⟨_, ((a0_0 == 5)), (by first | rfl | (simp; done) | (simp [*]; done)), H', ⟨by first | omega | exact Nat.le_refl _⟩, ⟨by (with_reducible repeat (first | refine blk_drewN ?_ _ | refine blk_drew ?_ | refine blk_alloc ?_ _)); exact BK389.out⟩, ⟨by (with_reducible repeat (first | refine blk_drewN ?_ _ | refine blk_drew ?_ | refine blk_alloc ?_ _)); exact BK390.out⟩, ⟨by repeat (first | (with_reducible first | exact HB.out | apply below_alloc | apply pw_below_drewN | apply below_drew1 | refine below_set ?_ GE389.out | refine below_set ?_ GE390.out) | exact HB.out)⟩⟩
            case rest =>
              clear HC38
              try clear c1
              try clear c2
              try clear p2
              try clear c3
              try clear c3b0
              try clear c3b1
              try clear c4
              try clear c4b0
              try clear c4b1
              try clear c7
              try clear c10
              try clear c10b0
              try clear c10b1
              try clear c11
              try clear c14
              try clear c19
              try clear c21
              try clear c22
              try clear c22b0
              try clear c22b1
              try clear c26
              try clear c30
              try clear c30b0
              try clear c30b1
              try clear c34
              try clear c35
              try clear c41
              try clear c44
              try clear c44b0
              try clear c44b1
              try clear c45
              try clear c45b0
              try clear c45b1
              try clear hcz15_0
              try clear hcz15_1
              try clear hcz15_2
              try clear hcz15_3
              try clear hcz15_4
              try clear hcz15_5
              try clear hcz16_0
              try clear hcz16_1
              try clear hcz16_2
              try clear hcz20_0
              try clear hcz20_1
              try clear hcz20_2
              try clear hcz20_3
              try clear hcz20_4
              try clear hcz20_5
              try clear hcz21_0
              try clear hcz21_1
              try clear hcz21_2
              try clear hcz27_0
              try clear hcz27_1
              try clear hcz27_2
              try clear hcz27_3
              try clear hcz27_4
              try clear hcz27_5
              try clear hcz28_0
              try clear hcz28_1
              try clear hcz28_2
              try clear hcz35_0
              try clear hcz35_1
              try clear hcz35_2
              try clear hcz35_3
              try clear hcz35_4
              try clear hcz35_5
              try clear hcz36_0
              try clear hcz36_1
              try clear hcz36_2
              try clear hcz42_0
              try clear hcz42_1
              try clear hcz42_2
              try clear hcz42_3
              try clear hcz42_4
              try clear hcz42_5
              try clear hcz43_0
              try clear hcz43_1
              try clear hcz43_2
              try clear hcz8_0
              try clear hcz8_1
              try clear hcz8_2
              try clear hcz8_3
              try clear hcz8_4
              try clear hcz8_5
              try clear hcz9_0
              try clear hcz9_1
              try clear hcz9_2
              try clear hfz15_0
              try clear hfz15_1
              try clear hfz15_2
              try clear hfz15_3
              try clear hfz15_4
              try clear hfz15_5
              try clear hfz16_0
              try clear hfz16_1
              try clear hfz16_2
              try clear hfz20_0
              try clear hfz20_1
              try clear hfz20_2
              try clear hfz20_3
              try clear hfz20_4
              try clear hfz20_5
              try clear hfz21_0
              try clear hfz21_1
              try clear hfz21_2
              try clear hfz27_0
              try clear hfz27_1
              try clear hfz27_2
              try clear hfz27_3
              try clear hfz27_4
              try clear hfz27_5
              try clear hfz28_0
              try clear hfz28_1
              try clear hfz28_2
              try clear hfz35_0
              try clear hfz35_1
              try clear hfz35_2
              try clear hfz35_3
              try clear hfz35_4
              try clear hfz35_5
              try clear hfz36_0
              try clear hfz36_1
              try clear hfz36_2
              try clear hfz42_0
              try clear hfz42_1
              try clear hfz42_2
              try clear hfz42_3
              try clear hfz42_4
              try clear hfz42_5
              try clear hfz43_0
              try clear hfz43_1
              try clear hfz43_2
              try clear hfz8_0
              try clear hfz8_1
              try clear hfz8_2
              try clear hfz8_3
              try clear hfz8_4
              try clear hfz8_5
              try clear hfz9_0
              try clear hfz9_1
              try clear hfz9_2
              obtain ⟨kq, x30_37, rfl, HA, HJ37, BK389, BK390, HB⟩ := hcut
              cases kq with
              | zero => exact absurd HA.out (by simp [inclineref21_Tell.j0])
              | succ kj37 =>
                have H := HA.out
                clear HA
                simp only [inclineref21_Tell.j0] at H
                by_cases c46 : x30_37 = true
                · subst c46
                  have H1 : (if a1_1 = true then (if a0_0 = 3 then ((inclineref21_digits.f kj37 a1_3).bind fun t394 => (some t394)) else ((inclineref21_digits.f kj37 a1_2).bind fun t395 => (if t395.size + 1 ≤ 9223372036854775807 then ((inclineref21_digits.f kj37 a1_3).bind fun t396 => (if (t395 ++ (⟨#[32]⟩ : ByteArray)).size + t396.size ≤ 9223372036854775807 then (some ((t395 ++ (⟨#[32]⟩ : ByteArray)) ++ t396)) else (none))) else (none)))) else (some (⟨#[110, 111, 110, 101]⟩ : ByteArray))) = some r := by rw [if_pos rfl] at H; exact H
                  clear H
                  have H := H1
                  clear H1
                  by_cases c47 : a1_1 = true
                  · subst c47
                    have H1 : (if a0_0 = 3 then ((inclineref21_digits.f kj37 a1_3).bind fun t394 => (some t394)) else ((inclineref21_digits.f kj37 a1_2).bind fun t395 => (if t395.size + 1 ≤ 9223372036854775807 then ((inclineref21_digits.f kj37 a1_3).bind fun t396 => (if (t395 ++ (⟨#[32]⟩ : ByteArray)).size + t396.size ≤ 9223372036854775807 then (some ((t395 ++ (⟨#[32]⟩ : ByteArray)) ++ t396)) else (none))) else (none)))) = some r := by rw [if_pos rfl] at H; exact H
                    clear H
                    have H := H1
                    clear H1
                    by_cases c48 : a0_0 = 3
                    · rw [if_pos c48] at H
                      have c48b0 : (a0_0 == 3) = true := beq_iff_eq.mpr c48
                      have c48b1 : (a0_0 != 3) = false := bne_eq_false_iff_eq.mpr c48
                      clear c48
                      replace H := Option.bind_eq_some_iff.mp H
                      obtain ⟨t394, A490, H⟩ := H
                      replace H : (some t394) = some r := H
                      have A49 := Aside0.mk A490
                      clear A490
                      obtain rfl := Option.some.inj H
                      have hnb50 := NB390_389.out
                      have hnc50 := NB389_390.out
                      have hcz51_0 : wc.cell? ⟨gb390, 0, none⟩ = some (.int .i64 a1_0) := (blk_cell BK390.out 0).trans rfl
                      have hcz51_1 : wc.cell? ⟨gb390, 1, none⟩ = some (.bool true) := (blk_cell BK390.out 1).trans rfl
                      have hcz51_2 : wc.cell? ⟨gb390, 2, none⟩ = some (.int .u64 a1_2) := (blk_cell BK390.out 2).trans rfl
                      have hcz51_3 : wc.cell? ⟨gb390, 3, none⟩ = some (.int .u64 a1_3) := (blk_cell BK390.out 3).trans rfl
                      have hcz51_4 : wc.cell? ⟨gb390, 4, none⟩ = some (.int .i64 a1_4) := (blk_cell BK390.out 4).trans rfl
                      have hcz51_5 : wc.cell? ⟨gb390, 5, none⟩ = some (.slice A1_5 l1_5.length c1_5) := (blk_cell BK390.out 5).trans rfl
                      have hfz51_0 := blk_frozen BK390.out 0
                      have hfz51_1 := blk_frozen BK390.out 1
                      have hfz51_2 := blk_frozen BK390.out 2
                      have hfz51_3 := blk_frozen BK390.out 3
                      have hfz51_4 := blk_frozen BK390.out 4
                      have hfz51_5 := blk_frozen BK390.out 5
                      have hcz52_0 : wc.cell? ⟨gb389, 0, none⟩ = some (.int .i64 a0_0) := (blk_cell BK389.out 0).trans rfl
                      have hcz52_1 : wc.cell? ⟨gb389, 1, none⟩ = some (.int .u64 a0_1) := (blk_cell BK389.out 1).trans rfl
                      have hcz52_2 : wc.cell? ⟨gb389, 2, none⟩ = some (.int .u64 a0_2) := (blk_cell BK389.out 2).trans rfl
                      have hfz52_0 := blk_frozen BK389.out 0
                      have hfz52_1 := blk_frozen BK389.out 1
                      have hfz52_2 := blk_frozen BK389.out 2
                      go_wp2_with (first | ((with_reducible refine gate_callee (f := 30) rfl ?_); refine goesL_ (some 42) rfl rfl Tryd.func30 (by kernel_rfl) rfl #[.int .u64 a1_3] rfl (by (try simp only [List.map_toArray, List.map_cons, List.map_nil]); first | done | rfl | (simp only [List.length_drop, List.length_take]; rfl)) ?_; (with_reducible refine (inclineref21_digits.calls kj37 a1_3 t394 _ A49.out).mono ?_); rintro e w53 ⟨rfl, hb⟩; refine ⟨_, rfl, ?_⟩; have n0_ := Aside0.mk (blk_below (g := gb389) (o := .cells #[.int .i64 a0_0, .int .u64 a0_1, .int .u64 a0_2] 38 (0, 0)) (by (with_reducible repeat (first | refine blk_drewN ?_ _ | refine blk_drew ?_ | refine blk_alloc ?_ _)); exact BK389.out) hb); have n1_ := Aside0.mk (blk_below (g := gb390) (o := .cells #[.int .i64 a1_0, .bool true, .int .u64 a1_2, .int .u64 a1_3, .int .i64 a1_4, .slice A1_5 l1_5.length c1_5] 44 (0, 0)) (by (with_reducible repeat (first | refine blk_drewN ?_ _ | refine blk_drew ?_ | refine blk_alloc ?_ _)); exact BK390.out) hb); have n2_ := Aside0.mk (below_step (by repeat (first | (with_reducible first | exact HB.out | apply below_alloc | apply pw_below_drewN | apply below_drew1 | refine below_set ?_ GE389.out | refine below_set ?_ GE390.out) | exact HB.out)) hb); clear BK389; clear BK390; clear HB; have BK389 := n0_; have BK390 := n1_; have HB := n2_; clear n0_ n1_ n2_; (try clear hb); (try clear hb2); (try clear hk); (try clear hi)))
                      go_ret
                      exact ⟨by first | rfl | (simp [errW_none, errW_some] <;> rfl) | (simp [*, errW_none, errW_some] <;> rfl), by repeat (first | (with_reducible first | exact HB.out | apply below_alloc | apply pw_below_drewN | apply below_drew1 | refine below_set ?_ GE389.out | refine below_set ?_ GE390.out) | exact HB.out)⟩
                    · rw [if_neg c48] at H
                      have c48b0 : (a0_0 == 3) = false := beq_eq_false_iff_ne.mpr c48
                      have c48b1 : (a0_0 != 3) = true := bne_iff_ne.mpr c48
                      replace H := Option.bind_eq_some_iff.mp H
                      obtain ⟨t395, A540, H⟩ := H
                      replace H : (if t395.size + 1 ≤ 9223372036854775807 then ((inclineref21_digits.f kj37 a1_3).bind fun t396 => (if (t395 ++ (⟨#[32]⟩ : ByteArray)).size + t396.size ≤ 9223372036854775807 then (some ((t395 ++ (⟨#[32]⟩ : ByteArray)) ++ t396)) else (none))) else (none)) = some r := H
                      have A54 := Aside0.mk A540
                      clear A540
                      by_cases c55 : t395.size + 1 ≤ 9223372036854775807
                      · rw [if_pos c55] at H
                        have c55b0 := eq_true c55
                        have c55b1 : decide (t395.size + 1 ≤ 9223372036854775807) = true := decide_eq_true c55
                        try have c55b2 : (9223372036854775807 < t395.size + 1) = False := eq_false (Nat.not_lt.2 c55)
                        replace H := Option.bind_eq_some_iff.mp H
                        obtain ⟨t396, A560, H⟩ := H
                        replace H : (if (t395 ++ (⟨#[32]⟩ : ByteArray)).size + t396.size ≤ 9223372036854775807 then (some ((t395 ++ (⟨#[32]⟩ : ByteArray)) ++ t396)) else (none)) = some r := H
                        have A56 := Aside0.mk A560
                        clear A560
                        by_cases c57 : (t395 ++ (⟨#[32]⟩ : ByteArray)).size + t396.size ≤ 9223372036854775807
                        · rw [if_pos c57] at H
                          have c57b0 := eq_true c57
                          have c57b1 : decide ((t395 ++ (⟨#[32]⟩ : ByteArray)).size + t396.size ≤ 9223372036854775807) = true := decide_eq_true c57
                          have c57x0z : (9223372036854775807 < t395.size + 1 + t396.size) = False := eq_false (by have h := c57; simp only [ByteArray.size_append] at h; have hl0 : (⟨#[32]⟩ : ByteArray).size = 1 := rfl; omega)
                          try have c57b2 : (9223372036854775807 < (t395 ++ (⟨#[32]⟩ : ByteArray)).size + t396.size) = False := eq_false (Nat.not_lt.2 c57)
                          obtain rfl := Option.some.inj H
                          have hnb58 := NB390_389.out
                          have hnc58 := NB389_390.out
                          have hcz59_0 : wc.cell? ⟨gb390, 0, none⟩ = some (.int .i64 a1_0) := (blk_cell BK390.out 0).trans rfl
                          have hcz59_1 : wc.cell? ⟨gb390, 1, none⟩ = some (.bool true) := (blk_cell BK390.out 1).trans rfl
                          have hcz59_2 : wc.cell? ⟨gb390, 2, none⟩ = some (.int .u64 a1_2) := (blk_cell BK390.out 2).trans rfl
                          have hcz59_3 : wc.cell? ⟨gb390, 3, none⟩ = some (.int .u64 a1_3) := (blk_cell BK390.out 3).trans rfl
                          have hcz59_4 : wc.cell? ⟨gb390, 4, none⟩ = some (.int .i64 a1_4) := (blk_cell BK390.out 4).trans rfl
                          have hcz59_5 : wc.cell? ⟨gb390, 5, none⟩ = some (.slice A1_5 l1_5.length c1_5) := (blk_cell BK390.out 5).trans rfl
                          have hfz59_0 := blk_frozen BK390.out 0
                          have hfz59_1 := blk_frozen BK390.out 1
                          have hfz59_2 := blk_frozen BK390.out 2
                          have hfz59_3 := blk_frozen BK390.out 3
                          have hfz59_4 := blk_frozen BK390.out 4
                          have hfz59_5 := blk_frozen BK390.out 5
                          have hcz60_0 : wc.cell? ⟨gb389, 0, none⟩ = some (.int .i64 a0_0) := (blk_cell BK389.out 0).trans rfl
                          have hcz60_1 : wc.cell? ⟨gb389, 1, none⟩ = some (.int .u64 a0_1) := (blk_cell BK389.out 1).trans rfl
                          have hcz60_2 : wc.cell? ⟨gb389, 2, none⟩ = some (.int .u64 a0_2) := (blk_cell BK389.out 2).trans rfl
                          have hfz60_0 := blk_frozen BK389.out 0
                          have hfz60_1 := blk_frozen BK389.out 1
                          have hfz60_2 := blk_frozen BK389.out 2
                          try go_wp2
                          have n0_ := Aside0.mk (blk_drew BK389.out)
                          have n1_ := Aside0.mk (blk_drew BK390.out)
                          have n2_ := Aside0.mk (below_drew1 HB.out)
                          clear BK389
                          clear BK390
                          clear HB
                          have BK389 := n0_
                          have BK390 := n1_
                          have HB := n2_
                          clear n0_ n1_ n2_
                          refine start_ (n := 9) (S := fun w' => w'.cell? ⟨gb390, 0, none⟩ = some (.int .i64 a1_0) ∧ w'.cell? ⟨gb390, 1, none⟩ = some (.bool true) ∧ w'.cell? ⟨gb390, 2, none⟩ = some (.int .u64 a1_2) ∧ w'.cell? ⟨gb390, 3, none⟩ = some (.int .u64 a1_3) ∧ w'.cell? ⟨gb390, 4, none⟩ = some (.int .i64 a1_4) ∧ w'.cell? ⟨gb390, 5, none⟩ = some (.slice A1_5 l1_5.length c1_5)) (ds := []) #[false, false, false, false, false, false, false, false, false] (by kernel_rfl) rfl rfl ⟨(blk_cell BK390.out 0).trans rfl, (blk_cell BK390.out 1).trans rfl, (blk_cell BK390.out 2).trans rfl, (blk_cell BK390.out 3).trans rfl, (blk_cell BK390.out 4).trans rfl, (blk_cell BK390.out 5).trans rfl⟩ (fun hHeld => ?_); refine with_tabW inclineref21_Tell.tab21 inclineref21_Tell.bits21 (fun HT_ HW_ => ?_)
                          generalize wc.drew = w61 at BK389 BK390 HB hHeld ⊢
                          refine pure_ (i := 0) (N := some 43) (v := ?_) (a' := ?_) #[true, false, false, false, false, false, false, false, false] rfl rfl (any_of HT_.out (by kernel_rfl)) (fun _ _ _ h => h) (Or.inl ⟨by rfl, ?_⟩) ?_ ?_
                          rotate_left
                          · intro w'
                            go_simp
                            with_reducible rfl
                          rotate_left
                          · simp only [Act.put, List.setIfInBounds_toArray, List.set_cons_zero, List.set_cons_succ, i64_w, i32_w]
                            rfl
                          refine pure_ (i := 4) (N := some 47) (v := ?_) (a' := ?_) #[true, false, false, false, true, false, false, false, false] rfl rfl (any_of HT_.out (by kernel_rfl)) (fun _ _ _ h => h) (Or.inl ⟨by rfl, ?_⟩) ?_ ?_
                          rotate_left
                          · intro w'
                            go_simp
                            with_reducible rfl
                          rotate_left
                          · simp only [Act.put, List.setIfInBounds_toArray, List.set_cons_zero, List.set_cons_succ, i64_w, i32_w]
                            rfl
                          refine take_ (i := 1) (N := some 44) (v := ?_) (a' := ?_) #[true, true, false, false, true, false, false, false, false] rfl rfl (take_ofW HT_.out HW_.out (by kernel_rfl)) (fun _ _ _ h => h) (Or.inl ⟨by rfl, ?_⟩) hHeld ?_ ?_
                          rotate_left
                          · rintro w' ⟨s0, s1, s2, s3, s4, s5⟩
                            go_simp
                            with_reducible rfl
                          rotate_left
                          · simp only [Act.put, List.setIfInBounds_toArray, List.set_cons_zero, List.set_cons_succ, i64_w, i32_w]
                            rfl
                          refine take_ (i := 5) (N := some 48) (v := ?_) (a' := ?_) #[true, true, false, false, true, true, false, false, false] rfl rfl (take_ofW HT_.out HW_.out (by kernel_rfl)) (fun _ _ _ h => h) (Or.inl ⟨by rfl, ?_⟩) hHeld ?_ ?_
                          rotate_left
                          · rintro w' ⟨s0, s1, s2, s3, s4, s5⟩
                            go_simp
                            with_reducible rfl
                          rotate_left
                          · simp only [Act.put, List.setIfInBounds_toArray, List.set_cons_zero, List.set_cons_succ, i64_w, i32_w]
                            rfl
                          refine one_ (i := 2) (N := some 45) #[true, true, true, false, true, true, false, false, false] rfl rfl (one_of HT_.out (by kernel_rfl)) (by decide) (fun K hK => ?_)
                          refine goes_ Tryd.func30 (by kernel_rfl) rfl #[.int .u64 a1_2] (by rfl) rfl rfl (by (try simp only [List.map_toArray, List.map_cons, List.map_nil]); first | done | rfl | (simp only [List.length_drop, List.length_take]; rfl)) ?_
                          with_reducible refine (inclineref21_digits.calls kj37 a1_2 t395 _ A54.out).mono ?_
                          rintro e w62 ⟨rfl, hb⟩
                          refine ⟨_, rfl, ?_⟩
                          have n0_ := Aside0.mk (blk_below (g := gb389) (o := .cells #[.int .i64 a0_0, .int .u64 a0_1, .int .u64 a0_2] 38 (0, 0)) (by (with_reducible repeat (first | refine blk_drewN ?_ _ | refine blk_drew ?_ | refine blk_alloc ?_ _)); exact BK389.out) hb)
                          have n1_ := Aside0.mk (blk_below (g := gb390) (o := .cells #[.int .i64 a1_0, .bool true, .int .u64 a1_2, .int .u64 a1_3, .int .i64 a1_4, .slice A1_5 l1_5.length c1_5] 44 (0, 0)) (by (with_reducible repeat (first | refine blk_drewN ?_ _ | refine blk_drew ?_ | refine blk_alloc ?_ _)); exact BK390.out) hb)
                          have n2_ := Aside0.mk (below_step (by repeat (first | (with_reducible first | exact HB.out | apply below_alloc | apply pw_below_drewN | apply below_drew1 | refine below_set ?_ GE389.out | refine below_set ?_ GE390.out) | exact HB.out)) hb)
                          clear BK389
                          clear BK390
                          clear HB
                          have BK389 := n0_
                          have BK390 := n1_
                          have HB := n2_
                          clear n0_ n1_ n2_
                          (try clear hb)
                          (try clear hb2)
                          (try clear hk)
                          (try clear hi)
                          refine hK.out _ _ ⟨(blk_cell BK390.out 0).trans rfl, (blk_cell BK390.out 1).trans rfl, (blk_cell BK390.out 2).trans rfl, (blk_cell BK390.out 3).trans rfl, (blk_cell BK390.out 4).trans rfl, (blk_cell BK390.out 5).trans rfl⟩ (fun hHeld => ?_)
                          clear hK K
                          refine norm_ (a' := ?_) ?_ ?_
                          rotate_left
                          · show Act.put _ (some 45) _ = _
                            simp only [Act.put, List.setIfInBounds_toArray, List.set_cons_zero, List.set_cons_succ, i64_w, i32_w]
                            rfl
                          refine pure_ (i := 3) (N := some 46) (v := ?_) (a' := ?_) #[true, true, true, true, true, true, false, false, false] rfl rfl (any_of HT_.out (by kernel_rfl)) (fun _ _ _ h => h) (Or.inl ⟨by rfl, ?_⟩) ?_ ?_
                          rotate_left
                          · intro w'
                            go_simp
                            with_reducible rfl
                          rotate_left
                          · simp only [Act.put, List.setIfInBounds_toArray, List.set_cons_zero, List.set_cons_succ, i64_w, i32_w]
                            rfl
                          refine one_ (i := 6) (N := some 49) #[true, true, true, true, true, true, true, false, false] rfl rfl (one_of HT_.out (by kernel_rfl)) (by decide) (fun K hK => ?_)
                          refine goes_ Tryd.func30 (by kernel_rfl) rfl #[.int .u64 a1_3] (by rfl) rfl rfl (by (try simp only [List.map_toArray, List.map_cons, List.map_nil]); first | done | rfl | (simp only [List.length_drop, List.length_take]; rfl)) ?_
                          with_reducible refine (inclineref21_digits.calls kj37 a1_3 t396 _ A56.out).mono ?_
                          rintro e w63 ⟨rfl, hb⟩
                          refine ⟨_, rfl, ?_⟩
                          have n0_ := Aside0.mk (blk_below (g := gb389) (o := .cells #[.int .i64 a0_0, .int .u64 a0_1, .int .u64 a0_2] 38 (0, 0)) (by (with_reducible repeat (first | refine blk_drewN ?_ _ | refine blk_drew ?_ | refine blk_alloc ?_ _)); exact BK389.out) hb)
                          have n1_ := Aside0.mk (blk_below (g := gb390) (o := .cells #[.int .i64 a1_0, .bool true, .int .u64 a1_2, .int .u64 a1_3, .int .i64 a1_4, .slice A1_5 l1_5.length c1_5] 44 (0, 0)) (by (with_reducible repeat (first | refine blk_drewN ?_ _ | refine blk_drew ?_ | refine blk_alloc ?_ _)); exact BK390.out) hb)
                          have n2_ := Aside0.mk (below_step (by repeat (first | (with_reducible first | exact HB.out | apply below_alloc | apply pw_below_drewN | apply below_drew1 | refine below_set ?_ GE389.out | refine below_set ?_ GE390.out) | exact HB.out)) hb)
                          clear BK389
                          clear BK390
                          clear HB
                          have BK389 := n0_
                          have BK390 := n1_
                          have HB := n2_
                          clear n0_ n1_ n2_
                          (try clear hb)
                          (try clear hb2)
                          (try clear hk)
                          (try clear hi)
                          refine hK.out _ _ ⟨(blk_cell BK390.out 0).trans rfl, (blk_cell BK390.out 1).trans rfl, (blk_cell BK390.out 2).trans rfl, (blk_cell BK390.out 3).trans rfl, (blk_cell BK390.out 4).trans rfl, (blk_cell BK390.out 5).trans rfl⟩ (fun hHeld => ?_)
                          clear hK K
                          refine norm_ (a' := ?_) ?_ ?_
                          rotate_left
                          · show Act.put _ (some 49) _ = _
                            simp only [Act.put, List.setIfInBounds_toArray, List.set_cons_zero, List.set_cons_succ, i64_w, i32_w]
                            rfl
                          refine pure_ (i := 7) (N := some 50) (v := ?_) (a' := ?_) #[true, true, true, true, true, true, true, true, false] rfl rfl (any_of HT_.out (by kernel_rfl)) (fun _ _ _ h => h) (Or.inl ⟨by rfl, ?_⟩) ?_ ?_
                          rotate_left
                          · intro w'
                            go_simp
                            with_reducible rfl
                          rotate_left
                          · simp only [Act.put, List.setIfInBounds_toArray, List.set_cons_zero, List.set_cons_succ, i64_w, i32_w]
                            rfl
                          refine pure_ (i := 8) (N := some 4) (v := ?_) (a' := ?_) #[true, true, true, true, true, true, true, true, true] rfl rfl (any_of HT_.out (by kernel_rfl)) (fun _ _ _ h => h) (Or.inl ⟨by rfl, ?_⟩) ?_ ?_
                          rotate_left
                          · intro w'
                            go_simp
                            with_reducible rfl
                          rotate_left
                          · simp only [Act.put, List.setIfInBounds_toArray, List.set_cons_zero, List.set_cons_succ, i64_w, i32_w]
                            rfl
                          refine done_ (done_of HT_.out (by kernel_rfl)) ?_
                          try go_wp2
                          go_ret
                          exact ⟨by first | rfl | (simp [errW_none, errW_some] <;> rfl) | (simp [*, errW_none, errW_some] <;> rfl), by repeat (first | (with_reducible first | exact HB.out | apply below_alloc | apply pw_below_drewN | apply below_drew1 | refine below_set ?_ GE389.out | refine below_set ?_ GE390.out) | exact HB.out)⟩
                        · rw [if_neg c57] at H
                          exact absurd H (by simp)
                      · rw [if_neg c55] at H
                        exact absurd H (by simp)
                  · replace c47 := Bool.eq_false_iff.mpr c47
                    subst c47
                    have H1 : (some (⟨#[110, 111, 110, 101]⟩ : ByteArray)) = some r := by rw [if_neg (show ¬ (false = true) by decide)] at H; exact H
                    clear H
                    have H := H1
                    clear H1
                    obtain rfl := Option.some.inj H
                    have hnb64 := NB390_389.out
                    have hnc64 := NB389_390.out
                    have hcz65_0 : wc.cell? ⟨gb390, 0, none⟩ = some (.int .i64 a1_0) := (blk_cell BK390.out 0).trans rfl
                    have hcz65_1 : wc.cell? ⟨gb390, 1, none⟩ = some (.bool false) := (blk_cell BK390.out 1).trans rfl
                    have hcz65_2 : wc.cell? ⟨gb390, 2, none⟩ = some (.int .u64 a1_2) := (blk_cell BK390.out 2).trans rfl
                    have hcz65_3 : wc.cell? ⟨gb390, 3, none⟩ = some (.int .u64 a1_3) := (blk_cell BK390.out 3).trans rfl
                    have hcz65_4 : wc.cell? ⟨gb390, 4, none⟩ = some (.int .i64 a1_4) := (blk_cell BK390.out 4).trans rfl
                    have hcz65_5 : wc.cell? ⟨gb390, 5, none⟩ = some (.slice A1_5 l1_5.length c1_5) := (blk_cell BK390.out 5).trans rfl
                    have hfz65_0 := blk_frozen BK390.out 0
                    have hfz65_1 := blk_frozen BK390.out 1
                    have hfz65_2 := blk_frozen BK390.out 2
                    have hfz65_3 := blk_frozen BK390.out 3
                    have hfz65_4 := blk_frozen BK390.out 4
                    have hfz65_5 := blk_frozen BK390.out 5
                    go_wp2
                    go_ret
                    exact ⟨by first | rfl | (simp [errW_none, errW_some] <;> rfl) | (simp [*, errW_none, errW_some] <;> rfl), by repeat (first | (with_reducible first | exact HB.out | apply below_alloc | apply pw_below_drewN | apply below_drew1 | refine below_set ?_ GE389.out | refine below_set ?_ GE390.out) | exact HB.out)⟩
                · replace c46 := Bool.eq_false_iff.mpr c46
                  subst c46
                  have H1 : (some (⟨#[]⟩ : ByteArray)) = some r := by rw [if_neg (show ¬ (false = true) by decide)] at H; exact H
                  clear H
                  have H := H1
                  clear H1
                  obtain rfl := Option.some.inj H
                  go_wp2
                  go_ret
                  exact ⟨by first | rfl | (simp [errW_none, errW_some] <;> rfl) | (simp [*, errW_none, errW_some] <;> rfl), by repeat (first | (with_reducible first | exact HB.out | apply below_alloc | apply pw_below_drewN | apply below_drew1 | refine below_set ?_ GE389.out | refine below_set ?_ GE390.out) | exact HB.out)⟩
  · rw [if_neg c3] at H
    have c3b0 : (a1_0 == 0) = false := beq_eq_false_iff_ne.mpr c3
    have c3b1 : (a1_0 != 0) = true := bne_iff_ne.mpr c3
    replace H := Option.bind_eq_some_iff.mp H
    obtain ⟨t391, A660, H⟩ := H
    replace H : (if 6 + t391.size ≤ 9223372036854775807 then (some ((⟨#[101, 114, 114, 111, 114, 32]⟩ : ByteArray) ++ t391)) else (none)) = some r := H
    have A66 := Aside0.mk A660
    clear A660
    by_cases c67 : 6 + t391.size ≤ 9223372036854775807
    · rw [if_pos c67] at H
      have c67b0 := eq_true c67
      have c67b1 : decide (6 + t391.size ≤ 9223372036854775807) = true := decide_eq_true c67
      try have c67b2 : (9223372036854775807 < 6 + t391.size) = False := eq_false (Nat.not_lt.2 c67)
      obtain rfl := Option.some.inj H
      go_enter Tryd.func21, Tryd.ntmps21
      go_wp2_with (first | ((with_reducible refine gate_dst (N := 2) rfl ?_); refine box_event ?hg (N := 2) ?hd (cs := #[.int .i64 a0_0, .int .u64 a0_1, .int .u64 a0_2]) (t := 38) ?hr ?_; (case hd => rfl); (case hg => rfl); (case hr => first | (go_simp; done) | (go_simp; rfl)); intro gb389 hg w68 hbox hb; have n0_ := Aside0.mk (below_step (by repeat (first | (with_reducible first | exact HB.out | apply below_alloc | apply pw_below_drewN | apply below_drew1) | exact HB.out)) hb); have n1_ := Aside0.mk (hbox); have n2_ := Aside0.mk ((by rw [hg]; exact (below_size (by repeat (first | (with_reducible first | exact HB.out | apply below_alloc | apply pw_below_drewN | apply below_drew1) | exact HB.out))) : w.heap.size ≤ gb389)); have n3_ := Aside0.mk ((by rw [hg]; exact (below_size (by repeat (first | (with_reducible first | exact HB.out | apply below_alloc | apply pw_below_drewN | apply below_drew1) | exact HB.out))) : w.heap.size ≤ gb389)); clear HB; have HB := n0_; have BK389 := n1_; have GW389 := n2_; have GE389 := n3_; clear n0_ n1_ n2_ n3_; clear hb hbox hg) | ((with_reducible refine gate_dst (N := 3) rfl ?_); refine box_event ?hg (N := 3) ?hd (cs := #[.int .i64 a1_0, .bool a1_1, .int .u64 a1_2, .int .u64 a1_3, .int .i64 a1_4, .slice A1_5 l1_5.length c1_5]) (t := 44) ?hr ?_; (case hd => rfl); (case hg => rfl); (case hr => first | (go_simp; done) | (go_simp; rfl)); intro gb390 hg w69 hbox hb; have n0_ := Aside0.mk (blk_below (g := gb389) (o := .cells #[.int .i64 a0_0, .int .u64 a0_1, .int .u64 a0_2] 38 (0, 0)) (by (with_reducible repeat (first | refine blk_drewN ?_ _ | refine blk_drew ?_ | refine blk_alloc ?_ _)); exact BK389.out) hb); have n1_ := Aside0.mk (below_step (by repeat (first | (with_reducible first | exact HB.out | apply below_alloc | apply pw_below_drewN | apply below_drew1 | refine below_set ?_ GE389.out) | exact HB.out)) hb); have n2_ := Aside0.mk (hbox); have n3_ := Aside0.mk ((by rw [hg]; exact (below_size (by repeat (first | (with_reducible first | exact HB.out | apply below_alloc | apply pw_below_drewN | apply below_drew1 | refine below_set ?_ GE389.out) | exact HB.out))) : w.heap.size ≤ gb390)); have n4_ := Aside0.mk ((by rw [hg]; exact (below_size (by repeat (first | (with_reducible first | exact HB.out | apply below_alloc | apply pw_below_drewN | apply below_drew1 | refine below_set ?_ GE389.out) | exact HB.out))) : w.heap.size ≤ gb390)); have n5_ := Aside0.mk ((by rw [hg]; exact Nat.ne_of_lt (blk_lt (g := gb389) (o := .cells #[.int .i64 a0_0, .int .u64 a0_1, .int .u64 a0_2] 38 (0, 0)) (by (with_reducible repeat (first | refine blk_drewN ?_ _ | refine blk_drew ?_ | refine blk_alloc ?_ _)); exact BK389.out)) : gb389 ≠ gb390)); have n6_ := Aside0.mk ((by rw [hg]; exact Nat.ne_of_gt (blk_lt (g := gb389) (o := .cells #[.int .i64 a0_0, .int .u64 a0_1, .int .u64 a0_2] 38 (0, 0)) (by (with_reducible repeat (first | refine blk_drewN ?_ _ | refine blk_drew ?_ | refine blk_alloc ?_ _)); exact BK389.out)) : gb390 ≠ gb389)); clear BK389; clear HB; have BK389 := n0_; have HB := n1_; have BK390 := n2_; have GW390 := n3_; have GE390 := n4_; have NB389_390 := n5_; have NB390_389 := n6_; clear n0_ n1_ n2_ n3_ n4_ n5_ n6_; clear hb hbox hg; have hnb70 := NB390_389.out; have hnc70 := NB389_390.out; have hcz71_0 : w69.cell? ⟨gb390, 0, none⟩ = some (.int .i64 a1_0) := (blk_cell BK390.out 0).trans rfl; have hcz71_1 : w69.cell? ⟨gb390, 1, none⟩ = some (.bool a1_1) := (blk_cell BK390.out 1).trans rfl; have hcz71_2 : w69.cell? ⟨gb390, 2, none⟩ = some (.int .u64 a1_2) := (blk_cell BK390.out 2).trans rfl; have hcz71_3 : w69.cell? ⟨gb390, 3, none⟩ = some (.int .u64 a1_3) := (blk_cell BK390.out 3).trans rfl; have hcz71_4 : w69.cell? ⟨gb390, 4, none⟩ = some (.int .i64 a1_4) := (blk_cell BK390.out 4).trans rfl; have hcz71_5 : w69.cell? ⟨gb390, 5, none⟩ = some (.slice A1_5 l1_5.length c1_5) := (blk_cell BK390.out 5).trans rfl; have hfz71_0 := blk_frozen BK390.out 0; have hfz71_1 := blk_frozen BK390.out 1; have hfz71_2 := blk_frozen BK390.out 2; have hfz71_3 := blk_frozen BK390.out 3; have hfz71_4 := blk_frozen BK390.out 4; have hfz71_5 := blk_frozen BK390.out 5) | ((with_reducible refine gate_callee (f := 34) rfl ?_); refine goesL_ (some 10) rfl rfl Tryd.func34 (by kernel_rfl) rfl #[.int .i64 a1_0] rfl (by (try simp only [List.map_toArray, List.map_cons, List.map_nil]); first | done | rfl | (simp only [List.length_drop, List.length_take]; rfl)) ?_; (with_reducible refine (inclineref21_signed.calls k a1_0 t391 _ A66.out).mono ?_); rintro e w72 ⟨rfl, hb⟩; refine ⟨_, rfl, ?_⟩; have n0_ := Aside0.mk (blk_below (g := gb389) (o := .cells #[.int .i64 a0_0, .int .u64 a0_1, .int .u64 a0_2] 38 (0, 0)) (by (with_reducible repeat (first | refine blk_drewN ?_ _ | refine blk_drew ?_ | refine blk_alloc ?_ _)); exact BK389.out) hb); have n1_ := Aside0.mk (blk_below (g := gb390) (o := .cells #[.int .i64 a1_0, .bool a1_1, .int .u64 a1_2, .int .u64 a1_3, .int .i64 a1_4, .slice A1_5 l1_5.length c1_5] 44 (0, 0)) (by (with_reducible repeat (first | refine blk_drewN ?_ _ | refine blk_drew ?_ | refine blk_alloc ?_ _)); exact BK390.out) hb); have n2_ := Aside0.mk (below_step (by repeat (first | (with_reducible first | exact HB.out | apply below_alloc | apply pw_below_drewN | apply below_drew1 | refine below_set ?_ GE389.out | refine below_set ?_ GE390.out) | exact HB.out)) hb); clear BK389; clear BK390; clear HB; have BK389 := n0_; have BK390 := n1_; have HB := n2_; clear n0_ n1_ n2_; (try clear hb); (try clear hb2); (try clear hk); (try clear hi)))
      go_ret
      exact ⟨by first | rfl | (simp [errW_none, errW_some] <;> rfl) | (simp [*, errW_none, errW_some] <;> rfl), by repeat (first | (with_reducible first | exact HB.out | apply below_alloc | apply pw_below_drewN | apply below_drew1 | refine below_set ?_ GE389.out | refine below_set ?_ GE390.out) | exact HB.out)⟩
    · rw [if_neg c67] at H
      exact absurd H (by simp)

end Go.Proofs.YtlfoaaeelcmhiaaDoor.G
end

section
/- Plain laws, on: script.Tell and the reference's. -/
namespace Go.Proofs.YtlfoaaeelcmhiaaDoor.Pure
open Go.RowKit Go.Proofs.YtlfoaaeelcmhiaaDoor.G
open Go.Proofs.YtlfoaaeelcmhiaaDoorW.PrintWords hiding nums
set_option linter.unusedVariables false
set_option linter.unusedSimpArgs false
def flat (l : List S50) : List Int := l.flatMap fun x => [x.f0, x.f1]
theorem rd50_get (l : List S50) (i : Nat) (h : i < l.length) : rd_T50 l (i : Int) = l[i] := by
  unfold rd_T50
  rw [Int.toNat_natCast, List.getD_eq_getElem?_getD, List.getElem?_eq_getElem h]
  rfl
theorem flat_len (l : List S50) : (flat l).length = 2 * l.length := by
  induction l with
  | nil => rfl
  | cons x l ih =>
    have e : flat (x :: l) = [x.f0, x.f1] ++ flat l := rfl
    rw [e, List.length_append, ih]
    simp only [List.length_cons, List.length_nil]
    omega
theorem flat_text (l : List S50) : numsText (flat l) = l.flatMap pairBytes := by
  induction l with
  | nil => rfl
  | cons x l ih =>
    have e : flat (x :: l) = [x.f0, x.f1] ++ flat l := rfl
    have e2 : numsText ([x.f0, x.f1] ++ flat l) = numsText [x.f0, x.f1] ++ numsText (flat l) := by simp [numsText]
    rw [e, e2, ih]
    simp [numsText, pairBytes]
theorem tell_l0 (l : List S50) (hg : pairsGood l) (hll : l.length ≤ 400000000) : ∀ (d i k : Nat) (acc : List Int), l.length = i + d → (∀ n ∈ acc, u64ok n) → acc.length ≤ 2 * i + 1 → 0 < acc.length → d + 2 * l.length + 5 ≤ k →
    script_Tell.l0 k acc l (l.length : Int) (i : Int) = some (mk (lineText (acc ++ flat (l.drop i)))) := by
  intro d
  induction d with
  | zero =>
    intro i k acc h1 ha hl h0 hk2
    obtain ⟨k, rfl⟩ : ∃ m, k = m + 1 := ⟨k - 1, by omega⟩
    simp only [script_Tell.l0]
    rw [if_neg (by omega), line_is acc ha (by omega) k (by omega), List.drop_eq_nil_of_le (by omega)]
    simp [flat]
  | succ d ih =>
    intro i k acc h1 ha hl h0 hk2
    obtain ⟨k, rfl⟩ : ∃ m, k = m + 1 := ⟨k - 1, by omega⟩
    have hi : i < l.length := by omega
    have hx := hg.2 _ (List.getElem_mem hi)
    simp only [script_Tell.l0]
    rw [if_pos (by omega), if_pos (by omega), if_pos (by omega), rd50_get _ _ hi, Option.bind_some, if_pos (by simp only [List.length_cons, List.length_nil]; omega), w64 (by omega) (by omega), show (i : Int) + 1 = ((i + 1 : Nat) : Int) from rfl]
    rw [ih (i + 1) k (acc ++ [l[i].f0, l[i].f1]) (by omega) (fun n hn => ?_) (by simp only [List.length_append, List.length_cons, List.length_nil]; omega) (by simp only [List.length_append]; omega) (by omega)]
    · have e : flat (l.drop i) = [l[i].f0, l[i].f1] ++ flat (l.drop (i + 1)) := by rw [List.drop_eq_getElem_cons hi]; rfl
      rw [e, List.append_assoc]
    · rcases List.mem_append.1 hn with h | h
      · exact ha n h
      · simp only [List.mem_cons, List.not_mem_nil, or_false] at h
        rcases h with h | h <;> subst h
        · exact hx.1
        · exact hx.2
/-- The two references' texts are one: script.Tell is the reference's, at every operation and answer. -/
theorem signed_is (n : Int) (h0 : -9223372036854775808 ≤ n) (h1 : n ≤ 9223372036854775807) (k : Nat) (hk : 20 ≤ k) : inclineref21_signed.f k n = some ⟨(Lib.itoa n).toArray⟩ := by
  unfold inclineref21_signed.f
  by_cases h : n < 0
  · rw [if_pos h]
    have e1 : IntKind.u64.wrap (-(IntKind.u64.wrap n)) = ((n.natAbs : Nat) : Int) := by
      rw [IntKind.wrap_u64, IntKind.wrap_u64]
      omega
    rw [e1, digits_f _ (by omega) (by omega) k hk, Option.bind_some, Int.toNat_natCast]
    have hd := dec_len (n := (n.natAbs : Int)) ⟨by omega, by omega⟩
    rw [Int.toNat_natCast] at hd
    have hs : (dstr n.natAbs).size = (Lib.decDigits n.natAbs).length := by rw [← bl_length]; simp [bl, dstr]
    rw [if_pos (by rw [hs]; omega)]
    congr 1
    apply bl_inj
    rw [bl_append]
    simp [bl, dstr, Lib.itoa, h]
  · rw [if_neg h, u64w (by omega) (by omega), digits_f _ (by omega) (by omega) k hk, Option.bind_some]
    congr 1
    simp [dstr, Lib.itoa, h]
end Go.Proofs.YtlfoaaeelcmhiaaDoor.Pure
end

section
/- Plain laws, on: script.Tell is the reference's Tell. -/
namespace Go.Proofs.YtlfoaaeelcmhiaaDoor.Pure
open Go.RowKit Go.Proofs.YtlfoaaeelcmhiaaDoor.G
open Go.Proofs.YtlfoaaeelcmhiaaDoorW.PrintWords hiding nums
set_option linter.unusedVariables false
set_option linter.unusedSimpArgs false
def i64ok (n : Int) : Prop := -9223372036854775808 ≤ n ∧ n ≤ 9223372036854775807
def tellT (kind key0 value0 : Int) (code : Int) (is : Bool) (key value num : Int) (l : List S50) : ByteArray :=
  if code = 0 then
    (if kind = 1 then ⟨#[111, 107]⟩
     else if kind = 2 then (if is = true then ⟨#[121, 101, 115]⟩ else ⟨#[110, 111]⟩)
     else if kind = 6 then ⟨(Lib.itoa num).toArray⟩
     else if kind = 7 then mk (pairsBytes l)
     else if kind = 3 ∨ kind = 4 ∨ kind = 5 then (if is = true then (if kind = 3 then mk (lineText [value]) else mk (lineText [key, value])) else ⟨#[110, 111, 110, 101]⟩)
     else ⟨#[]⟩)
  else (⟨#[101, 114, 114, 111, 114, 32]⟩ : ByteArray) ++ ⟨(Lib.itoa code).toArray⟩
theorem itoa_len (n : Int) (h : i64ok n) : (Lib.itoa n).length ≤ 21 := by
  have h0 := h.1
  have h1 := h.2
  unfold Lib.itoa
  split
  · have := dec_len (n := (n.natAbs : Int)) ⟨by omega, by omega⟩
    rw [Int.toNat_natCast] at this
    simp only [List.length_cons]
    omega
  · have := dec_len (n := n) ⟨by omega, by omega⟩
    omega
theorem tell_is (kind key0 value0 code : Int) (is : Bool) (key value num : Int) (l : List S50) (hc : i64ok code) (hn : i64ok num) (hk : u64ok key) (hv : u64ok value) (hg : pairsGood l) (hl : l.length ≤ 400000000) (k : Nat) (hkk : 3 * l.length + 30 ≤ k) :
    script_Tell.f k kind key0 value0 code is key value num l = some (tellT kind key0 value0 code is key value num l) := by
  obtain ⟨k, rfl⟩ : ∃ m, k = m + 2 := ⟨k - 2, by omega⟩
  have hI : ∀ n, i64ok n → strconv_Itoa.f n = some ⟨(Lib.itoa n).toArray⟩ := fun n h => by unfold strconv_Itoa.f; exact if_pos h
  unfold script_Tell.f tellT
  by_cases c0 : code = 0
  · rw [if_pos c0, if_pos c0]
    by_cases c1 : kind = 1
    · rw [if_pos c1, if_pos c1]
    · rw [if_neg c1, if_neg c1]
      by_cases c2 : kind = 2
      · rw [if_pos c2, if_pos c2]
        simp only [script_Tell.j0]
        cases is with
        | true => rfl
        | false => rw [if_neg (by simp), if_pos c2]; rfl
      · rw [if_neg c2, if_neg c2]
        simp only [script_Tell.j0]
        rw [if_neg (by simp), if_neg c2]
        by_cases c6 : kind = 6
        · rw [if_pos c6, if_pos c6, hI num hn]
          rfl
        · rw [if_neg c6, if_neg c6]
          by_cases c7 : kind = 7
          · rw [if_pos c7, if_pos c7, u64w (by omega) (by omega)]
            have h1 := tell_l0 l hg hl l.length 0 (k + 1) [(l.length : Int)] (by omega) (fun n hn => by simp at hn; subst hn; exact ⟨by omega, by omega⟩) (by simp) (by simp) (by omega)
            rw [show ((0 : Nat) : Int) = 0 from rfl, List.drop_zero] at h1
            rw [h1]
            congr 2
            show Lib.decDigits _ ++ numsText (flat l) = _
            rw [flat_text]
            simp [pairsBytes]
          · rw [if_neg c7, if_neg c7]
            have hj2 : ∀ b : Bool, (b = true ↔ ¬ (kind = 3 ∨ kind = 4 ∨ kind = 5)) → script_Tell.j2 (k + 1) b kind key0 value0 code is key value num l = some (if kind = 3 ∨ kind = 4 ∨ kind = 5 then (if is = true then (if kind = 3 then mk (lineText [value]) else mk (lineText [key, value])) else ⟨#[110, 111, 110, 101]⟩) else ⟨#[]⟩) := by
              intro b hb
              simp only [script_Tell.j2]
              by_cases h3 : kind = 3 ∨ kind = 4 ∨ kind = 5
              · rw [if_neg (fun h => hb.1 h h3), if_pos h3]
                cases is with
                | true =>
                  rw [if_pos rfl, if_pos rfl]
                  by_cases hk3 : kind = 3
                  · rw [if_pos hk3, if_pos hk3, line_is [value] (fun n hn => by simp at hn; subst hn; exact hv) (by simp) k (by simp; omega)]
                    rfl
                  · rw [if_neg hk3, if_neg hk3, line_is [key, value] (fun n hn => by simp at hn; rcases hn with hn | hn <;> subst hn; exact hk; exact hv) (by simp) k (by simp; omega)]
                    rfl
                | false => rfl
              · rw [if_pos (hb.2 h3), if_neg h3]
            by_cases h3 : kind < 3
            · rw [if_pos h3]
              exact hj2 true (by simp; omega)
            · rw [if_neg h3]
              exact hj2 _ (by rw [decide_eq_true_iff]; omega)
  · rw [if_neg c0, if_neg c0, hI code hc, Option.bind_some, if_pos]
    have := itoa_len code hc
    have hs : (⟨(Lib.itoa code).toArray⟩ : ByteArray).size = (Lib.itoa code).length := by rw [← bl_length]; simp [bl]
    rw [hs]
    omega
end Go.Proofs.YtlfoaaeelcmhiaaDoor.Pure
end

section
/- Plain laws, on: the reference's Tell. -/
namespace Go.Proofs.YtlfoaaeelcmhiaaDoor.Pure
open Go.RowKit Go.Proofs.YtlfoaaeelcmhiaaDoor.G
open Go.Proofs.YtlfoaaeelcmhiaaDoorW.PrintWords hiding nums
set_option linter.unusedVariables false
set_option linter.unusedSimpArgs false
theorem dstr_size {n : Int} (h : u64ok n) : (dstr n.toNat).size ≤ 20 := by
  have := dec_len h
  rw [← bl_length]
  simpa [bl, dstr] using this
theorem refTell_is (kind key0 value0 code : Int) (is : Bool) (key value num : Int) (l : List S50) (hc : i64ok code) (hn : i64ok num) (hk : u64ok key) (hv : u64ok value) (hg : pairsGood l) (k : Nat) (hkk : 30 ≤ k) :
    inclineref21_Tell.f k kind key0 value0 code is key value num l = some (tellT kind key0 value0 code is key value num l) := by
  obtain ⟨k, rfl⟩ : ∃ m, k = m + 1 := ⟨k - 1, by omega⟩
  unfold inclineref21_Tell.f tellT
  by_cases c0 : code = 0
  · rw [if_pos c0, if_pos c0]
    by_cases c1 : kind = 1
    · rw [if_pos c1, if_pos c1]
    · rw [if_neg c1, if_neg c1]
      by_cases c2 : kind = 2
      · rw [if_pos c2, if_pos c2]
        cases is <;> rfl
      · rw [if_neg c2, if_neg c2]
        by_cases c6 : kind = 6
        · rw [if_pos c6, if_pos c6, signed_is num hn.1 hn.2 _ (by omega)]
          rfl
        · rw [if_neg c6, if_neg c6]
          by_cases c7 : kind = 7
          · rw [if_pos c7, if_pos c7]
            unfold inclineref21_pairs.f
            rw [if_pos hg]
            rfl
          · rw [if_neg c7, if_neg c7]
            have hj : ∀ b : Bool, (b = true ↔ (kind = 3 ∨ kind = 4 ∨ kind = 5)) → inclineref21_Tell.j0 (k + 1) b kind key0 value0 code is key value num l = some (if kind = 3 ∨ kind = 4 ∨ kind = 5 then (if is = true then (if kind = 3 then mk (lineText [value]) else mk (lineText [key, value])) else ⟨#[110, 111, 110, 101]⟩) else ⟨#[]⟩) := by
              intro b hb
              simp only [inclineref21_Tell.j0]
              by_cases h3 : kind = 3 ∨ kind = 4 ∨ kind = 5
              · rw [if_pos (hb.2 h3), if_pos h3]
                cases is with
                | true =>
                  rw [if_pos rfl, if_pos rfl]
                  by_cases hk3 : kind = 3
                  · rw [if_pos hk3, if_pos hk3, digits_f value hv.1 hv.2 k (by omega)]
                    simp [lineText, numsText, dstr, mk]
                  · have hs := dstr_size hk
                    have hs2 := dstr_size hv
                    have h1 : (⟨#[32]⟩ : ByteArray).size = 1 := rfl
                    rw [if_neg hk3, if_neg hk3, digits_f key hk.1 hk.2 k (by omega), Option.bind_some, if_pos (by omega), digits_f value hv.1 hv.2 k (by omega), Option.bind_some, if_pos (by rw [ByteArray.size_append]; omega)]
                    congr 1
                    apply bl_inj
                    rw [bl_append, bl_append, bl_mk]
                    simp [bl, dstr, lineText, numsText]
                | false => rfl
              · rw [if_neg (fun h => h3 (hb.1 h)), if_neg h3]
            by_cases h3 : kind = 3
            · rw [if_pos h3]; exact hj _ (by rw [beq_iff_eq]; omega)
            · rw [if_neg h3]
              by_cases h4 : kind = 4
              · rw [if_pos h4]; exact hj _ (by rw [beq_iff_eq]; omega)
              · rw [if_neg h4]; exact hj _ (by rw [beq_iff_eq]; omega)
  · rw [if_neg c0, if_neg c0, signed_is code hc.1 hc.2 _ (by omega), Option.bind_some, if_pos]
    have := itoa_len code hc
    have hs : (⟨(Lib.itoa code).toArray⟩ : ByteArray).size = (Lib.itoa code).length := by rw [← bl_length]; simp [bl]
    rw [hs]
    omega
end Go.Proofs.YtlfoaaeelcmhiaaDoor.Pure
end

section
-- Written by a program of this session (wip/gprint.py: the kit's print, with contracts proved by hand)
namespace Go.Proofs.YtlfoaaeelcmhiaaDoor.G
open Go.RowKit Go.Proofs.YtlfoaaeelcmhiaaDoorW.PrintWords Go.Proofs.YtlfoaaeelcmhiaaDoorW.PrintLast Go.Proofs.YtlfoaaeelcmhiaaDoorW.PrintMore
attribute [local go_sem] max2_int min2_int max_two min_two max_three min_three max_four min_four   -- for this text's walks alone
set_option linter.unusedVariables false
set_option linter.unusedSimpArgs false

theorem eqA38 (d : Nat) (w : World) (x0 y0 : Int) (x1 y1 : Int) (x2 y2 : Int) :
    (Op.equalIn (d + 2) 38 (.agg #[.int .i64 x0, .int .u64 x1, .int .u64 x2]) (.agg #[.int .i64 y0, .int .u64 y1, .int .u64 y2])).run Tryd.prog w = .ok (x0 == y0 && (x1 == y1 && (x2 == y2))) w := by
  refine eqA_of Tryd.underlying38 (by kernel_rfl) ?_
  refine eqf_cons (by rfl) (by go_simp; rfl) (by go_simp; rfl) (by go_simp) ?_
  refine eqf_cons (by rfl) (by go_simp; rfl) (by go_simp; rfl) (by go_simp) ?_
  exact eqf_last (by rfl) (by go_simp; rfl) (by go_simp; rfl) (by go_simp)
end Go.Proofs.YtlfoaaeelcmhiaaDoor.G
end

section
-- Written by a program of this session (wip/gprint.py: the kit's print, with contracts proved by hand)
namespace Go.Proofs.YtlfoaaeelcmhiaaDoor.G
open Go.RowKit Go.Proofs.YtlfoaaeelcmhiaaDoorW.PrintWords Go.Proofs.YtlfoaaeelcmhiaaDoorW.PrintLast Go.Proofs.YtlfoaaeelcmhiaaDoorW.PrintMore
attribute [local go_sem] max2_int min2_int max_two min_two max_three min_three max_four min_four   -- for this text's walks alone
set_option linter.unusedVariables false
set_option linter.unusedSimpArgs false

/-! ### script_kind: function 31 -/
def script_kind.f (a0 : ByteArray) : Option (Int) := if a0.toList = ([112, 117, 116] : List UInt8) then (some 1) else (if a0.toList = ([100, 101, 108] : List UInt8) then (some 2) else (if a0.toList = ([103, 101, 116] : List UInt8) then (some 3) else (if a0.toList = ([102, 108, 111, 111, 114] : List UInt8) then (some 4) else (if a0.toList = ([99, 101, 105, 108] : List UInt8) then (some 5) else (if a0.toList = ([114, 97, 110, 107] : List UInt8) then (some 6) else (if a0.toList = ([114, 97, 110, 103, 101] : List UInt8) then (some 7) else (some 0)))))))
set_option maxHeartbeats 8000000 in
set_option maxRecDepth 100000 in
theorem script_kind.calls (a0 : ByteArray) (r : Int) (w : World) (h : script_kind.f a0 = some r) :
    Calls Tryd.prog 31 #[.string a0] w fun e w' => e = .returned (.int .i64 r) ∧ Drawn0 w w' := by
  have H : (if a0.toList = ([112, 117, 116] : List UInt8) then (some 1) else (if a0.toList = ([100, 101, 108] : List UInt8) then (some 2) else (if a0.toList = ([103, 101, 116] : List UInt8) then (some 3) else (if a0.toList = ([102, 108, 111, 111, 114] : List UInt8) then (some 4) else (if a0.toList = ([99, 101, 105, 108] : List UInt8) then (some 5) else (if a0.toList = ([114, 97, 110, 107] : List UInt8) then (some 6) else (if a0.toList = ([114, 97, 110, 103, 101] : List UInt8) then (some 7) else (some 0)))))))) = some r := h
  clear h
  by_cases c2 : a0.toList = ([112, 117, 116] : List UInt8)
  · rw [if_pos c2] at H
    have c2b0 : (a0.toList == ([112, 117, 116] : List UInt8)) = true := beq_iff_eq.mpr c2
    have c2b1 : (a0.toList != ([112, 117, 116] : List UInt8)) = false := bne_eq_false_iff_eq.mpr c2
    clear c2
    obtain rfl := Option.some.inj H
    go_enter Tryd.func31, Tryd.ntmps31
    go_wp2
    go_ret
    exact ⟨by first | rfl | (simp; done) | (simp [*]; done), by repeat (first | exact Drawn0.refl _ | apply Drawn0.step)⟩
  · rw [if_neg c2] at H
    have c2b0 : (a0.toList == ([112, 117, 116] : List UInt8)) = false := beq_eq_false_iff_ne.mpr c2
    have c2b1 : (a0.toList != ([112, 117, 116] : List UInt8)) = true := bne_iff_ne.mpr c2
    by_cases c3 : a0.toList = ([100, 101, 108] : List UInt8)
    · rw [if_pos c3] at H
      have c3b0 : (a0.toList == ([100, 101, 108] : List UInt8)) = true := beq_iff_eq.mpr c3
      have c3b1 : (a0.toList != ([100, 101, 108] : List UInt8)) = false := bne_eq_false_iff_eq.mpr c3
      clear c3
      obtain rfl := Option.some.inj H
      go_enter Tryd.func31, Tryd.ntmps31
      go_wp2
      go_ret
      exact ⟨by first | rfl | (simp; done) | (simp [*]; done), by repeat (first | exact Drawn0.refl _ | apply Drawn0.step)⟩
    · rw [if_neg c3] at H
      have c3b0 : (a0.toList == ([100, 101, 108] : List UInt8)) = false := beq_eq_false_iff_ne.mpr c3
      have c3b1 : (a0.toList != ([100, 101, 108] : List UInt8)) = true := bne_iff_ne.mpr c3
      by_cases c4 : a0.toList = ([103, 101, 116] : List UInt8)
      · rw [if_pos c4] at H
        have c4b0 : (a0.toList == ([103, 101, 116] : List UInt8)) = true := beq_iff_eq.mpr c4
        have c4b1 : (a0.toList != ([103, 101, 116] : List UInt8)) = false := bne_eq_false_iff_eq.mpr c4
        clear c4
        obtain rfl := Option.some.inj H
        go_enter Tryd.func31, Tryd.ntmps31
        go_wp2
        go_ret
        exact ⟨by first | rfl | (simp; done) | (simp [*]; done), by repeat (first | exact Drawn0.refl _ | apply Drawn0.step)⟩
      · rw [if_neg c4] at H
        have c4b0 : (a0.toList == ([103, 101, 116] : List UInt8)) = false := beq_eq_false_iff_ne.mpr c4
        have c4b1 : (a0.toList != ([103, 101, 116] : List UInt8)) = true := bne_iff_ne.mpr c4
        by_cases c5 : a0.toList = ([102, 108, 111, 111, 114] : List UInt8)
        · rw [if_pos c5] at H
          have c5b0 : (a0.toList == ([102, 108, 111, 111, 114] : List UInt8)) = true := beq_iff_eq.mpr c5
          have c5b1 : (a0.toList != ([102, 108, 111, 111, 114] : List UInt8)) = false := bne_eq_false_iff_eq.mpr c5
          clear c5
          obtain rfl := Option.some.inj H
          go_enter Tryd.func31, Tryd.ntmps31
          go_wp2
          go_ret
          exact ⟨by first | rfl | (simp; done) | (simp [*]; done), by repeat (first | exact Drawn0.refl _ | apply Drawn0.step)⟩
        · rw [if_neg c5] at H
          have c5b0 : (a0.toList == ([102, 108, 111, 111, 114] : List UInt8)) = false := beq_eq_false_iff_ne.mpr c5
          have c5b1 : (a0.toList != ([102, 108, 111, 111, 114] : List UInt8)) = true := bne_iff_ne.mpr c5
          by_cases c6 : a0.toList = ([99, 101, 105, 108] : List UInt8)
          · rw [if_pos c6] at H
            have c6b0 : (a0.toList == ([99, 101, 105, 108] : List UInt8)) = true := beq_iff_eq.mpr c6
            have c6b1 : (a0.toList != ([99, 101, 105, 108] : List UInt8)) = false := bne_eq_false_iff_eq.mpr c6
            clear c6
            obtain rfl := Option.some.inj H
            go_enter Tryd.func31, Tryd.ntmps31
            go_wp2
            go_ret
            exact ⟨by first | rfl | (simp; done) | (simp [*]; done), by repeat (first | exact Drawn0.refl _ | apply Drawn0.step)⟩
          · rw [if_neg c6] at H
            have c6b0 : (a0.toList == ([99, 101, 105, 108] : List UInt8)) = false := beq_eq_false_iff_ne.mpr c6
            have c6b1 : (a0.toList != ([99, 101, 105, 108] : List UInt8)) = true := bne_iff_ne.mpr c6
            by_cases c7 : a0.toList = ([114, 97, 110, 107] : List UInt8)
            · rw [if_pos c7] at H
              have c7b0 : (a0.toList == ([114, 97, 110, 107] : List UInt8)) = true := beq_iff_eq.mpr c7
              have c7b1 : (a0.toList != ([114, 97, 110, 107] : List UInt8)) = false := bne_eq_false_iff_eq.mpr c7
              clear c7
              obtain rfl := Option.some.inj H
              go_enter Tryd.func31, Tryd.ntmps31
              go_wp2
              go_ret
              exact ⟨by first | rfl | (simp; done) | (simp [*]; done), by repeat (first | exact Drawn0.refl _ | apply Drawn0.step)⟩
            · rw [if_neg c7] at H
              have c7b0 : (a0.toList == ([114, 97, 110, 107] : List UInt8)) = false := beq_eq_false_iff_ne.mpr c7
              have c7b1 : (a0.toList != ([114, 97, 110, 107] : List UInt8)) = true := bne_iff_ne.mpr c7
              by_cases c8 : a0.toList = ([114, 97, 110, 103, 101] : List UInt8)
              · rw [if_pos c8] at H
                have c8b0 : (a0.toList == ([114, 97, 110, 103, 101] : List UInt8)) = true := beq_iff_eq.mpr c8
                have c8b1 : (a0.toList != ([114, 97, 110, 103, 101] : List UInt8)) = false := bne_eq_false_iff_eq.mpr c8
                clear c8
                obtain rfl := Option.some.inj H
                go_enter Tryd.func31, Tryd.ntmps31
                go_wp2
                go_ret
                exact ⟨by first | rfl | (simp; done) | (simp [*]; done), by repeat (first | exact Drawn0.refl _ | apply Drawn0.step)⟩
              · rw [if_neg c8] at H
                have c8b0 : (a0.toList == ([114, 97, 110, 103, 101] : List UInt8)) = false := beq_eq_false_iff_ne.mpr c8
                have c8b1 : (a0.toList != ([114, 97, 110, 103, 101] : List UInt8)) = true := bne_iff_ne.mpr c8
                obtain rfl := Option.some.inj H
                go_enter Tryd.func31, Tryd.ntmps31
                go_wp2
                go_ret
                exact ⟨by first | rfl | (simp; done) | (simp [*]; done), by repeat (first | exact Drawn0.refl _ | apply Drawn0.step)⟩

end Go.Proofs.YtlfoaaeelcmhiaaDoor.G
end

section
-- Written by a program of this session (wip/gprint.py: the kit's print, with contracts proved by hand)
namespace Go.Proofs.YtlfoaaeelcmhiaaDoor.G
open Go.RowKit Go.Proofs.YtlfoaaeelcmhiaaDoorW.PrintWords Go.Proofs.YtlfoaaeelcmhiaaDoorW.PrintLast Go.Proofs.YtlfoaaeelcmhiaaDoorW.PrintMore
attribute [local go_sem] max2_int min2_int max_two min_two max_three min_three max_four min_four   -- for this text's walks alone
set_option linter.unusedVariables false
set_option linter.unusedSimpArgs false

/-! ### script_Op: function 18 -/
def script_Op.j0 : Nat → Bool → ByteArray → List Int → Int → Int → Int → Option (Int × Int × Int × Bool)
  | 0, _, _, _, _, _, _ => none
  | k + 1, x26, x141000, x141001, x144000, x144001, x144002 => if x26 = true then (some (0, 0, 0, false)) else (if 0 < (x141001.length : Int) then (if (x141001.length : Int) > 1 then (if 1 < (x141001.length : Int) then (some (x144000, rd x141001 0, rd x141001 1, true)) else (none)) else (some (x144000, rd x141001 0, x144002, true))) else (none))
def script_Op.f (k : Nat) (a0_0 : ByteArray) (l0_1 : List Int) : Option (Int × Int × Int × Bool) := (script_kind.f a0_0).bind fun t142 => ((script_takes.f k a0_0).bind fun bt144 => (if t142 = 0 then (script_Op.j0 k true a0_0 l0_1 t142 0 0) else (script_Op.j0 k ((l0_1.length : Int) != bt144.1) a0_0 l0_1 t142 0 0)))
theorem script_Op.mono_l : ∀ k, (∀ y0 y1 y2 y3 y4 y5, LeO (script_Op.j0 k y0 y1 y2 y3 y4 y5) (script_Op.j0 (k + 1) y0 y1 y2 y3 y4 y5))
  | 0 => fun _ _ _ _ _ _ r h => by simp [script_Op.j0] at h
  | k + 1 => by
    have ih0 := script_Op.mono_l k
    · intro y0 y1 y2 y3 y4 y5
      unfold script_Op.j0
      repeat' first
      | (with_reducible exact ih0 _ _ _ _ _ _)
      | (with_reducible exact script_takes.mono _ _)
      | (with_reducible exact LeO.refl _)
      | (with_reducible exact LeO.none _)
      | (with_reducible refine LeO.ite ?_ ?_)
      | (with_reducible refine LeO.bind ?_ (fun _ => ?_))
      | exact ih0 _ _ _ _ _ _
      | exact script_takes.mono _ _
      | exact LeO.none _
      | refine LeO.ite ?_ ?_
      | refine LeO.bind ?_ (fun _ => ?_)
theorem script_Op.mono : ∀ a0 a1 k, LeO (script_Op.f k a0 a1) (script_Op.f (k + 1) a0 a1) := by
  intro a0 a1 k
  have ih0 := script_Op.mono_l k
  unfold script_Op.f
  repeat' first
      | (with_reducible exact ih0 _ _ _ _ _ _)
      | (with_reducible exact script_takes.mono _ _)
      | (with_reducible exact LeO.refl _)
      | (with_reducible exact LeO.none _)
      | (with_reducible refine LeO.ite ?_ ?_)
      | (with_reducible refine LeO.bind ?_ (fun _ => ?_))
      | exact ih0 _ _ _ _ _ _
      | exact script_takes.mono _ _
      | exact LeO.none _
      | refine LeO.ite ?_ ?_
      | refine LeO.bind ?_ (fun _ => ?_)
set_option maxHeartbeats 8000000 in
set_option maxRecDepth 100000 in
theorem script_Op.calls (k : Nat) (a0_0 : ByteArray) (A0_1 : Option Addr) (c0_1 : Nat) (l0_1 : List Int) (r1 : Int) (r2 : Int) (r3 : Int) (r4 : Bool) (w : World) (hr0_1 : Kd.C (Kd.int .u64) w A0_1 l0_1.length l0_1) (hc0_1 : l0_1.length ≤ c0_1) (h : script_Op.f k a0_0 l0_1 = some (r1, r2, r3, r4)) :
    Calls Tryd.prog 18 #[.agg #[.string a0_0, .slice A0_1 l0_1.length c0_1]] w fun e w' => e = .returned (.tuple #[.agg #[.int .i64 r1, .int .u64 r2, .int .u64 r3], .bool r4]) ∧ Below w.heap.size w w' := by
  have hu30 := Tryd.underlying30
  have hu38 := Tryd.underlying38
  have HR0_1 := Aside0.mk hr0_1
  have HC0_1 := Aside0.mk hc0_1
  clear hr0_1 hc0_1
  have HB := Aside0.mk (Below.refl w.heap.size w)
  have H : ((script_kind.f a0_0).bind fun t142 => ((script_takes.f k a0_0).bind fun bt144 => (if t142 = 0 then (script_Op.j0 k true a0_0 l0_1 t142 0 0) else (script_Op.j0 k ((l0_1.length : Int) != bt144.1) a0_0 l0_1 t142 0 0)))) = some (r1, r2, r3, r4) := h
  clear h
  replace H := Option.bind_eq_some_iff.mp H
  obtain ⟨t142, A20, H⟩ := H
  replace H : ((script_takes.f k a0_0).bind fun bt144 => (if t142 = 0 then (script_Op.j0 k true a0_0 l0_1 t142 0 0) else (script_Op.j0 k ((l0_1.length : Int) != bt144.1) a0_0 l0_1 t142 0 0))) = some (r1, r2, r3, r4) := H
  have A2 := Aside0.mk A20
  clear A20
  replace H := Option.bind_eq_some_iff.mp H
  obtain ⟨⟨t144, t145⟩, A30, H⟩ := H
  replace H : (if t142 = 0 then (script_Op.j0 k true a0_0 l0_1 t142 0 0) else (script_Op.j0 k ((l0_1.length : Int) != t144) a0_0 l0_1 t142 0 0)) = some (r1, r2, r3, r4) := H
  have A3 := Aside0.mk A30
  clear A30
  have HC4 := Aside0.mk H
  clear H
  go_enter Tryd.func18, Tryd.ntmps18
  go_upto_region 3 with (first | ((with_reducible refine gate_dst (N := 1) rfl ?_); (try (refine gate_guard (by rfl) ?_; dsimp only)); refine box_event ?hg (N := 1) ?hd (cs := #[.string a0_0, .slice A0_1 l0_1.length c0_1]) (t := 30) ?hr ?_; (case hd => rfl); (case hg => rfl); (case hr => first | (go_simp; done) | (go_simp; rfl)); intro gb140 hg w5 hbox hb; have n0_ := Aside0.mk (below_step (by repeat (first | (with_reducible first | exact HB.out | apply below_alloc | apply pw_below_drewN | apply below_drew1) | exact HB.out)) hb); have n1_ := Aside0.mk (hbox); have n2_ := Aside0.mk ((by rw [hg]; exact (below_size (by repeat (first | (with_reducible first | exact HB.out | apply below_alloc | apply pw_below_drewN | apply below_drew1) | exact HB.out))) : w.heap.size ≤ gb140)); have n3_ := Aside0.mk ((by rw [hg]; exact (below_size (by repeat (first | (with_reducible first | exact HB.out | apply below_alloc | apply pw_below_drewN | apply below_drew1) | exact HB.out))) : w.heap.size ≤ gb140)); clear HB; have HB := n0_; have BK140 := n1_; have GW140 := n2_; have GE140 := n3_; clear n0_ n1_ n2_ n3_; clear hb hbox hg) | ((with_reducible refine gate_dst (N := 2) rfl ?_); (try (refine gate_guard (by rfl) ?_; dsimp only)); refine box_event ?hg (N := 2) ?hd (cs := #[.int .i64 0, .int .u64 0, .int .u64 0]) (t := 38) ?hr ?_; (case hd => rfl); (case hg => rfl); (case hr => first | (go_simp; done) | (go_simp; rfl)); intro gb141 hg w6 hbox hb; have n0_ := Aside0.mk (blk_below (g := gb140) (o := .cells #[.string a0_0, .slice A0_1 l0_1.length c0_1] 30 (0, 0)) (by (with_reducible repeat (first | refine blk_drewN ?_ _ | refine blk_drew ?_ | refine blk_alloc ?_ _)); exact BK140.out) hb); have n1_ := Aside0.mk (below_step (by repeat (first | (with_reducible first | exact HB.out | apply below_alloc | apply pw_below_drewN | apply below_drew1 | refine below_set ?_ GE140.out) | exact HB.out)) hb); have n2_ := Aside0.mk (hbox); have n3_ := Aside0.mk ((by rw [hg]; exact (below_size (by repeat (first | (with_reducible first | exact HB.out | apply below_alloc | apply pw_below_drewN | apply below_drew1 | refine below_set ?_ GE140.out) | exact HB.out))) : w.heap.size ≤ gb141)); have n4_ := Aside0.mk ((by rw [hg]; exact (below_size (by repeat (first | (with_reducible first | exact HB.out | apply below_alloc | apply pw_below_drewN | apply below_drew1 | refine below_set ?_ GE140.out) | exact HB.out))) : w.heap.size ≤ gb141)); have n5_ := Aside0.mk ((by rw [hg]; exact Nat.ne_of_lt (blk_lt (g := gb140) (o := .cells #[.string a0_0, .slice A0_1 l0_1.length c0_1] 30 (0, 0)) (by (with_reducible repeat (first | refine blk_drewN ?_ _ | refine blk_drew ?_ | refine blk_alloc ?_ _)); exact BK140.out)) : gb140 ≠ gb141)); have n6_ := Aside0.mk ((by rw [hg]; exact Nat.ne_of_gt (blk_lt (g := gb140) (o := .cells #[.string a0_0, .slice A0_1 l0_1.length c0_1] 30 (0, 0)) (by (with_reducible repeat (first | refine blk_drewN ?_ _ | refine blk_drew ?_ | refine blk_alloc ?_ _)); exact BK140.out)) : gb141 ≠ gb140)); clear BK140; clear HB; have BK140 := n0_; have HB := n1_; have BK141 := n2_; have GW141 := n3_; have GE141 := n4_; have NB140_141 := n5_; have NB141_140 := n6_; clear n0_ n1_ n2_ n3_ n4_ n5_ n6_; clear hb hbox hg; have hnb7 := NB140_141.out; have hnc7 := NB141_140.out; have hcz8_0 : w6.cell? ⟨gb140, 0, none⟩ = some (.string a0_0) := (blk_cell BK140.out 0).trans rfl; have hcz8_1 : w6.cell? ⟨gb140, 1, none⟩ = some (.slice A0_1 l0_1.length c0_1) := (blk_cell BK140.out 1).trans rfl; have hfz8_0 := blk_frozen BK140.out 0; have hfz8_1 := blk_frozen BK140.out 1) | ((with_reducible refine gate_callee (f := 31) rfl ?_); refine goesL_ (some 9) rfl rfl Tryd.func31 (by kernel_rfl) rfl #[.string a0_0] rfl (by (try simp only [List.map_toArray, List.map_cons, List.map_nil]); first | done | rfl | (simp only [List.length_drop, List.length_take]; rfl)) ?_; (with_reducible refine (script_kind.calls a0_0 t142 _ A2.out).mono ?_); rintro e w' ⟨rfl, ⟨nd, rfl⟩⟩; refine ⟨_, rfl, ?_⟩; (try (rw [drewN_self w6]; generalize hq_ : World.drewN w6 _ = w6; have n0_ : Aside0 (w6.heap[gb140]? = some (.cells #[.string a0_0, .slice A0_1 l0_1.length c0_1] 30 (0, 0))) := ⟨by rw [← hq_]; exact (by (with_reducible repeat (first | refine blk_drewN ?_ _ | refine blk_drew ?_ | refine blk_alloc ?_ _)); exact BK140.out)⟩; have n1_ : Aside0 (w6.heap[gb141]? = some (.cells #[.int .i64 0, .int .u64 0, .int .u64 0] 38 (0, 0))) := ⟨by rw [← hq_]; exact (by (with_reducible repeat (first | refine blk_drewN ?_ _ | refine blk_drew ?_ | refine blk_alloc ?_ _)); exact BK141.out)⟩; have n2_ : Aside0 (Below w.heap.size w w6) := ⟨by rw [← hq_]; exact (by repeat (first | (with_reducible first | exact HB.out | apply below_alloc | apply pw_below_drewN | apply below_drew1 | refine below_set ?_ GE140.out | refine below_set ?_ GE141.out) | exact HB.out))⟩; clear BK140 BK141 HB hq_; have BK140 := n0_; have BK141 := n1_; have HB := n2_; clear n0_ n1_ n2_))) | ((with_reducible refine gate_dst (N := 4) rfl ?_); (try (refine gate_guard (by rfl) ?_; dsimp only)); refine box_event ?hg (N := 4) ?hd (cs := #[.int .i64 0, .int .u64 0, .int .u64 0]) (t := 38) ?hr ?_; (case hd => rfl); (case hg => rfl); (case hr => first | (go_simp; done) | (go_simp; rfl)); intro gb143 hg w9 hbox hb; have n0_ := Aside0.mk (blk_below (g := gb140) (o := .cells #[.string a0_0, .slice A0_1 l0_1.length c0_1] 30 (0, 0)) (by (with_reducible repeat (first | refine blk_drewN ?_ _ | refine blk_drew ?_ | refine blk_alloc ?_ _)); exact BK140.out) hb); have n1_ := Aside0.mk (blk_below (g := gb141) (o := .cells #[.int .i64 0, .int .u64 0, .int .u64 0] 38 (0, 0)) (by (with_reducible repeat (first | refine blk_drewN ?_ _ | refine blk_drew ?_ | refine blk_alloc ?_ _)); exact BK141.out) hb); have n2_ := Aside0.mk (below_step (by repeat (first | (with_reducible first | exact HB.out | apply below_alloc | apply pw_below_drewN | apply below_drew1 | refine below_set ?_ GE140.out | refine below_set ?_ GE141.out) | exact HB.out)) hb); have n3_ := Aside0.mk (hbox); have n4_ := Aside0.mk ((by rw [hg]; exact (below_size (by repeat (first | (with_reducible first | exact HB.out | apply below_alloc | apply pw_below_drewN | apply below_drew1 | refine below_set ?_ GE140.out | refine below_set ?_ GE141.out) | exact HB.out))) : w.heap.size ≤ gb143)); have n5_ := Aside0.mk ((by rw [hg]; exact (below_size (by repeat (first | (with_reducible first | exact HB.out | apply below_alloc | apply pw_below_drewN | apply below_drew1 | refine below_set ?_ GE140.out | refine below_set ?_ GE141.out) | exact HB.out))) : w.heap.size ≤ gb143)); have n6_ := Aside0.mk ((by rw [hg]; exact Nat.ne_of_lt (blk_lt (g := gb140) (o := .cells #[.string a0_0, .slice A0_1 l0_1.length c0_1] 30 (0, 0)) (by (with_reducible repeat (first | refine blk_drewN ?_ _ | refine blk_drew ?_ | refine blk_alloc ?_ _)); exact BK140.out)) : gb140 ≠ gb143)); have n7_ := Aside0.mk ((by rw [hg]; exact Nat.ne_of_gt (blk_lt (g := gb140) (o := .cells #[.string a0_0, .slice A0_1 l0_1.length c0_1] 30 (0, 0)) (by (with_reducible repeat (first | refine blk_drewN ?_ _ | refine blk_drew ?_ | refine blk_alloc ?_ _)); exact BK140.out)) : gb143 ≠ gb140)); have n8_ := Aside0.mk ((by rw [hg]; exact Nat.ne_of_lt (blk_lt (g := gb141) (o := .cells #[.int .i64 0, .int .u64 0, .int .u64 0] 38 (0, 0)) (by (with_reducible repeat (first | refine blk_drewN ?_ _ | refine blk_drew ?_ | refine blk_alloc ?_ _)); exact BK141.out)) : gb141 ≠ gb143)); have n9_ := Aside0.mk ((by rw [hg]; exact Nat.ne_of_gt (blk_lt (g := gb141) (o := .cells #[.int .i64 0, .int .u64 0, .int .u64 0] 38 (0, 0)) (by (with_reducible repeat (first | refine blk_drewN ?_ _ | refine blk_drew ?_ | refine blk_alloc ?_ _)); exact BK141.out)) : gb143 ≠ gb141)); clear BK140; clear BK141; clear HB; have BK140 := n0_; have BK141 := n1_; have HB := n2_; have BK143 := n3_; have GW143 := n4_; have GE143 := n5_; have NB140_143 := n6_; have NB143_140 := n7_; have NB141_143 := n8_; have NB143_141 := n9_; clear n0_ n1_ n2_ n3_ n4_ n5_ n6_ n7_ n8_ n9_; clear hb hbox hg; have hnb10 := NB143_140.out; have hnc10 := NB140_143.out; have hnb11 := NB143_141.out; have hnc11 := NB141_143.out; have hcz12_0 : w9.cell? ⟨gb143, 0, none⟩ = some (.int .i64 0) := (blk_cell BK143.out 0).trans rfl; have hcz12_1 : w9.cell? ⟨gb143, 1, none⟩ = some (.int .u64 0) := (blk_cell BK143.out 1).trans rfl; have hcz12_2 : w9.cell? ⟨gb143, 2, none⟩ = some (.int .u64 0) := (blk_cell BK143.out 2).trans rfl; have hfz12_0 := blk_frozen BK143.out 0; have hfz12_1 := blk_frozen BK143.out 1; have hfz12_2 := blk_frozen BK143.out 2; have hcz13_0 : w9.cell? ⟨gb140, 0, none⟩ = some (.string a0_0) := (blk_cell BK140.out 0).trans rfl; have hcz13_1 : w9.cell? ⟨gb140, 1, none⟩ = some (.slice A0_1 l0_1.length c0_1) := (blk_cell BK140.out 1).trans rfl; have hfz13_0 := blk_frozen BK140.out 0; have hfz13_1 := blk_frozen BK140.out 1) | ((with_reducible refine gate_callee (f := 27) rfl ?_); refine goesL_ (some 14) rfl rfl Tryd.func27 (by kernel_rfl) rfl #[.string a0_0] rfl (by (try simp only [List.map_toArray, List.map_cons, List.map_nil]); first | done | rfl | (simp only [List.length_drop, List.length_take]; rfl)) ?_; (with_reducible refine (script_takes.calls k a0_0 t144 t145 _ A3.out).mono ?_); rintro e w' ⟨rfl, ⟨nd, rfl⟩⟩; refine ⟨_, rfl, ?_⟩))
  (try simp only [Act.put, List.setIfInBounds_toArray, List.set_cons_zero, List.set_cons_succ])
  go_cut [26] (fun v26 wc => ∃ (kq : Nat) (x26_3 : Bool), v26 = .bool x26_3 ∧ Aside0 (script_Op.j0 kq x26_3 a0_0 l0_1 t142 0 0 = some (r1, r2, r3, r4)) ∧ Aside0 (kq ≤ k) ∧ Aside0 (wc.heap[gb140]? = some (.cells #[.string a0_0, (.slice A0_1 l0_1.length c0_1)] 30 (0, 0))) ∧ Aside0 (wc.heap[gb141]? = some (.cells #[.int .i64 0, .int .u64 0, .int .u64 0] 38 (0, 0))) ∧ Aside0 (wc.heap[gb143]? = some (.cells #[.int .i64 t142, .int .u64 0, .int .u64 0] 38 (0, 0))) ∧ Aside0 (Below w.heap.size w wc))
  case first =>
    have H := HC4.out
    clear HC4
    by_cases c14 : t142 = 0
    · rw [if_pos c14] at H
      have c14b0 : (t142 == 0) = true := beq_iff_eq.mpr c14
      have c14b1 : (t142 != 0) = false := bne_eq_false_iff_eq.mpr c14
      clear c14
      (first | rw [c14b0] | (simp only [i64_w, i32_w]; rw [c14b0]) | skip)
      have H' := Aside0.mk H
      clear H
      have hnb15 := NB143_140.out
      have hnc15 := NB140_143.out
      have hnb16 := NB143_141.out
      have hnc16 := NB141_143.out
      have hcz17_0 : w9.cell? ⟨gb143, 0, none⟩ = some (.int .i64 0) := (blk_cell BK143.out 0).trans rfl
      have hcz17_1 : w9.cell? ⟨gb143, 1, none⟩ = some (.int .u64 0) := (blk_cell BK143.out 1).trans rfl
      have hcz17_2 : w9.cell? ⟨gb143, 2, none⟩ = some (.int .u64 0) := (blk_cell BK143.out 2).trans rfl
      have hfz17_0 := blk_frozen BK143.out 0
      have hfz17_1 := blk_frozen BK143.out 1
      have hfz17_2 := blk_frozen BK143.out 2
      go_wp2
      go_meet
      case rel => exact ⟨_, (true), (by first | rfl | (simp; done) | (simp [*]; done)), H', ⟨by first | omega | exact Nat.le_refl _⟩, ⟨by (with_reducible repeat (first | refine blk_drewN ?_ _ | refine blk_drew ?_ | refine blk_alloc ?_ _)); refine blk_far ?_ NB140_143.out _; (with_reducible repeat (first | refine blk_drewN ?_ _ | refine blk_drew ?_ | refine blk_alloc ?_ _)); refine blk_far ?_ NB140_143.out _; (with_reducible repeat (first | refine blk_drewN ?_ _ | refine blk_drew ?_ | refine blk_alloc ?_ _)); refine blk_far ?_ NB140_143.out _; (with_reducible repeat (first | refine blk_drewN ?_ _ | refine blk_drew ?_ | refine blk_alloc ?_ _)); exact BK140.out⟩, ⟨by (with_reducible repeat (first | refine blk_drewN ?_ _ | refine blk_drew ?_ | refine blk_alloc ?_ _)); refine blk_far ?_ NB141_143.out _; (with_reducible repeat (first | refine blk_drewN ?_ _ | refine blk_drew ?_ | refine blk_alloc ?_ _)); refine blk_far ?_ NB141_143.out _; (with_reducible repeat (first | refine blk_drewN ?_ _ | refine blk_drew ?_ | refine blk_alloc ?_ _)); refine blk_far ?_ NB141_143.out _; (with_reducible repeat (first | refine blk_drewN ?_ _ | refine blk_drew ?_ | refine blk_alloc ?_ _)); exact BK141.out⟩, ⟨by (with_reducible repeat (first | refine blk_drewN ?_ _ | refine blk_drew ?_ | refine blk_alloc ?_ _)); refine blk_put (cs := #[.int .i64 t142, .int .u64 0, .int .u64 0]) ?_ 2 _ rfl; (with_reducible repeat (first | refine blk_drewN ?_ _ | refine blk_drew ?_ | refine blk_alloc ?_ _)); refine blk_put (cs := #[.int .i64 t142, .int .u64 0, .int .u64 0]) ?_ 1 _ rfl; (with_reducible repeat (first | refine blk_drewN ?_ _ | refine blk_drew ?_ | refine blk_alloc ?_ _)); refine blk_put (cs := #[.int .i64 0, .int .u64 0, .int .u64 0]) ?_ 0 _ rfl; (with_reducible repeat (first | refine blk_drewN ?_ _ | refine blk_drew ?_ | refine blk_alloc ?_ _)); exact BK143.out⟩, ⟨by repeat (first | (with_reducible first | exact HB.out | apply below_alloc | apply pw_below_drewN | apply below_drew1 | refine below_set ?_ GE140.out | refine below_set ?_ GE141.out | refine below_set ?_ GE143.out) | exact HB.out)⟩⟩
    · rw [if_neg c14] at H
      have c14b0 : (t142 == 0) = false := beq_eq_false_iff_ne.mpr c14
      have c14b1 : (t142 != 0) = true := bne_iff_ne.mpr c14
      (first | rw [c14b0] | (simp only [i64_w, i32_w]; rw [c14b0]) | skip)
      have H' := Aside0.mk H
      clear H
      have hnb18 := NB143_140.out
      have hnc18 := NB140_143.out
      have hnb19 := NB143_141.out
      have hnc19 := NB141_143.out
      have hcz20_0 : w9.cell? ⟨gb143, 0, none⟩ = some (.int .i64 0) := (blk_cell BK143.out 0).trans rfl
      have hcz20_1 : w9.cell? ⟨gb143, 1, none⟩ = some (.int .u64 0) := (blk_cell BK143.out 1).trans rfl
      have hcz20_2 : w9.cell? ⟨gb143, 2, none⟩ = some (.int .u64 0) := (blk_cell BK143.out 2).trans rfl
      have hfz20_0 := blk_frozen BK143.out 0
      have hfz20_1 := blk_frozen BK143.out 1
      have hfz20_2 := blk_frozen BK143.out 2
      have hnb21 := NB140_141.out
      have hnc21 := NB141_140.out
      have hcz22_0 : w9.cell? ⟨gb140, 0, none⟩ = some (.string a0_0) := (blk_cell BK140.out 0).trans rfl
      have hcz22_1 : w9.cell? ⟨gb140, 1, none⟩ = some (.slice A0_1 l0_1.length c0_1) := (blk_cell BK140.out 1).trans rfl
      have hfz22_0 := blk_frozen BK140.out 0
      have hfz22_1 := blk_frozen BK140.out 1
      go_wp2
      go_meet
      case rel => exact ⟨_, (((l0_1.length : Int) != t144)), (by first | rfl | (simp; done) | (simp [*]; done)), H', ⟨by first | omega | exact Nat.le_refl _⟩, ⟨by (with_reducible repeat (first | refine blk_drewN ?_ _ | refine blk_drew ?_ | refine blk_alloc ?_ _)); refine blk_far ?_ NB140_143.out _; (with_reducible repeat (first | refine blk_drewN ?_ _ | refine blk_drew ?_ | refine blk_alloc ?_ _)); refine blk_far ?_ NB140_143.out _; (with_reducible repeat (first | refine blk_drewN ?_ _ | refine blk_drew ?_ | refine blk_alloc ?_ _)); refine blk_far ?_ NB140_143.out _; (with_reducible repeat (first | refine blk_drewN ?_ _ | refine blk_drew ?_ | refine blk_alloc ?_ _)); exact BK140.out⟩, ⟨by (with_reducible repeat (first | refine blk_drewN ?_ _ | refine blk_drew ?_ | refine blk_alloc ?_ _)); refine blk_far ?_ NB141_143.out _; (with_reducible repeat (first | refine blk_drewN ?_ _ | refine blk_drew ?_ | refine blk_alloc ?_ _)); refine blk_far ?_ NB141_143.out _; (with_reducible repeat (first | refine blk_drewN ?_ _ | refine blk_drew ?_ | refine blk_alloc ?_ _)); refine blk_far ?_ NB141_143.out _; (with_reducible repeat (first | refine blk_drewN ?_ _ | refine blk_drew ?_ | refine blk_alloc ?_ _)); exact BK141.out⟩, ⟨by (with_reducible repeat (first | refine blk_drewN ?_ _ | refine blk_drew ?_ | refine blk_alloc ?_ _)); refine blk_put (cs := #[.int .i64 t142, .int .u64 0, .int .u64 0]) ?_ 2 _ rfl; (with_reducible repeat (first | refine blk_drewN ?_ _ | refine blk_drew ?_ | refine blk_alloc ?_ _)); refine blk_put (cs := #[.int .i64 t142, .int .u64 0, .int .u64 0]) ?_ 1 _ rfl; (with_reducible repeat (first | refine blk_drewN ?_ _ | refine blk_drew ?_ | refine blk_alloc ?_ _)); refine blk_put (cs := #[.int .i64 0, .int .u64 0, .int .u64 0]) ?_ 0 _ rfl; (with_reducible repeat (first | refine blk_drewN ?_ _ | refine blk_drew ?_ | refine blk_alloc ?_ _)); exact BK143.out⟩, ⟨by repeat (first | (with_reducible first | exact HB.out | apply below_alloc | apply pw_below_drewN | apply below_drew1 | refine below_set ?_ GE140.out | refine below_set ?_ GE141.out | refine below_set ?_ GE143.out) | exact HB.out)⟩⟩
  case rest =>
    clear HC4
    try clear c1
    try clear c2
    try clear p2
    try clear c3
    try clear c7
    try clear c10
    try clear c11
    try clear c14
    try clear c14b0
    try clear c14b1
    try clear c15
    try clear c16
    try clear c18
    try clear c19
    try clear c21
    try clear hcz12_0
    try clear hcz12_1
    try clear hcz12_2
    try clear hcz13_0
    try clear hcz13_1
    try clear hcz17_0
    try clear hcz17_1
    try clear hcz17_2
    try clear hcz20_0
    try clear hcz20_1
    try clear hcz20_2
    try clear hcz22_0
    try clear hcz22_1
    try clear hcz8_0
    try clear hcz8_1
    try clear hfz12_0
    try clear hfz12_1
    try clear hfz12_2
    try clear hfz13_0
    try clear hfz13_1
    try clear hfz17_0
    try clear hfz17_1
    try clear hfz17_2
    try clear hfz20_0
    try clear hfz20_1
    try clear hfz20_2
    try clear hfz22_0
    try clear hfz22_1
    try clear hfz8_0
    try clear hfz8_1
    obtain ⟨kq, x26_3, rfl, HA, HJ3, BK140, BK141, BK143, HB⟩ := hcut
    cases kq with
    | zero => exact absurd HA.out (by simp [script_Op.j0])
    | succ kj3 =>
      have H := HA.out
      clear HA
      simp only [script_Op.j0] at H
      by_cases c23 : x26_3 = true
      · subst c23
        have H1 : (some (0, 0, 0, false)) = some (r1, r2, r3, r4) := by rw [if_pos rfl] at H; exact H
        clear H
        have H := H1
        clear H1
        simp only [Option.some.injEq, Prod.mk.injEq] at H
        obtain ⟨rfl, rfl, rfl, rfl⟩ := H
        have hnb24 := NB141_140.out
        have hnc24 := NB140_141.out
        have hnb25 := NB141_143.out
        have hnc25 := NB143_141.out
        have hcz26_0 : wc.cell? ⟨gb141, 0, none⟩ = some (.int .i64 0) := (blk_cell BK141.out 0).trans rfl
        have hcz26_1 : wc.cell? ⟨gb141, 1, none⟩ = some (.int .u64 0) := (blk_cell BK141.out 1).trans rfl
        have hcz26_2 : wc.cell? ⟨gb141, 2, none⟩ = some (.int .u64 0) := (blk_cell BK141.out 2).trans rfl
        have hfz26_0 := blk_frozen BK141.out 0
        have hfz26_1 := blk_frozen BK141.out 1
        have hfz26_2 := blk_frozen BK141.out 2
        go_wp2
        refine bodyPost_ret (results_ct rfl _ _ gb141 38 #[.int .i64 0, .int .u64 0, .int .u64 0] (0, 0) _ rfl (by (with_reducible repeat (first | refine blk_drewN ?_ _ | refine blk_drew ?_ | refine blk_alloc ?_ _)); refine blk_put (cs := #[.int .i64 0, .int .u64 0, .int .u64 0]) ?_ 2 _ rfl; (with_reducible repeat (first | refine blk_drewN ?_ _ | refine blk_drew ?_ | refine blk_alloc ?_ _)); refine blk_put (cs := #[.int .i64 0, .int .u64 0, .int .u64 0]) ?_ 1 _ rfl; (with_reducible repeat (first | refine blk_drewN ?_ _ | refine blk_drew ?_ | refine blk_alloc ?_ _)); refine blk_put (cs := #[.int .i64 0, .int .u64 0, .int .u64 0]) ?_ 0 _ rfl; (with_reducible repeat (first | refine blk_drewN ?_ _ | refine blk_drew ?_ | refine blk_alloc ?_ _)); exact BK141.out) Tryd.underlying38 rfl (by kernel_rfl)) rfl ?_
        exact ⟨by first | rfl | (simp [errW_none, errW_some] <;> rfl) | (simp [*, errW_none, errW_some] <;> rfl), by repeat (first | (with_reducible first | exact HB.out | apply below_alloc | apply pw_below_drewN | apply below_drew1 | refine below_set ?_ GE140.out | refine below_set ?_ GE141.out | refine below_set ?_ GE143.out) | exact HB.out)⟩
      · replace c23 := Bool.eq_false_iff.mpr c23
        subst c23
        have H1 : (if 0 < (l0_1.length : Int) then (if (l0_1.length : Int) > 1 then (if 1 < (l0_1.length : Int) then (some (t142, rd l0_1 0, rd l0_1 1, true)) else (none)) else (some (t142, rd l0_1 0, 0, true))) else (none)) = some (r1, r2, r3, r4) := by rw [if_neg (show ¬ (false = true) by decide)] at H; exact H
        clear H
        have H := H1
        clear H1
        by_cases c27 : 0 < (l0_1.length : Int)
        · rw [if_pos c27] at H
          have c27b0 : decide (0 < (l0_1.length : Int)) = true := decide_eq_true c27
          have c27b1 : decide (0 < l0_1.length) = true := decide_eq_true (by omega)
          clear c27
          by_cases c28 : (l0_1.length : Int) > 1
          · rw [if_pos c28] at H
            have c28b0 : decide (1 < (l0_1.length : Int)) = true := decide_eq_true c28
            have c28b1 : decide (1 < l0_1.length) = true := decide_eq_true (by omega)
            clear c28
            by_cases c29 : 1 < (l0_1.length : Int)
            · rw [if_pos c29] at H
              have c29b0 : decide (1 < (l0_1.length : Int)) = true := decide_eq_true c29
              have c29b1 : decide (1 < l0_1.length) = true := decide_eq_true (by omega)
              clear c29
              simp only [Option.some.injEq, Prod.mk.injEq] at H
              obtain ⟨rfl, rfl, rfl, rfl⟩ := H
              have hnb30 := NB140_141.out
              have hnc30 := NB141_140.out
              have hnb31 := NB140_143.out
              have hnc31 := NB143_140.out
              have hcz32_0 : wc.cell? ⟨gb140, 0, none⟩ = some (.string a0_0) := (blk_cell BK140.out 0).trans rfl
              have hcz32_1 : wc.cell? ⟨gb140, 1, none⟩ = some (.slice A0_1 l0_1.length c0_1) := (blk_cell BK140.out 1).trans rfl
              have hfz32_0 := blk_frozen BK140.out 0
              have hfz32_1 := blk_frozen BK140.out 1
              have p146 : 0 ≤ (0 : Int) := (by omega)
              have q146 : 0 < (l0_1.length : Int) := of_decide_eq_true (by first | (with_reducible assumption) | assumption)
              obtain ⟨ad146, e146, hx146_0⟩ := Kd.at_int HR0_1.out 0 p146 q146
              cases e146
              have qi146 : (0 < l0_1.length) = True := eq_true (by omega)
              (try rw [show ((0 : Int)).toNat = 0 from rfl] at hx146_0)
              (try rw [Addr.add_zero'] at hx146_0)
              replace hx146_0 := (HB.out.cell (World.block_lt_of_cell? w _ hx146_0)).trans hx146_0
              replace p146 := eq_true p146
              replace q146 := eq_true q146
              have hnb33 := NB143_141.out
              have hnc33 := NB141_143.out
              have hcz34_0 : wc.cell? ⟨gb143, 0, none⟩ = some (.int .i64 t142) := (blk_cell BK143.out 0).trans rfl
              have hcz34_1 : wc.cell? ⟨gb143, 1, none⟩ = some (.int .u64 0) := (blk_cell BK143.out 1).trans rfl
              have hcz34_2 : wc.cell? ⟨gb143, 2, none⟩ = some (.int .u64 0) := (blk_cell BK143.out 2).trans rfl
              have hfz34_0 := blk_frozen BK143.out 0
              have hfz34_1 := blk_frozen BK143.out 1
              have hfz34_2 := blk_frozen BK143.out 2
              have p147 : 0 ≤ (1 : Int) := (by omega)
              have q147 : 1 < (l0_1.length : Int) := of_decide_eq_true (by first | (with_reducible assumption) | assumption)
              obtain ⟨ad147, e147, hx147_0⟩ := Kd.at_int HR0_1.out 1 p147 q147
              obtain rfl : ad146 = ad147 := (by injection e147)
              (try simp only [show (1 : Int).toNat = 1 from rfl, Nat.reduceMul, Nat.reduceEqDiff, Go.Addr.add, ↓reduceIte] at hx147_0)
              have qi147 : (1 < l0_1.length) = True := eq_true (by omega)
              (try rw [show ((1 : Int)).toNat = 1 from rfl] at hx147_0)
              have hn147_0 : ad146.block ≠ gb143 := Nat.ne_of_lt (Nat.lt_of_lt_of_le (by have := World.block_lt_of_cell? _ _ hx147_0; first | rwa [add_block] at this | exact this) GW143.out)
              replace hx147_0 := (HB.out.cell (World.block_lt_of_cell? w _ hx147_0)).trans hx147_0
              replace hx147_0 := (cell_far (p := ⟨gb143, 1, none⟩) (by first | (rw [add_block]; exact hn147_0) | (show (Addr.add _ _).block ≠ _; rw [add_block]; exact hn147_0) | exact hn147_0) (.int .u64 (rd l0_1 0))).trans hx147_0
              clear hn147_0
              replace p147 := eq_true p147
              replace q147 := eq_true q147
              have hcz35_0 : wc.cell? ⟨gb141, 0, none⟩ = some (.int .i64 0) := (blk_cell BK141.out 0).trans rfl
              have hcz35_1 : wc.cell? ⟨gb141, 1, none⟩ = some (.int .u64 0) := (blk_cell BK141.out 1).trans rfl
              have hcz35_2 : wc.cell? ⟨gb141, 2, none⟩ = some (.int .u64 0) := (blk_cell BK141.out 2).trans rfl
              have hfz35_0 := blk_frozen BK141.out 0
              have hfz35_1 := blk_frozen BK141.out 1
              have hfz35_2 := blk_frozen BK141.out 2
              go_wp2
              refine bodyPost_ret (results_ct rfl _ _ gb141 38 #[.int .i64 t142, .int .u64 (rd l0_1 0), .int .u64 (rd l0_1 1)] (0, 0) _ rfl (by (with_reducible repeat (first | refine blk_drewN ?_ _ | refine blk_drew ?_ | refine blk_alloc ?_ _)); refine blk_put (cs := #[.int .i64 t142, .int .u64 (rd l0_1 0), .int .u64 0]) ?_ 2 _ rfl; (with_reducible repeat (first | refine blk_drewN ?_ _ | refine blk_drew ?_ | refine blk_alloc ?_ _)); refine blk_put (cs := #[.int .i64 t142, .int .u64 0, .int .u64 0]) ?_ 1 _ rfl; (with_reducible repeat (first | refine blk_drewN ?_ _ | refine blk_drew ?_ | refine blk_alloc ?_ _)); refine blk_put (cs := #[.int .i64 0, .int .u64 0, .int .u64 0]) ?_ 0 _ rfl; (with_reducible repeat (first | refine blk_drewN ?_ _ | refine blk_drew ?_ | refine blk_alloc ?_ _)); refine blk_far ?_ NB141_143.out _; (with_reducible repeat (first | refine blk_drewN ?_ _ | refine blk_drew ?_ | refine blk_alloc ?_ _)); refine blk_far ?_ NB141_143.out _; (with_reducible repeat (first | refine blk_drewN ?_ _ | refine blk_drew ?_ | refine blk_alloc ?_ _)); exact BK141.out) Tryd.underlying38 rfl (by kernel_rfl)) rfl ?_
              exact ⟨by first | rfl | (simp [errW_none, errW_some] <;> rfl) | (simp [*, errW_none, errW_some] <;> rfl), by repeat (first | (with_reducible first | exact HB.out | apply below_alloc | apply pw_below_drewN | apply below_drew1 | refine below_set ?_ GE140.out | refine below_set ?_ GE141.out | refine below_set ?_ GE143.out) | exact HB.out)⟩
            · rw [if_neg c29] at H
              exact absurd H (by simp)
          · rw [if_neg c28] at H
            have c28b0 : decide (1 < (l0_1.length : Int)) = false := decide_eq_false c28
            have c28b1 : decide (1 < l0_1.length) = false := decide_eq_false (by omega)
            clear c28
            simp only [Option.some.injEq, Prod.mk.injEq] at H
            obtain ⟨rfl, rfl, rfl, rfl⟩ := H
            have hnb36 := NB140_141.out
            have hnc36 := NB141_140.out
            have hnb37 := NB140_143.out
            have hnc37 := NB143_140.out
            have hcz38_0 : wc.cell? ⟨gb140, 0, none⟩ = some (.string a0_0) := (blk_cell BK140.out 0).trans rfl
            have hcz38_1 : wc.cell? ⟨gb140, 1, none⟩ = some (.slice A0_1 l0_1.length c0_1) := (blk_cell BK140.out 1).trans rfl
            have hfz38_0 := blk_frozen BK140.out 0
            have hfz38_1 := blk_frozen BK140.out 1
            have p146 : 0 ≤ (0 : Int) := (by omega)
            have q146 : 0 < (l0_1.length : Int) := of_decide_eq_true (by first | (with_reducible assumption) | assumption)
            obtain ⟨ad146, e146, hx146_0⟩ := Kd.at_int HR0_1.out 0 p146 q146
            cases e146
            have qi146 : (0 < l0_1.length) = True := eq_true (by omega)
            (try rw [show ((0 : Int)).toNat = 0 from rfl] at hx146_0)
            (try rw [Addr.add_zero'] at hx146_0)
            replace hx146_0 := (HB.out.cell (World.block_lt_of_cell? w _ hx146_0)).trans hx146_0
            replace p146 := eq_true p146
            replace q146 := eq_true q146
            have hnb39 := NB143_141.out
            have hnc39 := NB141_143.out
            have hcz40_0 : wc.cell? ⟨gb143, 0, none⟩ = some (.int .i64 t142) := (blk_cell BK143.out 0).trans rfl
            have hcz40_1 : wc.cell? ⟨gb143, 1, none⟩ = some (.int .u64 0) := (blk_cell BK143.out 1).trans rfl
            have hcz40_2 : wc.cell? ⟨gb143, 2, none⟩ = some (.int .u64 0) := (blk_cell BK143.out 2).trans rfl
            have hfz40_0 := blk_frozen BK143.out 0
            have hfz40_1 := blk_frozen BK143.out 1
            have hfz40_2 := blk_frozen BK143.out 2
            have hcz41_0 : wc.cell? ⟨gb141, 0, none⟩ = some (.int .i64 0) := (blk_cell BK141.out 0).trans rfl
            have hcz41_1 : wc.cell? ⟨gb141, 1, none⟩ = some (.int .u64 0) := (blk_cell BK141.out 1).trans rfl
            have hcz41_2 : wc.cell? ⟨gb141, 2, none⟩ = some (.int .u64 0) := (blk_cell BK141.out 2).trans rfl
            have hfz41_0 := blk_frozen BK141.out 0
            have hfz41_1 := blk_frozen BK141.out 1
            have hfz41_2 := blk_frozen BK141.out 2
            go_wp2
            refine bodyPost_ret (results_ct rfl _ _ gb141 38 #[.int .i64 t142, .int .u64 (rd l0_1 0), .int .u64 0] (0, 0) _ rfl (by (with_reducible repeat (first | refine blk_drewN ?_ _ | refine blk_drew ?_ | refine blk_alloc ?_ _)); refine blk_put (cs := #[.int .i64 t142, .int .u64 (rd l0_1 0), .int .u64 0]) ?_ 2 _ rfl; (with_reducible repeat (first | refine blk_drewN ?_ _ | refine blk_drew ?_ | refine blk_alloc ?_ _)); refine blk_put (cs := #[.int .i64 t142, .int .u64 0, .int .u64 0]) ?_ 1 _ rfl; (with_reducible repeat (first | refine blk_drewN ?_ _ | refine blk_drew ?_ | refine blk_alloc ?_ _)); refine blk_put (cs := #[.int .i64 0, .int .u64 0, .int .u64 0]) ?_ 0 _ rfl; (with_reducible repeat (first | refine blk_drewN ?_ _ | refine blk_drew ?_ | refine blk_alloc ?_ _)); refine blk_far ?_ NB141_143.out _; (with_reducible repeat (first | refine blk_drewN ?_ _ | refine blk_drew ?_ | refine blk_alloc ?_ _)); exact BK141.out) Tryd.underlying38 rfl (by kernel_rfl)) rfl ?_
            exact ⟨by first | rfl | (simp [errW_none, errW_some] <;> rfl) | (simp [*, errW_none, errW_some] <;> rfl), by repeat (first | (with_reducible first | exact HB.out | apply below_alloc | apply pw_below_drewN | apply below_drew1 | refine below_set ?_ GE140.out | refine below_set ?_ GE141.out | refine below_set ?_ GE143.out) | exact HB.out)⟩
        · rw [if_neg c27] at H
          exact absurd H (by simp)

end Go.Proofs.YtlfoaaeelcmhiaaDoor.G
end

section
-- Written by a program of this session (wip/gprint.py: the kit's print, with contracts proved by hand)
namespace Go.Proofs.YtlfoaaeelcmhiaaDoor.G
open Go.RowKit Go.Proofs.YtlfoaaeelcmhiaaDoorW.PrintWords Go.Proofs.YtlfoaaeelcmhiaaDoorW.PrintLast Go.Proofs.YtlfoaaeelcmhiaaDoorW.PrintMore
attribute [local go_sem] max2_int min2_int max_two min_two max_three min_three max_four min_four   -- for this text's walks alone
set_option linter.unusedVariables false
set_option linter.unusedSimpArgs false

attribute [local go_sem high] eqA38
/-! ### inclinelaw21_shown: function 11 -/
def inclinelaw21_shown.f (k : Nat)  : Option (Bool) := (script_Parse.f (⟨#[112, 117, 116, 32, 49, 32, 49, 48, 10, 10, 35, 32, 97, 108, 108, 10, 32, 32, 114, 97, 110, 103, 101, 32, 48, 32, 32, 32, 57, 32]⟩ : ByteArray)).bind fun bt182 => ((script_Parse.f (⟨#[103, 101, 116, 32, 53, 10, 71, 101, 116, 32, 53]⟩ : ByteArray)).bind fun bt187 => ((script_Parse.f (⟨#[103, 101, 116, 32, 48, 49]⟩ : ByteArray)).bind fun bt192 => ((script_Parse.f (⟨#[103, 101, 116]⟩ : ByteArray)).bind fun bt197 => ((script_Print.f k (([(⟨(⟨#[115, 97, 118, 101]⟩ : ByteArray), ([] : List Int)⟩ : S30), (⟨(⟨#[112, 97, 116, 104]⟩ : ByteArray), (([0, 7] : List Int))⟩ : S30)] : List (S30)))).bind fun bt208 => ((script_Print.f k (([(⟨(⟨#[83, 97, 118, 101]⟩ : ByteArray), ([] : List Int)⟩ : S30)] : List (S30)))).bind fun bt213 => ((script_Op.f k (⟨#[114, 97, 110, 103, 101]⟩ : ByteArray) (([9, 3] : List Int))).bind fun bt218 => ((script_Op.f k (⟨#[115, 116, 97, 116, 115]⟩ : ByteArray) ([] : List Int)).bind fun bt223 => ((script_Tell.f k 7 0 0 0 false 0 0 0 (([(⟨3, 30⟩ : S50), (⟨4, 40⟩ : S50)] : List (S50)))).bind fun t240 => ((inclinelaw21_same.f k bt182.1 (([(⟨(⟨#[112, 117, 116]⟩ : ByteArray), (([1, 10] : List Int))⟩ : S30), (⟨(⟨#[114, 97, 110, 103, 101]⟩ : ByteArray), (([0, 9] : List Int))⟩ : S30)] : List (S30)))).bind fun t241 => (if t241 = true then (if bt182.2.1 = 0 then (if bt182.2.2 = 0 then (if bt187.2.1 = 2 then (if bt187.2.2 = 211 then (if bt192.2.1 = 1 then (if bt192.2.2 = 212 then (if bt197.2.1 = 1 then (if bt197.2.2 = 213 then (if bt208.1.toList = ([115, 97, 118, 101, 10, 112, 97, 116, 104, 32, 48, 32, 55, 10] : List UInt8) then (if bt208.2 = 0 then (if bt213.2 = 211 then (if (bt218.1 == 7 && (bt218.2.1 == 9 && (bt218.2.2.1 == 3))) = true then (if bt218.2.2.2 = true then (if bt223.2.2.2 = true then (none) else (if t240.toList = ([50, 32, 51, 32, 51, 48, 32, 52, 32, 52, 48] : List UInt8) then ((script_Tell.f k 9 0 0 1 false 0 0 0 ([] : List (S50))).bind fun t242 => (some (t242.toList == ([101, 114, 114, 111, 114, 32, 49] : List UInt8)))) else (none))) else (none)) else (none)) else (none)) else (none)) else (none)) else (none)) else (none)) else (none)) else (none)) else (none)) else (none)) else (none)) else (none)) else (none)))))))))))
theorem inclinelaw21_shown.mono : ∀ k, LeO (inclinelaw21_shown.f k ) (inclinelaw21_shown.f (k + 1) ) := by
  intro  k
  unfold inclinelaw21_shown.f
  repeat' first
      | (with_reducible exact inclinelaw21_same.mono _ _ _)
      | (with_reducible exact script_Op.mono _ _ _)
      | (with_reducible exact script_Print.mono _ _)
      | (with_reducible exact script_Tell.mono _ _ _ _ _ _ _ _ _ _)
      | (with_reducible exact LeO.refl _)
      | (with_reducible exact LeO.none _)
      | (with_reducible refine LeO.ite ?_ ?_)
      | (with_reducible refine LeO.bind ?_ (fun _ => ?_))
      | exact inclinelaw21_same.mono _ _ _
      | exact script_Op.mono _ _ _
      | exact script_Print.mono _ _
      | exact script_Tell.mono _ _ _ _ _ _ _ _ _ _
      | exact LeO.none _
      | refine LeO.ite ?_ ?_
      | refine LeO.bind ?_ (fun _ => ?_)
set_option maxHeartbeats 8000000 in
set_option maxRecDepth 100000 in
theorem inclinelaw21_shown.calls (k : Nat)  (r : Bool) (w : World) (hT : Tabs w) (h : inclinelaw21_shown.f k  = some r) :
    Calls Tryd.prog 11 #[] w fun e w' => e = .returned (.bool r) ∧ Below w.heap.size w w' := by
  have HT := Aside0.mk hT
  clear hT
  have hu30 := Tryd.underlying30
  have hu38 := Tryd.underlying38
  have hu50 := Tryd.underlying50
  have hu44 := Tryd.underlying44
  have HB := Aside0.mk (Below.refl w.heap.size w)
  have H : ((script_Parse.f (⟨#[112, 117, 116, 32, 49, 32, 49, 48, 10, 10, 35, 32, 97, 108, 108, 10, 32, 32, 114, 97, 110, 103, 101, 32, 48, 32, 32, 32, 57, 32]⟩ : ByteArray)).bind fun bt182 => ((script_Parse.f (⟨#[103, 101, 116, 32, 53, 10, 71, 101, 116, 32, 53]⟩ : ByteArray)).bind fun bt187 => ((script_Parse.f (⟨#[103, 101, 116, 32, 48, 49]⟩ : ByteArray)).bind fun bt192 => ((script_Parse.f (⟨#[103, 101, 116]⟩ : ByteArray)).bind fun bt197 => ((script_Print.f k (([(⟨(⟨#[115, 97, 118, 101]⟩ : ByteArray), ([] : List Int)⟩ : S30), (⟨(⟨#[112, 97, 116, 104]⟩ : ByteArray), (([0, 7] : List Int))⟩ : S30)] : List (S30)))).bind fun bt208 => ((script_Print.f k (([(⟨(⟨#[83, 97, 118, 101]⟩ : ByteArray), ([] : List Int)⟩ : S30)] : List (S30)))).bind fun bt213 => ((script_Op.f k (⟨#[114, 97, 110, 103, 101]⟩ : ByteArray) (([9, 3] : List Int))).bind fun bt218 => ((script_Op.f k (⟨#[115, 116, 97, 116, 115]⟩ : ByteArray) ([] : List Int)).bind fun bt223 => ((script_Tell.f k 7 0 0 0 false 0 0 0 (([(⟨3, 30⟩ : S50), (⟨4, 40⟩ : S50)] : List (S50)))).bind fun t240 => ((inclinelaw21_same.f k bt182.1 (([(⟨(⟨#[112, 117, 116]⟩ : ByteArray), (([1, 10] : List Int))⟩ : S30), (⟨(⟨#[114, 97, 110, 103, 101]⟩ : ByteArray), (([0, 9] : List Int))⟩ : S30)] : List (S30)))).bind fun t241 => (if t241 = true then (if bt182.2.1 = 0 then (if bt182.2.2 = 0 then (if bt187.2.1 = 2 then (if bt187.2.2 = 211 then (if bt192.2.1 = 1 then (if bt192.2.2 = 212 then (if bt197.2.1 = 1 then (if bt197.2.2 = 213 then (if bt208.1.toList = ([115, 97, 118, 101, 10, 112, 97, 116, 104, 32, 48, 32, 55, 10] : List UInt8) then (if bt208.2 = 0 then (if bt213.2 = 211 then (if (bt218.1 == 7 && (bt218.2.1 == 9 && (bt218.2.2.1 == 3))) = true then (if bt218.2.2.2 = true then (if bt223.2.2.2 = true then (none) else (if t240.toList = ([50, 32, 51, 32, 51, 48, 32, 52, 32, 52, 48] : List UInt8) then ((script_Tell.f k 9 0 0 1 false 0 0 0 ([] : List (S50))).bind fun t242 => (some (t242.toList == ([101, 114, 114, 111, 114, 32, 49] : List UInt8)))) else (none))) else (none)) else (none)) else (none)) else (none)) else (none)) else (none)) else (none)) else (none)) else (none)) else (none)) else (none)) else (none)) else (none)) else (none)))))))))))) = some r := h
  clear h
  replace H := Option.bind_eq_some_iff.mp H
  obtain ⟨⟨t182, t183, t184⟩, A10, H⟩ := H
  replace H : ((script_Parse.f (⟨#[103, 101, 116, 32, 53, 10, 71, 101, 116, 32, 53]⟩ : ByteArray)).bind fun bt187 => ((script_Parse.f (⟨#[103, 101, 116, 32, 48, 49]⟩ : ByteArray)).bind fun bt192 => ((script_Parse.f (⟨#[103, 101, 116]⟩ : ByteArray)).bind fun bt197 => ((script_Print.f k (([(⟨(⟨#[115, 97, 118, 101]⟩ : ByteArray), ([] : List Int)⟩ : S30), (⟨(⟨#[112, 97, 116, 104]⟩ : ByteArray), (([0, 7] : List Int))⟩ : S30)] : List (S30)))).bind fun bt208 => ((script_Print.f k (([(⟨(⟨#[83, 97, 118, 101]⟩ : ByteArray), ([] : List Int)⟩ : S30)] : List (S30)))).bind fun bt213 => ((script_Op.f k (⟨#[114, 97, 110, 103, 101]⟩ : ByteArray) (([9, 3] : List Int))).bind fun bt218 => ((script_Op.f k (⟨#[115, 116, 97, 116, 115]⟩ : ByteArray) ([] : List Int)).bind fun bt223 => ((script_Tell.f k 7 0 0 0 false 0 0 0 (([(⟨3, 30⟩ : S50), (⟨4, 40⟩ : S50)] : List (S50)))).bind fun t240 => ((inclinelaw21_same.f k t182 (([(⟨(⟨#[112, 117, 116]⟩ : ByteArray), (([1, 10] : List Int))⟩ : S30), (⟨(⟨#[114, 97, 110, 103, 101]⟩ : ByteArray), (([0, 9] : List Int))⟩ : S30)] : List (S30)))).bind fun t241 => (if t241 = true then (if t183 = 0 then (if t184 = 0 then (if bt187.2.1 = 2 then (if bt187.2.2 = 211 then (if bt192.2.1 = 1 then (if bt192.2.2 = 212 then (if bt197.2.1 = 1 then (if bt197.2.2 = 213 then (if bt208.1.toList = ([115, 97, 118, 101, 10, 112, 97, 116, 104, 32, 48, 32, 55, 10] : List UInt8) then (if bt208.2 = 0 then (if bt213.2 = 211 then (if (bt218.1 == 7 && (bt218.2.1 == 9 && (bt218.2.2.1 == 3))) = true then (if bt218.2.2.2 = true then (if bt223.2.2.2 = true then (none) else (if t240.toList = ([50, 32, 51, 32, 51, 48, 32, 52, 32, 52, 48] : List UInt8) then ((script_Tell.f k 9 0 0 1 false 0 0 0 ([] : List (S50))).bind fun t242 => (some (t242.toList == ([101, 114, 114, 111, 114, 32, 49] : List UInt8)))) else (none))) else (none)) else (none)) else (none)) else (none)) else (none)) else (none)) else (none)) else (none)) else (none)) else (none)) else (none)) else (none)) else (none)) else (none))))))))))) = some r := H
  have A1 := Aside0.mk A10
  clear A10
  replace H := Option.bind_eq_some_iff.mp H
  obtain ⟨⟨t187, t188, t189⟩, A20, H⟩ := H
  replace H : ((script_Parse.f (⟨#[103, 101, 116, 32, 48, 49]⟩ : ByteArray)).bind fun bt192 => ((script_Parse.f (⟨#[103, 101, 116]⟩ : ByteArray)).bind fun bt197 => ((script_Print.f k (([(⟨(⟨#[115, 97, 118, 101]⟩ : ByteArray), ([] : List Int)⟩ : S30), (⟨(⟨#[112, 97, 116, 104]⟩ : ByteArray), (([0, 7] : List Int))⟩ : S30)] : List (S30)))).bind fun bt208 => ((script_Print.f k (([(⟨(⟨#[83, 97, 118, 101]⟩ : ByteArray), ([] : List Int)⟩ : S30)] : List (S30)))).bind fun bt213 => ((script_Op.f k (⟨#[114, 97, 110, 103, 101]⟩ : ByteArray) (([9, 3] : List Int))).bind fun bt218 => ((script_Op.f k (⟨#[115, 116, 97, 116, 115]⟩ : ByteArray) ([] : List Int)).bind fun bt223 => ((script_Tell.f k 7 0 0 0 false 0 0 0 (([(⟨3, 30⟩ : S50), (⟨4, 40⟩ : S50)] : List (S50)))).bind fun t240 => ((inclinelaw21_same.f k t182 (([(⟨(⟨#[112, 117, 116]⟩ : ByteArray), (([1, 10] : List Int))⟩ : S30), (⟨(⟨#[114, 97, 110, 103, 101]⟩ : ByteArray), (([0, 9] : List Int))⟩ : S30)] : List (S30)))).bind fun t241 => (if t241 = true then (if t183 = 0 then (if t184 = 0 then (if t188 = 2 then (if t189 = 211 then (if bt192.2.1 = 1 then (if bt192.2.2 = 212 then (if bt197.2.1 = 1 then (if bt197.2.2 = 213 then (if bt208.1.toList = ([115, 97, 118, 101, 10, 112, 97, 116, 104, 32, 48, 32, 55, 10] : List UInt8) then (if bt208.2 = 0 then (if bt213.2 = 211 then (if (bt218.1 == 7 && (bt218.2.1 == 9 && (bt218.2.2.1 == 3))) = true then (if bt218.2.2.2 = true then (if bt223.2.2.2 = true then (none) else (if t240.toList = ([50, 32, 51, 32, 51, 48, 32, 52, 32, 52, 48] : List UInt8) then ((script_Tell.f k 9 0 0 1 false 0 0 0 ([] : List (S50))).bind fun t242 => (some (t242.toList == ([101, 114, 114, 111, 114, 32, 49] : List UInt8)))) else (none))) else (none)) else (none)) else (none)) else (none)) else (none)) else (none)) else (none)) else (none)) else (none)) else (none)) else (none)) else (none)) else (none)) else (none)))))))))) = some r := H
  have A2 := Aside0.mk A20
  clear A20
  replace H := Option.bind_eq_some_iff.mp H
  obtain ⟨⟨t192, t193, t194⟩, A30, H⟩ := H
  replace H : ((script_Parse.f (⟨#[103, 101, 116]⟩ : ByteArray)).bind fun bt197 => ((script_Print.f k (([(⟨(⟨#[115, 97, 118, 101]⟩ : ByteArray), ([] : List Int)⟩ : S30), (⟨(⟨#[112, 97, 116, 104]⟩ : ByteArray), (([0, 7] : List Int))⟩ : S30)] : List (S30)))).bind fun bt208 => ((script_Print.f k (([(⟨(⟨#[83, 97, 118, 101]⟩ : ByteArray), ([] : List Int)⟩ : S30)] : List (S30)))).bind fun bt213 => ((script_Op.f k (⟨#[114, 97, 110, 103, 101]⟩ : ByteArray) (([9, 3] : List Int))).bind fun bt218 => ((script_Op.f k (⟨#[115, 116, 97, 116, 115]⟩ : ByteArray) ([] : List Int)).bind fun bt223 => ((script_Tell.f k 7 0 0 0 false 0 0 0 (([(⟨3, 30⟩ : S50), (⟨4, 40⟩ : S50)] : List (S50)))).bind fun t240 => ((inclinelaw21_same.f k t182 (([(⟨(⟨#[112, 117, 116]⟩ : ByteArray), (([1, 10] : List Int))⟩ : S30), (⟨(⟨#[114, 97, 110, 103, 101]⟩ : ByteArray), (([0, 9] : List Int))⟩ : S30)] : List (S30)))).bind fun t241 => (if t241 = true then (if t183 = 0 then (if t184 = 0 then (if t188 = 2 then (if t189 = 211 then (if t193 = 1 then (if t194 = 212 then (if bt197.2.1 = 1 then (if bt197.2.2 = 213 then (if bt208.1.toList = ([115, 97, 118, 101, 10, 112, 97, 116, 104, 32, 48, 32, 55, 10] : List UInt8) then (if bt208.2 = 0 then (if bt213.2 = 211 then (if (bt218.1 == 7 && (bt218.2.1 == 9 && (bt218.2.2.1 == 3))) = true then (if bt218.2.2.2 = true then (if bt223.2.2.2 = true then (none) else (if t240.toList = ([50, 32, 51, 32, 51, 48, 32, 52, 32, 52, 48] : List UInt8) then ((script_Tell.f k 9 0 0 1 false 0 0 0 ([] : List (S50))).bind fun t242 => (some (t242.toList == ([101, 114, 114, 111, 114, 32, 49] : List UInt8)))) else (none))) else (none)) else (none)) else (none)) else (none)) else (none)) else (none)) else (none)) else (none)) else (none)) else (none)) else (none)) else (none)) else (none)) else (none))))))))) = some r := H
  have A3 := Aside0.mk A30
  clear A30
  replace H := Option.bind_eq_some_iff.mp H
  obtain ⟨⟨t197, t198, t199⟩, A40, H⟩ := H
  replace H : ((script_Print.f k (([(⟨(⟨#[115, 97, 118, 101]⟩ : ByteArray), ([] : List Int)⟩ : S30), (⟨(⟨#[112, 97, 116, 104]⟩ : ByteArray), (([0, 7] : List Int))⟩ : S30)] : List (S30)))).bind fun bt208 => ((script_Print.f k (([(⟨(⟨#[83, 97, 118, 101]⟩ : ByteArray), ([] : List Int)⟩ : S30)] : List (S30)))).bind fun bt213 => ((script_Op.f k (⟨#[114, 97, 110, 103, 101]⟩ : ByteArray) (([9, 3] : List Int))).bind fun bt218 => ((script_Op.f k (⟨#[115, 116, 97, 116, 115]⟩ : ByteArray) ([] : List Int)).bind fun bt223 => ((script_Tell.f k 7 0 0 0 false 0 0 0 (([(⟨3, 30⟩ : S50), (⟨4, 40⟩ : S50)] : List (S50)))).bind fun t240 => ((inclinelaw21_same.f k t182 (([(⟨(⟨#[112, 117, 116]⟩ : ByteArray), (([1, 10] : List Int))⟩ : S30), (⟨(⟨#[114, 97, 110, 103, 101]⟩ : ByteArray), (([0, 9] : List Int))⟩ : S30)] : List (S30)))).bind fun t241 => (if t241 = true then (if t183 = 0 then (if t184 = 0 then (if t188 = 2 then (if t189 = 211 then (if t193 = 1 then (if t194 = 212 then (if t198 = 1 then (if t199 = 213 then (if bt208.1.toList = ([115, 97, 118, 101, 10, 112, 97, 116, 104, 32, 48, 32, 55, 10] : List UInt8) then (if bt208.2 = 0 then (if bt213.2 = 211 then (if (bt218.1 == 7 && (bt218.2.1 == 9 && (bt218.2.2.1 == 3))) = true then (if bt218.2.2.2 = true then (if bt223.2.2.2 = true then (none) else (if t240.toList = ([50, 32, 51, 32, 51, 48, 32, 52, 32, 52, 48] : List UInt8) then ((script_Tell.f k 9 0 0 1 false 0 0 0 ([] : List (S50))).bind fun t242 => (some (t242.toList == ([101, 114, 114, 111, 114, 32, 49] : List UInt8)))) else (none))) else (none)) else (none)) else (none)) else (none)) else (none)) else (none)) else (none)) else (none)) else (none)) else (none)) else (none)) else (none)) else (none)) else (none)))))))) = some r := H
  have A4 := Aside0.mk A40
  clear A40
  obtain ⟨y202, hy202⟩ : ∃ y_ : List Int, y_ = (([0, 7] : List Int)) := ⟨_, rfl⟩
  replace H : ((script_Print.f k (([(⟨(⟨#[115, 97, 118, 101]⟩ : ByteArray), ([] : List Int)⟩ : S30), (⟨(⟨#[112, 97, 116, 104]⟩ : ByteArray), y202⟩ : S30)] : List (S30)))).bind fun bt208 => ((script_Print.f k (([(⟨(⟨#[83, 97, 118, 101]⟩ : ByteArray), ([] : List Int)⟩ : S30)] : List (S30)))).bind fun bt213 => ((script_Op.f k (⟨#[114, 97, 110, 103, 101]⟩ : ByteArray) (([9, 3] : List Int))).bind fun bt218 => ((script_Op.f k (⟨#[115, 116, 97, 116, 115]⟩ : ByteArray) ([] : List Int)).bind fun bt223 => ((script_Tell.f k 7 0 0 0 false 0 0 0 (([(⟨3, 30⟩ : S50), (⟨4, 40⟩ : S50)] : List (S50)))).bind fun t240 => ((inclinelaw21_same.f k t182 (([(⟨(⟨#[112, 117, 116]⟩ : ByteArray), (([1, 10] : List Int))⟩ : S30), (⟨(⟨#[114, 97, 110, 103, 101]⟩ : ByteArray), (([0, 9] : List Int))⟩ : S30)] : List (S30)))).bind fun t241 => (if t241 = true then (if t183 = 0 then (if t184 = 0 then (if t188 = 2 then (if t189 = 211 then (if t193 = 1 then (if t194 = 212 then (if t198 = 1 then (if t199 = 213 then (if bt208.1.toList = ([115, 97, 118, 101, 10, 112, 97, 116, 104, 32, 48, 32, 55, 10] : List UInt8) then (if bt208.2 = 0 then (if bt213.2 = 211 then (if (bt218.1 == 7 && (bt218.2.1 == 9 && (bt218.2.2.1 == 3))) = true then (if bt218.2.2.2 = true then (if bt223.2.2.2 = true then (none) else (if t240.toList = ([50, 32, 51, 32, 51, 48, 32, 52, 32, 52, 48] : List UInt8) then ((script_Tell.f k 9 0 0 1 false 0 0 0 ([] : List (S50))).bind fun t242 => (some (t242.toList == ([101, 114, 114, 111, 114, 32, 49] : List UInt8)))) else (none))) else (none)) else (none)) else (none)) else (none)) else (none)) else (none)) else (none)) else (none)) else (none)) else (none)) else (none)) else (none)) else (none)) else (none)))))))) = some r := by first | (rw [hy202]; with_reducible exact H) | (have H2_ := (Option.bind_some _ _).symm.trans H; rw [hy202]; with_reducible exact H2_) | (have H2_ := (Option.bind_some _ _).symm.trans H; with_reducible exact H2_) | with_reducible exact H | (rw [hy202]; exact H) | exact H
  have Ny202 := Aside0.mk hy202
  clear hy202
  obtain ⟨y205, hy205⟩ : ∃ y_ : List (S30), y_ = (([(⟨(⟨#[115, 97, 118, 101]⟩ : ByteArray), ([] : List Int)⟩ : S30), (⟨(⟨#[112, 97, 116, 104]⟩ : ByteArray), y202⟩ : S30)] : List (S30))) := ⟨_, rfl⟩
  replace H : ((script_Print.f k y205).bind fun bt208 => ((script_Print.f k (([(⟨(⟨#[83, 97, 118, 101]⟩ : ByteArray), ([] : List Int)⟩ : S30)] : List (S30)))).bind fun bt213 => ((script_Op.f k (⟨#[114, 97, 110, 103, 101]⟩ : ByteArray) (([9, 3] : List Int))).bind fun bt218 => ((script_Op.f k (⟨#[115, 116, 97, 116, 115]⟩ : ByteArray) ([] : List Int)).bind fun bt223 => ((script_Tell.f k 7 0 0 0 false 0 0 0 (([(⟨3, 30⟩ : S50), (⟨4, 40⟩ : S50)] : List (S50)))).bind fun t240 => ((inclinelaw21_same.f k t182 (([(⟨(⟨#[112, 117, 116]⟩ : ByteArray), (([1, 10] : List Int))⟩ : S30), (⟨(⟨#[114, 97, 110, 103, 101]⟩ : ByteArray), (([0, 9] : List Int))⟩ : S30)] : List (S30)))).bind fun t241 => (if t241 = true then (if t183 = 0 then (if t184 = 0 then (if t188 = 2 then (if t189 = 211 then (if t193 = 1 then (if t194 = 212 then (if t198 = 1 then (if t199 = 213 then (if bt208.1.toList = ([115, 97, 118, 101, 10, 112, 97, 116, 104, 32, 48, 32, 55, 10] : List UInt8) then (if bt208.2 = 0 then (if bt213.2 = 211 then (if (bt218.1 == 7 && (bt218.2.1 == 9 && (bt218.2.2.1 == 3))) = true then (if bt218.2.2.2 = true then (if bt223.2.2.2 = true then (none) else (if t240.toList = ([50, 32, 51, 32, 51, 48, 32, 52, 32, 52, 48] : List UInt8) then ((script_Tell.f k 9 0 0 1 false 0 0 0 ([] : List (S50))).bind fun t242 => (some (t242.toList == ([101, 114, 114, 111, 114, 32, 49] : List UInt8)))) else (none))) else (none)) else (none)) else (none)) else (none)) else (none)) else (none)) else (none)) else (none)) else (none)) else (none)) else (none)) else (none)) else (none)) else (none)))))))) = some r := by first | (rw [hy205]; with_reducible exact H) | (have H2_ := (Option.bind_some _ _).symm.trans H; rw [hy205]; with_reducible exact H2_) | (have H2_ := (Option.bind_some _ _).symm.trans H; with_reducible exact H2_) | with_reducible exact H | (rw [hy205]; exact H) | exact H
  have Ny205 := Aside0.mk hy205
  clear hy205
  replace H := Option.bind_eq_some_iff.mp H
  obtain ⟨⟨t208, t209⟩, A50, H⟩ := H
  replace H : ((script_Print.f k (([(⟨(⟨#[83, 97, 118, 101]⟩ : ByteArray), ([] : List Int)⟩ : S30)] : List (S30)))).bind fun bt213 => ((script_Op.f k (⟨#[114, 97, 110, 103, 101]⟩ : ByteArray) (([9, 3] : List Int))).bind fun bt218 => ((script_Op.f k (⟨#[115, 116, 97, 116, 115]⟩ : ByteArray) ([] : List Int)).bind fun bt223 => ((script_Tell.f k 7 0 0 0 false 0 0 0 (([(⟨3, 30⟩ : S50), (⟨4, 40⟩ : S50)] : List (S50)))).bind fun t240 => ((inclinelaw21_same.f k t182 (([(⟨(⟨#[112, 117, 116]⟩ : ByteArray), (([1, 10] : List Int))⟩ : S30), (⟨(⟨#[114, 97, 110, 103, 101]⟩ : ByteArray), (([0, 9] : List Int))⟩ : S30)] : List (S30)))).bind fun t241 => (if t241 = true then (if t183 = 0 then (if t184 = 0 then (if t188 = 2 then (if t189 = 211 then (if t193 = 1 then (if t194 = 212 then (if t198 = 1 then (if t199 = 213 then (if t208.toList = ([115, 97, 118, 101, 10, 112, 97, 116, 104, 32, 48, 32, 55, 10] : List UInt8) then (if t209 = 0 then (if bt213.2 = 211 then (if (bt218.1 == 7 && (bt218.2.1 == 9 && (bt218.2.2.1 == 3))) = true then (if bt218.2.2.2 = true then (if bt223.2.2.2 = true then (none) else (if t240.toList = ([50, 32, 51, 32, 51, 48, 32, 52, 32, 52, 48] : List UInt8) then ((script_Tell.f k 9 0 0 1 false 0 0 0 ([] : List (S50))).bind fun t242 => (some (t242.toList == ([101, 114, 114, 111, 114, 32, 49] : List UInt8)))) else (none))) else (none)) else (none)) else (none)) else (none)) else (none)) else (none)) else (none)) else (none)) else (none)) else (none)) else (none)) else (none)) else (none)) else (none))))))) = some r := H
  have A5 := Aside0.mk A50
  clear A50
  obtain ⟨y210, hy210⟩ : ∃ y_ : List (S30), y_ = (([(⟨(⟨#[83, 97, 118, 101]⟩ : ByteArray), ([] : List Int)⟩ : S30)] : List (S30))) := ⟨_, rfl⟩
  replace H : ((script_Print.f k y210).bind fun bt213 => ((script_Op.f k (⟨#[114, 97, 110, 103, 101]⟩ : ByteArray) (([9, 3] : List Int))).bind fun bt218 => ((script_Op.f k (⟨#[115, 116, 97, 116, 115]⟩ : ByteArray) ([] : List Int)).bind fun bt223 => ((script_Tell.f k 7 0 0 0 false 0 0 0 (([(⟨3, 30⟩ : S50), (⟨4, 40⟩ : S50)] : List (S50)))).bind fun t240 => ((inclinelaw21_same.f k t182 (([(⟨(⟨#[112, 117, 116]⟩ : ByteArray), (([1, 10] : List Int))⟩ : S30), (⟨(⟨#[114, 97, 110, 103, 101]⟩ : ByteArray), (([0, 9] : List Int))⟩ : S30)] : List (S30)))).bind fun t241 => (if t241 = true then (if t183 = 0 then (if t184 = 0 then (if t188 = 2 then (if t189 = 211 then (if t193 = 1 then (if t194 = 212 then (if t198 = 1 then (if t199 = 213 then (if t208.toList = ([115, 97, 118, 101, 10, 112, 97, 116, 104, 32, 48, 32, 55, 10] : List UInt8) then (if t209 = 0 then (if bt213.2 = 211 then (if (bt218.1 == 7 && (bt218.2.1 == 9 && (bt218.2.2.1 == 3))) = true then (if bt218.2.2.2 = true then (if bt223.2.2.2 = true then (none) else (if t240.toList = ([50, 32, 51, 32, 51, 48, 32, 52, 32, 52, 48] : List UInt8) then ((script_Tell.f k 9 0 0 1 false 0 0 0 ([] : List (S50))).bind fun t242 => (some (t242.toList == ([101, 114, 114, 111, 114, 32, 49] : List UInt8)))) else (none))) else (none)) else (none)) else (none)) else (none)) else (none)) else (none)) else (none)) else (none)) else (none)) else (none)) else (none)) else (none)) else (none)) else (none))))))) = some r := by first | (rw [hy210]; with_reducible exact H) | (have H2_ := (Option.bind_some _ _).symm.trans H; rw [hy210]; with_reducible exact H2_) | (have H2_ := (Option.bind_some _ _).symm.trans H; with_reducible exact H2_) | with_reducible exact H | (rw [hy210]; exact H) | exact H
  have Ny210 := Aside0.mk hy210
  clear hy210
  replace H := Option.bind_eq_some_iff.mp H
  obtain ⟨⟨t213, t214⟩, A60, H⟩ := H
  replace H : ((script_Op.f k (⟨#[114, 97, 110, 103, 101]⟩ : ByteArray) (([9, 3] : List Int))).bind fun bt218 => ((script_Op.f k (⟨#[115, 116, 97, 116, 115]⟩ : ByteArray) ([] : List Int)).bind fun bt223 => ((script_Tell.f k 7 0 0 0 false 0 0 0 (([(⟨3, 30⟩ : S50), (⟨4, 40⟩ : S50)] : List (S50)))).bind fun t240 => ((inclinelaw21_same.f k t182 (([(⟨(⟨#[112, 117, 116]⟩ : ByteArray), (([1, 10] : List Int))⟩ : S30), (⟨(⟨#[114, 97, 110, 103, 101]⟩ : ByteArray), (([0, 9] : List Int))⟩ : S30)] : List (S30)))).bind fun t241 => (if t241 = true then (if t183 = 0 then (if t184 = 0 then (if t188 = 2 then (if t189 = 211 then (if t193 = 1 then (if t194 = 212 then (if t198 = 1 then (if t199 = 213 then (if t208.toList = ([115, 97, 118, 101, 10, 112, 97, 116, 104, 32, 48, 32, 55, 10] : List UInt8) then (if t209 = 0 then (if t214 = 211 then (if (bt218.1 == 7 && (bt218.2.1 == 9 && (bt218.2.2.1 == 3))) = true then (if bt218.2.2.2 = true then (if bt223.2.2.2 = true then (none) else (if t240.toList = ([50, 32, 51, 32, 51, 48, 32, 52, 32, 52, 48] : List UInt8) then ((script_Tell.f k 9 0 0 1 false 0 0 0 ([] : List (S50))).bind fun t242 => (some (t242.toList == ([101, 114, 114, 111, 114, 32, 49] : List UInt8)))) else (none))) else (none)) else (none)) else (none)) else (none)) else (none)) else (none)) else (none)) else (none)) else (none)) else (none)) else (none)) else (none)) else (none)) else (none)))))) = some r := H
  have A6 := Aside0.mk A60
  clear A60
  obtain ⟨y215, hy215⟩ : ∃ y_ : List Int, y_ = (([9, 3] : List Int)) := ⟨_, rfl⟩
  replace H : ((script_Op.f k (⟨#[114, 97, 110, 103, 101]⟩ : ByteArray) y215).bind fun bt218 => ((script_Op.f k (⟨#[115, 116, 97, 116, 115]⟩ : ByteArray) ([] : List Int)).bind fun bt223 => ((script_Tell.f k 7 0 0 0 false 0 0 0 (([(⟨3, 30⟩ : S50), (⟨4, 40⟩ : S50)] : List (S50)))).bind fun t240 => ((inclinelaw21_same.f k t182 (([(⟨(⟨#[112, 117, 116]⟩ : ByteArray), (([1, 10] : List Int))⟩ : S30), (⟨(⟨#[114, 97, 110, 103, 101]⟩ : ByteArray), (([0, 9] : List Int))⟩ : S30)] : List (S30)))).bind fun t241 => (if t241 = true then (if t183 = 0 then (if t184 = 0 then (if t188 = 2 then (if t189 = 211 then (if t193 = 1 then (if t194 = 212 then (if t198 = 1 then (if t199 = 213 then (if t208.toList = ([115, 97, 118, 101, 10, 112, 97, 116, 104, 32, 48, 32, 55, 10] : List UInt8) then (if t209 = 0 then (if t214 = 211 then (if (bt218.1 == 7 && (bt218.2.1 == 9 && (bt218.2.2.1 == 3))) = true then (if bt218.2.2.2 = true then (if bt223.2.2.2 = true then (none) else (if t240.toList = ([50, 32, 51, 32, 51, 48, 32, 52, 32, 52, 48] : List UInt8) then ((script_Tell.f k 9 0 0 1 false 0 0 0 ([] : List (S50))).bind fun t242 => (some (t242.toList == ([101, 114, 114, 111, 114, 32, 49] : List UInt8)))) else (none))) else (none)) else (none)) else (none)) else (none)) else (none)) else (none)) else (none)) else (none)) else (none)) else (none)) else (none)) else (none)) else (none)) else (none)))))) = some r := by first | (rw [hy215]; with_reducible exact H) | (have H2_ := (Option.bind_some _ _).symm.trans H; rw [hy215]; with_reducible exact H2_) | (have H2_ := (Option.bind_some _ _).symm.trans H; with_reducible exact H2_) | with_reducible exact H | (rw [hy215]; exact H) | exact H
  have Ny215 := Aside0.mk hy215
  clear hy215
  replace H := Option.bind_eq_some_iff.mp H
  obtain ⟨⟨t218, t219, t220, t221⟩, A70, H⟩ := H
  replace H : ((script_Op.f k (⟨#[115, 116, 97, 116, 115]⟩ : ByteArray) ([] : List Int)).bind fun bt223 => ((script_Tell.f k 7 0 0 0 false 0 0 0 (([(⟨3, 30⟩ : S50), (⟨4, 40⟩ : S50)] : List (S50)))).bind fun t240 => ((inclinelaw21_same.f k t182 (([(⟨(⟨#[112, 117, 116]⟩ : ByteArray), (([1, 10] : List Int))⟩ : S30), (⟨(⟨#[114, 97, 110, 103, 101]⟩ : ByteArray), (([0, 9] : List Int))⟩ : S30)] : List (S30)))).bind fun t241 => (if t241 = true then (if t183 = 0 then (if t184 = 0 then (if t188 = 2 then (if t189 = 211 then (if t193 = 1 then (if t194 = 212 then (if t198 = 1 then (if t199 = 213 then (if t208.toList = ([115, 97, 118, 101, 10, 112, 97, 116, 104, 32, 48, 32, 55, 10] : List UInt8) then (if t209 = 0 then (if t214 = 211 then (if (t218 == 7 && (t219 == 9 && (t220 == 3))) = true then (if t221 = true then (if bt223.2.2.2 = true then (none) else (if t240.toList = ([50, 32, 51, 32, 51, 48, 32, 52, 32, 52, 48] : List UInt8) then ((script_Tell.f k 9 0 0 1 false 0 0 0 ([] : List (S50))).bind fun t242 => (some (t242.toList == ([101, 114, 114, 111, 114, 32, 49] : List UInt8)))) else (none))) else (none)) else (none)) else (none)) else (none)) else (none)) else (none)) else (none)) else (none)) else (none)) else (none)) else (none)) else (none)) else (none)) else (none))))) = some r := H
  have A7 := Aside0.mk A70
  clear A70
  replace H := Option.bind_eq_some_iff.mp H
  obtain ⟨⟨t223, t224, t225, t226⟩, A80, H⟩ := H
  replace H : ((script_Tell.f k 7 0 0 0 false 0 0 0 (([(⟨3, 30⟩ : S50), (⟨4, 40⟩ : S50)] : List (S50)))).bind fun t240 => ((inclinelaw21_same.f k t182 (([(⟨(⟨#[112, 117, 116]⟩ : ByteArray), (([1, 10] : List Int))⟩ : S30), (⟨(⟨#[114, 97, 110, 103, 101]⟩ : ByteArray), (([0, 9] : List Int))⟩ : S30)] : List (S30)))).bind fun t241 => (if t241 = true then (if t183 = 0 then (if t184 = 0 then (if t188 = 2 then (if t189 = 211 then (if t193 = 1 then (if t194 = 212 then (if t198 = 1 then (if t199 = 213 then (if t208.toList = ([115, 97, 118, 101, 10, 112, 97, 116, 104, 32, 48, 32, 55, 10] : List UInt8) then (if t209 = 0 then (if t214 = 211 then (if (t218 == 7 && (t219 == 9 && (t220 == 3))) = true then (if t221 = true then (if t226 = true then (none) else (if t240.toList = ([50, 32, 51, 32, 51, 48, 32, 52, 32, 52, 48] : List UInt8) then ((script_Tell.f k 9 0 0 1 false 0 0 0 ([] : List (S50))).bind fun t242 => (some (t242.toList == ([101, 114, 114, 111, 114, 32, 49] : List UInt8)))) else (none))) else (none)) else (none)) else (none)) else (none)) else (none)) else (none)) else (none)) else (none)) else (none)) else (none)) else (none)) else (none)) else (none)) else (none)))) = some r := H
  have A8 := Aside0.mk A80
  clear A80
  obtain ⟨y228, hy228⟩ : ∃ y_ : List Int, y_ = (([1, 10] : List Int)) := ⟨_, rfl⟩
  replace H : ((script_Tell.f k 7 0 0 0 false 0 0 0 (([(⟨3, 30⟩ : S50), (⟨4, 40⟩ : S50)] : List (S50)))).bind fun t240 => ((inclinelaw21_same.f k t182 (([(⟨(⟨#[112, 117, 116]⟩ : ByteArray), y228⟩ : S30), (⟨(⟨#[114, 97, 110, 103, 101]⟩ : ByteArray), (([0, 9] : List Int))⟩ : S30)] : List (S30)))).bind fun t241 => (if t241 = true then (if t183 = 0 then (if t184 = 0 then (if t188 = 2 then (if t189 = 211 then (if t193 = 1 then (if t194 = 212 then (if t198 = 1 then (if t199 = 213 then (if t208.toList = ([115, 97, 118, 101, 10, 112, 97, 116, 104, 32, 48, 32, 55, 10] : List UInt8) then (if t209 = 0 then (if t214 = 211 then (if (t218 == 7 && (t219 == 9 && (t220 == 3))) = true then (if t221 = true then (if t226 = true then (none) else (if t240.toList = ([50, 32, 51, 32, 51, 48, 32, 52, 32, 52, 48] : List UInt8) then ((script_Tell.f k 9 0 0 1 false 0 0 0 ([] : List (S50))).bind fun t242 => (some (t242.toList == ([101, 114, 114, 111, 114, 32, 49] : List UInt8)))) else (none))) else (none)) else (none)) else (none)) else (none)) else (none)) else (none)) else (none)) else (none)) else (none)) else (none)) else (none)) else (none)) else (none)) else (none)))) = some r := by first | (rw [hy228]; with_reducible exact H) | (have H2_ := (Option.bind_some _ _).symm.trans H; rw [hy228]; with_reducible exact H2_) | (have H2_ := (Option.bind_some _ _).symm.trans H; with_reducible exact H2_) | with_reducible exact H | (rw [hy228]; exact H) | exact H
  have Ny228 := Aside0.mk hy228
  clear hy228
  obtain ⟨y231, hy231⟩ : ∃ y_ : List Int, y_ = (([0, 9] : List Int)) := ⟨_, rfl⟩
  replace H : ((script_Tell.f k 7 0 0 0 false 0 0 0 (([(⟨3, 30⟩ : S50), (⟨4, 40⟩ : S50)] : List (S50)))).bind fun t240 => ((inclinelaw21_same.f k t182 (([(⟨(⟨#[112, 117, 116]⟩ : ByteArray), y228⟩ : S30), (⟨(⟨#[114, 97, 110, 103, 101]⟩ : ByteArray), y231⟩ : S30)] : List (S30)))).bind fun t241 => (if t241 = true then (if t183 = 0 then (if t184 = 0 then (if t188 = 2 then (if t189 = 211 then (if t193 = 1 then (if t194 = 212 then (if t198 = 1 then (if t199 = 213 then (if t208.toList = ([115, 97, 118, 101, 10, 112, 97, 116, 104, 32, 48, 32, 55, 10] : List UInt8) then (if t209 = 0 then (if t214 = 211 then (if (t218 == 7 && (t219 == 9 && (t220 == 3))) = true then (if t221 = true then (if t226 = true then (none) else (if t240.toList = ([50, 32, 51, 32, 51, 48, 32, 52, 32, 52, 48] : List UInt8) then ((script_Tell.f k 9 0 0 1 false 0 0 0 ([] : List (S50))).bind fun t242 => (some (t242.toList == ([101, 114, 114, 111, 114, 32, 49] : List UInt8)))) else (none))) else (none)) else (none)) else (none)) else (none)) else (none)) else (none)) else (none)) else (none)) else (none)) else (none)) else (none)) else (none)) else (none)) else (none)))) = some r := by first | (rw [hy231]; with_reducible exact H) | (have H2_ := (Option.bind_some _ _).symm.trans H; rw [hy231]; with_reducible exact H2_) | (have H2_ := (Option.bind_some _ _).symm.trans H; with_reducible exact H2_) | with_reducible exact H | (rw [hy231]; exact H) | exact H
  have Ny231 := Aside0.mk hy231
  clear hy231
  obtain ⟨y234, hy234⟩ : ∃ y_ : List (S30), y_ = (([(⟨(⟨#[112, 117, 116]⟩ : ByteArray), y228⟩ : S30), (⟨(⟨#[114, 97, 110, 103, 101]⟩ : ByteArray), y231⟩ : S30)] : List (S30))) := ⟨_, rfl⟩
  replace H : ((script_Tell.f k 7 0 0 0 false 0 0 0 (([(⟨3, 30⟩ : S50), (⟨4, 40⟩ : S50)] : List (S50)))).bind fun t240 => ((inclinelaw21_same.f k t182 y234).bind fun t241 => (if t241 = true then (if t183 = 0 then (if t184 = 0 then (if t188 = 2 then (if t189 = 211 then (if t193 = 1 then (if t194 = 212 then (if t198 = 1 then (if t199 = 213 then (if t208.toList = ([115, 97, 118, 101, 10, 112, 97, 116, 104, 32, 48, 32, 55, 10] : List UInt8) then (if t209 = 0 then (if t214 = 211 then (if (t218 == 7 && (t219 == 9 && (t220 == 3))) = true then (if t221 = true then (if t226 = true then (none) else (if t240.toList = ([50, 32, 51, 32, 51, 48, 32, 52, 32, 52, 48] : List UInt8) then ((script_Tell.f k 9 0 0 1 false 0 0 0 ([] : List (S50))).bind fun t242 => (some (t242.toList == ([101, 114, 114, 111, 114, 32, 49] : List UInt8)))) else (none))) else (none)) else (none)) else (none)) else (none)) else (none)) else (none)) else (none)) else (none)) else (none)) else (none)) else (none)) else (none)) else (none)) else (none)))) = some r := by first | (rw [hy234]; with_reducible exact H) | (have H2_ := (Option.bind_some _ _).symm.trans H; rw [hy234]; with_reducible exact H2_) | (have H2_ := (Option.bind_some _ _).symm.trans H; with_reducible exact H2_) | with_reducible exact H | (rw [hy234]; exact H) | exact H
  have Ny234 := Aside0.mk hy234
  clear hy234
  obtain ⟨y237, hy237⟩ : ∃ y_ : List (S50), y_ = (([(⟨3, 30⟩ : S50), (⟨4, 40⟩ : S50)] : List (S50))) := ⟨_, rfl⟩
  replace H : ((script_Tell.f k 7 0 0 0 false 0 0 0 y237).bind fun t240 => ((inclinelaw21_same.f k t182 y234).bind fun t241 => (if t241 = true then (if t183 = 0 then (if t184 = 0 then (if t188 = 2 then (if t189 = 211 then (if t193 = 1 then (if t194 = 212 then (if t198 = 1 then (if t199 = 213 then (if t208.toList = ([115, 97, 118, 101, 10, 112, 97, 116, 104, 32, 48, 32, 55, 10] : List UInt8) then (if t209 = 0 then (if t214 = 211 then (if (t218 == 7 && (t219 == 9 && (t220 == 3))) = true then (if t221 = true then (if t226 = true then (none) else (if t240.toList = ([50, 32, 51, 32, 51, 48, 32, 52, 32, 52, 48] : List UInt8) then ((script_Tell.f k 9 0 0 1 false 0 0 0 ([] : List (S50))).bind fun t242 => (some (t242.toList == ([101, 114, 114, 111, 114, 32, 49] : List UInt8)))) else (none))) else (none)) else (none)) else (none)) else (none)) else (none)) else (none)) else (none)) else (none)) else (none)) else (none)) else (none)) else (none)) else (none)) else (none)))) = some r := by first | (rw [hy237]; with_reducible exact H) | (have H2_ := (Option.bind_some _ _).symm.trans H; rw [hy237]; with_reducible exact H2_) | (have H2_ := (Option.bind_some _ _).symm.trans H; with_reducible exact H2_) | with_reducible exact H | (rw [hy237]; exact H) | exact H
  have Ny237 := Aside0.mk hy237
  clear hy237
  replace H := Option.bind_eq_some_iff.mp H
  obtain ⟨t240, A90, H⟩ := H
  replace H : ((inclinelaw21_same.f k t182 y234).bind fun t241 => (if t241 = true then (if t183 = 0 then (if t184 = 0 then (if t188 = 2 then (if t189 = 211 then (if t193 = 1 then (if t194 = 212 then (if t198 = 1 then (if t199 = 213 then (if t208.toList = ([115, 97, 118, 101, 10, 112, 97, 116, 104, 32, 48, 32, 55, 10] : List UInt8) then (if t209 = 0 then (if t214 = 211 then (if (t218 == 7 && (t219 == 9 && (t220 == 3))) = true then (if t221 = true then (if t226 = true then (none) else (if t240.toList = ([50, 32, 51, 32, 51, 48, 32, 52, 32, 52, 48] : List UInt8) then ((script_Tell.f k 9 0 0 1 false 0 0 0 ([] : List (S50))).bind fun t242 => (some (t242.toList == ([101, 114, 114, 111, 114, 32, 49] : List UInt8)))) else (none))) else (none)) else (none)) else (none)) else (none)) else (none)) else (none)) else (none)) else (none)) else (none)) else (none)) else (none)) else (none)) else (none)) else (none))) = some r := H
  have A9 := Aside0.mk A90
  clear A90
  replace H := Option.bind_eq_some_iff.mp H
  obtain ⟨t241, A100, H⟩ := H
  replace H : (if t241 = true then (if t183 = 0 then (if t184 = 0 then (if t188 = 2 then (if t189 = 211 then (if t193 = 1 then (if t194 = 212 then (if t198 = 1 then (if t199 = 213 then (if t208.toList = ([115, 97, 118, 101, 10, 112, 97, 116, 104, 32, 48, 32, 55, 10] : List UInt8) then (if t209 = 0 then (if t214 = 211 then (if (t218 == 7 && (t219 == 9 && (t220 == 3))) = true then (if t221 = true then (if t226 = true then (none) else (if t240.toList = ([50, 32, 51, 32, 51, 48, 32, 52, 32, 52, 48] : List UInt8) then ((script_Tell.f k 9 0 0 1 false 0 0 0 ([] : List (S50))).bind fun t242 => (some (t242.toList == ([101, 114, 114, 111, 114, 32, 49] : List UInt8)))) else (none))) else (none)) else (none)) else (none)) else (none)) else (none)) else (none)) else (none)) else (none)) else (none)) else (none)) else (none)) else (none)) else (none)) else (none)) = some r := H
  have A10 := Aside0.mk A100
  clear A100
  by_cases c11 : t241 = true
  · subst c11
    have H1 : (if t183 = 0 then (if t184 = 0 then (if t188 = 2 then (if t189 = 211 then (if t193 = 1 then (if t194 = 212 then (if t198 = 1 then (if t199 = 213 then (if t208.toList = ([115, 97, 118, 101, 10, 112, 97, 116, 104, 32, 48, 32, 55, 10] : List UInt8) then (if t209 = 0 then (if t214 = 211 then (if (t218 == 7 && (t219 == 9 && (t220 == 3))) = true then (if t221 = true then (if t226 = true then (none) else (if t240.toList = ([50, 32, 51, 32, 51, 48, 32, 52, 32, 52, 48] : List UInt8) then ((script_Tell.f k 9 0 0 1 false 0 0 0 ([] : List (S50))).bind fun t242 => (some (t242.toList == ([101, 114, 114, 111, 114, 32, 49] : List UInt8)))) else (none))) else (none)) else (none)) else (none)) else (none)) else (none)) else (none)) else (none)) else (none)) else (none)) else (none)) else (none)) else (none)) else (none)) = some r := by rw [if_pos rfl] at H; exact H
    clear H
    have H := H1
    clear H1
    by_cases c12 : t183 = 0
    · rw [if_pos c12] at H
      have c12b0 : (t183 == 0) = true := beq_iff_eq.mpr c12
      have c12b1 : (t183 != 0) = false := bne_eq_false_iff_eq.mpr c12
      clear c12
      by_cases c13 : t184 = 0
      · rw [if_pos c13] at H
        have c13b0 : (t184 == 0) = true := beq_iff_eq.mpr c13
        have c13b1 : (t184 != 0) = false := bne_eq_false_iff_eq.mpr c13
        clear c13
        by_cases c14 : t188 = 2
        · rw [if_pos c14] at H
          have c14b0 : (t188 == 2) = true := beq_iff_eq.mpr c14
          have c14b1 : (t188 != 2) = false := bne_eq_false_iff_eq.mpr c14
          clear c14
          by_cases c15 : t189 = 211
          · rw [if_pos c15] at H
            have c15b0 : (t189 == 211) = true := beq_iff_eq.mpr c15
            have c15b1 : (t189 != 211) = false := bne_eq_false_iff_eq.mpr c15
            clear c15
            by_cases c16 : t193 = 1
            · rw [if_pos c16] at H
              have c16b0 : (t193 == 1) = true := beq_iff_eq.mpr c16
              have c16b1 : (t193 != 1) = false := bne_eq_false_iff_eq.mpr c16
              clear c16
              by_cases c17 : t194 = 212
              · rw [if_pos c17] at H
                have c17b0 : (t194 == 212) = true := beq_iff_eq.mpr c17
                have c17b1 : (t194 != 212) = false := bne_eq_false_iff_eq.mpr c17
                clear c17
                by_cases c18 : t198 = 1
                · rw [if_pos c18] at H
                  have c18b0 : (t198 == 1) = true := beq_iff_eq.mpr c18
                  have c18b1 : (t198 != 1) = false := bne_eq_false_iff_eq.mpr c18
                  clear c18
                  by_cases c19 : t199 = 213
                  · rw [if_pos c19] at H
                    have c19b0 : (t199 == 213) = true := beq_iff_eq.mpr c19
                    have c19b1 : (t199 != 213) = false := bne_eq_false_iff_eq.mpr c19
                    clear c19
                    by_cases c20 : t208.toList = ([115, 97, 118, 101, 10, 112, 97, 116, 104, 32, 48, 32, 55, 10] : List UInt8)
                    · rw [if_pos c20] at H
                      have c20b0 : (t208.toList == ([115, 97, 118, 101, 10, 112, 97, 116, 104, 32, 48, 32, 55, 10] : List UInt8)) = true := beq_iff_eq.mpr c20
                      have c20b1 : (t208.toList != ([115, 97, 118, 101, 10, 112, 97, 116, 104, 32, 48, 32, 55, 10] : List UInt8)) = false := bne_eq_false_iff_eq.mpr c20
                      clear c20
                      by_cases c21 : t209 = 0
                      · rw [if_pos c21] at H
                        have c21b0 : (t209 == 0) = true := beq_iff_eq.mpr c21
                        have c21b1 : (t209 != 0) = false := bne_eq_false_iff_eq.mpr c21
                        clear c21
                        by_cases c22 : t214 = 211
                        · rw [if_pos c22] at H
                          have c22b0 : (t214 == 211) = true := beq_iff_eq.mpr c22
                          have c22b1 : (t214 != 211) = false := bne_eq_false_iff_eq.mpr c22
                          clear c22
                          by_cases c23 : (t218 == 7 && (t219 == 9 && (t220 == 3))) = true
                          · rw [if_pos c23] at H
                            have c23b0 : (t218 == 7 && (t219 == 9 && (t220 == 3))) = true := c23
                            (try (have c23b1 : decide (t218 = 7 && (t219 == 9 && (t220 == 3))) = true := by simpa using c23))
                            (try (have c23b2 : (t218 == 7 && (t219 == 9 && (t220 == 3))) = true := by simpa using c23))
                            clear c23
                            by_cases c24 : t221 = true
                            · subst c24
                              have H1 : (if t226 = true then (none) else (if t240.toList = ([50, 32, 51, 32, 51, 48, 32, 52, 32, 52, 48] : List UInt8) then ((script_Tell.f k 9 0 0 1 false 0 0 0 ([] : List (S50))).bind fun t242 => (some (t242.toList == ([101, 114, 114, 111, 114, 32, 49] : List UInt8)))) else (none))) = some r := by rw [if_pos rfl] at H; exact H
                              clear H
                              have H := H1
                              clear H1
                              by_cases c25 : t226 = true
                              · subst c25
                                have H1 : (none) = some r := by rw [if_pos rfl] at H; exact H
                                clear H
                                have H := H1
                                clear H1
                                exact absurd H (by simp)
                              · replace c25 := Bool.eq_false_iff.mpr c25
                                subst c25
                                have H1 : (if t240.toList = ([50, 32, 51, 32, 51, 48, 32, 52, 32, 52, 48] : List UInt8) then ((script_Tell.f k 9 0 0 1 false 0 0 0 ([] : List (S50))).bind fun t242 => (some (t242.toList == ([101, 114, 114, 111, 114, 32, 49] : List UInt8)))) else (none)) = some r := by rw [if_neg (show ¬ (false = true) by decide)] at H; exact H
                                clear H
                                have H := H1
                                clear H1
                                by_cases c26 : t240.toList = ([50, 32, 51, 32, 51, 48, 32, 52, 32, 52, 48] : List UInt8)
                                · rw [if_pos c26] at H
                                  have c26b0 : (t240.toList == ([50, 32, 51, 32, 51, 48, 32, 52, 32, 52, 48] : List UInt8)) = true := beq_iff_eq.mpr c26
                                  have c26b1 : (t240.toList != ([50, 32, 51, 32, 51, 48, 32, 52, 32, 52, 48] : List UInt8)) = false := bne_eq_false_iff_eq.mpr c26
                                  clear c26
                                  replace H := Option.bind_eq_some_iff.mp H
                                  obtain ⟨t242, A270, H⟩ := H
                                  replace H : (some (t242.toList == ([101, 114, 114, 111, 114, 32, 49] : List UInt8))) = some r := H
                                  have A27 := Aside0.mk A270
                                  clear A270
                                  obtain rfl := Option.some.inj H
                                  go_enter Tryd.func11, Tryd.ntmps11
                                  go_wp2_with (first | ((with_reducible refine gate_callee (f := 12) rfl ?_); refine goesL_ (some 24) rfl rfl Tryd.func12 (by kernel_rfl) rfl #[.string (⟨#[112, 117, 116, 32, 49, 32, 49, 48, 10, 10, 35, 32, 97, 108, 108, 10, 32, 32, 114, 97, 110, 103, 101, 32, 48, 32, 32, 32, 57, 32]⟩ : ByteArray)] rfl (by (try simp only [List.map_toArray, List.map_cons, List.map_nil]); first | done | rfl | (simp only [List.length_drop, List.length_take]; rfl)) ?_; (with_reducible refine (script_Parse.calls (⟨#[112, 117, 116, 32, 49, 32, 49, 48, 10, 10, 35, 32, 97, 108, 108, 10, 32, 32, 114, 97, 110, 103, 101, 32, 48, 32, 32, 32, 57, 32]⟩ : ByteArray) t182 t183 t184 _ A1.out).mono ?_); rintro e w28 ⟨v185, rfl, ho0, hb⟩; refine ⟨_, rfl, ?_⟩; have n0_ := Aside0.mk (Kd.N_lower (Kd.N_mono (ok' := fun k_ => True) (Kd.S_N (Kd.S_bound ho0)) (fun k_ hk_ => trivial)) (below_size (by repeat (first | (with_reducible first | exact HB.out | apply below_alloc | apply pw_below_drewN | apply below_drew1) | exact HB.out)))); have n1_ := Aside0.mk (below_step (by repeat (first | (with_reducible first | exact HB.out | apply below_alloc | apply pw_below_drewN | apply below_drew1) | exact HB.out)) hb); clear HB; have HO186 := n0_; have HB := n1_; clear n0_ n1_; (try clear hb); (try clear hb2); (try clear hk); (try clear hi); (try clear ho0)) | ((with_reducible refine gate_callee (f := 12) rfl ?_); refine goesL_ (some 29) rfl rfl Tryd.func12 (by kernel_rfl) rfl #[.string (⟨#[103, 101, 116, 32, 53, 10, 71, 101, 116, 32, 53]⟩ : ByteArray)] rfl (by (try simp only [List.map_toArray, List.map_cons, List.map_nil]); first | done | rfl | (simp only [List.length_drop, List.length_take]; rfl)) ?_; (with_reducible refine (script_Parse.calls (⟨#[103, 101, 116, 32, 53, 10, 71, 101, 116, 32, 53]⟩ : ByteArray) t187 t188 t189 _ A2.out).mono ?_); rintro e w29 ⟨v190, rfl, ho0, hb⟩; refine ⟨_, rfl, ?_⟩; have n0_ := Aside0.mk (Kd.N_elder' (by (with_reducible repeat (first | apply Kd.N_alloc | apply Kd.N_drewN | apply Kd.N_drew)); exact HO186.out) (Kd.N_base (Kd.S_N ho0)) hb); have n1_ := Aside0.mk (Kd.N_lower (Kd.N_mono (ok' := fun k_ => some k_ ≠ (v185 : Value).ownBlock) (Kd.S_N (Kd.S_bound ho0)) (fun k_ hk_ => (Kd.fresh' (Kd.N_lt (by (with_reducible repeat (first | apply Kd.N_alloc | apply Kd.N_drewN | apply Kd.N_drew)); exact HO186.out)) k_ hk_.2.1))) (below_size (by repeat (first | (with_reducible first | exact HB.out | apply below_alloc | apply pw_below_drewN | apply below_drew1) | exact HB.out)))); have n2_ := Aside0.mk (below_step (by repeat (first | (with_reducible first | exact HB.out | apply below_alloc | apply pw_below_drewN | apply below_drew1) | exact HB.out)) hb); clear HO186; clear HB; have HO186 := n0_; have HO191 := n1_; have HB := n2_; clear n0_ n1_ n2_; (try clear hb); (try clear hb2); (try clear hk); (try clear hi); (try clear ho0)) | ((with_reducible refine gate_callee (f := 12) rfl ?_); refine goesL_ (some 34) rfl rfl Tryd.func12 (by kernel_rfl) rfl #[.string (⟨#[103, 101, 116, 32, 48, 49]⟩ : ByteArray)] rfl (by (try simp only [List.map_toArray, List.map_cons, List.map_nil]); first | done | rfl | (simp only [List.length_drop, List.length_take]; rfl)) ?_; (with_reducible refine (script_Parse.calls (⟨#[103, 101, 116, 32, 48, 49]⟩ : ByteArray) t192 t193 t194 _ A3.out).mono ?_); rintro e w30 ⟨v195, rfl, ho0, hb⟩; refine ⟨_, rfl, ?_⟩; have n0_ := Aside0.mk (Kd.N_elder' (by (with_reducible repeat (first | apply Kd.N_alloc | apply Kd.N_drewN | apply Kd.N_drew)); exact HO186.out) (Kd.N_base (Kd.S_N ho0)) hb); have n1_ := Aside0.mk (Kd.N_elder' (by (with_reducible repeat (first | apply Kd.N_alloc | apply Kd.N_drewN | apply Kd.N_drew)); exact HO191.out) (Kd.N_base (Kd.S_N ho0)) hb); have n2_ := Aside0.mk (Kd.N_lower (Kd.N_mono (ok' := fun k_ => some k_ ≠ (v185 : Value).ownBlock ∧ some k_ ≠ (v190 : Value).ownBlock) (Kd.S_N (Kd.S_bound ho0)) (fun k_ hk_ => ⟨(Kd.fresh' (Kd.N_lt (by (with_reducible repeat (first | apply Kd.N_alloc | apply Kd.N_drewN | apply Kd.N_drew)); exact HO186.out)) k_ hk_.2.1), (Kd.fresh' (Kd.N_lt (by (with_reducible repeat (first | apply Kd.N_alloc | apply Kd.N_drewN | apply Kd.N_drew)); exact HO191.out)) k_ hk_.2.1)⟩)) (below_size (by repeat (first | (with_reducible first | exact HB.out | apply below_alloc | apply pw_below_drewN | apply below_drew1) | exact HB.out)))); have n3_ := Aside0.mk (below_step (by repeat (first | (with_reducible first | exact HB.out | apply below_alloc | apply pw_below_drewN | apply below_drew1) | exact HB.out)) hb); clear HO186; clear HO191; clear HB; have HO186 := n0_; have HO191 := n1_; have HO196 := n2_; have HB := n3_; clear n0_ n1_ n2_ n3_; (try clear hb); (try clear hb2); (try clear hk); (try clear hi); (try clear ho0)) | ((with_reducible refine gate_callee (f := 12) rfl ?_); refine goesL_ (some 39) rfl rfl Tryd.func12 (by kernel_rfl) rfl #[.string (⟨#[103, 101, 116]⟩ : ByteArray)] rfl (by (try simp only [List.map_toArray, List.map_cons, List.map_nil]); first | done | rfl | (simp only [List.length_drop, List.length_take]; rfl)) ?_; (with_reducible refine (script_Parse.calls (⟨#[103, 101, 116]⟩ : ByteArray) t197 t198 t199 _ A4.out).mono ?_); rintro e w31 ⟨v200, rfl, ho0, hb⟩; refine ⟨_, rfl, ?_⟩; have n0_ := Aside0.mk (Kd.N_elder' (by (with_reducible repeat (first | apply Kd.N_alloc | apply Kd.N_drewN | apply Kd.N_drew)); exact HO186.out) (Kd.N_base (Kd.S_N ho0)) hb); have n1_ := Aside0.mk (Kd.N_elder' (by (with_reducible repeat (first | apply Kd.N_alloc | apply Kd.N_drewN | apply Kd.N_drew)); exact HO191.out) (Kd.N_base (Kd.S_N ho0)) hb); have n2_ := Aside0.mk (Kd.N_elder' (by (with_reducible repeat (first | apply Kd.N_alloc | apply Kd.N_drewN | apply Kd.N_drew)); exact HO196.out) (Kd.N_base (Kd.S_N ho0)) hb); have n3_ := Aside0.mk (Kd.N_lower (Kd.N_mono (ok' := fun k_ => some k_ ≠ (v185 : Value).ownBlock ∧ some k_ ≠ (v190 : Value).ownBlock ∧ some k_ ≠ (v195 : Value).ownBlock) (Kd.S_N (Kd.S_bound ho0)) (fun k_ hk_ => ⟨(Kd.fresh' (Kd.N_lt (by (with_reducible repeat (first | apply Kd.N_alloc | apply Kd.N_drewN | apply Kd.N_drew)); exact HO186.out)) k_ hk_.2.1), (Kd.fresh' (Kd.N_lt (by (with_reducible repeat (first | apply Kd.N_alloc | apply Kd.N_drewN | apply Kd.N_drew)); exact HO191.out)) k_ hk_.2.1), (Kd.fresh' (Kd.N_lt (by (with_reducible repeat (first | apply Kd.N_alloc | apply Kd.N_drewN | apply Kd.N_drew)); exact HO196.out)) k_ hk_.2.1)⟩)) (below_size (by repeat (first | (with_reducible first | exact HB.out | apply below_alloc | apply pw_below_drewN | apply below_drew1) | exact HB.out)))); have n4_ := Aside0.mk (below_step (by repeat (first | (with_reducible first | exact HB.out | apply below_alloc | apply pw_below_drewN | apply below_drew1) | exact HB.out)) hb); clear HO186; clear HO191; clear HO196; clear HB; have HO186 := n0_; have HO191 := n1_; have HO196 := n2_; have HO201 := n3_; have HB := n4_; clear n0_ n1_ n2_ n3_ n4_; (try clear hb); (try clear hb2); (try clear hk); (try clear hi); (try clear ho0)) | ((with_reducible refine gate_dst (N := 45) rfl ?_); refine Kd.R_lit (Kd.int .u64) _ 31 ?hg (N := 45) ?hd (xs := ([0, 7] : List Int)) (inner := [.int .u64 0, .int .u64 7]) (ok := fun _ => True) (okp := fun _ => True) ?hr ?hp (fun _ hk => hk) trivial (Below.refl _ _) (Nat.le_refl _) (by simp) ?_; (case hd => rfl); (case hg => rfl); (case hr => first | (go_simp; done) | (go_simp; rfl)); (case hp => exact (Reps.one (show Kd.M (Kd.int .u64) _ _ _ 0 [.int .u64 0] from rfl) (Reps.one (show Kd.M (Kd.int .u64) _ _ _ 7 [.int .u64 7] from rfl) (Reps.none _ _)))); intro v203 w32 ho33 hb hg_ hnew_; clear hg_ hnew_; (first | rw [← Ny202.out] at ho33 | (simp only [Int.reduceToNat] at ho33; rw [← Ny202.out] at ho33)); have n0_ := Aside0.mk (Kd.N_elder' (by (with_reducible repeat (first | apply Kd.N_alloc | apply Kd.N_drewN | apply Kd.N_drew)); exact HO186.out) (Kd.R_base ho33) hb); have n1_ := Aside0.mk (Kd.N_elder' (by (with_reducible repeat (first | apply Kd.N_alloc | apply Kd.N_drewN | apply Kd.N_drew)); exact HO191.out) (Kd.R_base ho33) hb); have n2_ := Aside0.mk (Kd.N_elder' (by (with_reducible repeat (first | apply Kd.N_alloc | apply Kd.N_drewN | apply Kd.N_drew)); exact HO196.out) (Kd.R_base ho33) hb); have n3_ := Aside0.mk (Kd.N_elder' (by (with_reducible repeat (first | apply Kd.N_alloc | apply Kd.N_drewN | apply Kd.N_drew)); exact HO201.out) (Kd.R_base ho33) hb); have n4_ := Aside0.mk (Kd.R_lower ho33 (below_size (by repeat (first | (with_reducible first | exact HB.out | apply below_alloc | apply pw_below_drewN | apply below_drew1) | exact HB.out)))); have n5_ := Aside0.mk (below_step (by repeat (first | (with_reducible first | exact HB.out | apply below_alloc | apply pw_below_drewN | apply below_drew1) | exact HB.out)) hb); clear HO186; clear HO191; clear HO196; clear HO201; clear HB; have HO186 := n0_; have HO191 := n1_; have HO196 := n2_; have HO201 := n3_; have HO204 := n4_; have HB := n5_; clear n0_ n1_ n2_ n3_ n4_ n5_; clear hb ho33; obtain ⟨Ao34, co34, eo34⟩ := Kd.R_slice HO204.out; subst eo34) | ((with_reducible refine gate_dst (N := 47) rfl ?_); refine Kd.N_lit k30 _ 30 ?hg (N' := 47) ?hd (xs := ([(⟨(⟨#[115, 97, 118, 101]⟩ : ByteArray), ([] : List Int)⟩ : S30), (⟨(⟨#[112, 97, 116, 104]⟩ : ByteArray), y202⟩ : S30)] : List (S30))) (inner := [.string (⟨#[115, 97, 118, 101]⟩ : ByteArray), .slice none 0 0, .string (⟨#[112, 97, 116, 104]⟩ : ByteArray), .slice Ao34 y202.length co34]) (ok := (fun k_ => some k_ ≠ (v185 : Value).ownBlock ∧ some k_ ≠ (v190 : Value).ownBlock ∧ some k_ ≠ (v195 : Value).ownBlock ∧ some k_ ≠ (v200 : Value).ownBlock)) (okp := (fun k_ => some k_ ≠ (v185 : Value).ownBlock ∧ some k_ ≠ (v190 : Value).ownBlock ∧ some k_ ≠ (v195 : Value).ownBlock ∧ some k_ ≠ (v200 : Value).ownBlock)) ?hr ?hp (fun _ hk => hk) ((show ∀ k_, w32.heap.size ≤ k_ → (fun k_ => some k_ ≠ (v185 : Value).ownBlock ∧ some k_ ≠ (v190 : Value).ownBlock ∧ some k_ ≠ (v195 : Value).ownBlock ∧ some k_ ≠ (v200 : Value).ownBlock) k_ from fun k_ hk => ⟨Kd.fresh' (Kd.N_lt (by (with_reducible repeat (first | apply Kd.N_alloc | apply Kd.N_drewN | apply Kd.N_drew)); exact HO186.out)) k_ hk, Kd.fresh' (Kd.N_lt (by (with_reducible repeat (first | apply Kd.N_alloc | apply Kd.N_drewN | apply Kd.N_drew)); exact HO191.out)) k_ hk, Kd.fresh' (Kd.N_lt (by (with_reducible repeat (first | apply Kd.N_alloc | apply Kd.N_drewN | apply Kd.N_drew)); exact HO196.out)) k_ hk, Kd.fresh' (Kd.N_lt (by (with_reducible repeat (first | apply Kd.N_alloc | apply Kd.N_drewN | apply Kd.N_drew)); exact HO201.out)) k_ hk⟩) _ (Nat.le_refl _)) (Below.refl _ _) (Nat.le_refl _) (by simp) ?_; (case hd => rfl); (case hg => rfl); (case hr => first | (go_simp; done) | (go_simp; rfl)); (case hp => exact (Reps.c2 (show Kd.FK k30 _ _ (⟨(⟨#[115, 97, 118, 101]⟩ : ByteArray), ([] : List Int)⟩ : S30) [.string (⟨#[115, 97, 118, 101]⟩ : ByteArray), .slice none 0 0] from (k30_mkF _ _ (⟨(⟨#[115, 97, 118, 101]⟩ : ByteArray), ([] : List Int)⟩ : S30) (Nat.le_refl _) (Kd.F_nil _ _ _))) (Reps.c2 (show Kd.FK k30 _ _ (⟨(⟨#[112, 97, 116, 104]⟩ : ByteArray), y202⟩ : S30) [.string (⟨#[112, 97, 116, 104]⟩ : ByteArray), .slice Ao34 y202.length co34] from (k30_mkF _ _ (⟨(⟨#[112, 97, 116, 104]⟩ : ByteArray), y202⟩ : S30) (Kd.R_reads' (Kd.R_mono (ok' := (fun k_ => some k_ ≠ (v185 : Value).ownBlock ∧ some k_ ≠ (v190 : Value).ownBlock ∧ some k_ ≠ (v195 : Value).ownBlock ∧ some k_ ≠ (v200 : Value).ownBlock)) (Kd.R_apart' (Kd.R_apart' (Kd.R_apart' (Kd.R_apart' (HO204.out) (Kd.N_typed HO186.out) (by decide)) (Kd.N_typed HO191.out) (by decide)) (Kd.N_typed HO196.out) (by decide)) (Kd.N_typed HO201.out) (by decide)) (fun k_ hk => ⟨hk.1.1.1.2, ⟨hk.1.1.2, ⟨hk.1.2, hk.2⟩⟩⟩))).2.1 (Kd.R_F (Kd.R_mono (ok' := (fun k_ => some k_ ≠ (v185 : Value).ownBlock ∧ some k_ ≠ (v190 : Value).ownBlock ∧ some k_ ≠ (v195 : Value).ownBlock ∧ some k_ ≠ (v200 : Value).ownBlock)) (Kd.R_apart' (Kd.R_apart' (Kd.R_apart' (Kd.R_apart' (HO204.out) (Kd.N_typed HO186.out) (by decide)) (Kd.N_typed HO191.out) (by decide)) (Kd.N_typed HO196.out) (by decide)) (Kd.N_typed HO201.out) (by decide)) (fun k_ hk => ⟨hk.1.1.1.2, ⟨hk.1.1.2, ⟨hk.1.2, hk.2⟩⟩⟩))))) (Reps.none _ _)))); intro v206 w35 ho36 hb hg_ hnew_; clear hg_ hnew_; (first | rw [← Ny205.out] at ho36 | (simp only [Int.reduceToNat] at ho36; rw [← Ny205.out] at ho36)); have n0_ := Aside0.mk (Kd.N_elder' (by (with_reducible repeat (first | apply Kd.N_alloc | apply Kd.N_drewN | apply Kd.N_drew)); exact HO186.out) (Kd.N_base ho36) hb); have n1_ := Aside0.mk (Kd.N_elder' (by (with_reducible repeat (first | apply Kd.N_alloc | apply Kd.N_drewN | apply Kd.N_drew)); exact HO191.out) (Kd.N_base ho36) hb); have n2_ := Aside0.mk (Kd.N_elder' (by (with_reducible repeat (first | apply Kd.N_alloc | apply Kd.N_drewN | apply Kd.N_drew)); exact HO196.out) (Kd.N_base ho36) hb); have n3_ := Aside0.mk (Kd.N_elder' (by (with_reducible repeat (first | apply Kd.N_alloc | apply Kd.N_drewN | apply Kd.N_drew)); exact HO201.out) (Kd.N_base ho36) hb); have n4_ := Aside0.mk (Kd.N_lower ho36 (below_size (by repeat (first | (with_reducible first | exact HB.out | apply below_alloc | apply pw_below_drewN | apply below_drew1) | exact HB.out)))); have n5_ := Aside0.mk (below_step (by repeat (first | (with_reducible first | exact HB.out | apply below_alloc | apply pw_below_drewN | apply below_drew1) | exact HB.out)) hb); clear HO186; clear HO191; clear HO196; clear HO201; clear HB; clear HO204; have HO186 := n0_; have HO191 := n1_; have HO196 := n2_; have HO201 := n3_; have HO207 := n4_; have HB := n5_; clear n0_ n1_ n2_ n3_ n4_ n5_; clear hb ho36; obtain ⟨Ao37, co37, eo37⟩ := Kd.N_slice HO207.out; subst eo37) | ((with_reducible refine gate_callee (f := 16) rfl ?_); refine goesL_ (some 48) rfl rfl Tryd.func16 (by kernel_rfl) rfl #[.slice Ao37 y205.length co37] rfl (by (try simp only [List.map_toArray, List.map_cons, List.map_nil]); first | done | rfl | (simp only [List.length_drop, List.length_take]; rfl)) ?_; (with_reducible refine (script_Print.calls k _ _ y205 t208 t209 _ ?side1 ?side2 ?sideT A5.out).mono ?_); (case sideT => exact Tabs.keep HT.out (by repeat (first | (with_reducible first | exact HB.out | apply below_alloc | apply pw_below_drewN | apply below_drew1) | exact HB.out))); (case side1 => repeat (first | exact (Kd.N_reads' HO207.out).2.2 | (with_reducible refine Kd.C_alloc ?_ _) | (with_reducible refine Kd.C_drewN ?_ _) | (with_reducible refine Kd.C_drew ?_))); (case side2 => exact (Kd.N_reads' HO207.out).2.1); rintro e w38 ⟨rfl, hb⟩; refine ⟨_, rfl, ?_⟩; have n0_ := Aside0.mk (Kd.N_below (by (with_reducible repeat (first | apply Kd.N_alloc | apply Kd.N_drewN | apply Kd.N_drew)); exact HO186.out) hb); have n1_ := Aside0.mk (Kd.N_below (by (with_reducible repeat (first | apply Kd.N_alloc | apply Kd.N_drewN | apply Kd.N_drew)); exact HO191.out) hb); have n2_ := Aside0.mk (Kd.N_below (by (with_reducible repeat (first | apply Kd.N_alloc | apply Kd.N_drewN | apply Kd.N_drew)); exact HO196.out) hb); have n3_ := Aside0.mk (Kd.N_below (by (with_reducible repeat (first | apply Kd.N_alloc | apply Kd.N_drewN | apply Kd.N_drew)); exact HO201.out) hb); have n4_ := Aside0.mk (Kd.N_below (by (with_reducible repeat (first | apply Kd.N_alloc | apply Kd.N_drewN | apply Kd.N_drew)); exact HO207.out) hb); have n5_ := Aside0.mk (below_step (by repeat (first | (with_reducible first | exact HB.out | apply below_alloc | apply pw_below_drewN | apply below_drew1) | exact HB.out)) hb); clear HO186; clear HO191; clear HO196; clear HO201; clear HO207; clear HB; have HO186 := n0_; have HO191 := n1_; have HO196 := n2_; have HO201 := n3_; have HO207 := n4_; have HB := n5_; clear n0_ n1_ n2_ n3_ n4_ n5_; (try clear hb); (try clear hb2); (try clear hk); (try clear hi)) | ((with_reducible refine gate_dst (N := 53) rfl ?_); refine Kd.N_lit k30 _ 30 ?hg (N' := 53) ?hd (xs := ([(⟨(⟨#[83, 97, 118, 101]⟩ : ByteArray), ([] : List Int)⟩ : S30)] : List (S30))) (inner := [.string (⟨#[83, 97, 118, 101]⟩ : ByteArray), .slice none 0 0]) (ok := (fun k_ => some k_ ≠ (v185 : Value).ownBlock ∧ some k_ ≠ (v190 : Value).ownBlock ∧ some k_ ≠ (v195 : Value).ownBlock ∧ some k_ ≠ (v200 : Value).ownBlock ∧ some k_ ≠ (.slice Ao37 y205.length co37 : Value).ownBlock)) (okp := (fun k_ => some k_ ≠ (v185 : Value).ownBlock ∧ some k_ ≠ (v190 : Value).ownBlock ∧ some k_ ≠ (v195 : Value).ownBlock ∧ some k_ ≠ (v200 : Value).ownBlock ∧ some k_ ≠ (.slice Ao37 y205.length co37 : Value).ownBlock)) ?hr ?hp (fun _ hk => hk) ((show ∀ k_, w38.heap.size ≤ k_ → (fun k_ => some k_ ≠ (v185 : Value).ownBlock ∧ some k_ ≠ (v190 : Value).ownBlock ∧ some k_ ≠ (v195 : Value).ownBlock ∧ some k_ ≠ (v200 : Value).ownBlock ∧ some k_ ≠ (.slice Ao37 y205.length co37 : Value).ownBlock) k_ from fun k_ hk => ⟨Kd.fresh' (Kd.N_lt (by (with_reducible repeat (first | apply Kd.N_alloc | apply Kd.N_drewN | apply Kd.N_drew)); exact HO186.out)) k_ hk, Kd.fresh' (Kd.N_lt (by (with_reducible repeat (first | apply Kd.N_alloc | apply Kd.N_drewN | apply Kd.N_drew)); exact HO191.out)) k_ hk, Kd.fresh' (Kd.N_lt (by (with_reducible repeat (first | apply Kd.N_alloc | apply Kd.N_drewN | apply Kd.N_drew)); exact HO196.out)) k_ hk, Kd.fresh' (Kd.N_lt (by (with_reducible repeat (first | apply Kd.N_alloc | apply Kd.N_drewN | apply Kd.N_drew)); exact HO201.out)) k_ hk, Kd.fresh' (Kd.N_lt (by (with_reducible repeat (first | apply Kd.N_alloc | apply Kd.N_drewN | apply Kd.N_drew)); exact HO207.out)) k_ hk⟩) _ (Nat.le_refl _)) (Below.refl _ _) (Nat.le_refl _) (by simp) ?_; (case hd => rfl); (case hg => rfl); (case hr => first | (go_simp; done) | (go_simp; rfl)); (case hp => exact (Reps.c2 (show Kd.FK k30 _ _ (⟨(⟨#[83, 97, 118, 101]⟩ : ByteArray), ([] : List Int)⟩ : S30) [.string (⟨#[83, 97, 118, 101]⟩ : ByteArray), .slice none 0 0] from (k30_mkF _ _ (⟨(⟨#[83, 97, 118, 101]⟩ : ByteArray), ([] : List Int)⟩ : S30) (Nat.le_refl _) (Kd.F_nil _ _ _))) (Reps.none _ _))); intro v211 w39 ho40 hb hg_ hnew_; clear hg_ hnew_; (first | rw [← Ny210.out] at ho40 | (simp only [Int.reduceToNat] at ho40; rw [← Ny210.out] at ho40)); have n0_ := Aside0.mk (Kd.N_elder' (by (with_reducible repeat (first | apply Kd.N_alloc | apply Kd.N_drewN | apply Kd.N_drew)); exact HO186.out) (Kd.N_base ho40) hb); have n1_ := Aside0.mk (Kd.N_elder' (by (with_reducible repeat (first | apply Kd.N_alloc | apply Kd.N_drewN | apply Kd.N_drew)); exact HO191.out) (Kd.N_base ho40) hb); have n2_ := Aside0.mk (Kd.N_elder' (by (with_reducible repeat (first | apply Kd.N_alloc | apply Kd.N_drewN | apply Kd.N_drew)); exact HO196.out) (Kd.N_base ho40) hb); have n3_ := Aside0.mk (Kd.N_elder' (by (with_reducible repeat (first | apply Kd.N_alloc | apply Kd.N_drewN | apply Kd.N_drew)); exact HO201.out) (Kd.N_base ho40) hb); have n4_ := Aside0.mk (Kd.N_elder' (by (with_reducible repeat (first | apply Kd.N_alloc | apply Kd.N_drewN | apply Kd.N_drew)); exact HO207.out) (Kd.N_base ho40) hb); have n5_ := Aside0.mk (Kd.N_lower ho40 (below_size (by repeat (first | (with_reducible first | exact HB.out | apply below_alloc | apply pw_below_drewN | apply below_drew1) | exact HB.out)))); have n6_ := Aside0.mk (below_step (by repeat (first | (with_reducible first | exact HB.out | apply below_alloc | apply pw_below_drewN | apply below_drew1) | exact HB.out)) hb); clear HO186; clear HO191; clear HO196; clear HO201; clear HO207; clear HB; have HO186 := n0_; have HO191 := n1_; have HO196 := n2_; have HO201 := n3_; have HO207 := n4_; have HO212 := n5_; have HB := n6_; clear n0_ n1_ n2_ n3_ n4_ n5_ n6_; clear hb ho40; obtain ⟨Ao41, co41, eo41⟩ := Kd.N_slice HO212.out; subst eo41) | ((with_reducible refine gate_callee (f := 16) rfl ?_); refine goesL_ (some 54) rfl rfl Tryd.func16 (by kernel_rfl) rfl #[.slice Ao41 y210.length co41] rfl (by (try simp only [List.map_toArray, List.map_cons, List.map_nil]); first | done | rfl | (simp only [List.length_drop, List.length_take]; rfl)) ?_; (with_reducible refine (script_Print.calls k _ _ y210 t213 t214 _ ?side1 ?side2 ?sideT A6.out).mono ?_); (case sideT => exact Tabs.keep HT.out (by repeat (first | (with_reducible first | exact HB.out | apply below_alloc | apply pw_below_drewN | apply below_drew1) | exact HB.out))); (case side1 => repeat (first | exact (Kd.N_reads' HO212.out).2.2 | (with_reducible refine Kd.C_alloc ?_ _) | (with_reducible refine Kd.C_drewN ?_ _) | (with_reducible refine Kd.C_drew ?_))); (case side2 => exact (Kd.N_reads' HO212.out).2.1); rintro e w42 ⟨rfl, hb⟩; refine ⟨_, rfl, ?_⟩; have n0_ := Aside0.mk (Kd.N_below (by (with_reducible repeat (first | apply Kd.N_alloc | apply Kd.N_drewN | apply Kd.N_drew)); exact HO186.out) hb); have n1_ := Aside0.mk (Kd.N_below (by (with_reducible repeat (first | apply Kd.N_alloc | apply Kd.N_drewN | apply Kd.N_drew)); exact HO191.out) hb); have n2_ := Aside0.mk (Kd.N_below (by (with_reducible repeat (first | apply Kd.N_alloc | apply Kd.N_drewN | apply Kd.N_drew)); exact HO196.out) hb); have n3_ := Aside0.mk (Kd.N_below (by (with_reducible repeat (first | apply Kd.N_alloc | apply Kd.N_drewN | apply Kd.N_drew)); exact HO201.out) hb); have n4_ := Aside0.mk (Kd.N_below (by (with_reducible repeat (first | apply Kd.N_alloc | apply Kd.N_drewN | apply Kd.N_drew)); exact HO207.out) hb); have n5_ := Aside0.mk (Kd.N_below (by (with_reducible repeat (first | apply Kd.N_alloc | apply Kd.N_drewN | apply Kd.N_drew)); exact HO212.out) hb); have n6_ := Aside0.mk (below_step (by repeat (first | (with_reducible first | exact HB.out | apply below_alloc | apply pw_below_drewN | apply below_drew1) | exact HB.out)) hb); clear HO186; clear HO191; clear HO196; clear HO201; clear HO207; clear HO212; clear HB; have HO186 := n0_; have HO191 := n1_; have HO196 := n2_; have HO201 := n3_; have HO207 := n4_; have HO212 := n5_; have HB := n6_; clear n0_ n1_ n2_ n3_ n4_ n5_ n6_; (try clear hb); (try clear hb2); (try clear hk); (try clear hi)) | ((with_reducible refine gate_dst (N := 58) rfl ?_); refine Kd.R_lit (Kd.int .u64) _ 31 ?hg (N := 58) ?hd (xs := ([9, 3] : List Int)) (inner := [.int .u64 9, .int .u64 3]) (ok := fun _ => True) (okp := fun _ => True) ?hr ?hp (fun _ hk => hk) trivial (Below.refl _ _) (Nat.le_refl _) (by simp) ?_; (case hd => rfl); (case hg => rfl); (case hr => first | (go_simp; done) | (go_simp; rfl)); (case hp => exact (Reps.one (show Kd.M (Kd.int .u64) _ _ _ 9 [.int .u64 9] from rfl) (Reps.one (show Kd.M (Kd.int .u64) _ _ _ 3 [.int .u64 3] from rfl) (Reps.none _ _)))); intro v216 w43 ho44 hb hg_ hnew_; clear hg_ hnew_; (first | rw [← Ny215.out] at ho44 | (simp only [Int.reduceToNat] at ho44; rw [← Ny215.out] at ho44)); have n0_ := Aside0.mk (Kd.N_elder' (by (with_reducible repeat (first | apply Kd.N_alloc | apply Kd.N_drewN | apply Kd.N_drew)); exact HO186.out) (Kd.R_base ho44) hb); have n1_ := Aside0.mk (Kd.N_elder' (by (with_reducible repeat (first | apply Kd.N_alloc | apply Kd.N_drewN | apply Kd.N_drew)); exact HO191.out) (Kd.R_base ho44) hb); have n2_ := Aside0.mk (Kd.N_elder' (by (with_reducible repeat (first | apply Kd.N_alloc | apply Kd.N_drewN | apply Kd.N_drew)); exact HO196.out) (Kd.R_base ho44) hb); have n3_ := Aside0.mk (Kd.N_elder' (by (with_reducible repeat (first | apply Kd.N_alloc | apply Kd.N_drewN | apply Kd.N_drew)); exact HO201.out) (Kd.R_base ho44) hb); have n4_ := Aside0.mk (Kd.N_elder' (by (with_reducible repeat (first | apply Kd.N_alloc | apply Kd.N_drewN | apply Kd.N_drew)); exact HO207.out) (Kd.R_base ho44) hb); have n5_ := Aside0.mk (Kd.N_elder' (by (with_reducible repeat (first | apply Kd.N_alloc | apply Kd.N_drewN | apply Kd.N_drew)); exact HO212.out) (Kd.R_base ho44) hb); have n6_ := Aside0.mk (Kd.R_lower ho44 (below_size (by repeat (first | (with_reducible first | exact HB.out | apply below_alloc | apply pw_below_drewN | apply below_drew1) | exact HB.out)))); have n7_ := Aside0.mk (below_step (by repeat (first | (with_reducible first | exact HB.out | apply below_alloc | apply pw_below_drewN | apply below_drew1) | exact HB.out)) hb); clear HO186; clear HO191; clear HO196; clear HO201; clear HO207; clear HO212; clear HB; have HO186 := n0_; have HO191 := n1_; have HO196 := n2_; have HO201 := n3_; have HO207 := n4_; have HO212 := n5_; have HO217 := n6_; have HB := n7_; clear n0_ n1_ n2_ n3_ n4_ n5_ n6_ n7_; clear hb ho44; obtain ⟨Ao45, co45, eo45⟩ := Kd.R_slice HO217.out; subst eo45) | ((with_reducible refine gate_callee (f := 18) rfl ?_); refine goesL_ (some 60) rfl rfl Tryd.func18 (by kernel_rfl) rfl #[.agg #[.string (⟨#[114, 97, 110, 103, 101]⟩ : ByteArray), .slice Ao45 y215.length co45]] rfl (by (try simp only [List.map_toArray, List.map_cons, List.map_nil]); first | done | rfl | (simp only [List.length_drop, List.length_take]; rfl)) ?_; (with_reducible refine (script_Op.calls k (⟨#[114, 97, 110, 103, 101]⟩ : ByteArray) _ _ y215 t218 t219 t220 true _ ?side1 ?side2 A7.out).mono ?_); (case side1 => repeat (first | exact (Kd.R_reads' HO217.out).2.2 | (with_reducible refine Kd.C_alloc ?_ _) | (with_reducible refine Kd.C_drewN ?_ _) | (with_reducible refine Kd.C_drew ?_))); (case side2 => exact (Kd.R_reads' HO217.out).2.1); rintro e w46 ⟨rfl, hb⟩; refine ⟨_, rfl, ?_⟩; have n0_ := Aside0.mk (Kd.N_below (by (with_reducible repeat (first | apply Kd.N_alloc | apply Kd.N_drewN | apply Kd.N_drew)); exact HO186.out) hb); have n1_ := Aside0.mk (Kd.N_below (by (with_reducible repeat (first | apply Kd.N_alloc | apply Kd.N_drewN | apply Kd.N_drew)); exact HO191.out) hb); have n2_ := Aside0.mk (Kd.N_below (by (with_reducible repeat (first | apply Kd.N_alloc | apply Kd.N_drewN | apply Kd.N_drew)); exact HO196.out) hb); have n3_ := Aside0.mk (Kd.N_below (by (with_reducible repeat (first | apply Kd.N_alloc | apply Kd.N_drewN | apply Kd.N_drew)); exact HO201.out) hb); have n4_ := Aside0.mk (Kd.N_below (by (with_reducible repeat (first | apply Kd.N_alloc | apply Kd.N_drewN | apply Kd.N_drew)); exact HO207.out) hb); have n5_ := Aside0.mk (Kd.N_below (by (with_reducible repeat (first | apply Kd.N_alloc | apply Kd.N_drewN | apply Kd.N_drew)); exact HO212.out) hb); have n6_ := Aside0.mk (Kd.R_below (by (with_reducible repeat (first | apply Kd.R_alloc | apply Kd.R_drewN | apply Kd.R_drew)); exact HO217.out) hb); have n7_ := Aside0.mk (below_step (by repeat (first | (with_reducible first | exact HB.out | apply below_alloc | apply pw_below_drewN | apply below_drew1) | exact HB.out)) hb); clear HO186; clear HO191; clear HO196; clear HO201; clear HO207; clear HO212; clear HO217; clear HB; have HO186 := n0_; have HO191 := n1_; have HO196 := n2_; have HO201 := n3_; have HO207 := n4_; have HO212 := n5_; have HO217 := n6_; have HB := n7_; clear n0_ n1_ n2_ n3_ n4_ n5_ n6_ n7_; (try clear hb); (try clear hb2); (try clear hk); (try clear hi)) | ((with_reducible refine gate_dst (N := 17) rfl ?_); refine box_event ?hg (N := 17) ?hd (cs := #[.int .i64 0, .int .u64 0, .int .u64 0]) (t := 38) ?hr ?_; (case hd => rfl); (case hg => rfl); (case hr => first | (go_simp; done) | (go_simp; rfl)); intro gb222 hg w47 hbox hb; have n0_ := Aside0.mk (Kd.N_below (Kd.N_elderB (by (with_reducible repeat (first | apply Kd.N_alloc | apply Kd.N_drewN | apply Kd.N_drew)); exact HO186.out) gb222 (Nat.le_of_eq hg.symm)) hb); have n1_ := Aside0.mk (Kd.N_below (Kd.N_elderB (by (with_reducible repeat (first | apply Kd.N_alloc | apply Kd.N_drewN | apply Kd.N_drew)); exact HO191.out) gb222 (Nat.le_of_eq hg.symm)) hb); have n2_ := Aside0.mk (Kd.N_below (Kd.N_elderB (by (with_reducible repeat (first | apply Kd.N_alloc | apply Kd.N_drewN | apply Kd.N_drew)); exact HO196.out) gb222 (Nat.le_of_eq hg.symm)) hb); have n3_ := Aside0.mk (Kd.N_below (Kd.N_elderB (by (with_reducible repeat (first | apply Kd.N_alloc | apply Kd.N_drewN | apply Kd.N_drew)); exact HO201.out) gb222 (Nat.le_of_eq hg.symm)) hb); have n4_ := Aside0.mk (Kd.N_below (Kd.N_elderB (by (with_reducible repeat (first | apply Kd.N_alloc | apply Kd.N_drewN | apply Kd.N_drew)); exact HO207.out) gb222 (Nat.le_of_eq hg.symm)) hb); have n5_ := Aside0.mk (Kd.N_below (Kd.N_elderB (by (with_reducible repeat (first | apply Kd.N_alloc | apply Kd.N_drewN | apply Kd.N_drew)); exact HO212.out) gb222 (Nat.le_of_eq hg.symm)) hb); have n6_ := Aside0.mk (Kd.R_below (by (with_reducible repeat (first | apply Kd.R_alloc | apply Kd.R_drewN | apply Kd.R_drew)); exact HO217.out) hb); have n7_ := Aside0.mk (below_step (by repeat (first | (with_reducible first | exact HB.out | apply below_alloc | apply pw_below_drewN | apply below_drew1) | exact HB.out)) hb); have n8_ := Aside0.mk (hbox); have n9_ := Aside0.mk ((by rw [hg]; exact (below_size (by repeat (first | (with_reducible first | exact HB.out | apply below_alloc | apply pw_below_drewN | apply below_drew1) | exact HB.out))) : w.heap.size ≤ gb222)); have n10_ := Aside0.mk ((by rw [hg]; exact (below_size (by repeat (first | (with_reducible first | exact HB.out | apply below_alloc | apply pw_below_drewN | apply below_drew1) | exact HB.out))) : w.heap.size ≤ gb222)); clear HO186; clear HO191; clear HO196; clear HO201; clear HO207; clear HO212; clear HO217; clear HB; have HO186 := n0_; have HO191 := n1_; have HO196 := n2_; have HO201 := n3_; have HO207 := n4_; have HO212 := n5_; have HO217 := n6_; have HB := n7_; have BK222 := n8_; have GW222 := n9_; have GE222 := n10_; clear n0_ n1_ n2_ n3_ n4_ n5_ n6_ n7_ n8_ n9_ n10_; clear hb hbox hg; have hcz48_0 : w47.cell? ⟨gb222, 0, none⟩ = some (.int .i64 0) := (blk_cell BK222.out 0).trans rfl; have hcz48_1 : w47.cell? ⟨gb222, 1, none⟩ = some (.int .u64 0) := (blk_cell BK222.out 1).trans rfl; have hcz48_2 : w47.cell? ⟨gb222, 2, none⟩ = some (.int .u64 0) := (blk_cell BK222.out 2).trans rfl; have hfz48_0 := blk_frozen BK222.out 0; have hfz48_1 := blk_frozen BK222.out 1; have hfz48_2 := blk_frozen BK222.out 2) | ((with_reducible refine gate_callee (f := 18) rfl ?_); refine goesL_ (some 65) rfl rfl Tryd.func18 (by kernel_rfl) rfl #[.agg #[.string (⟨#[115, 116, 97, 116, 115]⟩ : ByteArray), .slice none 0 0]] rfl (by (try simp only [List.map_toArray, List.map_cons, List.map_nil]); first | done | rfl | (simp only [List.length_drop, List.length_take]; rfl)) ?_; (refine (script_Op.calls k (⟨#[115, 116, 97, 116, 115]⟩ : ByteArray) _ _ ([] : List Int) t223 t224 t225 false _ ?side1 ?side2 A8.out).mono ?_); (case side1 => exact Kd.C_nil _ _); (case side2 => exact Nat.le_refl _); rintro e w49 ⟨rfl, hb⟩; refine ⟨_, rfl, ?_⟩; have n0_ := Aside0.mk (Kd.N_below (by (with_reducible repeat (first | apply Kd.N_alloc | apply Kd.N_drewN | apply Kd.N_drew)); exact (Kd.N_mono (Kd.N_far (p := ⟨gb222, 2, none⟩) (Kd.N_far (p := ⟨gb222, 1, none⟩) (Kd.N_far (p := ⟨gb222, 0, none⟩) (Kd.N_mono HO186.out (fun k_ hk => (⟨hk, hk.2⟩ : _ ∧ k_ ≠ gb222))) (fun _ hk => hk.2) (.int .i64 t218)) (fun _ hk => hk.2) (.int .u64 t219)) (fun _ hk => hk.2) (.int .u64 t220)) (fun _ h_ => h_.1))) hb); have n1_ := Aside0.mk (Kd.N_below (by (with_reducible repeat (first | apply Kd.N_alloc | apply Kd.N_drewN | apply Kd.N_drew)); exact (Kd.N_mono (Kd.N_far (p := ⟨gb222, 2, none⟩) (Kd.N_far (p := ⟨gb222, 1, none⟩) (Kd.N_far (p := ⟨gb222, 0, none⟩) (Kd.N_mono HO191.out (fun k_ hk => (⟨hk, hk.2⟩ : _ ∧ k_ ≠ gb222))) (fun _ hk => hk.2) (.int .i64 t218)) (fun _ hk => hk.2) (.int .u64 t219)) (fun _ hk => hk.2) (.int .u64 t220)) (fun _ h_ => h_.1))) hb); have n2_ := Aside0.mk (Kd.N_below (by (with_reducible repeat (first | apply Kd.N_alloc | apply Kd.N_drewN | apply Kd.N_drew)); exact (Kd.N_mono (Kd.N_far (p := ⟨gb222, 2, none⟩) (Kd.N_far (p := ⟨gb222, 1, none⟩) (Kd.N_far (p := ⟨gb222, 0, none⟩) (Kd.N_mono HO196.out (fun k_ hk => (⟨hk, hk.2⟩ : _ ∧ k_ ≠ gb222))) (fun _ hk => hk.2) (.int .i64 t218)) (fun _ hk => hk.2) (.int .u64 t219)) (fun _ hk => hk.2) (.int .u64 t220)) (fun _ h_ => h_.1))) hb); have n3_ := Aside0.mk (Kd.N_below (by (with_reducible repeat (first | apply Kd.N_alloc | apply Kd.N_drewN | apply Kd.N_drew)); exact (Kd.N_mono (Kd.N_far (p := ⟨gb222, 2, none⟩) (Kd.N_far (p := ⟨gb222, 1, none⟩) (Kd.N_far (p := ⟨gb222, 0, none⟩) (Kd.N_mono HO201.out (fun k_ hk => (⟨hk, hk.2⟩ : _ ∧ k_ ≠ gb222))) (fun _ hk => hk.2) (.int .i64 t218)) (fun _ hk => hk.2) (.int .u64 t219)) (fun _ hk => hk.2) (.int .u64 t220)) (fun _ h_ => h_.1))) hb); have n4_ := Aside0.mk (Kd.N_below (by (with_reducible repeat (first | apply Kd.N_alloc | apply Kd.N_drewN | apply Kd.N_drew)); exact (Kd.N_mono (Kd.N_far (p := ⟨gb222, 2, none⟩) (Kd.N_far (p := ⟨gb222, 1, none⟩) (Kd.N_far (p := ⟨gb222, 0, none⟩) (Kd.N_mono HO207.out (fun k_ hk => (⟨hk, hk.2⟩ : _ ∧ k_ ≠ gb222))) (fun _ hk => hk.2) (.int .i64 t218)) (fun _ hk => hk.2) (.int .u64 t219)) (fun _ hk => hk.2) (.int .u64 t220)) (fun _ h_ => h_.1))) hb); have n5_ := Aside0.mk (Kd.N_below (by (with_reducible repeat (first | apply Kd.N_alloc | apply Kd.N_drewN | apply Kd.N_drew)); exact (Kd.N_mono (Kd.N_far (p := ⟨gb222, 2, none⟩) (Kd.N_far (p := ⟨gb222, 1, none⟩) (Kd.N_far (p := ⟨gb222, 0, none⟩) (Kd.N_mono HO212.out (fun k_ hk => (⟨hk, hk.2⟩ : _ ∧ k_ ≠ gb222))) (fun _ hk => hk.2) (.int .i64 t218)) (fun _ hk => hk.2) (.int .u64 t219)) (fun _ hk => hk.2) (.int .u64 t220)) (fun _ h_ => h_.1))) hb); have n6_ := Aside0.mk (Kd.R_below (by (with_reducible repeat (first | apply Kd.R_alloc | apply Kd.R_drewN | apply Kd.R_drew)); exact (Kd.R_mono (Kd.R_far (p := ⟨gb222, 2, none⟩) (Kd.R_far (p := ⟨gb222, 1, none⟩) (Kd.R_far (p := ⟨gb222, 0, none⟩) (Kd.R_types HO217.out BK222.out (by decide)) (fun _ hk => hk.2) (.int .i64 t218)) (fun _ hk => hk.2) (.int .u64 t219)) (fun _ hk => hk.2) (.int .u64 t220)) (fun _ h_ => h_.1))) hb); have n7_ := Aside0.mk (blk_below (g := gb222) (o := .cells #[.int .i64 t218, .int .u64 t219, .int .u64 t220] 38 (0, 0)) (by (with_reducible repeat (first | refine blk_drewN ?_ _ | refine blk_drew ?_ | refine blk_alloc ?_ _)); refine blk_put (cs := #[.int .i64 t218, .int .u64 t219, .int .u64 0]) ?_ 2 _ rfl; (with_reducible repeat (first | refine blk_drewN ?_ _ | refine blk_drew ?_ | refine blk_alloc ?_ _)); refine blk_put (cs := #[.int .i64 t218, .int .u64 0, .int .u64 0]) ?_ 1 _ rfl; (with_reducible repeat (first | refine blk_drewN ?_ _ | refine blk_drew ?_ | refine blk_alloc ?_ _)); refine blk_put (cs := #[.int .i64 0, .int .u64 0, .int .u64 0]) ?_ 0 _ rfl; (with_reducible repeat (first | refine blk_drewN ?_ _ | refine blk_drew ?_ | refine blk_alloc ?_ _)); exact BK222.out) hb); have n8_ := Aside0.mk (below_step (by repeat (first | (with_reducible first | exact HB.out | apply below_alloc | apply pw_below_drewN | apply below_drew1 | refine below_set ?_ GE222.out) | exact HB.out)) hb); clear HO186; clear HO191; clear HO196; clear HO201; clear HO207; clear HO212; clear HO217; clear BK222; clear HB; have HO186 := n0_; have HO191 := n1_; have HO196 := n2_; have HO201 := n3_; have HO207 := n4_; have HO212 := n5_; have HO217 := n6_; have BK222 := n7_; have HB := n8_; clear n0_ n1_ n2_ n3_ n4_ n5_ n6_ n7_ n8_; (try clear hb); (try clear hb2); (try clear hk); (try clear hi)) | ((with_reducible refine gate_dst (N := 19) rfl ?_); refine box_event ?hg (N := 19) ?hd (cs := #[.int .i64 0, .int .u64 0, .int .u64 0]) (t := 38) ?hr ?_; (case hd => rfl); (case hg => rfl); (case hr => first | (go_simp; done) | (go_simp; rfl)); intro gb227 hg w50 hbox hb; have n0_ := Aside0.mk (Kd.N_below (Kd.N_elderB (by (with_reducible repeat (first | apply Kd.N_alloc | apply Kd.N_drewN | apply Kd.N_drew)); exact HO186.out) gb227 (Nat.le_of_eq hg.symm)) hb); have n1_ := Aside0.mk (Kd.N_below (Kd.N_elderB (by (with_reducible repeat (first | apply Kd.N_alloc | apply Kd.N_drewN | apply Kd.N_drew)); exact HO191.out) gb227 (Nat.le_of_eq hg.symm)) hb); have n2_ := Aside0.mk (Kd.N_below (Kd.N_elderB (by (with_reducible repeat (first | apply Kd.N_alloc | apply Kd.N_drewN | apply Kd.N_drew)); exact HO196.out) gb227 (Nat.le_of_eq hg.symm)) hb); have n3_ := Aside0.mk (Kd.N_below (Kd.N_elderB (by (with_reducible repeat (first | apply Kd.N_alloc | apply Kd.N_drewN | apply Kd.N_drew)); exact HO201.out) gb227 (Nat.le_of_eq hg.symm)) hb); have n4_ := Aside0.mk (Kd.N_below (Kd.N_elderB (by (with_reducible repeat (first | apply Kd.N_alloc | apply Kd.N_drewN | apply Kd.N_drew)); exact HO207.out) gb227 (Nat.le_of_eq hg.symm)) hb); have n5_ := Aside0.mk (Kd.N_below (Kd.N_elderB (by (with_reducible repeat (first | apply Kd.N_alloc | apply Kd.N_drewN | apply Kd.N_drew)); exact HO212.out) gb227 (Nat.le_of_eq hg.symm)) hb); have n6_ := Aside0.mk (Kd.R_below (by (with_reducible repeat (first | apply Kd.R_alloc | apply Kd.R_drewN | apply Kd.R_drew)); exact HO217.out) hb); have n7_ := Aside0.mk (blk_below (g := gb222) (o := .cells #[.int .i64 t218, .int .u64 t219, .int .u64 t220] 38 (0, 0)) (by (with_reducible repeat (first | refine blk_drewN ?_ _ | refine blk_drew ?_ | refine blk_alloc ?_ _)); exact BK222.out) hb); have n8_ := Aside0.mk (below_step (by repeat (first | (with_reducible first | exact HB.out | apply below_alloc | apply pw_below_drewN | apply below_drew1 | refine below_set ?_ GE222.out) | exact HB.out)) hb); have n9_ := Aside0.mk (hbox); have n10_ := Aside0.mk ((by rw [hg]; exact (below_size (by repeat (first | (with_reducible first | exact HB.out | apply below_alloc | apply pw_below_drewN | apply below_drew1 | refine below_set ?_ GE222.out) | exact HB.out))) : w.heap.size ≤ gb227)); have n11_ := Aside0.mk ((by rw [hg]; exact (below_size (by repeat (first | (with_reducible first | exact HB.out | apply below_alloc | apply pw_below_drewN | apply below_drew1 | refine below_set ?_ GE222.out) | exact HB.out))) : w.heap.size ≤ gb227)); have n12_ := Aside0.mk ((by rw [hg]; exact Nat.ne_of_lt (blk_lt (g := gb222) (o := .cells #[.int .i64 t218, .int .u64 t219, .int .u64 t220] 38 (0, 0)) (by (with_reducible repeat (first | refine blk_drewN ?_ _ | refine blk_drew ?_ | refine blk_alloc ?_ _)); exact BK222.out)) : gb222 ≠ gb227)); have n13_ := Aside0.mk ((by rw [hg]; exact Nat.ne_of_gt (blk_lt (g := gb222) (o := .cells #[.int .i64 t218, .int .u64 t219, .int .u64 t220] 38 (0, 0)) (by (with_reducible repeat (first | refine blk_drewN ?_ _ | refine blk_drew ?_ | refine blk_alloc ?_ _)); exact BK222.out)) : gb227 ≠ gb222)); clear HO186; clear HO191; clear HO196; clear HO201; clear HO207; clear HO212; clear HO217; clear BK222; clear HB; have HO186 := n0_; have HO191 := n1_; have HO196 := n2_; have HO201 := n3_; have HO207 := n4_; have HO212 := n5_; have HO217 := n6_; have BK222 := n7_; have HB := n8_; have BK227 := n9_; have GW227 := n10_; have GE227 := n11_; have NB222_227 := n12_; have NB227_222 := n13_; clear n0_ n1_ n2_ n3_ n4_ n5_ n6_ n7_ n8_ n9_ n10_ n11_ n12_ n13_; clear hb hbox hg; have hnb51 := NB227_222.out; have hnc51 := NB222_227.out; have hcz52_0 : w50.cell? ⟨gb227, 0, none⟩ = some (.int .i64 0) := (blk_cell BK227.out 0).trans rfl; have hcz52_1 : w50.cell? ⟨gb227, 1, none⟩ = some (.int .u64 0) := (blk_cell BK227.out 1).trans rfl; have hcz52_2 : w50.cell? ⟨gb227, 2, none⟩ = some (.int .u64 0) := (blk_cell BK227.out 2).trans rfl; have hfz52_0 := blk_frozen BK227.out 0; have hfz52_1 := blk_frozen BK227.out 1; have hfz52_2 := blk_frozen BK227.out 2) | ((with_reducible refine gate_dst (N := 68) rfl ?_); refine Kd.R_lit (Kd.int .u64) _ 31 ?hg (N := 68) ?hd (xs := ([1, 10] : List Int)) (inner := [.int .u64 1, .int .u64 10]) (ok := fun _ => True) (okp := fun _ => True) ?hr ?hp (fun _ hk => hk) trivial (Below.refl _ _) (Nat.le_refl _) (by simp) ?_; (case hd => rfl); (case hg => rfl); (case hr => first | (go_simp; done) | (go_simp; rfl)); (case hp => exact (Reps.one (show Kd.M (Kd.int .u64) _ _ _ 1 [.int .u64 1] from rfl) (Reps.one (show Kd.M (Kd.int .u64) _ _ _ 10 [.int .u64 10] from rfl) (Reps.none _ _)))); intro v229 w53 ho54 hb hg_ hnew_; clear hg_ hnew_; (first | rw [← Ny228.out] at ho54 | (simp only [Int.reduceToNat] at ho54; rw [← Ny228.out] at ho54)); have n0_ := Aside0.mk (Kd.N_elder' (by (with_reducible repeat (first | apply Kd.N_alloc | apply Kd.N_drewN | apply Kd.N_drew)); exact (Kd.N_mono (Kd.N_far (p := ⟨gb227, 2, none⟩) (Kd.N_far (p := ⟨gb227, 1, none⟩) (Kd.N_far (p := ⟨gb227, 0, none⟩) (Kd.N_mono HO186.out (fun k_ hk => (⟨hk, hk.2⟩ : _ ∧ k_ ≠ gb227))) (fun _ hk => hk.2) (.int .i64 t223)) (fun _ hk => hk.2) (.int .u64 t224)) (fun _ hk => hk.2) (.int .u64 t225)) (fun _ h_ => h_.1))) (Kd.R_base ho54) hb); have n1_ := Aside0.mk (Kd.N_elder' (by (with_reducible repeat (first | apply Kd.N_alloc | apply Kd.N_drewN | apply Kd.N_drew)); exact (Kd.N_mono (Kd.N_far (p := ⟨gb227, 2, none⟩) (Kd.N_far (p := ⟨gb227, 1, none⟩) (Kd.N_far (p := ⟨gb227, 0, none⟩) (Kd.N_mono HO191.out (fun k_ hk => (⟨hk, hk.2⟩ : _ ∧ k_ ≠ gb227))) (fun _ hk => hk.2) (.int .i64 t223)) (fun _ hk => hk.2) (.int .u64 t224)) (fun _ hk => hk.2) (.int .u64 t225)) (fun _ h_ => h_.1))) (Kd.R_base ho54) hb); have n2_ := Aside0.mk (Kd.N_elder' (by (with_reducible repeat (first | apply Kd.N_alloc | apply Kd.N_drewN | apply Kd.N_drew)); exact (Kd.N_mono (Kd.N_far (p := ⟨gb227, 2, none⟩) (Kd.N_far (p := ⟨gb227, 1, none⟩) (Kd.N_far (p := ⟨gb227, 0, none⟩) (Kd.N_mono HO196.out (fun k_ hk => (⟨hk, hk.2⟩ : _ ∧ k_ ≠ gb227))) (fun _ hk => hk.2) (.int .i64 t223)) (fun _ hk => hk.2) (.int .u64 t224)) (fun _ hk => hk.2) (.int .u64 t225)) (fun _ h_ => h_.1))) (Kd.R_base ho54) hb); have n3_ := Aside0.mk (Kd.N_elder' (by (with_reducible repeat (first | apply Kd.N_alloc | apply Kd.N_drewN | apply Kd.N_drew)); exact (Kd.N_mono (Kd.N_far (p := ⟨gb227, 2, none⟩) (Kd.N_far (p := ⟨gb227, 1, none⟩) (Kd.N_far (p := ⟨gb227, 0, none⟩) (Kd.N_mono HO201.out (fun k_ hk => (⟨hk, hk.2⟩ : _ ∧ k_ ≠ gb227))) (fun _ hk => hk.2) (.int .i64 t223)) (fun _ hk => hk.2) (.int .u64 t224)) (fun _ hk => hk.2) (.int .u64 t225)) (fun _ h_ => h_.1))) (Kd.R_base ho54) hb); have n4_ := Aside0.mk (Kd.N_elder' (by (with_reducible repeat (first | apply Kd.N_alloc | apply Kd.N_drewN | apply Kd.N_drew)); exact (Kd.N_mono (Kd.N_far (p := ⟨gb227, 2, none⟩) (Kd.N_far (p := ⟨gb227, 1, none⟩) (Kd.N_far (p := ⟨gb227, 0, none⟩) (Kd.N_mono HO207.out (fun k_ hk => (⟨hk, hk.2⟩ : _ ∧ k_ ≠ gb227))) (fun _ hk => hk.2) (.int .i64 t223)) (fun _ hk => hk.2) (.int .u64 t224)) (fun _ hk => hk.2) (.int .u64 t225)) (fun _ h_ => h_.1))) (Kd.R_base ho54) hb); have n5_ := Aside0.mk (Kd.N_elder' (by (with_reducible repeat (first | apply Kd.N_alloc | apply Kd.N_drewN | apply Kd.N_drew)); exact (Kd.N_mono (Kd.N_far (p := ⟨gb227, 2, none⟩) (Kd.N_far (p := ⟨gb227, 1, none⟩) (Kd.N_far (p := ⟨gb227, 0, none⟩) (Kd.N_mono HO212.out (fun k_ hk => (⟨hk, hk.2⟩ : _ ∧ k_ ≠ gb227))) (fun _ hk => hk.2) (.int .i64 t223)) (fun _ hk => hk.2) (.int .u64 t224)) (fun _ hk => hk.2) (.int .u64 t225)) (fun _ h_ => h_.1))) (Kd.R_base ho54) hb); have n6_ := Aside0.mk (Kd.R_elder' (by (with_reducible repeat (first | apply Kd.R_alloc | apply Kd.R_drewN | apply Kd.R_drew)); exact (Kd.R_mono (Kd.R_far (p := ⟨gb227, 2, none⟩) (Kd.R_far (p := ⟨gb227, 1, none⟩) (Kd.R_far (p := ⟨gb227, 0, none⟩) (Kd.R_types HO217.out BK227.out (by decide)) (fun _ hk => hk.2) (.int .i64 t223)) (fun _ hk => hk.2) (.int .u64 t224)) (fun _ hk => hk.2) (.int .u64 t225)) (fun _ h_ => h_.1))) (Kd.R_base ho54) hb); have n7_ := Aside0.mk (Kd.R_lower (Kd.R_new' ho54 (Kd.R_lt (by (with_reducible repeat (first | apply Kd.R_alloc | apply Kd.R_drewN | apply Kd.R_drew)); exact (Kd.R_mono (Kd.R_far (p := ⟨gb227, 2, none⟩) (Kd.R_far (p := ⟨gb227, 1, none⟩) (Kd.R_far (p := ⟨gb227, 0, none⟩) (Kd.R_types HO217.out BK227.out (by decide)) (fun _ hk => hk.2) (.int .i64 t223)) (fun _ hk => hk.2) (.int .u64 t224)) (fun _ hk => hk.2) (.int .u64 t225)) (fun _ h_ => h_.1))))) (below_size (by repeat (first | (with_reducible first | exact HB.out | apply below_alloc | apply pw_below_drewN | apply below_drew1 | refine below_set ?_ GE222.out | refine below_set ?_ GE227.out) | exact HB.out)))); have n8_ := Aside0.mk (blk_below (g := gb222) (o := .cells #[.int .i64 t218, .int .u64 t219, .int .u64 t220] 38 (0, 0)) (by (with_reducible repeat (first | refine blk_drewN ?_ _ | refine blk_drew ?_ | refine blk_alloc ?_ _)); refine blk_far ?_ NB222_227.out _; (with_reducible repeat (first | refine blk_drewN ?_ _ | refine blk_drew ?_ | refine blk_alloc ?_ _)); refine blk_far ?_ NB222_227.out _; (with_reducible repeat (first | refine blk_drewN ?_ _ | refine blk_drew ?_ | refine blk_alloc ?_ _)); refine blk_far ?_ NB222_227.out _; (with_reducible repeat (first | refine blk_drewN ?_ _ | refine blk_drew ?_ | refine blk_alloc ?_ _)); exact BK222.out) hb); have n9_ := Aside0.mk (blk_below (g := gb227) (o := .cells #[.int .i64 t223, .int .u64 t224, .int .u64 t225] 38 (0, 0)) (by (with_reducible repeat (first | refine blk_drewN ?_ _ | refine blk_drew ?_ | refine blk_alloc ?_ _)); refine blk_put (cs := #[.int .i64 t223, .int .u64 t224, .int .u64 0]) ?_ 2 _ rfl; (with_reducible repeat (first | refine blk_drewN ?_ _ | refine blk_drew ?_ | refine blk_alloc ?_ _)); refine blk_put (cs := #[.int .i64 t223, .int .u64 0, .int .u64 0]) ?_ 1 _ rfl; (with_reducible repeat (first | refine blk_drewN ?_ _ | refine blk_drew ?_ | refine blk_alloc ?_ _)); refine blk_put (cs := #[.int .i64 0, .int .u64 0, .int .u64 0]) ?_ 0 _ rfl; (with_reducible repeat (first | refine blk_drewN ?_ _ | refine blk_drew ?_ | refine blk_alloc ?_ _)); exact BK227.out) hb); have n10_ := Aside0.mk (below_step (by repeat (first | (with_reducible first | exact HB.out | apply below_alloc | apply pw_below_drewN | apply below_drew1 | refine below_set ?_ GE222.out | refine below_set ?_ GE227.out) | exact HB.out)) hb); clear HO186; clear HO191; clear HO196; clear HO201; clear HO207; clear HO212; clear HO217; clear BK222; clear BK227; clear HB; have HO186 := n0_; have HO191 := n1_; have HO196 := n2_; have HO201 := n3_; have HO207 := n4_; have HO212 := n5_; have HO217 := n6_; have HO230 := n7_; have BK222 := n8_; have BK227 := n9_; have HB := n10_; clear n0_ n1_ n2_ n3_ n4_ n5_ n6_ n7_ n8_ n9_ n10_; clear hb ho54; obtain ⟨Ao55, co55, eo55⟩ := Kd.R_slice HO230.out; subst eo55) | ((with_reducible refine gate_dst (N := 70) rfl ?_); refine Kd.R_lit (Kd.int .u64) _ 31 ?hg (N := 70) ?hd (xs := ([0, 9] : List Int)) (inner := [.int .u64 0, .int .u64 9]) (ok := fun _ => True) (okp := fun _ => True) ?hr ?hp (fun _ hk => hk) trivial (Below.refl _ _) (Nat.le_refl _) (by simp) ?_; (case hd => rfl); (case hg => rfl); (case hr => first | (go_simp; done) | (go_simp; rfl)); (case hp => exact (Reps.one (show Kd.M (Kd.int .u64) _ _ _ 0 [.int .u64 0] from rfl) (Reps.one (show Kd.M (Kd.int .u64) _ _ _ 9 [.int .u64 9] from rfl) (Reps.none _ _)))); intro v232 w56 ho57 hb hg_ hnew_; clear hg_ hnew_; (first | rw [← Ny231.out] at ho57 | (simp only [Int.reduceToNat] at ho57; rw [← Ny231.out] at ho57)); have n0_ := Aside0.mk (Kd.N_elder' (by (with_reducible repeat (first | apply Kd.N_alloc | apply Kd.N_drewN | apply Kd.N_drew)); exact HO186.out) (Kd.R_base ho57) hb); have n1_ := Aside0.mk (Kd.N_elder' (by (with_reducible repeat (first | apply Kd.N_alloc | apply Kd.N_drewN | apply Kd.N_drew)); exact HO191.out) (Kd.R_base ho57) hb); have n2_ := Aside0.mk (Kd.N_elder' (by (with_reducible repeat (first | apply Kd.N_alloc | apply Kd.N_drewN | apply Kd.N_drew)); exact HO196.out) (Kd.R_base ho57) hb); have n3_ := Aside0.mk (Kd.N_elder' (by (with_reducible repeat (first | apply Kd.N_alloc | apply Kd.N_drewN | apply Kd.N_drew)); exact HO201.out) (Kd.R_base ho57) hb); have n4_ := Aside0.mk (Kd.N_elder' (by (with_reducible repeat (first | apply Kd.N_alloc | apply Kd.N_drewN | apply Kd.N_drew)); exact HO207.out) (Kd.R_base ho57) hb); have n5_ := Aside0.mk (Kd.N_elder' (by (with_reducible repeat (first | apply Kd.N_alloc | apply Kd.N_drewN | apply Kd.N_drew)); exact HO212.out) (Kd.R_base ho57) hb); have n6_ := Aside0.mk (Kd.R_elder' (by (with_reducible repeat (first | apply Kd.R_alloc | apply Kd.R_drewN | apply Kd.R_drew)); exact HO217.out) (Kd.R_base ho57) hb); have n7_ := Aside0.mk (Kd.R_elder' (by (with_reducible repeat (first | apply Kd.R_alloc | apply Kd.R_drewN | apply Kd.R_drew)); exact HO230.out) (Kd.R_base ho57) hb); have n8_ := Aside0.mk (Kd.R_lower (Kd.R_new' (Kd.R_new' ho57 (Kd.R_lt (by (with_reducible repeat (first | apply Kd.R_alloc | apply Kd.R_drewN | apply Kd.R_drew)); exact HO217.out))) (Kd.R_lt (by (with_reducible repeat (first | apply Kd.R_alloc | apply Kd.R_drewN | apply Kd.R_drew)); exact HO230.out))) (below_size (by repeat (first | (with_reducible first | exact HB.out | apply below_alloc | apply pw_below_drewN | apply below_drew1 | refine below_set ?_ GE222.out | refine below_set ?_ GE227.out) | exact HB.out)))); have n9_ := Aside0.mk (blk_below (g := gb222) (o := .cells #[.int .i64 t218, .int .u64 t219, .int .u64 t220] 38 (0, 0)) (by (with_reducible repeat (first | refine blk_drewN ?_ _ | refine blk_drew ?_ | refine blk_alloc ?_ _)); exact BK222.out) hb); have n10_ := Aside0.mk (blk_below (g := gb227) (o := .cells #[.int .i64 t223, .int .u64 t224, .int .u64 t225] 38 (0, 0)) (by (with_reducible repeat (first | refine blk_drewN ?_ _ | refine blk_drew ?_ | refine blk_alloc ?_ _)); exact BK227.out) hb); have n11_ := Aside0.mk (below_step (by repeat (first | (with_reducible first | exact HB.out | apply below_alloc | apply pw_below_drewN | apply below_drew1 | refine below_set ?_ GE222.out | refine below_set ?_ GE227.out) | exact HB.out)) hb); clear HO186; clear HO191; clear HO196; clear HO201; clear HO207; clear HO212; clear HO217; clear HO230; clear BK222; clear BK227; clear HB; have HO186 := n0_; have HO191 := n1_; have HO196 := n2_; have HO201 := n3_; have HO207 := n4_; have HO212 := n5_; have HO217 := n6_; have HO230 := n7_; have HO233 := n8_; have BK222 := n9_; have BK227 := n10_; have HB := n11_; clear n0_ n1_ n2_ n3_ n4_ n5_ n6_ n7_ n8_ n9_ n10_ n11_; clear hb ho57; obtain ⟨Ao58, co58, eo58⟩ := Kd.R_slice HO233.out; subst eo58) | ((with_reducible refine gate_dst (N := 72) rfl ?_); refine Kd.N_lit k30 _ 30 ?hg (N' := 72) ?hd (xs := ([(⟨(⟨#[112, 117, 116]⟩ : ByteArray), y228⟩ : S30), (⟨(⟨#[114, 97, 110, 103, 101]⟩ : ByteArray), y231⟩ : S30)] : List (S30))) (inner := [.string (⟨#[112, 117, 116]⟩ : ByteArray), .slice Ao55 y228.length co55, .string (⟨#[114, 97, 110, 103, 101]⟩ : ByteArray), .slice Ao58 y231.length co58]) (ok := (fun k_ => some k_ ≠ (v185 : Value).ownBlock ∧ some k_ ≠ (v190 : Value).ownBlock ∧ some k_ ≠ (v195 : Value).ownBlock ∧ some k_ ≠ (v200 : Value).ownBlock ∧ some k_ ≠ (.slice Ao37 y205.length co37 : Value).ownBlock ∧ some k_ ≠ (.slice Ao41 y210.length co41 : Value).ownBlock ∧ some k_ ≠ (.slice Ao45 y215.length co45 : Value).ownBlock ∧ k_ ≠ gb222 ∧ k_ ≠ gb227)) (okp := (fun k_ => some k_ ≠ (v185 : Value).ownBlock ∧ some k_ ≠ (v190 : Value).ownBlock ∧ some k_ ≠ (v195 : Value).ownBlock ∧ some k_ ≠ (v200 : Value).ownBlock ∧ some k_ ≠ (.slice Ao37 y205.length co37 : Value).ownBlock ∧ some k_ ≠ (.slice Ao41 y210.length co41 : Value).ownBlock ∧ some k_ ≠ (.slice Ao45 y215.length co45 : Value).ownBlock ∧ k_ ≠ gb222 ∧ k_ ≠ gb227)) ?hr ?hp (fun _ hk => hk) ((show ∀ k_, w56.heap.size ≤ k_ → (fun k_ => some k_ ≠ (v185 : Value).ownBlock ∧ some k_ ≠ (v190 : Value).ownBlock ∧ some k_ ≠ (v195 : Value).ownBlock ∧ some k_ ≠ (v200 : Value).ownBlock ∧ some k_ ≠ (.slice Ao37 y205.length co37 : Value).ownBlock ∧ some k_ ≠ (.slice Ao41 y210.length co41 : Value).ownBlock ∧ some k_ ≠ (.slice Ao45 y215.length co45 : Value).ownBlock ∧ k_ ≠ gb222 ∧ k_ ≠ gb227) k_ from fun k_ hk => ⟨Kd.fresh' (Kd.N_lt (by (with_reducible repeat (first | apply Kd.N_alloc | apply Kd.N_drewN | apply Kd.N_drew)); exact HO186.out)) k_ hk, Kd.fresh' (Kd.N_lt (by (with_reducible repeat (first | apply Kd.N_alloc | apply Kd.N_drewN | apply Kd.N_drew)); exact HO191.out)) k_ hk, Kd.fresh' (Kd.N_lt (by (with_reducible repeat (first | apply Kd.N_alloc | apply Kd.N_drewN | apply Kd.N_drew)); exact HO196.out)) k_ hk, Kd.fresh' (Kd.N_lt (by (with_reducible repeat (first | apply Kd.N_alloc | apply Kd.N_drewN | apply Kd.N_drew)); exact HO201.out)) k_ hk, Kd.fresh' (Kd.N_lt (by (with_reducible repeat (first | apply Kd.N_alloc | apply Kd.N_drewN | apply Kd.N_drew)); exact HO207.out)) k_ hk, Kd.fresh' (Kd.N_lt (by (with_reducible repeat (first | apply Kd.N_alloc | apply Kd.N_drewN | apply Kd.N_drew)); exact HO212.out)) k_ hk, Kd.fresh' (Kd.R_lt (by (with_reducible repeat (first | apply Kd.R_alloc | apply Kd.R_drewN | apply Kd.R_drew)); exact HO217.out)) k_ hk, Kd.freshB (g := gb222) (o := .cells #[.int .i64 t218, .int .u64 t219, .int .u64 t220] 38 (0, 0)) (by (with_reducible repeat (first | refine blk_drewN ?_ _ | refine blk_drew ?_ | refine blk_alloc ?_ _)); exact BK222.out) k_ hk, Kd.freshB (g := gb227) (o := .cells #[.int .i64 t223, .int .u64 t224, .int .u64 t225] 38 (0, 0)) (by (with_reducible repeat (first | refine blk_drewN ?_ _ | refine blk_drew ?_ | refine blk_alloc ?_ _)); exact BK227.out) k_ hk⟩) _ (Nat.le_refl _)) (Below.refl _ _) (Nat.le_refl _) (by simp) ?_; (case hd => rfl); (case hg => rfl); (case hr => first | (go_simp; done) | (go_simp; rfl)); (case hp => exact (Reps.c2 (show Kd.FK k30 _ _ (⟨(⟨#[112, 117, 116]⟩ : ByteArray), y228⟩ : S30) [.string (⟨#[112, 117, 116]⟩ : ByteArray), .slice Ao55 y228.length co55] from (k30_mkF _ _ (⟨(⟨#[112, 117, 116]⟩ : ByteArray), y228⟩ : S30) (Kd.R_reads' (Kd.R_mono (ok' := (fun k_ => some k_ ≠ (v185 : Value).ownBlock ∧ some k_ ≠ (v190 : Value).ownBlock ∧ some k_ ≠ (v195 : Value).ownBlock ∧ some k_ ≠ (v200 : Value).ownBlock ∧ some k_ ≠ (.slice Ao37 y205.length co37 : Value).ownBlock ∧ some k_ ≠ (.slice Ao41 y210.length co41 : Value).ownBlock ∧ some k_ ≠ (.slice Ao45 y215.length co45 : Value).ownBlock ∧ k_ ≠ gb222 ∧ k_ ≠ gb227)) (Kd.R_types (Kd.R_types (Kd.R_apart' (Kd.R_apart' (Kd.R_apart' (Kd.R_apart' (Kd.R_apart' (Kd.R_apart' (HO230.out) (Kd.N_typed HO186.out) (by decide)) (Kd.N_typed HO191.out) (by decide)) (Kd.N_typed HO196.out) (by decide)) (Kd.N_typed HO201.out) (by decide)) (Kd.N_typed HO207.out) (by decide)) (Kd.N_typed HO212.out) (by decide)) BK222.out (by decide)) BK227.out (by decide)) (fun k_ hk => ⟨hk.1.1.1.1.1.1.1.2, ⟨hk.1.1.1.1.1.1.2, ⟨hk.1.1.1.1.1.2, ⟨hk.1.1.1.1.2, ⟨hk.1.1.1.2, ⟨hk.1.1.2, ⟨hk.1.1.1.1.1.1.1.1.1.2, ⟨hk.1.2, hk.2⟩⟩⟩⟩⟩⟩⟩⟩))).2.1 (Kd.R_F (Kd.R_mono (ok' := (fun k_ => some k_ ≠ (v185 : Value).ownBlock ∧ some k_ ≠ (v190 : Value).ownBlock ∧ some k_ ≠ (v195 : Value).ownBlock ∧ some k_ ≠ (v200 : Value).ownBlock ∧ some k_ ≠ (.slice Ao37 y205.length co37 : Value).ownBlock ∧ some k_ ≠ (.slice Ao41 y210.length co41 : Value).ownBlock ∧ some k_ ≠ (.slice Ao45 y215.length co45 : Value).ownBlock ∧ k_ ≠ gb222 ∧ k_ ≠ gb227)) (Kd.R_types (Kd.R_types (Kd.R_apart' (Kd.R_apart' (Kd.R_apart' (Kd.R_apart' (Kd.R_apart' (Kd.R_apart' (HO230.out) (Kd.N_typed HO186.out) (by decide)) (Kd.N_typed HO191.out) (by decide)) (Kd.N_typed HO196.out) (by decide)) (Kd.N_typed HO201.out) (by decide)) (Kd.N_typed HO207.out) (by decide)) (Kd.N_typed HO212.out) (by decide)) BK222.out (by decide)) BK227.out (by decide)) (fun k_ hk => ⟨hk.1.1.1.1.1.1.1.2, ⟨hk.1.1.1.1.1.1.2, ⟨hk.1.1.1.1.1.2, ⟨hk.1.1.1.1.2, ⟨hk.1.1.1.2, ⟨hk.1.1.2, ⟨hk.1.1.1.1.1.1.1.1.1.2, ⟨hk.1.2, hk.2⟩⟩⟩⟩⟩⟩⟩⟩))))) (Reps.c2 (show Kd.FK k30 _ _ (⟨(⟨#[114, 97, 110, 103, 101]⟩ : ByteArray), y231⟩ : S30) [.string (⟨#[114, 97, 110, 103, 101]⟩ : ByteArray), .slice Ao58 y231.length co58] from (k30_mkF _ _ (⟨(⟨#[114, 97, 110, 103, 101]⟩ : ByteArray), y231⟩ : S30) (Kd.R_reads' (Kd.R_mono (ok' := (fun k_ => some k_ ≠ (v185 : Value).ownBlock ∧ some k_ ≠ (v190 : Value).ownBlock ∧ some k_ ≠ (v195 : Value).ownBlock ∧ some k_ ≠ (v200 : Value).ownBlock ∧ some k_ ≠ (.slice Ao37 y205.length co37 : Value).ownBlock ∧ some k_ ≠ (.slice Ao41 y210.length co41 : Value).ownBlock ∧ some k_ ≠ (.slice Ao45 y215.length co45 : Value).ownBlock ∧ k_ ≠ gb222 ∧ k_ ≠ gb227)) (Kd.R_types (Kd.R_types (Kd.R_apart' (Kd.R_apart' (Kd.R_apart' (Kd.R_apart' (Kd.R_apart' (Kd.R_apart' (HO233.out) (Kd.N_typed HO186.out) (by decide)) (Kd.N_typed HO191.out) (by decide)) (Kd.N_typed HO196.out) (by decide)) (Kd.N_typed HO201.out) (by decide)) (Kd.N_typed HO207.out) (by decide)) (Kd.N_typed HO212.out) (by decide)) BK222.out (by decide)) BK227.out (by decide)) (fun k_ hk => ⟨hk.1.1.1.1.1.1.1.2, ⟨hk.1.1.1.1.1.1.2, ⟨hk.1.1.1.1.1.2, ⟨hk.1.1.1.1.2, ⟨hk.1.1.1.2, ⟨hk.1.1.2, ⟨hk.1.1.1.1.1.1.1.1.1.2, ⟨hk.1.2, hk.2⟩⟩⟩⟩⟩⟩⟩⟩))).2.1 (Kd.R_F (Kd.R_mono (ok' := (fun k_ => some k_ ≠ (v185 : Value).ownBlock ∧ some k_ ≠ (v190 : Value).ownBlock ∧ some k_ ≠ (v195 : Value).ownBlock ∧ some k_ ≠ (v200 : Value).ownBlock ∧ some k_ ≠ (.slice Ao37 y205.length co37 : Value).ownBlock ∧ some k_ ≠ (.slice Ao41 y210.length co41 : Value).ownBlock ∧ some k_ ≠ (.slice Ao45 y215.length co45 : Value).ownBlock ∧ k_ ≠ gb222 ∧ k_ ≠ gb227)) (Kd.R_types (Kd.R_types (Kd.R_apart' (Kd.R_apart' (Kd.R_apart' (Kd.R_apart' (Kd.R_apart' (Kd.R_apart' (HO233.out) (Kd.N_typed HO186.out) (by decide)) (Kd.N_typed HO191.out) (by decide)) (Kd.N_typed HO196.out) (by decide)) (Kd.N_typed HO201.out) (by decide)) (Kd.N_typed HO207.out) (by decide)) (Kd.N_typed HO212.out) (by decide)) BK222.out (by decide)) BK227.out (by decide)) (fun k_ hk => ⟨hk.1.1.1.1.1.1.1.2, ⟨hk.1.1.1.1.1.1.2, ⟨hk.1.1.1.1.1.2, ⟨hk.1.1.1.1.2, ⟨hk.1.1.1.2, ⟨hk.1.1.2, ⟨hk.1.1.1.1.1.1.1.1.1.2, ⟨hk.1.2, hk.2⟩⟩⟩⟩⟩⟩⟩⟩))))) (Reps.none _ _)))); intro v235 w59 ho60 hb hg_ hnew_; clear hg_ hnew_; (first | rw [← Ny234.out] at ho60 | (simp only [Int.reduceToNat] at ho60; rw [← Ny234.out] at ho60)); have n0_ := Aside0.mk (Kd.N_elder' (by (with_reducible repeat (first | apply Kd.N_alloc | apply Kd.N_drewN | apply Kd.N_drew)); exact HO186.out) (Kd.N_base ho60) hb); have n1_ := Aside0.mk (Kd.N_elder' (by (with_reducible repeat (first | apply Kd.N_alloc | apply Kd.N_drewN | apply Kd.N_drew)); exact HO191.out) (Kd.N_base ho60) hb); have n2_ := Aside0.mk (Kd.N_elder' (by (with_reducible repeat (first | apply Kd.N_alloc | apply Kd.N_drewN | apply Kd.N_drew)); exact HO196.out) (Kd.N_base ho60) hb); have n3_ := Aside0.mk (Kd.N_elder' (by (with_reducible repeat (first | apply Kd.N_alloc | apply Kd.N_drewN | apply Kd.N_drew)); exact HO201.out) (Kd.N_base ho60) hb); have n4_ := Aside0.mk (Kd.N_elder' (by (with_reducible repeat (first | apply Kd.N_alloc | apply Kd.N_drewN | apply Kd.N_drew)); exact HO207.out) (Kd.N_base ho60) hb); have n5_ := Aside0.mk (Kd.N_elder' (by (with_reducible repeat (first | apply Kd.N_alloc | apply Kd.N_drewN | apply Kd.N_drew)); exact HO212.out) (Kd.N_base ho60) hb); have n6_ := Aside0.mk (Kd.R_below (by (with_reducible repeat (first | apply Kd.R_alloc | apply Kd.R_drewN | apply Kd.R_drew)); exact HO217.out) hb); have n7_ := Aside0.mk (Kd.N_lower ho60 (below_size (by repeat (first | (with_reducible first | exact HB.out | apply below_alloc | apply pw_below_drewN | apply below_drew1 | refine below_set ?_ GE222.out | refine below_set ?_ GE227.out) | exact HB.out)))); have n8_ := Aside0.mk (blk_below (g := gb222) (o := .cells #[.int .i64 t218, .int .u64 t219, .int .u64 t220] 38 (0, 0)) (by (with_reducible repeat (first | refine blk_drewN ?_ _ | refine blk_drew ?_ | refine blk_alloc ?_ _)); exact BK222.out) hb); have n9_ := Aside0.mk (blk_below (g := gb227) (o := .cells #[.int .i64 t223, .int .u64 t224, .int .u64 t225] 38 (0, 0)) (by (with_reducible repeat (first | refine blk_drewN ?_ _ | refine blk_drew ?_ | refine blk_alloc ?_ _)); exact BK227.out) hb); have n10_ := Aside0.mk (below_step (by repeat (first | (with_reducible first | exact HB.out | apply below_alloc | apply pw_below_drewN | apply below_drew1 | refine below_set ?_ GE222.out | refine below_set ?_ GE227.out) | exact HB.out)) hb); clear HO186; clear HO191; clear HO196; clear HO201; clear HO207; clear HO212; clear HO217; clear BK222; clear BK227; clear HB; clear HO230; clear HO233; have HO186 := n0_; have HO191 := n1_; have HO196 := n2_; have HO201 := n3_; have HO207 := n4_; have HO212 := n5_; have HO217 := n6_; have HO236 := n7_; have BK222 := n8_; have BK227 := n9_; have HB := n10_; clear n0_ n1_ n2_ n3_ n4_ n5_ n6_ n7_ n8_ n9_ n10_; clear hb ho60) | ((with_reducible refine gate_dst (N := 76) rfl ?_); refine Kd.R_lit k50 _ 50 ?hg (N := 76) ?hd (xs := ([(⟨3, 30⟩ : S50), (⟨4, 40⟩ : S50)] : List (S50))) (inner := [.int .u64 3, .int .u64 30, .int .u64 4, .int .u64 40]) (ok := fun _ => True) (okp := fun _ => True) ?hr ?hp (fun _ hk => hk) trivial (Below.refl _ _) (Nat.le_refl _) (by simp) ?_; (case hd => rfl); (case hg => rfl); (case hr => first | (go_simp; done) | (go_simp; rfl)); (case hp => exact (Reps.c2 (show Kd.M k50 _ _ _ (⟨3, 30⟩ : S50) [.int .u64 3, .int .u64 30] from (k50_mkM _ _ _ (⟨3, 30⟩ : S50) )) (Reps.c2 (show Kd.M k50 _ _ _ (⟨4, 40⟩ : S50) [.int .u64 4, .int .u64 40] from (k50_mkM _ _ _ (⟨4, 40⟩ : S50) )) (Reps.none _ _)))); intro v238 w61 ho62 hb hg_ hnew_; clear hg_ hnew_; (first | rw [← Ny237.out] at ho62 | (simp only [Int.reduceToNat] at ho62; rw [← Ny237.out] at ho62)); have n0_ := Aside0.mk (Kd.N_elder' (by (with_reducible repeat (first | apply Kd.N_alloc | apply Kd.N_drewN | apply Kd.N_drew)); exact HO186.out) (Kd.R_base ho62) hb); have n1_ := Aside0.mk (Kd.N_elder' (by (with_reducible repeat (first | apply Kd.N_alloc | apply Kd.N_drewN | apply Kd.N_drew)); exact HO191.out) (Kd.R_base ho62) hb); have n2_ := Aside0.mk (Kd.N_elder' (by (with_reducible repeat (first | apply Kd.N_alloc | apply Kd.N_drewN | apply Kd.N_drew)); exact HO196.out) (Kd.R_base ho62) hb); have n3_ := Aside0.mk (Kd.N_elder' (by (with_reducible repeat (first | apply Kd.N_alloc | apply Kd.N_drewN | apply Kd.N_drew)); exact HO201.out) (Kd.R_base ho62) hb); have n4_ := Aside0.mk (Kd.N_elder' (by (with_reducible repeat (first | apply Kd.N_alloc | apply Kd.N_drewN | apply Kd.N_drew)); exact HO207.out) (Kd.R_base ho62) hb); have n5_ := Aside0.mk (Kd.N_elder' (by (with_reducible repeat (first | apply Kd.N_alloc | apply Kd.N_drewN | apply Kd.N_drew)); exact HO212.out) (Kd.R_base ho62) hb); have n6_ := Aside0.mk (Kd.R_below (by (with_reducible repeat (first | apply Kd.R_alloc | apply Kd.R_drewN | apply Kd.R_drew)); exact HO217.out) hb); have n7_ := Aside0.mk (Kd.N_elder' (by (with_reducible repeat (first | apply Kd.N_alloc | apply Kd.N_drewN | apply Kd.N_drew)); exact HO236.out) (Kd.R_base ho62) hb); have n8_ := Aside0.mk (Kd.R_lower ho62 (below_size (by repeat (first | (with_reducible first | exact HB.out | apply below_alloc | apply pw_below_drewN | apply below_drew1 | refine below_set ?_ GE222.out | refine below_set ?_ GE227.out) | exact HB.out)))); have n9_ := Aside0.mk (blk_below (g := gb222) (o := .cells #[.int .i64 t218, .int .u64 t219, .int .u64 t220] 38 (0, 0)) (by (with_reducible repeat (first | refine blk_drewN ?_ _ | refine blk_drew ?_ | refine blk_alloc ?_ _)); exact BK222.out) hb); have n10_ := Aside0.mk (blk_below (g := gb227) (o := .cells #[.int .i64 t223, .int .u64 t224, .int .u64 t225] 38 (0, 0)) (by (with_reducible repeat (first | refine blk_drewN ?_ _ | refine blk_drew ?_ | refine blk_alloc ?_ _)); exact BK227.out) hb); have n11_ := Aside0.mk (below_step (by repeat (first | (with_reducible first | exact HB.out | apply below_alloc | apply pw_below_drewN | apply below_drew1 | refine below_set ?_ GE222.out | refine below_set ?_ GE227.out) | exact HB.out)) hb); clear HO186; clear HO191; clear HO196; clear HO201; clear HO207; clear HO212; clear HO217; clear HO236; clear BK222; clear BK227; clear HB; have HO186 := n0_; have HO191 := n1_; have HO196 := n2_; have HO201 := n3_; have HO207 := n4_; have HO212 := n5_; have HO217 := n6_; have HO236 := n7_; have HO239 := n8_; have BK222 := n9_; have BK227 := n10_; have HB := n11_; clear n0_ n1_ n2_ n3_ n4_ n5_ n6_ n7_ n8_ n9_ n10_ n11_; clear hb ho62; obtain ⟨Ao63, co63, eo63⟩ := Kd.R_slice HO239.out; subst eo63) | ((with_reducible refine gate_callee (f := 20) rfl ?_); refine goesL_ (some 78) rfl rfl Tryd.func20 (by kernel_rfl) rfl #[.agg #[.int .i64 7, .int .u64 0, .int .u64 0], .agg #[.int .i64 0, .bool false, .int .u64 0, .int .u64 0, .int .i64 0, .slice Ao63 y237.length co63]] rfl (by (try simp only [List.map_toArray, List.map_cons, List.map_nil]); first | done | rfl | (simp only [List.length_drop, List.length_take]; rfl)) ?_; (with_reducible refine (script_Tell.calls k 7 0 0 0 false 0 0 0 _ _ y237 t240 _ ?side1 ?side2 ?sideT A9.out).mono ?_); (case sideT => exact Tabs.keep HT.out (by repeat (first | (with_reducible first | exact HB.out | apply below_alloc | apply pw_below_drewN | apply below_drew1) | exact HB.out))); (case side1 => repeat (first | exact (Kd.R_reads' HO239.out).2.2 | (with_reducible refine Kd.C_alloc ?_ _) | (with_reducible refine Kd.C_drewN ?_ _) | (with_reducible refine Kd.C_drew ?_))); (case side2 => exact (Kd.R_reads' HO239.out).2.1); rintro e w64 ⟨rfl, hb⟩; refine ⟨_, rfl, ?_⟩; have n0_ := Aside0.mk (Kd.N_below (by (with_reducible repeat (first | apply Kd.N_alloc | apply Kd.N_drewN | apply Kd.N_drew)); exact HO186.out) hb); have n1_ := Aside0.mk (Kd.N_below (by (with_reducible repeat (first | apply Kd.N_alloc | apply Kd.N_drewN | apply Kd.N_drew)); exact HO191.out) hb); have n2_ := Aside0.mk (Kd.N_below (by (with_reducible repeat (first | apply Kd.N_alloc | apply Kd.N_drewN | apply Kd.N_drew)); exact HO196.out) hb); have n3_ := Aside0.mk (Kd.N_below (by (with_reducible repeat (first | apply Kd.N_alloc | apply Kd.N_drewN | apply Kd.N_drew)); exact HO201.out) hb); have n4_ := Aside0.mk (Kd.N_below (by (with_reducible repeat (first | apply Kd.N_alloc | apply Kd.N_drewN | apply Kd.N_drew)); exact HO207.out) hb); have n5_ := Aside0.mk (Kd.N_below (by (with_reducible repeat (first | apply Kd.N_alloc | apply Kd.N_drewN | apply Kd.N_drew)); exact HO212.out) hb); have n6_ := Aside0.mk (Kd.R_below (by (with_reducible repeat (first | apply Kd.R_alloc | apply Kd.R_drewN | apply Kd.R_drew)); exact HO217.out) hb); have n7_ := Aside0.mk (Kd.N_below (by (with_reducible repeat (first | apply Kd.N_alloc | apply Kd.N_drewN | apply Kd.N_drew)); exact HO236.out) hb); have n8_ := Aside0.mk (Kd.R_below (by (with_reducible repeat (first | apply Kd.R_alloc | apply Kd.R_drewN | apply Kd.R_drew)); exact HO239.out) hb); have n9_ := Aside0.mk (blk_below (g := gb222) (o := .cells #[.int .i64 t218, .int .u64 t219, .int .u64 t220] 38 (0, 0)) (by (with_reducible repeat (first | refine blk_drewN ?_ _ | refine blk_drew ?_ | refine blk_alloc ?_ _)); exact BK222.out) hb); have n10_ := Aside0.mk (blk_below (g := gb227) (o := .cells #[.int .i64 t223, .int .u64 t224, .int .u64 t225] 38 (0, 0)) (by (with_reducible repeat (first | refine blk_drewN ?_ _ | refine blk_drew ?_ | refine blk_alloc ?_ _)); exact BK227.out) hb); have n11_ := Aside0.mk (below_step (by repeat (first | (with_reducible first | exact HB.out | apply below_alloc | apply pw_below_drewN | apply below_drew1 | refine below_set ?_ GE222.out | refine below_set ?_ GE227.out) | exact HB.out)) hb); clear HO186; clear HO191; clear HO196; clear HO201; clear HO207; clear HO212; clear HO217; clear HO236; clear HO239; clear BK222; clear BK227; clear HB; have HO186 := n0_; have HO191 := n1_; have HO196 := n2_; have HO201 := n3_; have HO207 := n4_; have HO212 := n5_; have HO217 := n6_; have HO236 := n7_; have HO239 := n8_; have BK222 := n9_; have BK227 := n10_; have HB := n11_; clear n0_ n1_ n2_ n3_ n4_ n5_ n6_ n7_ n8_ n9_ n10_ n11_; (try clear hb); (try clear hb2); (try clear hk); (try clear hi); obtain ⟨Ao65, co65, eo65⟩ := Kd.N_slice HO186.out; subst eo65; obtain ⟨Ao66, co66, eo66⟩ := Kd.N_slice HO236.out; subst eo66) | ((with_reducible refine gate_callee (f := 14) rfl ?_); refine goesL_ (some 81) rfl rfl Tryd.func14 (by kernel_rfl) rfl #[.slice Ao65 t182.length co65, .slice Ao66 y234.length co66] rfl (by (try simp only [List.map_toArray, List.map_cons, List.map_nil]); first | done | rfl | (simp only [List.length_drop, List.length_take]; rfl)) ?_; (with_reducible refine (inclinelaw21_same.calls k _ _ t182 _ _ y234 true _ ?side1 ?side2 ?side3 ?side4 A10.out).mono ?_); (case side1 => repeat (first | exact (Kd.N_reads' HO186.out).2.2 | (with_reducible refine Kd.C_alloc ?_ _) | (with_reducible refine Kd.C_drewN ?_ _) | (with_reducible refine Kd.C_drew ?_))); (case side2 => exact (Kd.N_reads' HO186.out).2.1); (case side3 => repeat (first | exact (Kd.N_reads' HO236.out).2.2 | (with_reducible refine Kd.C_alloc ?_ _) | (with_reducible refine Kd.C_drewN ?_ _) | (with_reducible refine Kd.C_drew ?_))); (case side4 => exact (Kd.N_reads' HO236.out).2.1); rintro e w' ⟨rfl, ⟨nd, rfl⟩⟩; refine ⟨_, rfl, ?_⟩; have hcz67_0 : w64.cell? ⟨gb222, 0, none⟩ = some (.int .i64 t218) := (blk_cell BK222.out 0).trans rfl; have hcz67_1 : w64.cell? ⟨gb222, 1, none⟩ = some (.int .u64 t219) := (blk_cell BK222.out 1).trans rfl; have hcz67_2 : w64.cell? ⟨gb222, 2, none⟩ = some (.int .u64 t220) := (blk_cell BK222.out 2).trans rfl; have hfz67_0 := blk_frozen BK222.out 0; have hfz67_1 := blk_frozen BK222.out 1; have hfz67_2 := blk_frozen BK222.out 2) | (go_at_call 14; (with_reducible refine (inclinelaw21_same.calls k _ _ t182 _ _ y234 true _ ?side1 ?side2 ?side3 ?side4 A10.out).mono ?_); (case side1 => repeat (first | exact (Kd.N_reads' HO186.out).2.2 | (with_reducible refine Kd.C_alloc ?_ _) | (with_reducible refine Kd.C_drewN ?_ _) | (with_reducible refine Kd.C_drew ?_))); (case side2 => exact (Kd.N_reads' HO186.out).2.1); (case side3 => repeat (first | exact (Kd.N_reads' HO236.out).2.2 | (with_reducible refine Kd.C_alloc ?_ _) | (with_reducible refine Kd.C_drewN ?_ _) | (with_reducible refine Kd.C_drew ?_))); (case side4 => exact (Kd.N_reads' HO236.out).2.1); rintro e w' ⟨rfl, ⟨nd, rfl⟩⟩; have hcz67_0 : w64.cell? ⟨gb222, 0, none⟩ = some (.int .i64 t218) := (blk_cell BK222.out 0).trans rfl; have hcz67_1 : w64.cell? ⟨gb222, 1, none⟩ = some (.int .u64 t219) := (blk_cell BK222.out 1).trans rfl; have hcz67_2 : w64.cell? ⟨gb222, 2, none⟩ = some (.int .u64 t220) := (blk_cell BK222.out 2).trans rfl; have hfz67_0 := blk_frozen BK222.out 0; have hfz67_1 := blk_frozen BK222.out 1; have hfz67_2 := blk_frozen BK222.out 2) | (go_at_call 20; (refine (script_Tell.calls k 9 0 0 1 false 0 0 0 _ _ ([] : List (S50)) t242 _ ?side1 ?side2 ?sideT A27.out).mono ?_); (case sideT => exact Tabs.keep HT.out (by repeat (first | (with_reducible first | exact HB.out | apply below_alloc | apply pw_below_drewN | apply below_drew1) | exact HB.out))); (case side1 => exact Kd.C_nil _ _); (case side2 => exact Nat.le_refl _); rintro e w68 ⟨rfl, hb⟩; have n0_ := Aside0.mk (Kd.N_below (by (with_reducible repeat (first | apply Kd.N_alloc | apply Kd.N_drewN | apply Kd.N_drew)); exact HO186.out) hb); have n1_ := Aside0.mk (Kd.N_below (by (with_reducible repeat (first | apply Kd.N_alloc | apply Kd.N_drewN | apply Kd.N_drew)); exact HO191.out) hb); have n2_ := Aside0.mk (Kd.N_below (by (with_reducible repeat (first | apply Kd.N_alloc | apply Kd.N_drewN | apply Kd.N_drew)); exact HO196.out) hb); have n3_ := Aside0.mk (Kd.N_below (by (with_reducible repeat (first | apply Kd.N_alloc | apply Kd.N_drewN | apply Kd.N_drew)); exact HO201.out) hb); have n4_ := Aside0.mk (Kd.N_below (by (with_reducible repeat (first | apply Kd.N_alloc | apply Kd.N_drewN | apply Kd.N_drew)); exact HO207.out) hb); have n5_ := Aside0.mk (Kd.N_below (by (with_reducible repeat (first | apply Kd.N_alloc | apply Kd.N_drewN | apply Kd.N_drew)); exact HO212.out) hb); have n6_ := Aside0.mk (Kd.R_below (by (with_reducible repeat (first | apply Kd.R_alloc | apply Kd.R_drewN | apply Kd.R_drew)); exact HO217.out) hb); have n7_ := Aside0.mk (Kd.N_below (by (with_reducible repeat (first | apply Kd.N_alloc | apply Kd.N_drewN | apply Kd.N_drew)); exact HO236.out) hb); have n8_ := Aside0.mk (Kd.R_below (by (with_reducible repeat (first | apply Kd.R_alloc | apply Kd.R_drewN | apply Kd.R_drew)); exact HO239.out) hb); have n9_ := Aside0.mk (blk_below (g := gb222) (o := .cells #[.int .i64 t218, .int .u64 t219, .int .u64 t220] 38 (0, 0)) (by (with_reducible repeat (first | refine blk_drewN ?_ _ | refine blk_drew ?_ | refine blk_alloc ?_ _)); exact BK222.out) hb); have n10_ := Aside0.mk (blk_below (g := gb227) (o := .cells #[.int .i64 t223, .int .u64 t224, .int .u64 t225] 38 (0, 0)) (by (with_reducible repeat (first | refine blk_drewN ?_ _ | refine blk_drew ?_ | refine blk_alloc ?_ _)); exact BK227.out) hb); have n11_ := Aside0.mk (below_step (by repeat (first | (with_reducible first | exact HB.out | apply below_alloc | apply pw_below_drewN | apply below_drew1 | refine below_set ?_ GE222.out | refine below_set ?_ GE227.out) | exact HB.out)) hb); clear HO186; clear HO191; clear HO196; clear HO201; clear HO207; clear HO212; clear HO217; clear HO236; clear HO239; clear BK222; clear BK227; clear HB; have HO186 := n0_; have HO191 := n1_; have HO196 := n2_; have HO201 := n3_; have HO207 := n4_; have HO212 := n5_; have HO217 := n6_; have HO236 := n7_; have HO239 := n8_; have BK222 := n9_; have BK227 := n10_; have HB := n11_; clear n0_ n1_ n2_ n3_ n4_ n5_ n6_ n7_ n8_ n9_ n10_ n11_; (try clear hb); (try clear hb2); (try clear hk); (try clear hi)))
                                  go_ret
                                  exact ⟨by first | rfl | (simp [errW_none, errW_some] <;> rfl) | (simp [*, errW_none, errW_some] <;> rfl), by repeat (first | (with_reducible first | exact HB.out | apply below_alloc | apply pw_below_drewN | apply below_drew1 | refine below_set ?_ GE222.out | refine below_set ?_ GE227.out) | exact HB.out)⟩
                                · rw [if_neg c26] at H
                                  exact absurd H (by simp)
                            · replace c24 := Bool.eq_false_iff.mpr c24
                              subst c24
                              have H1 : (none) = some r := by rw [if_neg (show ¬ (false = true) by decide)] at H; exact H
                              clear H
                              have H := H1
                              clear H1
                              exact absurd H (by simp)
                          · rw [if_neg c23] at H
                            exact absurd H (by simp)
                        · rw [if_neg c22] at H
                          exact absurd H (by simp)
                      · rw [if_neg c21] at H
                        exact absurd H (by simp)
                    · rw [if_neg c20] at H
                      exact absurd H (by simp)
                  · rw [if_neg c19] at H
                    exact absurd H (by simp)
                · rw [if_neg c18] at H
                  exact absurd H (by simp)
              · rw [if_neg c17] at H
                exact absurd H (by simp)
            · rw [if_neg c16] at H
              exact absurd H (by simp)
          · rw [if_neg c15] at H
            exact absurd H (by simp)
        · rw [if_neg c14] at H
          exact absurd H (by simp)
      · rw [if_neg c13] at H
        exact absurd H (by simp)
    · rw [if_neg c12] at H
      exact absurd H (by simp)
  · replace c11 := Bool.eq_false_iff.mpr c11
    subst c11
    have H1 : (none) = some r := by rw [if_neg (show ¬ (false = true) by decide)] at H; exact H
    clear H
    have H := H1
    clear H1
    exact absurd H (by simp)

end Go.Proofs.YtlfoaaeelcmhiaaDoor.G
end

section
/- Plain laws, on: shown. -/
namespace Go.Proofs.YtlfoaaeelcmhiaaDoor.Pure
open Go.RowKit Go.Proofs.YtlfoaaeelcmhiaaDoor.G
open Go.Proofs.YtlfoaaeelcmhiaaDoorW.PrintWords hiding nums
set_option linter.unusedVariables false
set_option linter.unusedSimpArgs false
theorem dec0 (n : Nat) (h : n < 10) : Lib.decDigits n = [UInt8.ofNat (48 + n)] := decDigits_small h
theorem dec40 : Lib.decDigits 40 = [52, 48] := by rw [decDigits_big (by omega), decDigits_small (by omega)]; rfl
theorem dec30 : Lib.decDigits 30 = [51, 48] := by rw [decDigits_big (by omega), decDigits_small (by omega)]; rfl
theorem shown_is : ∃ K, ∀ k, K ≤ k → inclinelaw21_shown.f k = some true := by
  obtain ⟨Ks, hsame⟩ := same_self [(⟨(⟨#[112, 117, 116]⟩ : ByteArray), [1, 10]⟩ : S30), (⟨(⟨#[114, 97, 110, 103, 101]⟩ : ByteArray), [0, 9]⟩ : S30)] (by simp) (by intro c hc; simp at hc; rcases hc with h | h <;> subst h <;> simp)
  refine ⟨30000 + Ks, fun k hk => ?_⟩
  have p1 : script_Parse.f (⟨#[112, 117, 116, 32, 49, 32, 49, 48, 10, 10, 35, 32, 97, 108, 108, 10, 32, 32, 114, 97, 110, 103, 101, 32, 48, 32, 32, 32, 57, 32]⟩ : ByteArray) = some ([⟨⟨#[112, 117, 116]⟩, [1, 10]⟩, ⟨⟨#[114, 97, 110, 103, 101]⟩, [0, 9]⟩], 0, 0) := by kernel_rfl
  have p2 : script_Parse.f (⟨#[103, 101, 116, 32, 53, 10, 71, 101, 116, 32, 53]⟩ : ByteArray) = some ([], 2, 211) := by kernel_rfl
  have p3 : script_Parse.f (⟨#[103, 101, 116, 32, 48, 49]⟩ : ByteArray) = some ([], 1, 212) := by kernel_rfl
  have p4 : script_Parse.f (⟨#[103, 101, 116]⟩ : ByteArray) = some ([], 1, 213) := by kernel_rfl
  have p5 : script_Print.f k [(⟨(⟨#[115, 97, 118, 101]⟩ : ByteArray), ([] : List Int)⟩ : S30), (⟨(⟨#[112, 97, 116, 104]⟩ : ByteArray), [0, 7]⟩ : S30)] = some (mk [115, 97, 118, 101, 10, 112, 97, 116, 104, 32, 48, 32, 55, 10], 0) := by
    rw [print_is _ (by intro c hc n hn; simp at hc; rcases hc with h | h <;> subst h <;> simp at hn; rcases hn with hn | hn <;> subst hn <;> exact ⟨by omega, by omega⟩) k (by omega)]
    simp [prGo, bl, takesL, numsText, dec0]
  have p6 : script_Print.f k [(⟨(⟨#[83, 97, 118, 101]⟩ : ByteArray), ([] : List Int)⟩ : S30)] = some (⟨#[]⟩, 211) := by
    rw [print_is _ (by intro c hc n hn; simp at hc; subst hc; simp at hn) k (by omega)]
    rfl
  have p7 : script_Op.f k (⟨#[114, 97, 110, 103, 101]⟩ : ByteArray) [9, 3] = some (7, 9, 3, true) := by
    obtain ⟨k, rfl⟩ : ∃ m, k = m + 1 := ⟨k - 1, by omega⟩
    unfold script_Op.f
    rw [show script_kind.f (⟨#[114, 97, 110, 103, 101]⟩ : ByteArray) = some 7 from by kernel_rfl, Option.bind_some, takes_is _ (by omega), Option.bind_some]
    rfl
  have p8 : script_Op.f k (⟨#[115, 116, 97, 116, 115]⟩ : ByteArray) [] = some (0, 0, 0, false) := by
    obtain ⟨k, rfl⟩ : ∃ m, k = m + 1 := ⟨k - 1, by omega⟩
    unfold script_Op.f
    rw [show script_kind.f (⟨#[115, 116, 97, 116, 115]⟩ : ByteArray) = some 0 from by kernel_rfl, Option.bind_some, takes_is _ (by omega), Option.bind_some]
    rfl
  have p9 : script_Tell.f k 7 0 0 0 false 0 0 0 [(⟨3, 30⟩ : S50), (⟨4, 40⟩ : S50)] = some (mk [50, 32, 51, 32, 51, 48, 32, 52, 32, 52, 48]) := by
    rw [tell_is 7 0 0 0 false 0 0 0 _ ⟨by omega, by omega⟩ ⟨by omega, by omega⟩ ⟨by omega, by omega⟩ ⟨by omega, by omega⟩ (by refine ⟨by simp, ?_⟩; intro x hx; simp at hx; rcases hx with h | h <;> subst h <;> simp) (by simp) k (by simp; omega)]
    simp [tellT, pairsBytes, pairBytes, dec0, dec30, dec40]
  have p10 : script_Tell.f k 9 0 0 1 false 0 0 0 ([] : List S50) = some (mk [101, 114, 114, 111, 114, 32, 49]) := by
    rw [tell_is 9 0 0 1 false 0 0 0 _ ⟨by omega, by omega⟩ ⟨by omega, by omega⟩ ⟨by omega, by omega⟩ ⟨by omega, by omega⟩ (by refine ⟨by simp, ?_⟩; intro x hx; simp at hx) (by simp) k (by simp; omega)]
    simp [tellT, Lib.itoa, dec0]
    rfl
  unfold inclinelaw21_shown.f
  rw [p1, p2, p3, p4, p5, p6, p7, p8, p9]
  simp only [Option.bind_some]
  rw [hsame k (by omega)]
  simp only [Option.bind_some, p10, toList_bl, bl_mk]
  rfl
end Go.Proofs.YtlfoaaeelcmhiaaDoor.Pure
end
