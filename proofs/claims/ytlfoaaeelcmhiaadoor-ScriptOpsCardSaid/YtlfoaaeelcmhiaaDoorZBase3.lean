/- Some of the claim's own texts, in one file: Gx13, PlainH, PlainI, PlainJ, Gx1, Gx9, Gx10, Gx14. Conditions: each theorem's own. -/
import Derived.Test.YtlfoaaeelcmhiaaDoorZBase1
import Derived.Test.YtlfoaaeelcmhiaaDoorZBase2
section
-- Written by a program of this session (wip/gprint.py: the kit's print, with contracts proved by hand)
namespace Go.Proofs.YtlfoaaeelcmhiaaDoor.G
open Go.RowKit Go.Proofs.YtlfoaaeelcmhiaaDoorW.PrintWords Go.Proofs.YtlfoaaeelcmhiaaDoorW.PrintLast Go.Proofs.YtlfoaaeelcmhiaaDoorW.PrintMore
attribute [local go_sem] max2_int min2_int max_two min_two max_three min_three max_four min_four   -- for this text's walks alone
set_option linter.unusedVariables false
set_option linter.unusedSimpArgs false

/-! ### script_Tell: function 20 -/
mutual
def script_Tell.j0 : Nat → Bool → Int → Int → Int → Int → Bool → Int → Int → Int → List (S50) → Option (ByteArray)
  | 0, _, _, _, _, _, _, _, _, _, _ => none
  | k + 1, x20, x159000, x159001, x159002, x160000, x160001, x160002, x160003, x160004, x160005 => if x20 = true then (some (⟨#[121, 101, 115]⟩ : ByteArray)) else (if x159000 = 2 then (some (⟨#[110, 111]⟩ : ByteArray)) else (if x159000 = 6 then ((strconv_Itoa.f x160004).bind fun t160 => (some t160)) else (if x159000 = 7 then (script_Tell.l0 k (([IntKind.u64.wrap ((x160005.length : Int))] : List Int)) x160005 (x160005.length : Int) 0) else (if x159000 < 3 then (script_Tell.j2 k true x159000 x159001 x159002 x160000 x160001 x160002 x160003 x160004 x160005) else (script_Tell.j2 k (decide (x159000 > 5)) x159000 x159001 x159002 x160000 x160001 x160002 x160003 x160004 x160005)))))
def script_Tell.l0 : Nat → List Int → List (S50) → Int → Int → Option (ByteArray)
  | 0, _, _, _, _ => none
  | k + 1, x5, x49, x50, x51 => if x51 < x50 then (if 0 ≤ x51 then (if x51 < (x49.length : Int) then ((some (([(rd_T50 x49 x51).f0, (rd_T50 x49 x51).f1] : List Int) : List Int)).bind fun y166 => (if x5.length + y166.length < 17592186044416 then (script_Tell.l0 k (x5 ++ y166) x49 x50 (wrap64 (x51 + 1))) else (none))) else (none)) else (none)) else ((script_line.f k x5).bind fun t172 => (some t172))
def script_Tell.j2 : Nat → Bool → Int → Int → Int → Int → Bool → Int → Int → Int → List (S50) → Option (ByteArray)
  | 0, _, _, _, _, _, _, _, _, _, _ => none
  | k + 1, x65, x159000, x159001, x159002, x160000, x160001, x160002, x160003, x160004, x160005 => if x65 = true then (some (⟨#[]⟩ : ByteArray)) else (if x160001 = true then (if x159000 = 3 then ((script_line.f k (([x160003] : List Int))).bind fun t176 => (some t176)) else ((script_line.f k (([x160002, x160003] : List Int))).bind fun t180 => (some t180))) else (some (⟨#[110, 111, 110, 101]⟩ : ByteArray)))
end
def script_Tell.f (k : Nat) (a0_0 : Int) (a0_1 : Int) (a0_2 : Int) (a1_0 : Int) (a1_1 : Bool) (a1_2 : Int) (a1_3 : Int) (a1_4 : Int) (l1_5 : List (S50)) : Option (ByteArray) := if a1_0 = 0 then (if a0_0 = 1 then (some (⟨#[111, 107]⟩ : ByteArray)) else (if a0_0 = 2 then (script_Tell.j0 k a1_1 a0_0 a0_1 a0_2 a1_0 a1_1 a1_2 a1_3 a1_4 l1_5) else (script_Tell.j0 k false a0_0 a0_1 a0_2 a1_0 a1_1 a1_2 a1_3 a1_4 l1_5))) else ((strconv_Itoa.f a1_0).bind fun t181 => (if 6 + t181.size ≤ 9223372036854775807 then (some ((⟨#[101, 114, 114, 111, 114, 32]⟩ : ByteArray) ++ t181)) else (none)))
theorem script_Tell.mono_l : ∀ k, (∀ y0 y1 y2 y3 y4 y5 y6 y7 y8 y9, LeO (script_Tell.j0 k y0 y1 y2 y3 y4 y5 y6 y7 y8 y9) (script_Tell.j0 (k + 1) y0 y1 y2 y3 y4 y5 y6 y7 y8 y9)) ∧ (∀ y0 y1 y2 y3, LeO (script_Tell.l0 k y0 y1 y2 y3) (script_Tell.l0 (k + 1) y0 y1 y2 y3)) ∧ (∀ y0 y1 y2 y3 y4 y5 y6 y7 y8 y9, LeO (script_Tell.j2 k y0 y1 y2 y3 y4 y5 y6 y7 y8 y9) (script_Tell.j2 (k + 1) y0 y1 y2 y3 y4 y5 y6 y7 y8 y9))
  | 0 => ⟨fun _ _ _ _ _ _ _ _ _ _ r h => by simp [script_Tell.j0] at h, fun _ _ _ _ r h => by simp [script_Tell.l0] at h, fun _ _ _ _ _ _ _ _ _ _ r h => by simp [script_Tell.j2] at h⟩
  | k + 1 => by
    obtain ⟨ih0, ih1, ih2⟩ := script_Tell.mono_l k
    refine ⟨?_, ?_, ?_⟩
    · intro y0 y1 y2 y3 y4 y5 y6 y7 y8 y9
      unfold script_Tell.j0
      repeat' first
      | (with_reducible exact ih0 _ _ _ _ _ _ _ _ _ _)
      | (with_reducible exact ih1 _ _ _ _)
      | (with_reducible exact ih2 _ _ _ _ _ _ _ _ _ _)
      | (with_reducible exact script_line.mono _ _)
      | (with_reducible exact LeO.refl _)
      | (with_reducible exact LeO.none _)
      | (with_reducible refine LeO.ite ?_ ?_)
      | (with_reducible refine LeO.bind ?_ (fun _ => ?_))
      | exact ih0 _ _ _ _ _ _ _ _ _ _
      | exact ih1 _ _ _ _
      | exact ih2 _ _ _ _ _ _ _ _ _ _
      | exact script_line.mono _ _
      | exact LeO.none _
      | refine LeO.ite ?_ ?_
      | refine LeO.bind ?_ (fun _ => ?_)
    · intro y0 y1 y2 y3
      unfold script_Tell.l0
      repeat' first
      | (with_reducible exact ih0 _ _ _ _ _ _ _ _ _ _)
      | (with_reducible exact ih1 _ _ _ _)
      | (with_reducible exact ih2 _ _ _ _ _ _ _ _ _ _)
      | (with_reducible exact script_line.mono _ _)
      | (with_reducible exact LeO.refl _)
      | (with_reducible exact LeO.none _)
      | (with_reducible refine LeO.ite ?_ ?_)
      | (with_reducible refine LeO.bind ?_ (fun _ => ?_))
      | exact ih0 _ _ _ _ _ _ _ _ _ _
      | exact ih1 _ _ _ _
      | exact ih2 _ _ _ _ _ _ _ _ _ _
      | exact script_line.mono _ _
      | exact LeO.none _
      | refine LeO.ite ?_ ?_
      | refine LeO.bind ?_ (fun _ => ?_)
    · intro y0 y1 y2 y3 y4 y5 y6 y7 y8 y9
      unfold script_Tell.j2
      repeat' first
      | (with_reducible exact ih0 _ _ _ _ _ _ _ _ _ _)
      | (with_reducible exact ih1 _ _ _ _)
      | (with_reducible exact ih2 _ _ _ _ _ _ _ _ _ _)
      | (with_reducible exact script_line.mono _ _)
      | (with_reducible exact LeO.refl _)
      | (with_reducible exact LeO.none _)
      | (with_reducible refine LeO.ite ?_ ?_)
      | (with_reducible refine LeO.bind ?_ (fun _ => ?_))
      | exact ih0 _ _ _ _ _ _ _ _ _ _
      | exact ih1 _ _ _ _
      | exact ih2 _ _ _ _ _ _ _ _ _ _
      | exact script_line.mono _ _
      | exact LeO.none _
      | refine LeO.ite ?_ ?_
      | refine LeO.bind ?_ (fun _ => ?_)
theorem script_Tell.mono : ∀ a0 a1 a2 a3 a4 a5 a6 a7 a8 k, LeO (script_Tell.f k a0 a1 a2 a3 a4 a5 a6 a7 a8) (script_Tell.f (k + 1) a0 a1 a2 a3 a4 a5 a6 a7 a8) := by
  intro a0 a1 a2 a3 a4 a5 a6 a7 a8 k
  obtain ⟨ih0, ih1, ih2⟩ := script_Tell.mono_l k
  unfold script_Tell.f
  repeat' first
      | (with_reducible exact ih0 _ _ _ _ _ _ _ _ _ _)
      | (with_reducible exact ih1 _ _ _ _)
      | (with_reducible exact ih2 _ _ _ _ _ _ _ _ _ _)
      | (with_reducible exact script_line.mono _ _)
      | (with_reducible exact LeO.refl _)
      | (with_reducible exact LeO.none _)
      | (with_reducible refine LeO.ite ?_ ?_)
      | (with_reducible refine LeO.bind ?_ (fun _ => ?_))
      | exact ih0 _ _ _ _ _ _ _ _ _ _
      | exact ih1 _ _ _ _
      | exact ih2 _ _ _ _ _ _ _ _ _ _
      | exact script_line.mono _ _
      | exact LeO.none _
      | refine LeO.ite ?_ ?_
      | refine LeO.bind ?_ (fun _ => ?_)
set_option maxHeartbeats 8000000 in
set_option maxRecDepth 100000 in
theorem script_Tell.calls (k : Nat) (a0_0 : Int) (a0_1 : Int) (a0_2 : Int) (a1_0 : Int) (a1_1 : Bool) (a1_2 : Int) (a1_3 : Int) (a1_4 : Int) (A1_5 : Option Addr) (c1_5 : Nat) (l1_5 : List (S50)) (r : ByteArray) (w : World) (hr1_5 : Kd.C k50 w A1_5 l1_5.length l1_5) (hc1_5 : l1_5.length ≤ c1_5) (hT : Tabs w) (h : script_Tell.f k a0_0 a0_1 a0_2 a1_0 a1_1 a1_2 a1_3 a1_4 l1_5 = some r) :
    Calls Tryd.prog 20 #[.agg #[.int .i64 a0_0, .int .u64 a0_1, .int .u64 a0_2], .agg #[.int .i64 a1_0, .bool a1_1, .int .u64 a1_2, .int .u64 a1_3, .int .i64 a1_4, .slice A1_5 l1_5.length c1_5]] w fun e w' => e = .returned (.string r) ∧ Below w.heap.size w w' := by
  have HT := Aside0.mk hT
  clear hT
  have hu38 := Tryd.underlying38
  have hu44 := Tryd.underlying44
  have hu50 := Tryd.underlying50
  have HR1_5 := Aside0.mk hr1_5
  have HC1_5 := Aside0.mk hc1_5
  clear hr1_5 hc1_5
  have HB := Aside0.mk (Below.refl w.heap.size w)
  have H : (if a1_0 = 0 then (if a0_0 = 1 then (some (⟨#[111, 107]⟩ : ByteArray)) else (if a0_0 = 2 then (script_Tell.j0 k a1_1 a0_0 a0_1 a0_2 a1_0 a1_1 a1_2 a1_3 a1_4 l1_5) else (script_Tell.j0 k false a0_0 a0_1 a0_2 a1_0 a1_1 a1_2 a1_3 a1_4 l1_5))) else ((strconv_Itoa.f a1_0).bind fun t181 => (if 6 + t181.size ≤ 9223372036854775807 then (some ((⟨#[101, 114, 114, 111, 114, 32]⟩ : ByteArray) ++ t181)) else (none)))) = some r := h
  clear h
  by_cases c3 : a1_0 = 0
  · rw [if_pos c3] at H
    have c3b0 : (a1_0 == 0) = true := beq_iff_eq.mpr c3
    have c3b1 : (a1_0 != 0) = false := bne_eq_false_iff_eq.mpr c3
    clear c3
    by_cases c4 : a0_0 = 1
    · rw [if_pos c4] at H
      have c4b0 : (a0_0 == 1) = true := beq_iff_eq.mpr c4
      have c4b1 : (a0_0 != 1) = false := bne_eq_false_iff_eq.mpr c4
      clear c4
      obtain rfl := Option.some.inj H
      go_enter Tryd.func20, Tryd.ntmps20
      go_wp2_with (first | ((with_reducible refine gate_dst (N := 2) rfl ?_); refine box_event ?hg (N := 2) ?hd (cs := #[.int .i64 a0_0, .int .u64 a0_1, .int .u64 a0_2]) (t := 38) ?hr ?_; (case hd => rfl); (case hg => rfl); (case hr => first | (go_simp; done) | (go_simp; rfl)); intro gb158 hg w5 hbox hb; have n0_ := Aside0.mk (below_step (by repeat (first | (with_reducible first | exact HB.out | apply below_alloc | apply pw_below_drewN | apply below_drew1) | exact HB.out)) hb); have n1_ := Aside0.mk (hbox); have n2_ := Aside0.mk ((by rw [hg]; exact (below_size (by repeat (first | (with_reducible first | exact HB.out | apply below_alloc | apply pw_below_drewN | apply below_drew1) | exact HB.out))) : w.heap.size ≤ gb158)); have n3_ := Aside0.mk ((by rw [hg]; exact (below_size (by repeat (first | (with_reducible first | exact HB.out | apply below_alloc | apply pw_below_drewN | apply below_drew1) | exact HB.out))) : w.heap.size ≤ gb158)); clear HB; have HB := n0_; have BK158 := n1_; have GW158 := n2_; have GE158 := n3_; clear n0_ n1_ n2_ n3_; clear hb hbox hg) | ((with_reducible refine gate_dst (N := 3) rfl ?_); refine box_event ?hg (N := 3) ?hd (cs := #[.int .i64 a1_0, .bool a1_1, .int .u64 a1_2, .int .u64 a1_3, .int .i64 a1_4, .slice A1_5 l1_5.length c1_5]) (t := 44) ?hr ?_; (case hd => rfl); (case hg => rfl); (case hr => first | (go_simp; done) | (go_simp; rfl)); intro gb159 hg w6 hbox hb; have n0_ := Aside0.mk (blk_below (g := gb158) (o := .cells #[.int .i64 a0_0, .int .u64 a0_1, .int .u64 a0_2] 38 (0, 0)) (by (with_reducible repeat (first | refine blk_drewN ?_ _ | refine blk_drew ?_ | refine blk_alloc ?_ _)); exact BK158.out) hb); have n1_ := Aside0.mk (below_step (by repeat (first | (with_reducible first | exact HB.out | apply below_alloc | apply pw_below_drewN | apply below_drew1 | refine below_set ?_ GE158.out) | exact HB.out)) hb); have n2_ := Aside0.mk (hbox); have n3_ := Aside0.mk ((by rw [hg]; exact (below_size (by repeat (first | (with_reducible first | exact HB.out | apply below_alloc | apply pw_below_drewN | apply below_drew1 | refine below_set ?_ GE158.out) | exact HB.out))) : w.heap.size ≤ gb159)); have n4_ := Aside0.mk ((by rw [hg]; exact (below_size (by repeat (first | (with_reducible first | exact HB.out | apply below_alloc | apply pw_below_drewN | apply below_drew1 | refine below_set ?_ GE158.out) | exact HB.out))) : w.heap.size ≤ gb159)); have n5_ := Aside0.mk ((by rw [hg]; exact Nat.ne_of_lt (blk_lt (g := gb158) (o := .cells #[.int .i64 a0_0, .int .u64 a0_1, .int .u64 a0_2] 38 (0, 0)) (by (with_reducible repeat (first | refine blk_drewN ?_ _ | refine blk_drew ?_ | refine blk_alloc ?_ _)); exact BK158.out)) : gb158 ≠ gb159)); have n6_ := Aside0.mk ((by rw [hg]; exact Nat.ne_of_gt (blk_lt (g := gb158) (o := .cells #[.int .i64 a0_0, .int .u64 a0_1, .int .u64 a0_2] 38 (0, 0)) (by (with_reducible repeat (first | refine blk_drewN ?_ _ | refine blk_drew ?_ | refine blk_alloc ?_ _)); exact BK158.out)) : gb159 ≠ gb158)); clear BK158; clear HB; have BK158 := n0_; have HB := n1_; have BK159 := n2_; have GW159 := n3_; have GE159 := n4_; have NB158_159 := n5_; have NB159_158 := n6_; clear n0_ n1_ n2_ n3_ n4_ n5_ n6_; clear hb hbox hg; have hnb7 := NB159_158.out; have hnc7 := NB158_159.out; have hcz8_0 : w6.cell? ⟨gb159, 0, none⟩ = some (.int .i64 a1_0) := (blk_cell BK159.out 0).trans rfl; have hcz8_1 : w6.cell? ⟨gb159, 1, none⟩ = some (.bool a1_1) := (blk_cell BK159.out 1).trans rfl; have hcz8_2 : w6.cell? ⟨gb159, 2, none⟩ = some (.int .u64 a1_2) := (blk_cell BK159.out 2).trans rfl; have hcz8_3 : w6.cell? ⟨gb159, 3, none⟩ = some (.int .u64 a1_3) := (blk_cell BK159.out 3).trans rfl; have hcz8_4 : w6.cell? ⟨gb159, 4, none⟩ = some (.int .i64 a1_4) := (blk_cell BK159.out 4).trans rfl; have hcz8_5 : w6.cell? ⟨gb159, 5, none⟩ = some (.slice A1_5 l1_5.length c1_5) := (blk_cell BK159.out 5).trans rfl; have hfz8_0 := blk_frozen BK159.out 0; have hfz8_1 := blk_frozen BK159.out 1; have hfz8_2 := blk_frozen BK159.out 2; have hfz8_3 := blk_frozen BK159.out 3; have hfz8_4 := blk_frozen BK159.out 4; have hfz8_5 := blk_frozen BK159.out 5; have hcz9_0 : w6.cell? ⟨gb158, 0, none⟩ = some (.int .i64 a0_0) := (blk_cell BK158.out 0).trans rfl; have hcz9_1 : w6.cell? ⟨gb158, 1, none⟩ = some (.int .u64 a0_1) := (blk_cell BK158.out 1).trans rfl; have hcz9_2 : w6.cell? ⟨gb158, 2, none⟩ = some (.int .u64 a0_2) := (blk_cell BK158.out 2).trans rfl; have hfz9_0 := blk_frozen BK158.out 0; have hfz9_1 := blk_frozen BK158.out 1; have hfz9_2 := blk_frozen BK158.out 2))
      go_ret
      exact ⟨by first | rfl | (simp [errW_none, errW_some] <;> rfl) | (simp [*, errW_none, errW_some] <;> rfl), by repeat (first | (with_reducible first | exact HB.out | apply below_alloc | apply pw_below_drewN | apply below_drew1 | refine below_set ?_ GE158.out | refine below_set ?_ GE159.out) | exact HB.out)⟩
    · rw [if_neg c4] at H
      have c4b0 : (a0_0 == 1) = false := beq_eq_false_iff_ne.mpr c4
      have c4b1 : (a0_0 != 1) = true := bne_iff_ne.mpr c4
      have HC10 := Aside0.mk H
      clear H
      go_enter Tryd.func20, Tryd.ntmps20
      go_upto_region 5 with (first | ((with_reducible refine gate_dst (N := 2) rfl ?_); refine box_event ?hg (N := 2) ?hd (cs := #[.int .i64 a0_0, .int .u64 a0_1, .int .u64 a0_2]) (t := 38) ?hr ?_; (case hd => rfl); (case hg => rfl); (case hr => first | (go_simp; done) | (go_simp; rfl)); intro gb158 hg w11 hbox hb; have n0_ := Aside0.mk (below_step (by repeat (first | (with_reducible first | exact HB.out | apply below_alloc | apply pw_below_drewN | apply below_drew1) | exact HB.out)) hb); have n1_ := Aside0.mk (hbox); have n2_ := Aside0.mk ((by rw [hg]; exact (below_size (by repeat (first | (with_reducible first | exact HB.out | apply below_alloc | apply pw_below_drewN | apply below_drew1) | exact HB.out))) : w.heap.size ≤ gb158)); have n3_ := Aside0.mk ((by rw [hg]; exact (below_size (by repeat (first | (with_reducible first | exact HB.out | apply below_alloc | apply pw_below_drewN | apply below_drew1) | exact HB.out))) : w.heap.size ≤ gb158)); clear HB; have HB := n0_; have BK158 := n1_; have GW158 := n2_; have GE158 := n3_; clear n0_ n1_ n2_ n3_; clear hb hbox hg) | ((with_reducible refine gate_dst (N := 3) rfl ?_); refine box_event ?hg (N := 3) ?hd (cs := #[.int .i64 a1_0, .bool a1_1, .int .u64 a1_2, .int .u64 a1_3, .int .i64 a1_4, .slice A1_5 l1_5.length c1_5]) (t := 44) ?hr ?_; (case hd => rfl); (case hg => rfl); (case hr => first | (go_simp; done) | (go_simp; rfl)); intro gb159 hg w12 hbox hb; have n0_ := Aside0.mk (blk_below (g := gb158) (o := .cells #[.int .i64 a0_0, .int .u64 a0_1, .int .u64 a0_2] 38 (0, 0)) (by (with_reducible repeat (first | refine blk_drewN ?_ _ | refine blk_drew ?_ | refine blk_alloc ?_ _)); exact BK158.out) hb); have n1_ := Aside0.mk (below_step (by repeat (first | (with_reducible first | exact HB.out | apply below_alloc | apply pw_below_drewN | apply below_drew1 | refine below_set ?_ GE158.out) | exact HB.out)) hb); have n2_ := Aside0.mk (hbox); have n3_ := Aside0.mk ((by rw [hg]; exact (below_size (by repeat (first | (with_reducible first | exact HB.out | apply below_alloc | apply pw_below_drewN | apply below_drew1 | refine below_set ?_ GE158.out) | exact HB.out))) : w.heap.size ≤ gb159)); have n4_ := Aside0.mk ((by rw [hg]; exact (below_size (by repeat (first | (with_reducible first | exact HB.out | apply below_alloc | apply pw_below_drewN | apply below_drew1 | refine below_set ?_ GE158.out) | exact HB.out))) : w.heap.size ≤ gb159)); have n5_ := Aside0.mk ((by rw [hg]; exact Nat.ne_of_lt (blk_lt (g := gb158) (o := .cells #[.int .i64 a0_0, .int .u64 a0_1, .int .u64 a0_2] 38 (0, 0)) (by (with_reducible repeat (first | refine blk_drewN ?_ _ | refine blk_drew ?_ | refine blk_alloc ?_ _)); exact BK158.out)) : gb158 ≠ gb159)); have n6_ := Aside0.mk ((by rw [hg]; exact Nat.ne_of_gt (blk_lt (g := gb158) (o := .cells #[.int .i64 a0_0, .int .u64 a0_1, .int .u64 a0_2] 38 (0, 0)) (by (with_reducible repeat (first | refine blk_drewN ?_ _ | refine blk_drew ?_ | refine blk_alloc ?_ _)); exact BK158.out)) : gb159 ≠ gb158)); clear BK158; clear HB; have BK158 := n0_; have HB := n1_; have BK159 := n2_; have GW159 := n3_; have GE159 := n4_; have NB158_159 := n5_; have NB159_158 := n6_; clear n0_ n1_ n2_ n3_ n4_ n5_ n6_; clear hb hbox hg; have hnb13 := NB159_158.out; have hnc13 := NB158_159.out; have hcz14_0 : w12.cell? ⟨gb159, 0, none⟩ = some (.int .i64 a1_0) := (blk_cell BK159.out 0).trans rfl; have hcz14_1 : w12.cell? ⟨gb159, 1, none⟩ = some (.bool a1_1) := (blk_cell BK159.out 1).trans rfl; have hcz14_2 : w12.cell? ⟨gb159, 2, none⟩ = some (.int .u64 a1_2) := (blk_cell BK159.out 2).trans rfl; have hcz14_3 : w12.cell? ⟨gb159, 3, none⟩ = some (.int .u64 a1_3) := (blk_cell BK159.out 3).trans rfl; have hcz14_4 : w12.cell? ⟨gb159, 4, none⟩ = some (.int .i64 a1_4) := (blk_cell BK159.out 4).trans rfl; have hcz14_5 : w12.cell? ⟨gb159, 5, none⟩ = some (.slice A1_5 l1_5.length c1_5) := (blk_cell BK159.out 5).trans rfl; have hfz14_0 := blk_frozen BK159.out 0; have hfz14_1 := blk_frozen BK159.out 1; have hfz14_2 := blk_frozen BK159.out 2; have hfz14_3 := blk_frozen BK159.out 3; have hfz14_4 := blk_frozen BK159.out 4; have hfz14_5 := blk_frozen BK159.out 5; have hcz15_0 : w12.cell? ⟨gb158, 0, none⟩ = some (.int .i64 a0_0) := (blk_cell BK158.out 0).trans rfl; have hcz15_1 : w12.cell? ⟨gb158, 1, none⟩ = some (.int .u64 a0_1) := (blk_cell BK158.out 1).trans rfl; have hcz15_2 : w12.cell? ⟨gb158, 2, none⟩ = some (.int .u64 a0_2) := (blk_cell BK158.out 2).trans rfl; have hfz15_0 := blk_frozen BK158.out 0; have hfz15_1 := blk_frozen BK158.out 1; have hfz15_2 := blk_frozen BK158.out 2))
      (try simp only [Act.put, List.setIfInBounds_toArray, List.set_cons_zero, List.set_cons_succ])
      go_cut [20] (fun v20 wc => ∃ (kq : Nat) (x20_9 : Bool), v20 = .bool x20_9 ∧ Aside0 (script_Tell.j0 kq x20_9 a0_0 a0_1 a0_2 a1_0 a1_1 a1_2 a1_3 a1_4 l1_5 = some r) ∧ Aside0 (kq ≤ k) ∧ Aside0 (wc.heap[gb158]? = some (.cells #[.int .i64 a0_0, .int .u64 a0_1, .int .u64 a0_2] 38 (0, 0))) ∧ Aside0 (wc.heap[gb159]? = some (.cells #[.int .i64 a1_0, .bool a1_1, .int .u64 a1_2, .int .u64 a1_3, .int .i64 a1_4, (.slice A1_5 l1_5.length c1_5)] 44 (0, 0))) ∧ Aside0 (Below w.heap.size w wc))
      case first =>
        have H := HC10.out
        clear HC10
        by_cases c16 : a0_0 = 2
        · rw [if_pos c16] at H
          have c16b0 : (a0_0 == 2) = true := beq_iff_eq.mpr c16
          have c16b1 : (a0_0 != 2) = false := bne_eq_false_iff_eq.mpr c16
          clear c16
          (first | rw [c16b0] | (simp only [i64_w, i32_w]; rw [c16b0]) | skip)
          have H' := Aside0.mk H
          clear H
          have hnb17 := NB158_159.out
          have hnc17 := NB159_158.out
          have hcz18_0 : w12.cell? ⟨gb158, 0, none⟩ = some (.int .i64 a0_0) := (blk_cell BK158.out 0).trans rfl
          have hcz18_1 : w12.cell? ⟨gb158, 1, none⟩ = some (.int .u64 a0_1) := (blk_cell BK158.out 1).trans rfl
          have hcz18_2 : w12.cell? ⟨gb158, 2, none⟩ = some (.int .u64 a0_2) := (blk_cell BK158.out 2).trans rfl
          have hfz18_0 := blk_frozen BK158.out 0
          have hfz18_1 := blk_frozen BK158.out 1
          have hfz18_2 := blk_frozen BK158.out 2
          have hcz19_0 : w12.cell? ⟨gb159, 0, none⟩ = some (.int .i64 a1_0) := (blk_cell BK159.out 0).trans rfl
          have hcz19_1 : w12.cell? ⟨gb159, 1, none⟩ = some (.bool a1_1) := (blk_cell BK159.out 1).trans rfl
          have hcz19_2 : w12.cell? ⟨gb159, 2, none⟩ = some (.int .u64 a1_2) := (blk_cell BK159.out 2).trans rfl
          have hcz19_3 : w12.cell? ⟨gb159, 3, none⟩ = some (.int .u64 a1_3) := (blk_cell BK159.out 3).trans rfl
          have hcz19_4 : w12.cell? ⟨gb159, 4, none⟩ = some (.int .i64 a1_4) := (blk_cell BK159.out 4).trans rfl
          have hcz19_5 : w12.cell? ⟨gb159, 5, none⟩ = some (.slice A1_5 l1_5.length c1_5) := (blk_cell BK159.out 5).trans rfl
          have hfz19_0 := blk_frozen BK159.out 0
          have hfz19_1 := blk_frozen BK159.out 1
          have hfz19_2 := blk_frozen BK159.out 2
          have hfz19_3 := blk_frozen BK159.out 3
          have hfz19_4 := blk_frozen BK159.out 4
          have hfz19_5 := blk_frozen BK159.out 5
          go_wp2
          go_meet
          case rel => exact ⟨_, (a1_1), (by first | rfl | (simp; done) | (simp [*]; done)), H', ⟨by first | omega | exact Nat.le_refl _⟩, ⟨by (with_reducible repeat (first | refine blk_drewN ?_ _ | refine blk_drew ?_ | refine blk_alloc ?_ _)); exact BK158.out⟩, ⟨by (with_reducible repeat (first | refine blk_drewN ?_ _ | refine blk_drew ?_ | refine blk_alloc ?_ _)); exact BK159.out⟩, ⟨by repeat (first | (with_reducible first | exact HB.out | apply below_alloc | apply pw_below_drewN | apply below_drew1 | refine below_set ?_ GE158.out | refine below_set ?_ GE159.out) | exact HB.out)⟩⟩
        · rw [if_neg c16] at H
          have c16b0 : (a0_0 == 2) = false := beq_eq_false_iff_ne.mpr c16
          have c16b1 : (a0_0 != 2) = true := bne_iff_ne.mpr c16
          (first | rw [c16b0] | (simp only [i64_w, i32_w]; rw [c16b0]) | skip)
          have H' := Aside0.mk H
          clear H
          have hnb20 := NB158_159.out
          have hnc20 := NB159_158.out
          have hcz21_0 : w12.cell? ⟨gb158, 0, none⟩ = some (.int .i64 a0_0) := (blk_cell BK158.out 0).trans rfl
          have hcz21_1 : w12.cell? ⟨gb158, 1, none⟩ = some (.int .u64 a0_1) := (blk_cell BK158.out 1).trans rfl
          have hcz21_2 : w12.cell? ⟨gb158, 2, none⟩ = some (.int .u64 a0_2) := (blk_cell BK158.out 2).trans rfl
          have hfz21_0 := blk_frozen BK158.out 0
          have hfz21_1 := blk_frozen BK158.out 1
          have hfz21_2 := blk_frozen BK158.out 2
          go_wp2
          go_meet
          case rel => exact ⟨_, (false), (by first | rfl | (simp; done) | (simp [*]; done)), H', ⟨by first | omega | exact Nat.le_refl _⟩, ⟨by (with_reducible repeat (first | refine blk_drewN ?_ _ | refine blk_drew ?_ | refine blk_alloc ?_ _)); exact BK158.out⟩, ⟨by (with_reducible repeat (first | refine blk_drewN ?_ _ | refine blk_drew ?_ | refine blk_alloc ?_ _)); exact BK159.out⟩, ⟨by repeat (first | (with_reducible first | exact HB.out | apply below_alloc | apply pw_below_drewN | apply below_drew1 | refine below_set ?_ GE158.out | refine below_set ?_ GE159.out) | exact HB.out)⟩⟩
      case rest =>
        clear HC10
        try clear c1
        try clear c2
        try clear p2
        try clear c3
        try clear c3b0
        try clear c3b1
        try clear c4
        try clear c4b0
        try clear c4b1
        try clear c7
        try clear c13
        try clear c16
        try clear c16b0
        try clear c16b1
        try clear c17
        try clear c20
        try clear hcz14_0
        try clear hcz14_1
        try clear hcz14_2
        try clear hcz14_3
        try clear hcz14_4
        try clear hcz14_5
        try clear hcz15_0
        try clear hcz15_1
        try clear hcz15_2
        try clear hcz18_0
        try clear hcz18_1
        try clear hcz18_2
        try clear hcz19_0
        try clear hcz19_1
        try clear hcz19_2
        try clear hcz19_3
        try clear hcz19_4
        try clear hcz19_5
        try clear hcz21_0
        try clear hcz21_1
        try clear hcz21_2
        try clear hcz8_0
        try clear hcz8_1
        try clear hcz8_2
        try clear hcz8_3
        try clear hcz8_4
        try clear hcz8_5
        try clear hcz9_0
        try clear hcz9_1
        try clear hcz9_2
        try clear hfz14_0
        try clear hfz14_1
        try clear hfz14_2
        try clear hfz14_3
        try clear hfz14_4
        try clear hfz14_5
        try clear hfz15_0
        try clear hfz15_1
        try clear hfz15_2
        try clear hfz18_0
        try clear hfz18_1
        try clear hfz18_2
        try clear hfz19_0
        try clear hfz19_1
        try clear hfz19_2
        try clear hfz19_3
        try clear hfz19_4
        try clear hfz19_5
        try clear hfz21_0
        try clear hfz21_1
        try clear hfz21_2
        try clear hfz8_0
        try clear hfz8_1
        try clear hfz8_2
        try clear hfz8_3
        try clear hfz8_4
        try clear hfz8_5
        try clear hfz9_0
        try clear hfz9_1
        try clear hfz9_2
        obtain ⟨kq, x20_9, rfl, HA, HJ9, BK158, BK159, HB⟩ := hcut
        cases kq with
        | zero => exact absurd HA.out (by simp [script_Tell.j0])
        | succ kj9 =>
          have H := HA.out
          clear HA
          simp only [script_Tell.j0] at H
          by_cases c22 : x20_9 = true
          · subst c22
            have H1 : (some (⟨#[121, 101, 115]⟩ : ByteArray)) = some r := by rw [if_pos rfl] at H; exact H
            clear H
            have H := H1
            clear H1
            obtain rfl := Option.some.inj H
            go_wp2
            go_ret
            exact ⟨by first | rfl | (simp [errW_none, errW_some] <;> rfl) | (simp [*, errW_none, errW_some] <;> rfl), by repeat (first | (with_reducible first | exact HB.out | apply below_alloc | apply pw_below_drewN | apply below_drew1 | refine below_set ?_ GE158.out | refine below_set ?_ GE159.out) | exact HB.out)⟩
          · replace c22 := Bool.eq_false_iff.mpr c22
            subst c22
            have H1 : (if a0_0 = 2 then (some (⟨#[110, 111]⟩ : ByteArray)) else (if a0_0 = 6 then ((strconv_Itoa.f a1_4).bind fun t160 => (some t160)) else (if a0_0 = 7 then (script_Tell.l0 kj9 (([IntKind.u64.wrap ((l1_5.length : Int))] : List Int)) l1_5 (l1_5.length : Int) 0) else (if a0_0 < 3 then (script_Tell.j2 kj9 true a0_0 a0_1 a0_2 a1_0 a1_1 a1_2 a1_3 a1_4 l1_5) else (script_Tell.j2 kj9 (decide (a0_0 > 5)) a0_0 a0_1 a0_2 a1_0 a1_1 a1_2 a1_3 a1_4 l1_5))))) = some r := by rw [if_neg (show ¬ (false = true) by decide)] at H; exact H
            clear H
            have H := H1
            clear H1
            by_cases c23 : a0_0 = 2
            · rw [if_pos c23] at H
              have c23b0 : (a0_0 == 2) = true := beq_iff_eq.mpr c23
              have c23b1 : (a0_0 != 2) = false := bne_eq_false_iff_eq.mpr c23
              clear c23
              obtain rfl := Option.some.inj H
              have hnb24 := NB158_159.out
              have hnc24 := NB159_158.out
              have hcz25_0 : wc.cell? ⟨gb158, 0, none⟩ = some (.int .i64 a0_0) := (blk_cell BK158.out 0).trans rfl
              have hcz25_1 : wc.cell? ⟨gb158, 1, none⟩ = some (.int .u64 a0_1) := (blk_cell BK158.out 1).trans rfl
              have hcz25_2 : wc.cell? ⟨gb158, 2, none⟩ = some (.int .u64 a0_2) := (blk_cell BK158.out 2).trans rfl
              have hfz25_0 := blk_frozen BK158.out 0
              have hfz25_1 := blk_frozen BK158.out 1
              have hfz25_2 := blk_frozen BK158.out 2
              go_wp2
              go_ret
              exact ⟨by first | rfl | (simp [errW_none, errW_some] <;> rfl) | (simp [*, errW_none, errW_some] <;> rfl), by repeat (first | (with_reducible first | exact HB.out | apply below_alloc | apply pw_below_drewN | apply below_drew1 | refine below_set ?_ GE158.out | refine below_set ?_ GE159.out) | exact HB.out)⟩
            · rw [if_neg c23] at H
              have c23b0 : (a0_0 == 2) = false := beq_eq_false_iff_ne.mpr c23
              have c23b1 : (a0_0 != 2) = true := bne_iff_ne.mpr c23
              by_cases c26 : a0_0 = 6
              · rw [if_pos c26] at H
                have c26b0 : (a0_0 == 6) = true := beq_iff_eq.mpr c26
                have c26b1 : (a0_0 != 6) = false := bne_eq_false_iff_eq.mpr c26
                clear c26
                replace H := Option.bind_eq_some_iff.mp H
                obtain ⟨t160, A270, H⟩ := H
                replace H : (some t160) = some r := H
                have A27 := Aside0.mk A270
                clear A270
                obtain rfl := Option.some.inj H
                have hnb28 := NB158_159.out
                have hnc28 := NB159_158.out
                have hcz29_0 : wc.cell? ⟨gb158, 0, none⟩ = some (.int .i64 a0_0) := (blk_cell BK158.out 0).trans rfl
                have hcz29_1 : wc.cell? ⟨gb158, 1, none⟩ = some (.int .u64 a0_1) := (blk_cell BK158.out 1).trans rfl
                have hcz29_2 : wc.cell? ⟨gb158, 2, none⟩ = some (.int .u64 a0_2) := (blk_cell BK158.out 2).trans rfl
                have hfz29_0 := blk_frozen BK158.out 0
                have hfz29_1 := blk_frozen BK158.out 1
                have hfz29_2 := blk_frozen BK158.out 2
                have hcz30_0 : wc.cell? ⟨gb159, 0, none⟩ = some (.int .i64 a1_0) := (blk_cell BK159.out 0).trans rfl
                have hcz30_1 : wc.cell? ⟨gb159, 1, none⟩ = some (.bool a1_1) := (blk_cell BK159.out 1).trans rfl
                have hcz30_2 : wc.cell? ⟨gb159, 2, none⟩ = some (.int .u64 a1_2) := (blk_cell BK159.out 2).trans rfl
                have hcz30_3 : wc.cell? ⟨gb159, 3, none⟩ = some (.int .u64 a1_3) := (blk_cell BK159.out 3).trans rfl
                have hcz30_4 : wc.cell? ⟨gb159, 4, none⟩ = some (.int .i64 a1_4) := (blk_cell BK159.out 4).trans rfl
                have hcz30_5 : wc.cell? ⟨gb159, 5, none⟩ = some (.slice A1_5 l1_5.length c1_5) := (blk_cell BK159.out 5).trans rfl
                have hfz30_0 := blk_frozen BK159.out 0
                have hfz30_1 := blk_frozen BK159.out 1
                have hfz30_2 := blk_frozen BK159.out 2
                have hfz30_3 := blk_frozen BK159.out 3
                have hfz30_4 := blk_frozen BK159.out 4
                have hfz30_5 := blk_frozen BK159.out 5
                go_wp2_with (first | ((with_reducible refine gate_callee (f := 32) rfl ?_); refine goesL_ (some 38) rfl rfl Tryd.func32 (by kernel_rfl) rfl #[.int .i64 a1_4] rfl (by (try simp only [List.map_toArray, List.map_cons, List.map_nil]); first | done | rfl | (simp only [List.length_drop, List.length_take]; rfl)) ?_; (with_reducible refine (strconv_Itoa.calls a1_4 t160 _ ?sideT A27.out).mono ?_); (case sideT => exact Tabs.keep HT.out (by repeat (first | (with_reducible first | exact HB.out | apply below_alloc | apply pw_below_drewN | apply below_drew1) | exact HB.out))); rintro e w31 ⟨rfl, hb⟩; refine ⟨_, rfl, ?_⟩; have n0_ := Aside0.mk (blk_below (g := gb158) (o := .cells #[.int .i64 a0_0, .int .u64 a0_1, .int .u64 a0_2] 38 (0, 0)) (by (with_reducible repeat (first | refine blk_drewN ?_ _ | refine blk_drew ?_ | refine blk_alloc ?_ _)); exact BK158.out) hb); have n1_ := Aside0.mk (blk_below (g := gb159) (o := .cells #[.int .i64 a1_0, .bool a1_1, .int .u64 a1_2, .int .u64 a1_3, .int .i64 a1_4, .slice A1_5 l1_5.length c1_5] 44 (0, 0)) (by (with_reducible repeat (first | refine blk_drewN ?_ _ | refine blk_drew ?_ | refine blk_alloc ?_ _)); exact BK159.out) hb); have n2_ := Aside0.mk (below_step (by repeat (first | (with_reducible first | exact HB.out | apply below_alloc | apply pw_below_drewN | apply below_drew1 | refine below_set ?_ GE158.out | refine below_set ?_ GE159.out) | exact HB.out)) hb); clear BK158; clear BK159; clear HB; have BK158 := n0_; have BK159 := n1_; have HB := n2_; clear n0_ n1_ n2_; (try clear hb); (try clear hb2); (try clear hk); (try clear hi)))
                go_ret
                exact ⟨by first | rfl | (simp [errW_none, errW_some] <;> rfl) | (simp [*, errW_none, errW_some] <;> rfl), by repeat (first | (with_reducible first | exact HB.out | apply below_alloc | apply pw_below_drewN | apply below_drew1 | refine below_set ?_ GE158.out | refine below_set ?_ GE159.out) | exact HB.out)⟩
              · rw [if_neg c26] at H
                have c26b0 : (a0_0 == 6) = false := beq_eq_false_iff_ne.mpr c26
                have c26b1 : (a0_0 != 6) = true := bne_iff_ne.mpr c26
                by_cases c32 : a0_0 = 7
                · rw [if_pos c32] at H
                  have c32b0 : (a0_0 == 7) = true := beq_iff_eq.mpr c32
                  have c32b1 : (a0_0 != 7) = false := bne_eq_false_iff_eq.mpr c32
                  clear c32
                  obtain ⟨y161, hy161⟩ : ∃ y_ : List Int, y_ = (([IntKind.u64.wrap ((l1_5.length : Int))] : List Int)) := ⟨_, rfl⟩
                  replace H : (script_Tell.l0 kj9 y161 l1_5 (l1_5.length : Int) 0) = some r := by first | (rw [hy161]; with_reducible exact H) | (have H2_ := (Option.bind_some _ _).symm.trans H; rw [hy161]; with_reducible exact H2_) | (have H2_ := (Option.bind_some _ _).symm.trans H; with_reducible exact H2_) | with_reducible exact H | (rw [hy161]; exact H) | exact H
                  have Ny161 := Aside0.mk hy161
                  clear hy161
                  have H' := Aside0.mk H
                  clear H
                  have hnb33 := NB158_159.out
                  have hnc33 := NB159_158.out
                  have hcz34_0 : wc.cell? ⟨gb158, 0, none⟩ = some (.int .i64 a0_0) := (blk_cell BK158.out 0).trans rfl
                  have hcz34_1 : wc.cell? ⟨gb158, 1, none⟩ = some (.int .u64 a0_1) := (blk_cell BK158.out 1).trans rfl
                  have hcz34_2 : wc.cell? ⟨gb158, 2, none⟩ = some (.int .u64 a0_2) := (blk_cell BK158.out 2).trans rfl
                  have hfz34_0 := blk_frozen BK158.out 0
                  have hfz34_1 := blk_frozen BK158.out 1
                  have hfz34_2 := blk_frozen BK158.out 2
                  have hcz35_0 : wc.cell? ⟨gb159, 0, none⟩ = some (.int .i64 a1_0) := (blk_cell BK159.out 0).trans rfl
                  have hcz35_1 : wc.cell? ⟨gb159, 1, none⟩ = some (.bool a1_1) := (blk_cell BK159.out 1).trans rfl
                  have hcz35_2 : wc.cell? ⟨gb159, 2, none⟩ = some (.int .u64 a1_2) := (blk_cell BK159.out 2).trans rfl
                  have hcz35_3 : wc.cell? ⟨gb159, 3, none⟩ = some (.int .u64 a1_3) := (blk_cell BK159.out 3).trans rfl
                  have hcz35_4 : wc.cell? ⟨gb159, 4, none⟩ = some (.int .i64 a1_4) := (blk_cell BK159.out 4).trans rfl
                  have hcz35_5 : wc.cell? ⟨gb159, 5, none⟩ = some (.slice A1_5 l1_5.length c1_5) := (blk_cell BK159.out 5).trans rfl
                  have hfz35_0 := blk_frozen BK159.out 0
                  have hfz35_1 := blk_frozen BK159.out 1
                  have hfz35_2 := blk_frozen BK159.out 2
                  have hfz35_3 := blk_frozen BK159.out 3
                  have hfz35_4 := blk_frozen BK159.out 4
                  have hfz35_5 := blk_frozen BK159.out 5
                  go_wp2_with (first | ((with_reducible refine gate_dst (N := 47) rfl ?_); refine Kd.R_lit (Kd.int .u64) _ 31 ?hg (N := 47) ?hd (xs := ([IntKind.u64.wrap ((l1_5.length : Int))] : List Int)) (inner := [.int .u64 (IntKind.u64.wrap ((l1_5.length : Int)))]) (ok := fun _ => True) (okp := fun _ => True) ?hr ?hp (fun _ hk => hk) trivial (Below.refl _ _) (Nat.le_refl _) (by simp) ?_; (case hd => rfl); (case hg => rfl); (case hr => first | (go_simp; done) | (go_simp; rfl)); (case hp => exact (Reps.one (show Kd.M (Kd.int .u64) _ _ _ (IntKind.u64.wrap ((l1_5.length : Int))) [.int .u64 (IntKind.u64.wrap ((l1_5.length : Int)))] from rfl) (Reps.none _ _))); intro v162 w36 ho37 hb hg_ hnew_; clear hg_ hnew_; (first | rw [← Ny161.out] at ho37 | (simp only [Int.reduceToNat] at ho37; rw [← Ny161.out] at ho37)); have n0_ := Aside0.mk (Kd.R_lower ho37 (below_size (by repeat (first | (with_reducible first | exact HB.out | apply below_alloc | apply pw_below_drewN | apply below_drew1 | refine below_set ?_ GE158.out | refine below_set ?_ GE159.out) | exact HB.out)))); have n1_ := Aside0.mk (blk_below (g := gb158) (o := .cells #[.int .i64 a0_0, .int .u64 a0_1, .int .u64 a0_2] 38 (0, 0)) (by (with_reducible repeat (first | refine blk_drewN ?_ _ | refine blk_drew ?_ | refine blk_alloc ?_ _)); exact BK158.out) hb); have n2_ := Aside0.mk (blk_below (g := gb159) (o := .cells #[.int .i64 a1_0, .bool a1_1, .int .u64 a1_2, .int .u64 a1_3, .int .i64 a1_4, .slice A1_5 l1_5.length c1_5] 44 (0, 0)) (by (with_reducible repeat (first | refine blk_drewN ?_ _ | refine blk_drew ?_ | refine blk_alloc ?_ _)); exact BK159.out) hb); have n3_ := Aside0.mk (below_step (by repeat (first | (with_reducible first | exact HB.out | apply below_alloc | apply pw_below_drewN | apply below_drew1 | refine below_set ?_ GE158.out | refine below_set ?_ GE159.out) | exact HB.out)) hb); clear BK158; clear BK159; clear HB; have HO163 := n0_; have BK158 := n1_; have BK159 := n2_; have HB := n3_; clear n0_ n1_ n2_ n3_; clear hb ho37; have hcz38_0 : w36.cell? ⟨gb159, 0, none⟩ = some (.int .i64 a1_0) := (blk_cell BK159.out 0).trans rfl; have hcz38_1 : w36.cell? ⟨gb159, 1, none⟩ = some (.bool a1_1) := (blk_cell BK159.out 1).trans rfl; have hcz38_2 : w36.cell? ⟨gb159, 2, none⟩ = some (.int .u64 a1_2) := (blk_cell BK159.out 2).trans rfl; have hcz38_3 : w36.cell? ⟨gb159, 3, none⟩ = some (.int .u64 a1_3) := (blk_cell BK159.out 3).trans rfl; have hcz38_4 : w36.cell? ⟨gb159, 4, none⟩ = some (.int .i64 a1_4) := (blk_cell BK159.out 4).trans rfl; have hcz38_5 : w36.cell? ⟨gb159, 5, none⟩ = some (.slice A1_5 l1_5.length c1_5) := (blk_cell BK159.out 5).trans rfl; have hfz38_0 := blk_frozen BK159.out 0; have hfz38_1 := blk_frozen BK159.out 1; have hfz38_2 := blk_frozen BK159.out 2; have hfz38_3 := blk_frozen BK159.out 3; have hfz38_4 := blk_frozen BK159.out 4; have hfz38_5 := blk_frozen BK159.out 5))
                  go_loopg [5, 51] kj9 (fun kq v5 v51 w' => ∃ (x5_2 : List Int) (x51_2 : Int), v51 = .int .i64 x51_2 ∧ Aside0 (script_Tell.l0 kq x5_2 l1_5 (l1_5.length : Int) x51_2 = some r) ∧ Aside0 (kq ≤ kj9) ∧ Aside0 (Kd.R (Kd.int .u64) 31 w' w.heap.size (fun _ => True) v5 x5_2) ∧ Aside0 (w'.heap[gb158]? = some (.cells #[.int .i64 a0_0, .int .u64 a0_1, .int .u64 a0_2] 38 (0, 0))) ∧ Aside0 (w'.heap[gb159]? = some (.cells #[.int .i64 a1_0, .bool a1_1, .int .u64 a1_2, .int .u64 a1_3, .int .i64 a1_4, (.slice A1_5 l1_5.length c1_5)] 44 (0, 0))) ∧ Aside0 (Below w.heap.size w w'))
                  case atStart => exact ⟨(y161), (0), (by first | rfl | (simp; done) | (simp [*]; done)), H', ⟨Nat.le_refl _⟩, ⟨by (with_reducible repeat (first | apply Kd.R_alloc | apply Kd.R_drewN | apply Kd.R_drew)); exact HO163.out⟩, ⟨by (with_reducible repeat (first | refine blk_drewN ?_ _ | refine blk_drew ?_ | refine blk_alloc ?_ _)); exact BK158.out⟩, ⟨by (with_reducible repeat (first | refine blk_drewN ?_ _ | refine blk_drew ?_ | refine blk_alloc ?_ _)); exact BK159.out⟩, ⟨by repeat (first | (with_reducible first | exact HB.out | apply below_alloc | apply pw_below_drewN | apply below_drew1 | refine below_set ?_ GE158.out | refine below_set ?_ GE159.out) | exact HB.out)⟩⟩
                  case round =>
                    clear H'
                    try clear c1
                    try clear c2
                    try clear p2
                    try clear c3
                    try clear c3b0
                    try clear c3b1
                    try clear c4
                    try clear c4b0
                    try clear c4b1
                    try clear c7
                    try clear c13
                    try clear c16
                    try clear c16b0
                    try clear c16b1
                    try clear c17
                    try clear c20
                    try clear c22
                    try clear c23
                    try clear c23b0
                    try clear c23b1
                    try clear c24
                    try clear c26
                    try clear c26b0
                    try clear c26b1
                    try clear c28
                    try clear c32
                    try clear c32b0
                    try clear c32b1
                    try clear c33
                    try clear hcz14_0
                    try clear hcz14_1
                    try clear hcz14_2
                    try clear hcz14_3
                    try clear hcz14_4
                    try clear hcz14_5
                    try clear hcz15_0
                    try clear hcz15_1
                    try clear hcz15_2
                    try clear hcz18_0
                    try clear hcz18_1
                    try clear hcz18_2
                    try clear hcz19_0
                    try clear hcz19_1
                    try clear hcz19_2
                    try clear hcz19_3
                    try clear hcz19_4
                    try clear hcz19_5
                    try clear hcz21_0
                    try clear hcz21_1
                    try clear hcz21_2
                    try clear hcz25_0
                    try clear hcz25_1
                    try clear hcz25_2
                    try clear hcz29_0
                    try clear hcz29_1
                    try clear hcz29_2
                    try clear hcz30_0
                    try clear hcz30_1
                    try clear hcz30_2
                    try clear hcz30_3
                    try clear hcz30_4
                    try clear hcz30_5
                    try clear hcz34_0
                    try clear hcz34_1
                    try clear hcz34_2
                    try clear hcz35_0
                    try clear hcz35_1
                    try clear hcz35_2
                    try clear hcz35_3
                    try clear hcz35_4
                    try clear hcz35_5
                    try clear hcz38_0
                    try clear hcz38_1
                    try clear hcz38_2
                    try clear hcz38_3
                    try clear hcz38_4
                    try clear hcz38_5
                    try clear hcz8_0
                    try clear hcz8_1
                    try clear hcz8_2
                    try clear hcz8_3
                    try clear hcz8_4
                    try clear hcz8_5
                    try clear hcz9_0
                    try clear hcz9_1
                    try clear hcz9_2
                    try clear hfz14_0
                    try clear hfz14_1
                    try clear hfz14_2
                    try clear hfz14_3
                    try clear hfz14_4
                    try clear hfz14_5
                    try clear hfz15_0
                    try clear hfz15_1
                    try clear hfz15_2
                    try clear hfz18_0
                    try clear hfz18_1
                    try clear hfz18_2
                    try clear hfz19_0
                    try clear hfz19_1
                    try clear hfz19_2
                    try clear hfz19_3
                    try clear hfz19_4
                    try clear hfz19_5
                    try clear hfz21_0
                    try clear hfz21_1
                    try clear hfz21_2
                    try clear hfz25_0
                    try clear hfz25_1
                    try clear hfz25_2
                    try clear hfz29_0
                    try clear hfz29_1
                    try clear hfz29_2
                    try clear hfz30_0
                    try clear hfz30_1
                    try clear hfz30_2
                    try clear hfz30_3
                    try clear hfz30_4
                    try clear hfz30_5
                    try clear hfz34_0
                    try clear hfz34_1
                    try clear hfz34_2
                    try clear hfz35_0
                    try clear hfz35_1
                    try clear hfz35_2
                    try clear hfz35_3
                    try clear hfz35_4
                    try clear hfz35_5
                    try clear hfz38_0
                    try clear hfz38_1
                    try clear hfz38_2
                    try clear hfz38_3
                    try clear hfz38_4
                    try clear hfz38_5
                    try clear hfz8_0
                    try clear hfz8_1
                    try clear hfz8_2
                    try clear hfz8_3
                    try clear hfz8_4
                    try clear hfz8_5
                    try clear hfz9_0
                    try clear hfz9_1
                    try clear hfz9_2
                    try clear p2
                    obtain ⟨x5_2, x51_2, rfl, HA, HK2, HO_5, BK158, BK159, HB⟩ := hrel
                    cases gk with
                    | zero => exact absurd HA.out (by simp [script_Tell.l0])
                    | succ k2 =>
                      have H := HA.out
                      clear HA
                      simp only [script_Tell.l0] at H
                      by_cases c39 : x51_2 < (l1_5.length : Int)
                      · rw [if_pos c39] at H
                        have c39b0 : decide (x51_2 < (l1_5.length : Int)) = true := decide_eq_true c39
                        clear c39
                        by_cases c40 : 0 ≤ x51_2
                        · rw [if_pos c40] at H
                          have c40b0 : decide (0 ≤ x51_2) = true := decide_eq_true c40
                          clear c40
                          by_cases c41 : x51_2 < (l1_5.length : Int)
                          · rw [if_pos c41] at H
                            have c41b0 : decide (x51_2 < (l1_5.length : Int)) = true := decide_eq_true c41
                            clear c41
                            obtain ⟨y166, hy166⟩ : ∃ y_ : List Int, y_ = (([(rd_T50 l1_5 x51_2).f0, (rd_T50 l1_5 x51_2).f1] : List Int)) := ⟨_, rfl⟩
                            replace H : (if x5_2.length + y166.length < 17592186044416 then (script_Tell.l0 k2 (x5_2 ++ y166) l1_5 (l1_5.length : Int) (wrap64 (x51_2 + 1))) else (none)) = some r := by first | (rw [hy166]; with_reducible exact H) | (have H2_ := (Option.bind_some _ _).symm.trans H; rw [hy166]; with_reducible exact H2_) | (have H2_ := (Option.bind_some _ _).symm.trans H; with_reducible exact H2_) | with_reducible exact H | (rw [hy166]; exact H) | exact H
                            have Ny166 := Aside0.mk hy166
                            clear hy166
                            by_cases c42 : x5_2.length + y166.length < 17592186044416
                            · rw [if_pos c42] at H
                              have LMc42 := Aside0.mk c42
                              clear c42
                              obtain ⟨y169, hy169⟩ : ∃ y_ : List Int, y_ = (x5_2 ++ y166) := ⟨_, rfl⟩
                              replace H : (script_Tell.l0 k2 y169 l1_5 (l1_5.length : Int) (wrap64 (x51_2 + 1))) = some r := by first | (rw [hy169]; with_reducible exact H) | (have H2_ := (Option.bind_some _ _).symm.trans H; rw [hy169]; with_reducible exact H2_) | (have H2_ := (Option.bind_some _ _).symm.trans H; with_reducible exact H2_) | with_reducible exact H | (rw [hy169]; exact H) | exact H
                              have Ny169 := Aside0.mk hy169
                              clear hy169
                              have H' := Aside0.mk H
                              clear H
                              have p164 : 0 ≤ (x51_2 : Int) := of_decide_eq_true (by first | (with_reducible assumption) | assumption)
                              have q164 : x51_2 < (l1_5.length : Int) := of_decide_eq_true (by first | (with_reducible assumption) | assumption)
                              obtain ⟨ad164, e164, hx164_0, hx164_1⟩ := at_T50 HR1_5.out x51_2 p164 q164
                              cases e164
                              replace hx164_0 := (HB.out.cell (World.block_lt_of_cell? w _ hx164_0)).trans hx164_0
                              replace hx164_1 := (HB.out.cell (World.block_lt_of_cell? w _ hx164_1)).trans hx164_1
                              replace p164 := eq_true p164
                              replace q164 := eq_true q164
                              go_wp2_with (first | ((with_reducible refine gate_dst (N := 7) rfl ?_); refine box_event ?hg (N := 7) ?hd (cs := #[.int .u64 0, .int .u64 0]) (t := 50) ?hr ?_; (case hd => rfl); (case hg => rfl); (case hr => first | (go_simp; done) | (go_simp; rfl)); intro gb165 hg w43 hbox hb; have n0_ := Aside0.mk (Kd.R_below (by (with_reducible repeat (first | apply Kd.R_alloc | apply Kd.R_drewN | apply Kd.R_drew)); exact HO_5.out) hb); have n1_ := Aside0.mk (blk_below (g := gb158) (o := .cells #[.int .i64 a0_0, .int .u64 a0_1, .int .u64 a0_2] 38 (0, 0)) (by (with_reducible repeat (first | refine blk_drewN ?_ _ | refine blk_drew ?_ | refine blk_alloc ?_ _)); exact BK158.out) hb); have n2_ := Aside0.mk (blk_below (g := gb159) (o := .cells #[.int .i64 a1_0, .bool a1_1, .int .u64 a1_2, .int .u64 a1_3, .int .i64 a1_4, .slice (some ad164) l1_5.length c1_5] 44 (0, 0)) (by (with_reducible repeat (first | refine blk_drewN ?_ _ | refine blk_drew ?_ | refine blk_alloc ?_ _)); exact BK159.out) hb); have n3_ := Aside0.mk (below_step (by repeat (first | (with_reducible first | exact HB.out | apply below_alloc | apply pw_below_drewN | apply below_drew1 | refine below_set ?_ GE158.out | refine below_set ?_ GE159.out) | exact HB.out)) hb); have n4_ := Aside0.mk (hbox); have n5_ := Aside0.mk ((by rw [hg]; exact (below_size (by repeat (first | (with_reducible first | exact HB.out | apply below_alloc | apply pw_below_drewN | apply below_drew1 | refine below_set ?_ GE158.out | refine below_set ?_ GE159.out) | exact HB.out))) : w.heap.size ≤ gb165)); have n6_ := Aside0.mk ((by rw [hg]; exact (below_size (by repeat (first | (with_reducible first | exact HB.out | apply below_alloc | apply pw_below_drewN | apply below_drew1 | refine below_set ?_ GE158.out | refine below_set ?_ GE159.out) | exact HB.out))) : w.heap.size ≤ gb165)); have n7_ := Aside0.mk ((by rw [hg]; exact Nat.ne_of_lt (blk_lt (g := gb158) (o := .cells #[.int .i64 a0_0, .int .u64 a0_1, .int .u64 a0_2] 38 (0, 0)) (by (with_reducible repeat (first | refine blk_drewN ?_ _ | refine blk_drew ?_ | refine blk_alloc ?_ _)); exact BK158.out)) : gb158 ≠ gb165)); have n8_ := Aside0.mk ((by rw [hg]; exact Nat.ne_of_gt (blk_lt (g := gb158) (o := .cells #[.int .i64 a0_0, .int .u64 a0_1, .int .u64 a0_2] 38 (0, 0)) (by (with_reducible repeat (first | refine blk_drewN ?_ _ | refine blk_drew ?_ | refine blk_alloc ?_ _)); exact BK158.out)) : gb165 ≠ gb158)); have n9_ := Aside0.mk ((by rw [hg]; exact Nat.ne_of_lt (blk_lt (g := gb159) (o := .cells #[.int .i64 a1_0, .bool a1_1, .int .u64 a1_2, .int .u64 a1_3, .int .i64 a1_4, .slice (some ad164) l1_5.length c1_5] 44 (0, 0)) (by (with_reducible repeat (first | refine blk_drewN ?_ _ | refine blk_drew ?_ | refine blk_alloc ?_ _)); exact BK159.out)) : gb159 ≠ gb165)); have n10_ := Aside0.mk ((by rw [hg]; exact Nat.ne_of_gt (blk_lt (g := gb159) (o := .cells #[.int .i64 a1_0, .bool a1_1, .int .u64 a1_2, .int .u64 a1_3, .int .i64 a1_4, .slice (some ad164) l1_5.length c1_5] 44 (0, 0)) (by (with_reducible repeat (first | refine blk_drewN ?_ _ | refine blk_drew ?_ | refine blk_alloc ?_ _)); exact BK159.out)) : gb165 ≠ gb159)); clear HO_5; clear BK158; clear BK159; clear HB; have HO_5 := n0_; have BK158 := n1_; have BK159 := n2_; have HB := n3_; have BK165 := n4_; have GW165 := n5_; have GE165 := n6_; have NB158_165 := n7_; have NB165_158 := n8_; have NB159_165 := n9_; have NB165_159 := n10_; clear n0_ n1_ n2_ n3_ n4_ n5_ n6_ n7_ n8_ n9_ n10_; clear hb hbox hg; have hnb44 := NB165_158.out; have hnc44 := NB158_165.out; have hnb45 := NB165_159.out; have hnc45 := NB159_165.out; have hcz46_0 : w43.cell? ⟨gb165, 0, none⟩ = some (.int .u64 0) := (blk_cell BK165.out 0).trans rfl; have hcz46_1 : w43.cell? ⟨gb165, 1, none⟩ = some (.int .u64 0) := (blk_cell BK165.out 1).trans rfl; have hfz46_0 := blk_frozen BK165.out 0; have hfz46_1 := blk_frozen BK165.out 1) | ((with_reducible refine gate_dst (N := 60) rfl ?_); refine Kd.R_lit (Kd.int .u64) _ 31 ?hg (N := 60) ?hd (xs := ([(rd_T50 l1_5 x51_2).f0, (rd_T50 l1_5 x51_2).f1] : List Int)) (inner := [.int .u64 ((rd_T50 l1_5 x51_2).f0), .int .u64 ((rd_T50 l1_5 x51_2).f1)]) (ok := fun _ => True) (okp := fun _ => True) ?hr ?hp (fun _ hk => hk) trivial (Below.refl _ _) (Nat.le_refl _) (by simp) ?_; (case hd => rfl); (case hg => rfl); (case hr => first | (go_simp; done) | (go_simp; rfl)); (case hp => exact (Reps.one (show Kd.M (Kd.int .u64) _ _ _ ((rd_T50 l1_5 x51_2).f0) [.int .u64 ((rd_T50 l1_5 x51_2).f0)] from rfl) (Reps.one (show Kd.M (Kd.int .u64) _ _ _ ((rd_T50 l1_5 x51_2).f1) [.int .u64 ((rd_T50 l1_5 x51_2).f1)] from rfl) (Reps.none _ _)))); intro v167 w47 ho48 hb hg_ hnew_; clear hg_ hnew_; (first | rw [← Ny166.out] at ho48 | (simp only [Int.reduceToNat] at ho48; rw [← Ny166.out] at ho48)); have n0_ := Aside0.mk (Kd.R_elder' (by (with_reducible repeat (first | apply Kd.R_alloc | apply Kd.R_drewN | apply Kd.R_drew)); exact (Kd.R_mono (Kd.R_far (p := ⟨gb165, 1, none⟩) (Kd.R_far (p := ⟨gb165, 0, none⟩) (Kd.R_types HO_5.out BK165.out (by decide)) (fun _ hk => hk.2) (.int .u64 ((rd_T50 l1_5 x51_2).f0))) (fun _ hk => hk.2) (.int .u64 ((rd_T50 l1_5 x51_2).f1))) (fun _ h_ => h_.1))) (Kd.R_base ho48) hb); have n1_ := Aside0.mk (Kd.R_lower (Kd.R_new' ho48 (Kd.R_lt (by (with_reducible repeat (first | apply Kd.R_alloc | apply Kd.R_drewN | apply Kd.R_drew)); exact (Kd.R_mono (Kd.R_far (p := ⟨gb165, 1, none⟩) (Kd.R_far (p := ⟨gb165, 0, none⟩) (Kd.R_types HO_5.out BK165.out (by decide)) (fun _ hk => hk.2) (.int .u64 ((rd_T50 l1_5 x51_2).f0))) (fun _ hk => hk.2) (.int .u64 ((rd_T50 l1_5 x51_2).f1))) (fun _ h_ => h_.1))))) (below_size (by repeat (first | (with_reducible first | exact HB.out | apply below_alloc | apply pw_below_drewN | apply below_drew1 | refine below_set ?_ GE158.out | refine below_set ?_ GE159.out | refine below_set ?_ GE165.out) | exact HB.out)))); have n2_ := Aside0.mk (blk_below (g := gb158) (o := .cells #[.int .i64 a0_0, .int .u64 a0_1, .int .u64 a0_2] 38 (0, 0)) (by (with_reducible repeat (first | refine blk_drewN ?_ _ | refine blk_drew ?_ | refine blk_alloc ?_ _)); refine blk_far ?_ NB158_165.out _; (with_reducible repeat (first | refine blk_drewN ?_ _ | refine blk_drew ?_ | refine blk_alloc ?_ _)); refine blk_far ?_ NB158_165.out _; (with_reducible repeat (first | refine blk_drewN ?_ _ | refine blk_drew ?_ | refine blk_alloc ?_ _)); exact BK158.out) hb); have n3_ := Aside0.mk (blk_below (g := gb159) (o := .cells #[.int .i64 a1_0, .bool a1_1, .int .u64 a1_2, .int .u64 a1_3, .int .i64 a1_4, .slice (some ad164) l1_5.length c1_5] 44 (0, 0)) (by (with_reducible repeat (first | refine blk_drewN ?_ _ | refine blk_drew ?_ | refine blk_alloc ?_ _)); refine blk_far ?_ NB159_165.out _; (with_reducible repeat (first | refine blk_drewN ?_ _ | refine blk_drew ?_ | refine blk_alloc ?_ _)); refine blk_far ?_ NB159_165.out _; (with_reducible repeat (first | refine blk_drewN ?_ _ | refine blk_drew ?_ | refine blk_alloc ?_ _)); exact BK159.out) hb); have n4_ := Aside0.mk (blk_below (g := gb165) (o := .cells #[.int .u64 ((rd_T50 l1_5 x51_2).f0), .int .u64 ((rd_T50 l1_5 x51_2).f1)] 50 (0, 0)) (by (with_reducible repeat (first | refine blk_drewN ?_ _ | refine blk_drew ?_ | refine blk_alloc ?_ _)); refine blk_put (cs := #[.int .u64 ((rd_T50 l1_5 x51_2).f0), .int .u64 0]) ?_ 1 _ rfl; (with_reducible repeat (first | refine blk_drewN ?_ _ | refine blk_drew ?_ | refine blk_alloc ?_ _)); refine blk_put (cs := #[.int .u64 0, .int .u64 0]) ?_ 0 _ rfl; (with_reducible repeat (first | refine blk_drewN ?_ _ | refine blk_drew ?_ | refine blk_alloc ?_ _)); exact BK165.out) hb); have n5_ := Aside0.mk (below_step (by repeat (first | (with_reducible first | exact HB.out | apply below_alloc | apply pw_below_drewN | apply below_drew1 | refine below_set ?_ GE158.out | refine below_set ?_ GE159.out | refine below_set ?_ GE165.out) | exact HB.out)) hb); clear HO_5; clear BK158; clear BK159; clear BK165; clear HB; have HO_5 := n0_; have HO168 := n1_; have BK158 := n2_; have BK159 := n3_; have BK165 := n4_; have HB := n5_; clear n0_ n1_ n2_ n3_ n4_ n5_; clear hb ho48; obtain ⟨Ao50, co50, eo50⟩ := Kd.R_slice HO168.out; subst eo50) | ((with_reducible refine gate_builtin (b := .append) (xs := #[.tmp 55, .tmp 60]) rfl ?_); at_builtin; refine Kd.R_append_rows (Kd.int .u64) (w0 := w) w.heap.size rfl (.tmp 55) (.tmp 60) 28 31 (.int .u64 0) 8 rfl Tryd.underlying28 info31 rfl (by decide) (by omega) u5 x5_2 y166 _ _ _ (fun k_ => some k_ ≠ (.slice Ao50 y166.length co50 : Value).ownBlock) (fun _ => False) rfl rfl ?aO ?aR (fun _ _ h => h) (fun _ h => h.elim) ?aF ?aB ?aS ?aL ?_; (case aR => repeat (first | exact (Kd.R_reads' HO168.out).2.2 | (with_reducible refine Kd.C_alloc ?_ _) | (with_reducible refine Kd.C_drewN ?_ _) | (with_reducible refine Kd.C_drew ?_))); (case aB => exact (by repeat (first | (with_reducible first | exact HB.out | apply below_alloc | apply pw_below_drewN | apply below_drew1 | refine below_set ?_ GE158.out | refine below_set ?_ GE159.out | refine below_set ?_ GE165.out) | exact HB.out))); (case aF => exact (fun k_ hk => Kd.fresh' (Kd.R_lt (by (with_reducible repeat (first | apply Kd.R_alloc | apply Kd.R_drewN | apply Kd.R_drew)); exact HO168.out)) k_ hk)); (case aO => exact (by (with_reducible repeat (first | apply Kd.R_alloc | apply Kd.R_drewN | apply Kd.R_drew)); exact Kd.R_mono HO_5.out (fun _ hk => hk.2))); (case aS => exact (below_size (by repeat (first | (with_reducible first | exact HB.out | apply below_alloc | apply pw_below_drewN | apply below_drew1 | refine below_set ?_ GE158.out | refine below_set ?_ GE159.out | refine below_set ?_ GE165.out) | exact HB.out)))); (case aL => have := LMc42.out; omega); intro v170 w49 ho hb hg hat; rw [← Ny169.out] at ho; have n0_ := Aside0.mk (blk_grown (g := gb158) (o := .cells #[.int .i64 a0_0, .int .u64 a0_1, .int .u64 a0_2] 38 (0, 0)) (by (with_reducible repeat (first | refine blk_drewN ?_ _ | refine blk_drew ?_ | refine blk_alloc ?_ _)); exact BK158.out) hg (Kd.R_ne HO_5.out BK158.out (by decide))); have n1_ := Aside0.mk (blk_grown (g := gb159) (o := .cells #[.int .i64 a1_0, .bool a1_1, .int .u64 a1_2, .int .u64 a1_3, .int .i64 a1_4, .slice (some ad164) l1_5.length c1_5] 44 (0, 0)) (by (with_reducible repeat (first | refine blk_drewN ?_ _ | refine blk_drew ?_ | refine blk_alloc ?_ _)); exact BK159.out) hg (Kd.R_ne HO_5.out BK159.out (by decide))); have n2_ := Aside0.mk (blk_grown (g := gb165) (o := .cells #[.int .u64 ((rd_T50 l1_5 x51_2).f0), .int .u64 ((rd_T50 l1_5 x51_2).f1)] 50 (0, 0)) (by (with_reducible repeat (first | refine blk_drewN ?_ _ | refine blk_drew ?_ | refine blk_alloc ?_ _)); exact BK165.out) hg (Kd.R_ne HO_5.out BK165.out (by decide))); have n3_ := Aside0.mk (Kd.R_after (ok := (fun _ => True)) (by (with_reducible repeat (first | apply Kd.R_alloc | apply Kd.R_drewN | apply Kd.R_drew)); exact HO168.out) hg hat); have n4_ := Aside0.mk (hb); have n5_ := Aside0.mk (ho); clear BK158; clear BK159; clear BK165; clear HO168; clear HB; clear HO_5; have BK158 := n0_; have BK159 := n1_; have BK165 := n2_; have HO168 := n3_; have HB := n4_; have HO171 := n5_; clear n0_ n1_ n2_ n3_ n4_ n5_; clear ho hb hg hat))
                              go_roundg k2
                              case measure => have := HJ9.out; have := HK2.out; omega
                              case rel => exact ⟨(y169), (wrap64 (x51_2 + 1)), (by first | rfl | (simp; done) | (simp [*]; done)), H', ⟨by have := HJ9.out; have := HK2.out; omega⟩, ⟨by (with_reducible repeat (first | apply Kd.R_alloc | apply Kd.R_drewN | apply Kd.R_drew)); exact Kd.R_mono HO171.out (fun _ hk => trivial)⟩, ⟨by (with_reducible repeat (first | refine blk_drewN ?_ _ | refine blk_drew ?_ | refine blk_alloc ?_ _)); exact BK158.out⟩, ⟨by (with_reducible repeat (first | refine blk_drewN ?_ _ | refine blk_drew ?_ | refine blk_alloc ?_ _)); exact BK159.out⟩, ⟨by repeat (first | (with_reducible first | exact HB.out | apply below_alloc | apply pw_below_drewN | apply below_drew1 | refine below_set ?_ GE158.out | refine below_set ?_ GE159.out | refine below_set ?_ GE165.out) | exact HB.out)⟩⟩
                            · rw [if_neg c42] at H
                              exact absurd H (by simp)
                          · rw [if_neg c41] at H
                            exact absurd H (by simp)
                        · rw [if_neg c40] at H
                          exact absurd H (by simp)
                      · rw [if_neg c39] at H
                        have c39b0 : decide (x51_2 < (l1_5.length : Int)) = false := decide_eq_false c39
                        clear c39
                        replace H := Option.bind_eq_some_iff.mp H
                        obtain ⟨t172, A510, H⟩ := H
                        replace H : (some t172) = some r := H
                        have A51 := Aside0.mk A510
                        clear A510
                        obtain rfl := Option.some.inj H
                        obtain ⟨Ao52, co52, eo52⟩ := Kd.R_slice HO_5.out
                        subst eo52
                        go_wp2_with (first | ((with_reducible refine gate_callee (f := 33) rfl ?_); refine goesL_ (some 64) rfl rfl Tryd.func33 (by kernel_rfl) rfl #[.slice Ao52 x5_2.length co52] rfl (by (try simp only [List.map_toArray, List.map_cons, List.map_nil]); first | done | rfl | (simp only [List.length_drop, List.length_take]; rfl)) ?_; (with_reducible refine (script_line.calls k2 _ _ x5_2 t172 _ ?side1 ?side2 ?sideT A51.out).mono ?_); (case sideT => exact Tabs.keep HT.out (by repeat (first | (with_reducible first | exact HB.out | apply below_alloc | apply pw_below_drewN | apply below_drew1) | exact HB.out))); (case side1 => repeat (first | exact (Kd.R_reads' HO_5.out).2.2 | (with_reducible refine Kd.C_alloc ?_ _) | (with_reducible refine Kd.C_drewN ?_ _) | (with_reducible refine Kd.C_drew ?_))); (case side2 => exact (Kd.R_reads' HO_5.out).2.1); rintro e w53 ⟨rfl, hb⟩; refine ⟨_, rfl, ?_⟩; have n0_ := Aside0.mk (Kd.R_below (by (with_reducible repeat (first | apply Kd.R_alloc | apply Kd.R_drewN | apply Kd.R_drew)); exact HO_5.out) hb); have n1_ := Aside0.mk (blk_below (g := gb158) (o := .cells #[.int .i64 a0_0, .int .u64 a0_1, .int .u64 a0_2] 38 (0, 0)) (by (with_reducible repeat (first | refine blk_drewN ?_ _ | refine blk_drew ?_ | refine blk_alloc ?_ _)); exact BK158.out) hb); have n2_ := Aside0.mk (blk_below (g := gb159) (o := .cells #[.int .i64 a1_0, .bool a1_1, .int .u64 a1_2, .int .u64 a1_3, .int .i64 a1_4, .slice A1_5 l1_5.length c1_5] 44 (0, 0)) (by (with_reducible repeat (first | refine blk_drewN ?_ _ | refine blk_drew ?_ | refine blk_alloc ?_ _)); exact BK159.out) hb); have n3_ := Aside0.mk (below_step (by repeat (first | (with_reducible first | exact HB.out | apply below_alloc | apply pw_below_drewN | apply below_drew1 | refine below_set ?_ GE158.out | refine below_set ?_ GE159.out) | exact HB.out)) hb); clear HO_5; clear BK158; clear BK159; clear HB; have HO_5 := n0_; have BK158 := n1_; have BK159 := n2_; have HB := n3_; clear n0_ n1_ n2_ n3_; (try clear hb); (try clear hb2); (try clear hk); (try clear hi)))
                        go_ret
                        exact ⟨by first | rfl | (simp [errW_none, errW_some] <;> rfl) | (simp [*, errW_none, errW_some] <;> rfl), by repeat (first | (with_reducible first | exact HB.out | apply below_alloc | apply pw_below_drewN | apply below_drew1 | refine below_set ?_ GE158.out | refine below_set ?_ GE159.out) | exact HB.out)⟩
                · rw [if_neg c32] at H
                  have c32b0 : (a0_0 == 7) = false := beq_eq_false_iff_ne.mpr c32
                  have c32b1 : (a0_0 != 7) = true := bne_iff_ne.mpr c32
                  have HC54 := Aside0.mk H
                  clear H
                  have hnb55 := NB158_159.out
                  have hnc55 := NB159_158.out
                  have hcz56_0 : wc.cell? ⟨gb158, 0, none⟩ = some (.int .i64 a0_0) := (blk_cell BK158.out 0).trans rfl
                  have hcz56_1 : wc.cell? ⟨gb158, 1, none⟩ = some (.int .u64 a0_1) := (blk_cell BK158.out 1).trans rfl
                  have hcz56_2 : wc.cell? ⟨gb158, 2, none⟩ = some (.int .u64 a0_2) := (blk_cell BK158.out 2).trans rfl
                  have hfz56_0 := blk_frozen BK158.out 0
                  have hfz56_1 := blk_frozen BK158.out 1
                  have hfz56_2 := blk_frozen BK158.out 2
                  go_upto_region 19 with (fail)
                  go_cut [65] (fun v65 wc => ∃ (kq : Nat) (x65_53 : Bool), v65 = .bool x65_53 ∧ Aside0 (script_Tell.j2 kq x65_53 a0_0 a0_1 a0_2 a1_0 a1_1 a1_2 a1_3 a1_4 l1_5 = some r) ∧ Aside0 (kq ≤ kj9) ∧ Aside0 (wc.heap[gb158]? = some (.cells #[.int .i64 a0_0, .int .u64 a0_1, .int .u64 a0_2] 38 (0, 0))) ∧ Aside0 (wc.heap[gb159]? = some (.cells #[.int .i64 a1_0, .bool a1_1, .int .u64 a1_2, .int .u64 a1_3, .int .i64 a1_4, (.slice A1_5 l1_5.length c1_5)] 44 (0, 0))) ∧ Aside0 (Below w.heap.size w wc))
                  case first =>
                    have H := HC54.out
                    clear HC54
                    by_cases c57 : a0_0 < 3
                    · rw [if_pos c57] at H
                      have c57b0 : decide (a0_0 < 3) = true := decide_eq_true c57
                      clear c57
                      (first | rw [c57b0] | (simp only [i64_w, i32_w]; rw [c57b0]) | skip)
                      have H' := Aside0.mk H
                      clear H
                      have hnb58 := NB158_159.out
                      have hnc58 := NB159_158.out
                      have hcz59_0 : wc.cell? ⟨gb158, 0, none⟩ = some (.int .i64 a0_0) := (blk_cell BK158.out 0).trans rfl
                      have hcz59_1 : wc.cell? ⟨gb158, 1, none⟩ = some (.int .u64 a0_1) := (blk_cell BK158.out 1).trans rfl
                      have hcz59_2 : wc.cell? ⟨gb158, 2, none⟩ = some (.int .u64 a0_2) := (blk_cell BK158.out 2).trans rfl
                      have hfz59_0 := blk_frozen BK158.out 0
                      have hfz59_1 := blk_frozen BK158.out 1
                      have hfz59_2 := blk_frozen BK158.out 2
                      go_wp2
                      go_meet
                      case rel => exact ⟨_, (true), (by first | rfl | (simp; done) | (simp [*]; done)), H', ⟨by have := HJ9.out; first | omega | exact Nat.le_refl _⟩, ⟨by (with_reducible repeat (first | refine blk_drewN ?_ _ | refine blk_drew ?_ | refine blk_alloc ?_ _)); exact BK158.out⟩, ⟨by (with_reducible repeat (first | refine blk_drewN ?_ _ | refine blk_drew ?_ | refine blk_alloc ?_ _)); exact BK159.out⟩, ⟨by repeat (first | (with_reducible first | exact HB.out | apply below_alloc | apply pw_below_drewN | apply below_drew1 | refine below_set ?_ GE158.out | refine below_set ?_ GE159.out) | exact HB.out)⟩⟩
                    · rw [if_neg c57] at H
                      have c57b0 : decide (a0_0 < 3) = false := decide_eq_false c57
                      clear c57
                      (first | rw [c57b0] | (simp only [i64_w, i32_w]; rw [c57b0]) | skip)
                      have H' := Aside0.mk H
                      clear H
                      have hnb60 := NB158_159.out
                      have hnc60 := NB159_158.out
                      have hcz61_0 : wc.cell? ⟨gb158, 0, none⟩ = some (.int .i64 a0_0) := (blk_cell BK158.out 0).trans rfl
                      have hcz61_1 : wc.cell? ⟨gb158, 1, none⟩ = some (.int .u64 a0_1) := (blk_cell BK158.out 1).trans rfl
                      have hcz61_2 : wc.cell? ⟨gb158, 2, none⟩ = some (.int .u64 a0_2) := (blk_cell BK158.out 2).trans rfl
                      have hfz61_0 := blk_frozen BK158.out 0
                      have hfz61_1 := blk_frozen BK158.out 1
                      have hfz61_2 := blk_frozen BK158.out 2
                      go_wp2
                      go_meet
                      case rel => exact ⟨_, (decide (a0_0 > 5)), (by first | rfl | (simp; done) | (simp [*]; done)), H', ⟨by have := HJ9.out; first | omega | exact Nat.le_refl _⟩, ⟨by (with_reducible repeat (first | refine blk_drewN ?_ _ | refine blk_drew ?_ | refine blk_alloc ?_ _)); exact BK158.out⟩, ⟨by (with_reducible repeat (first | refine blk_drewN ?_ _ | refine blk_drew ?_ | refine blk_alloc ?_ _)); exact BK159.out⟩, ⟨by repeat (first | (with_reducible first | exact HB.out | apply below_alloc | apply pw_below_drewN | apply below_drew1 | refine below_set ?_ GE158.out | refine below_set ?_ GE159.out) | exact HB.out)⟩⟩
                  case rest =>
                    clear HC54
                    try clear c1
                    try clear p1
                    try clear q1
                    try clear hx1
                    try clear c2
                    try clear p2
                    try clear c3
                    try clear c3b0
                    try clear c3b1
                    try clear c4
                    try clear c4b0
                    try clear c4b1
                    try clear c5
                    try clear c6
                    try clear p6
                    try clear c7
                    try clear c13
                    try clear c16
                    try clear c16b0
                    try clear c16b1
                    try clear p16
                    try clear q16
                    try clear hx16
                    try clear c17
                    try clear c20
                    try clear c22
                    try clear c23
                    try clear c23b0
                    try clear c23b1
                    try clear c24
                    try clear c26
                    try clear c26b0
                    try clear c26b1
                    try clear c28
                    try clear c32
                    try clear c32b0
                    try clear c32b1
                    try clear c33
                    try clear c39
                    try clear c39b0
                    try clear c40
                    try clear c40b0
                    try clear c41
                    try clear c41b0
                    try clear c42
                    try clear c44
                    try clear c45
                    try clear c55
                    try clear c57
                    try clear c57b0
                    try clear c58
                    try clear c60
                    try clear hcz14_0
                    try clear hcz14_1
                    try clear hcz14_2
                    try clear hcz14_3
                    try clear hcz14_4
                    try clear hcz14_5
                    try clear hcz15_0
                    try clear hcz15_1
                    try clear hcz15_2
                    try clear hcz18_0
                    try clear hcz18_1
                    try clear hcz18_2
                    try clear hcz19_0
                    try clear hcz19_1
                    try clear hcz19_2
                    try clear hcz19_3
                    try clear hcz19_4
                    try clear hcz19_5
                    try clear hcz21_0
                    try clear hcz21_1
                    try clear hcz21_2
                    try clear hcz25_0
                    try clear hcz25_1
                    try clear hcz25_2
                    try clear hcz29_0
                    try clear hcz29_1
                    try clear hcz29_2
                    try clear hcz30_0
                    try clear hcz30_1
                    try clear hcz30_2
                    try clear hcz30_3
                    try clear hcz30_4
                    try clear hcz30_5
                    try clear hcz34_0
                    try clear hcz34_1
                    try clear hcz34_2
                    try clear hcz35_0
                    try clear hcz35_1
                    try clear hcz35_2
                    try clear hcz35_3
                    try clear hcz35_4
                    try clear hcz35_5
                    try clear hcz38_0
                    try clear hcz38_1
                    try clear hcz38_2
                    try clear hcz38_3
                    try clear hcz38_4
                    try clear hcz38_5
                    try clear hcz46_0
                    try clear hcz46_1
                    try clear hcz56_0
                    try clear hcz56_1
                    try clear hcz56_2
                    try clear hcz59_0
                    try clear hcz59_1
                    try clear hcz59_2
                    try clear hcz61_0
                    try clear hcz61_1
                    try clear hcz61_2
                    try clear hcz8_0
                    try clear hcz8_1
                    try clear hcz8_2
                    try clear hcz8_3
                    try clear hcz8_4
                    try clear hcz8_5
                    try clear hcz9_0
                    try clear hcz9_1
                    try clear hcz9_2
                    try clear hfz14_0
                    try clear hfz14_1
                    try clear hfz14_2
                    try clear hfz14_3
                    try clear hfz14_4
                    try clear hfz14_5
                    try clear hfz15_0
                    try clear hfz15_1
                    try clear hfz15_2
                    try clear hfz18_0
                    try clear hfz18_1
                    try clear hfz18_2
                    try clear hfz19_0
                    try clear hfz19_1
                    try clear hfz19_2
                    try clear hfz19_3
                    try clear hfz19_4
                    try clear hfz19_5
                    try clear hfz21_0
                    try clear hfz21_1
                    try clear hfz21_2
                    try clear hfz25_0
                    try clear hfz25_1
                    try clear hfz25_2
                    try clear hfz29_0
                    try clear hfz29_1
                    try clear hfz29_2
                    try clear hfz30_0
                    try clear hfz30_1
                    try clear hfz30_2
                    try clear hfz30_3
                    try clear hfz30_4
                    try clear hfz30_5
                    try clear hfz34_0
                    try clear hfz34_1
                    try clear hfz34_2
                    try clear hfz35_0
                    try clear hfz35_1
                    try clear hfz35_2
                    try clear hfz35_3
                    try clear hfz35_4
                    try clear hfz35_5
                    try clear hfz38_0
                    try clear hfz38_1
                    try clear hfz38_2
                    try clear hfz38_3
                    try clear hfz38_4
                    try clear hfz38_5
                    try clear hfz46_0
                    try clear hfz46_1
                    try clear hfz56_0
                    try clear hfz56_1
                    try clear hfz56_2
                    try clear hfz59_0
                    try clear hfz59_1
                    try clear hfz59_2
                    try clear hfz61_0
                    try clear hfz61_1
                    try clear hfz61_2
                    try clear hfz8_0
                    try clear hfz8_1
                    try clear hfz8_2
                    try clear hfz8_3
                    try clear hfz8_4
                    try clear hfz8_5
                    try clear hfz9_0
                    try clear hfz9_1
                    try clear hfz9_2
                    try clear hx164_0
                    try clear hx164_1
                    try clear p164
                    try clear p2
                    try clear q164
                    obtain ⟨kq, x65_53, rfl, HA, HJ53, BK158, BK159, HB⟩ := hcut
                    cases kq with
                    | zero => exact absurd HA.out (by simp [script_Tell.j2])
                    | succ kj53 =>
                      have H := HA.out
                      clear HA
                      simp only [script_Tell.j2] at H
                      by_cases c62 : x65_53 = true
                      · subst c62
                        have H1 : (some (⟨#[]⟩ : ByteArray)) = some r := by rw [if_pos rfl] at H; exact H
                        clear H
                        have H := H1
                        clear H1
                        obtain rfl := Option.some.inj H
                        go_wp2
                        go_ret
                        exact ⟨by first | rfl | (simp [errW_none, errW_some] <;> rfl) | (simp [*, errW_none, errW_some] <;> rfl), by repeat (first | (with_reducible first | exact HB.out | apply below_alloc | apply pw_below_drewN | apply below_drew1 | refine below_set ?_ GE158.out | refine below_set ?_ GE159.out) | exact HB.out)⟩
                      · replace c62 := Bool.eq_false_iff.mpr c62
                        subst c62
                        have H1 : (if a1_1 = true then (if a0_0 = 3 then ((script_line.f kj53 (([a1_3] : List Int))).bind fun t176 => (some t176)) else ((script_line.f kj53 (([a1_2, a1_3] : List Int))).bind fun t180 => (some t180))) else (some (⟨#[110, 111, 110, 101]⟩ : ByteArray))) = some r := by rw [if_neg (show ¬ (false = true) by decide)] at H; exact H
                        clear H
                        have H := H1
                        clear H1
                        by_cases c63 : a1_1 = true
                        · subst c63
                          have H1 : (if a0_0 = 3 then ((script_line.f kj53 (([a1_3] : List Int))).bind fun t176 => (some t176)) else ((script_line.f kj53 (([a1_2, a1_3] : List Int))).bind fun t180 => (some t180))) = some r := by rw [if_pos rfl] at H; exact H
                          clear H
                          have H := H1
                          clear H1
                          by_cases c64 : a0_0 = 3
                          · rw [if_pos c64] at H
                            have c64b0 : (a0_0 == 3) = true := beq_iff_eq.mpr c64
                            have c64b1 : (a0_0 != 3) = false := bne_eq_false_iff_eq.mpr c64
                            clear c64
                            obtain ⟨y173, hy173⟩ : ∃ y_ : List Int, y_ = (([a1_3] : List Int)) := ⟨_, rfl⟩
                            replace H : ((script_line.f kj53 y173).bind fun t176 => (some t176)) = some r := by first | (rw [hy173]; with_reducible exact H) | (have H2_ := (Option.bind_some _ _).symm.trans H; rw [hy173]; with_reducible exact H2_) | (have H2_ := (Option.bind_some _ _).symm.trans H; with_reducible exact H2_) | with_reducible exact H | (rw [hy173]; exact H) | exact H
                            have Ny173 := Aside0.mk hy173
                            clear hy173
                            replace H := Option.bind_eq_some_iff.mp H
                            obtain ⟨t176, A650, H⟩ := H
                            replace H : (some t176) = some r := H
                            have A65 := Aside0.mk A650
                            clear A650
                            obtain rfl := Option.some.inj H
                            have hnb66 := NB159_158.out
                            have hnc66 := NB158_159.out
                            have hcz67_0 : wc.cell? ⟨gb159, 0, none⟩ = some (.int .i64 a1_0) := (blk_cell BK159.out 0).trans rfl
                            have hcz67_1 : wc.cell? ⟨gb159, 1, none⟩ = some (.bool true) := (blk_cell BK159.out 1).trans rfl
                            have hcz67_2 : wc.cell? ⟨gb159, 2, none⟩ = some (.int .u64 a1_2) := (blk_cell BK159.out 2).trans rfl
                            have hcz67_3 : wc.cell? ⟨gb159, 3, none⟩ = some (.int .u64 a1_3) := (blk_cell BK159.out 3).trans rfl
                            have hcz67_4 : wc.cell? ⟨gb159, 4, none⟩ = some (.int .i64 a1_4) := (blk_cell BK159.out 4).trans rfl
                            have hcz67_5 : wc.cell? ⟨gb159, 5, none⟩ = some (.slice A1_5 l1_5.length c1_5) := (blk_cell BK159.out 5).trans rfl
                            have hfz67_0 := blk_frozen BK159.out 0
                            have hfz67_1 := blk_frozen BK159.out 1
                            have hfz67_2 := blk_frozen BK159.out 2
                            have hfz67_3 := blk_frozen BK159.out 3
                            have hfz67_4 := blk_frozen BK159.out 4
                            have hfz67_5 := blk_frozen BK159.out 5
                            have hcz68_0 : wc.cell? ⟨gb158, 0, none⟩ = some (.int .i64 a0_0) := (blk_cell BK158.out 0).trans rfl
                            have hcz68_1 : wc.cell? ⟨gb158, 1, none⟩ = some (.int .u64 a0_1) := (blk_cell BK158.out 1).trans rfl
                            have hcz68_2 : wc.cell? ⟨gb158, 2, none⟩ = some (.int .u64 a0_2) := (blk_cell BK158.out 2).trans rfl
                            have hfz68_0 := blk_frozen BK158.out 0
                            have hfz68_1 := blk_frozen BK158.out 1
                            have hfz68_2 := blk_frozen BK158.out 2
                            go_wp2_with (first | ((with_reducible refine gate_dst (N := 84) rfl ?_); refine Kd.R_lit (Kd.int .u64) _ 31 ?hg (N := 84) ?hd (xs := ([a1_3] : List Int)) (inner := [.int .u64 a1_3]) (ok := fun _ => True) (okp := fun _ => True) ?hr ?hp (fun _ hk => hk) trivial (Below.refl _ _) (Nat.le_refl _) (by simp) ?_; (case hd => rfl); (case hg => rfl); (case hr => first | (go_simp; done) | (go_simp; rfl)); (case hp => exact (Reps.one (show Kd.M (Kd.int .u64) _ _ _ a1_3 [.int .u64 a1_3] from rfl) (Reps.none _ _))); intro v174 w69 ho70 hb hg_ hnew_; clear hg_ hnew_; (first | rw [← Ny173.out] at ho70 | (simp only [Int.reduceToNat] at ho70; rw [← Ny173.out] at ho70)); have n0_ := Aside0.mk (Kd.R_lower ho70 (below_size (by repeat (first | (with_reducible first | exact HB.out | apply below_alloc | apply pw_below_drewN | apply below_drew1 | refine below_set ?_ GE158.out | refine below_set ?_ GE159.out) | exact HB.out)))); have n1_ := Aside0.mk (blk_below (g := gb158) (o := .cells #[.int .i64 a0_0, .int .u64 a0_1, .int .u64 a0_2] 38 (0, 0)) (by (with_reducible repeat (first | refine blk_drewN ?_ _ | refine blk_drew ?_ | refine blk_alloc ?_ _)); exact BK158.out) hb); have n2_ := Aside0.mk (blk_below (g := gb159) (o := .cells #[.int .i64 a1_0, .bool true, .int .u64 a1_2, .int .u64 a1_3, .int .i64 a1_4, .slice A1_5 l1_5.length c1_5] 44 (0, 0)) (by (with_reducible repeat (first | refine blk_drewN ?_ _ | refine blk_drew ?_ | refine blk_alloc ?_ _)); exact BK159.out) hb); have n3_ := Aside0.mk (below_step (by repeat (first | (with_reducible first | exact HB.out | apply below_alloc | apply pw_below_drewN | apply below_drew1 | refine below_set ?_ GE158.out | refine below_set ?_ GE159.out) | exact HB.out)) hb); clear BK158; clear BK159; clear HB; have HO175 := n0_; have BK158 := n1_; have BK159 := n2_; have HB := n3_; clear n0_ n1_ n2_ n3_; clear hb ho70; obtain ⟨Ao71, co71, eo71⟩ := Kd.R_slice HO175.out; subst eo71) | ((with_reducible refine gate_callee (f := 33) rfl ?_); refine goesL_ (some 85) rfl rfl Tryd.func33 (by kernel_rfl) rfl #[.slice Ao71 y173.length co71] rfl (by (try simp only [List.map_toArray, List.map_cons, List.map_nil]); first | done | rfl | (simp only [List.length_drop, List.length_take]; rfl)) ?_; (with_reducible refine (script_line.calls kj53 _ _ y173 t176 _ ?side1 ?side2 ?sideT A65.out).mono ?_); (case sideT => exact Tabs.keep HT.out (by repeat (first | (with_reducible first | exact HB.out | apply below_alloc | apply pw_below_drewN | apply below_drew1) | exact HB.out))); (case side1 => repeat (first | exact (Kd.R_reads' HO175.out).2.2 | (with_reducible refine Kd.C_alloc ?_ _) | (with_reducible refine Kd.C_drewN ?_ _) | (with_reducible refine Kd.C_drew ?_))); (case side2 => exact (Kd.R_reads' HO175.out).2.1); rintro e w72 ⟨rfl, hb⟩; refine ⟨_, rfl, ?_⟩; have n0_ := Aside0.mk (Kd.R_below (by (with_reducible repeat (first | apply Kd.R_alloc | apply Kd.R_drewN | apply Kd.R_drew)); exact HO175.out) hb); have n1_ := Aside0.mk (blk_below (g := gb158) (o := .cells #[.int .i64 a0_0, .int .u64 a0_1, .int .u64 a0_2] 38 (0, 0)) (by (with_reducible repeat (first | refine blk_drewN ?_ _ | refine blk_drew ?_ | refine blk_alloc ?_ _)); exact BK158.out) hb); have n2_ := Aside0.mk (blk_below (g := gb159) (o := .cells #[.int .i64 a1_0, .bool true, .int .u64 a1_2, .int .u64 a1_3, .int .i64 a1_4, .slice A1_5 l1_5.length c1_5] 44 (0, 0)) (by (with_reducible repeat (first | refine blk_drewN ?_ _ | refine blk_drew ?_ | refine blk_alloc ?_ _)); exact BK159.out) hb); have n3_ := Aside0.mk (below_step (by repeat (first | (with_reducible first | exact HB.out | apply below_alloc | apply pw_below_drewN | apply below_drew1 | refine below_set ?_ GE158.out | refine below_set ?_ GE159.out) | exact HB.out)) hb); clear HO175; clear BK158; clear BK159; clear HB; have HO175 := n0_; have BK158 := n1_; have BK159 := n2_; have HB := n3_; clear n0_ n1_ n2_ n3_; (try clear hb); (try clear hb2); (try clear hk); (try clear hi)))
                            go_ret
                            exact ⟨by first | rfl | (simp [errW_none, errW_some] <;> rfl) | (simp [*, errW_none, errW_some] <;> rfl), by repeat (first | (with_reducible first | exact HB.out | apply below_alloc | apply pw_below_drewN | apply below_drew1 | refine below_set ?_ GE158.out | refine below_set ?_ GE159.out) | exact HB.out)⟩
                          · rw [if_neg c64] at H
                            have c64b0 : (a0_0 == 3) = false := beq_eq_false_iff_ne.mpr c64
                            have c64b1 : (a0_0 != 3) = true := bne_iff_ne.mpr c64
                            obtain ⟨y177, hy177⟩ : ∃ y_ : List Int, y_ = (([a1_2, a1_3] : List Int)) := ⟨_, rfl⟩
                            replace H : ((script_line.f kj53 y177).bind fun t180 => (some t180)) = some r := by first | (rw [hy177]; with_reducible exact H) | (have H2_ := (Option.bind_some _ _).symm.trans H; rw [hy177]; with_reducible exact H2_) | (have H2_ := (Option.bind_some _ _).symm.trans H; with_reducible exact H2_) | with_reducible exact H | (rw [hy177]; exact H) | exact H
                            have Ny177 := Aside0.mk hy177
                            clear hy177
                            replace H := Option.bind_eq_some_iff.mp H
                            obtain ⟨t180, A730, H⟩ := H
                            replace H : (some t180) = some r := H
                            have A73 := Aside0.mk A730
                            clear A730
                            obtain rfl := Option.some.inj H
                            have hnb74 := NB159_158.out
                            have hnc74 := NB158_159.out
                            have hcz75_0 : wc.cell? ⟨gb159, 0, none⟩ = some (.int .i64 a1_0) := (blk_cell BK159.out 0).trans rfl
                            have hcz75_1 : wc.cell? ⟨gb159, 1, none⟩ = some (.bool true) := (blk_cell BK159.out 1).trans rfl
                            have hcz75_2 : wc.cell? ⟨gb159, 2, none⟩ = some (.int .u64 a1_2) := (blk_cell BK159.out 2).trans rfl
                            have hcz75_3 : wc.cell? ⟨gb159, 3, none⟩ = some (.int .u64 a1_3) := (blk_cell BK159.out 3).trans rfl
                            have hcz75_4 : wc.cell? ⟨gb159, 4, none⟩ = some (.int .i64 a1_4) := (blk_cell BK159.out 4).trans rfl
                            have hcz75_5 : wc.cell? ⟨gb159, 5, none⟩ = some (.slice A1_5 l1_5.length c1_5) := (blk_cell BK159.out 5).trans rfl
                            have hfz75_0 := blk_frozen BK159.out 0
                            have hfz75_1 := blk_frozen BK159.out 1
                            have hfz75_2 := blk_frozen BK159.out 2
                            have hfz75_3 := blk_frozen BK159.out 3
                            have hfz75_4 := blk_frozen BK159.out 4
                            have hfz75_5 := blk_frozen BK159.out 5
                            have hcz76_0 : wc.cell? ⟨gb158, 0, none⟩ = some (.int .i64 a0_0) := (blk_cell BK158.out 0).trans rfl
                            have hcz76_1 : wc.cell? ⟨gb158, 1, none⟩ = some (.int .u64 a0_1) := (blk_cell BK158.out 1).trans rfl
                            have hcz76_2 : wc.cell? ⟨gb158, 2, none⟩ = some (.int .u64 a0_2) := (blk_cell BK158.out 2).trans rfl
                            have hfz76_0 := blk_frozen BK158.out 0
                            have hfz76_1 := blk_frozen BK158.out 1
                            have hfz76_2 := blk_frozen BK158.out 2
                            go_wp2_with (first | ((with_reducible refine gate_dst (N := 90) rfl ?_); refine Kd.R_lit (Kd.int .u64) _ 31 ?hg (N := 90) ?hd (xs := ([a1_2, a1_3] : List Int)) (inner := [.int .u64 a1_2, .int .u64 a1_3]) (ok := fun _ => True) (okp := fun _ => True) ?hr ?hp (fun _ hk => hk) trivial (Below.refl _ _) (Nat.le_refl _) (by simp) ?_; (case hd => rfl); (case hg => rfl); (case hr => first | (go_simp; done) | (go_simp; rfl)); (case hp => exact (Reps.one (show Kd.M (Kd.int .u64) _ _ _ a1_2 [.int .u64 a1_2] from rfl) (Reps.one (show Kd.M (Kd.int .u64) _ _ _ a1_3 [.int .u64 a1_3] from rfl) (Reps.none _ _)))); intro v178 w77 ho78 hb hg_ hnew_; clear hg_ hnew_; (first | rw [← Ny177.out] at ho78 | (simp only [Int.reduceToNat] at ho78; rw [← Ny177.out] at ho78)); have n0_ := Aside0.mk (Kd.R_lower ho78 (below_size (by repeat (first | (with_reducible first | exact HB.out | apply below_alloc | apply pw_below_drewN | apply below_drew1 | refine below_set ?_ GE158.out | refine below_set ?_ GE159.out) | exact HB.out)))); have n1_ := Aside0.mk (blk_below (g := gb158) (o := .cells #[.int .i64 a0_0, .int .u64 a0_1, .int .u64 a0_2] 38 (0, 0)) (by (with_reducible repeat (first | refine blk_drewN ?_ _ | refine blk_drew ?_ | refine blk_alloc ?_ _)); exact BK158.out) hb); have n2_ := Aside0.mk (blk_below (g := gb159) (o := .cells #[.int .i64 a1_0, .bool true, .int .u64 a1_2, .int .u64 a1_3, .int .i64 a1_4, .slice A1_5 l1_5.length c1_5] 44 (0, 0)) (by (with_reducible repeat (first | refine blk_drewN ?_ _ | refine blk_drew ?_ | refine blk_alloc ?_ _)); exact BK159.out) hb); have n3_ := Aside0.mk (below_step (by repeat (first | (with_reducible first | exact HB.out | apply below_alloc | apply pw_below_drewN | apply below_drew1 | refine below_set ?_ GE158.out | refine below_set ?_ GE159.out) | exact HB.out)) hb); clear BK158; clear BK159; clear HB; have HO179 := n0_; have BK158 := n1_; have BK159 := n2_; have HB := n3_; clear n0_ n1_ n2_ n3_; clear hb ho78; obtain ⟨Ao79, co79, eo79⟩ := Kd.R_slice HO179.out; subst eo79) | ((with_reducible refine gate_callee (f := 33) rfl ?_); refine goesL_ (some 91) rfl rfl Tryd.func33 (by kernel_rfl) rfl #[.slice Ao79 y177.length co79] rfl (by (try simp only [List.map_toArray, List.map_cons, List.map_nil]); first | done | rfl | (simp only [List.length_drop, List.length_take]; rfl)) ?_; (with_reducible refine (script_line.calls kj53 _ _ y177 t180 _ ?side1 ?side2 ?sideT A73.out).mono ?_); (case sideT => exact Tabs.keep HT.out (by repeat (first | (with_reducible first | exact HB.out | apply below_alloc | apply pw_below_drewN | apply below_drew1) | exact HB.out))); (case side1 => repeat (first | exact (Kd.R_reads' HO179.out).2.2 | (with_reducible refine Kd.C_alloc ?_ _) | (with_reducible refine Kd.C_drewN ?_ _) | (with_reducible refine Kd.C_drew ?_))); (case side2 => exact (Kd.R_reads' HO179.out).2.1); rintro e w80 ⟨rfl, hb⟩; refine ⟨_, rfl, ?_⟩; have n0_ := Aside0.mk (Kd.R_below (by (with_reducible repeat (first | apply Kd.R_alloc | apply Kd.R_drewN | apply Kd.R_drew)); exact HO179.out) hb); have n1_ := Aside0.mk (blk_below (g := gb158) (o := .cells #[.int .i64 a0_0, .int .u64 a0_1, .int .u64 a0_2] 38 (0, 0)) (by (with_reducible repeat (first | refine blk_drewN ?_ _ | refine blk_drew ?_ | refine blk_alloc ?_ _)); exact BK158.out) hb); have n2_ := Aside0.mk (blk_below (g := gb159) (o := .cells #[.int .i64 a1_0, .bool true, .int .u64 a1_2, .int .u64 a1_3, .int .i64 a1_4, .slice A1_5 l1_5.length c1_5] 44 (0, 0)) (by (with_reducible repeat (first | refine blk_drewN ?_ _ | refine blk_drew ?_ | refine blk_alloc ?_ _)); exact BK159.out) hb); have n3_ := Aside0.mk (below_step (by repeat (first | (with_reducible first | exact HB.out | apply below_alloc | apply pw_below_drewN | apply below_drew1 | refine below_set ?_ GE158.out | refine below_set ?_ GE159.out) | exact HB.out)) hb); clear HO179; clear BK158; clear BK159; clear HB; have HO179 := n0_; have BK158 := n1_; have BK159 := n2_; have HB := n3_; clear n0_ n1_ n2_ n3_; (try clear hb); (try clear hb2); (try clear hk); (try clear hi)))
                            go_ret
                            exact ⟨by first | rfl | (simp [errW_none, errW_some] <;> rfl) | (simp [*, errW_none, errW_some] <;> rfl), by repeat (first | (with_reducible first | exact HB.out | apply below_alloc | apply pw_below_drewN | apply below_drew1 | refine below_set ?_ GE158.out | refine below_set ?_ GE159.out) | exact HB.out)⟩
                        · replace c63 := Bool.eq_false_iff.mpr c63
                          subst c63
                          have H1 : (some (⟨#[110, 111, 110, 101]⟩ : ByteArray)) = some r := by rw [if_neg (show ¬ (false = true) by decide)] at H; exact H
                          clear H
                          have H := H1
                          clear H1
                          obtain rfl := Option.some.inj H
                          have hnb81 := NB159_158.out
                          have hnc81 := NB158_159.out
                          have hcz82_0 : wc.cell? ⟨gb159, 0, none⟩ = some (.int .i64 a1_0) := (blk_cell BK159.out 0).trans rfl
                          have hcz82_1 : wc.cell? ⟨gb159, 1, none⟩ = some (.bool false) := (blk_cell BK159.out 1).trans rfl
                          have hcz82_2 : wc.cell? ⟨gb159, 2, none⟩ = some (.int .u64 a1_2) := (blk_cell BK159.out 2).trans rfl
                          have hcz82_3 : wc.cell? ⟨gb159, 3, none⟩ = some (.int .u64 a1_3) := (blk_cell BK159.out 3).trans rfl
                          have hcz82_4 : wc.cell? ⟨gb159, 4, none⟩ = some (.int .i64 a1_4) := (blk_cell BK159.out 4).trans rfl
                          have hcz82_5 : wc.cell? ⟨gb159, 5, none⟩ = some (.slice A1_5 l1_5.length c1_5) := (blk_cell BK159.out 5).trans rfl
                          have hfz82_0 := blk_frozen BK159.out 0
                          have hfz82_1 := blk_frozen BK159.out 1
                          have hfz82_2 := blk_frozen BK159.out 2
                          have hfz82_3 := blk_frozen BK159.out 3
                          have hfz82_4 := blk_frozen BK159.out 4
                          have hfz82_5 := blk_frozen BK159.out 5
                          go_wp2
                          go_ret
                          exact ⟨by first | rfl | (simp [errW_none, errW_some] <;> rfl) | (simp [*, errW_none, errW_some] <;> rfl), by repeat (first | (with_reducible first | exact HB.out | apply below_alloc | apply pw_below_drewN | apply below_drew1 | refine below_set ?_ GE158.out | refine below_set ?_ GE159.out) | exact HB.out)⟩
  · rw [if_neg c3] at H
    have c3b0 : (a1_0 == 0) = false := beq_eq_false_iff_ne.mpr c3
    have c3b1 : (a1_0 != 0) = true := bne_iff_ne.mpr c3
    replace H := Option.bind_eq_some_iff.mp H
    obtain ⟨t181, A830, H⟩ := H
    replace H : (if 6 + t181.size ≤ 9223372036854775807 then (some ((⟨#[101, 114, 114, 111, 114, 32]⟩ : ByteArray) ++ t181)) else (none)) = some r := H
    have A83 := Aside0.mk A830
    clear A830
    by_cases c84 : 6 + t181.size ≤ 9223372036854775807
    · rw [if_pos c84] at H
      have c84b0 := eq_true c84
      have c84b1 : decide (6 + t181.size ≤ 9223372036854775807) = true := decide_eq_true c84
      try have c84b2 : (9223372036854775807 < 6 + t181.size) = False := eq_false (Nat.not_lt.2 c84)
      obtain rfl := Option.some.inj H
      go_enter Tryd.func20, Tryd.ntmps20
      go_wp2_with (first | ((with_reducible refine gate_dst (N := 2) rfl ?_); refine box_event ?hg (N := 2) ?hd (cs := #[.int .i64 a0_0, .int .u64 a0_1, .int .u64 a0_2]) (t := 38) ?hr ?_; (case hd => rfl); (case hg => rfl); (case hr => first | (go_simp; done) | (go_simp; rfl)); intro gb158 hg w85 hbox hb; have n0_ := Aside0.mk (below_step (by repeat (first | (with_reducible first | exact HB.out | apply below_alloc | apply pw_below_drewN | apply below_drew1) | exact HB.out)) hb); have n1_ := Aside0.mk (hbox); have n2_ := Aside0.mk ((by rw [hg]; exact (below_size (by repeat (first | (with_reducible first | exact HB.out | apply below_alloc | apply pw_below_drewN | apply below_drew1) | exact HB.out))) : w.heap.size ≤ gb158)); have n3_ := Aside0.mk ((by rw [hg]; exact (below_size (by repeat (first | (with_reducible first | exact HB.out | apply below_alloc | apply pw_below_drewN | apply below_drew1) | exact HB.out))) : w.heap.size ≤ gb158)); clear HB; have HB := n0_; have BK158 := n1_; have GW158 := n2_; have GE158 := n3_; clear n0_ n1_ n2_ n3_; clear hb hbox hg) | ((with_reducible refine gate_dst (N := 3) rfl ?_); refine box_event ?hg (N := 3) ?hd (cs := #[.int .i64 a1_0, .bool a1_1, .int .u64 a1_2, .int .u64 a1_3, .int .i64 a1_4, .slice A1_5 l1_5.length c1_5]) (t := 44) ?hr ?_; (case hd => rfl); (case hg => rfl); (case hr => first | (go_simp; done) | (go_simp; rfl)); intro gb159 hg w86 hbox hb; have n0_ := Aside0.mk (blk_below (g := gb158) (o := .cells #[.int .i64 a0_0, .int .u64 a0_1, .int .u64 a0_2] 38 (0, 0)) (by (with_reducible repeat (first | refine blk_drewN ?_ _ | refine blk_drew ?_ | refine blk_alloc ?_ _)); exact BK158.out) hb); have n1_ := Aside0.mk (below_step (by repeat (first | (with_reducible first | exact HB.out | apply below_alloc | apply pw_below_drewN | apply below_drew1 | refine below_set ?_ GE158.out) | exact HB.out)) hb); have n2_ := Aside0.mk (hbox); have n3_ := Aside0.mk ((by rw [hg]; exact (below_size (by repeat (first | (with_reducible first | exact HB.out | apply below_alloc | apply pw_below_drewN | apply below_drew1 | refine below_set ?_ GE158.out) | exact HB.out))) : w.heap.size ≤ gb159)); have n4_ := Aside0.mk ((by rw [hg]; exact (below_size (by repeat (first | (with_reducible first | exact HB.out | apply below_alloc | apply pw_below_drewN | apply below_drew1 | refine below_set ?_ GE158.out) | exact HB.out))) : w.heap.size ≤ gb159)); have n5_ := Aside0.mk ((by rw [hg]; exact Nat.ne_of_lt (blk_lt (g := gb158) (o := .cells #[.int .i64 a0_0, .int .u64 a0_1, .int .u64 a0_2] 38 (0, 0)) (by (with_reducible repeat (first | refine blk_drewN ?_ _ | refine blk_drew ?_ | refine blk_alloc ?_ _)); exact BK158.out)) : gb158 ≠ gb159)); have n6_ := Aside0.mk ((by rw [hg]; exact Nat.ne_of_gt (blk_lt (g := gb158) (o := .cells #[.int .i64 a0_0, .int .u64 a0_1, .int .u64 a0_2] 38 (0, 0)) (by (with_reducible repeat (first | refine blk_drewN ?_ _ | refine blk_drew ?_ | refine blk_alloc ?_ _)); exact BK158.out)) : gb159 ≠ gb158)); clear BK158; clear HB; have BK158 := n0_; have HB := n1_; have BK159 := n2_; have GW159 := n3_; have GE159 := n4_; have NB158_159 := n5_; have NB159_158 := n6_; clear n0_ n1_ n2_ n3_ n4_ n5_ n6_; clear hb hbox hg; have hnb87 := NB159_158.out; have hnc87 := NB158_159.out; have hcz88_0 : w86.cell? ⟨gb159, 0, none⟩ = some (.int .i64 a1_0) := (blk_cell BK159.out 0).trans rfl; have hcz88_1 : w86.cell? ⟨gb159, 1, none⟩ = some (.bool a1_1) := (blk_cell BK159.out 1).trans rfl; have hcz88_2 : w86.cell? ⟨gb159, 2, none⟩ = some (.int .u64 a1_2) := (blk_cell BK159.out 2).trans rfl; have hcz88_3 : w86.cell? ⟨gb159, 3, none⟩ = some (.int .u64 a1_3) := (blk_cell BK159.out 3).trans rfl; have hcz88_4 : w86.cell? ⟨gb159, 4, none⟩ = some (.int .i64 a1_4) := (blk_cell BK159.out 4).trans rfl; have hcz88_5 : w86.cell? ⟨gb159, 5, none⟩ = some (.slice A1_5 l1_5.length c1_5) := (blk_cell BK159.out 5).trans rfl; have hfz88_0 := blk_frozen BK159.out 0; have hfz88_1 := blk_frozen BK159.out 1; have hfz88_2 := blk_frozen BK159.out 2; have hfz88_3 := blk_frozen BK159.out 3; have hfz88_4 := blk_frozen BK159.out 4; have hfz88_5 := blk_frozen BK159.out 5) | ((with_reducible refine gate_callee (f := 32) rfl ?_); refine goesL_ (some 14) rfl rfl Tryd.func32 (by kernel_rfl) rfl #[.int .i64 a1_0] rfl (by (try simp only [List.map_toArray, List.map_cons, List.map_nil]); first | done | rfl | (simp only [List.length_drop, List.length_take]; rfl)) ?_; (with_reducible refine (strconv_Itoa.calls a1_0 t181 _ ?sideT A83.out).mono ?_); (case sideT => exact Tabs.keep HT.out (by repeat (first | (with_reducible first | exact HB.out | apply below_alloc | apply pw_below_drewN | apply below_drew1) | exact HB.out))); rintro e w89 ⟨rfl, hb⟩; refine ⟨_, rfl, ?_⟩; have n0_ := Aside0.mk (blk_below (g := gb158) (o := .cells #[.int .i64 a0_0, .int .u64 a0_1, .int .u64 a0_2] 38 (0, 0)) (by (with_reducible repeat (first | refine blk_drewN ?_ _ | refine blk_drew ?_ | refine blk_alloc ?_ _)); exact BK158.out) hb); have n1_ := Aside0.mk (blk_below (g := gb159) (o := .cells #[.int .i64 a1_0, .bool a1_1, .int .u64 a1_2, .int .u64 a1_3, .int .i64 a1_4, .slice A1_5 l1_5.length c1_5] 44 (0, 0)) (by (with_reducible repeat (first | refine blk_drewN ?_ _ | refine blk_drew ?_ | refine blk_alloc ?_ _)); exact BK159.out) hb); have n2_ := Aside0.mk (below_step (by repeat (first | (with_reducible first | exact HB.out | apply below_alloc | apply pw_below_drewN | apply below_drew1 | refine below_set ?_ GE158.out | refine below_set ?_ GE159.out) | exact HB.out)) hb); clear BK158; clear BK159; clear HB; have BK158 := n0_; have BK159 := n1_; have HB := n2_; clear n0_ n1_ n2_; (try clear hb); (try clear hb2); (try clear hk); (try clear hi)))
      go_ret
      exact ⟨by first | rfl | (simp [errW_none, errW_some] <;> rfl) | (simp [*, errW_none, errW_some] <;> rfl), by repeat (first | (with_reducible first | exact HB.out | apply below_alloc | apply pw_below_drewN | apply below_drew1 | refine below_set ?_ GE158.out | refine below_set ?_ GE159.out) | exact HB.out)⟩
    · rw [if_neg c84] at H
      exact absurd H (by simp)

end Go.Proofs.YtlfoaaeelcmhiaaDoor.G
end

section
/- Plain laws, on: script.line, script.Tell's list of pairs. -/
namespace Go.Proofs.YtlfoaaeelcmhiaaDoor.Pure
open Go.RowKit Go.Proofs.YtlfoaaeelcmhiaaDoor.G
open Go.Proofs.YtlfoaaeelcmhiaaDoorW.PrintWords hiding nums
set_option linter.unusedVariables false
set_option linter.unusedSimpArgs false
def lineText : List Int → Bytes
  | [] => []
  | n :: ns => Lib.decDigits n.toNat ++ numsText ns
theorem line_l0 (ns : List Int) (hw : ∀ n ∈ ns, u64ok n) (hl : ns.length ≤ 1000000000) : ∀ (d i k : Nat) (bs : Bytes), ns.length = i + d → 0 < i → d < k → bs.length ≤ 21 * i →
    script_line.l0 k (nums bs) ns (ns.length : Int) (i : Int) = some (mk (bs ++ numsText (ns.drop i))) := by
  intro d
  induction d with
  | zero =>
    intro i k bs h1 h0 hk hb
    obtain ⟨k, rfl⟩ : ∃ m, k = m + 1 := ⟨k - 1, by omega⟩
    simp only [script_line.l0]
    rw [if_neg (by omega), strOf_nums, List.drop_eq_nil_of_le (by omega)]
    simp [numsText, mk]
  | succ d ih =>
    intro i k bs h1 h0 hk hb
    obtain ⟨k, rfl⟩ : ∃ m, k = m + 1 := ⟨k - 1, by omega⟩
    have hi : i < ns.length := by omega
    have hu := hw _ (List.getElem_mem hi)
    have hd := dec_len hu
    simp only [script_line.l0]
    rw [if_pos (by omega), if_pos (by omega), if_pos (by omega), if_pos (by omega), nums_length, if_pos (by omega), rd_get _ _ hi]
    unfold strconv_AppendUint.f
    rw [if_pos ⟨rfl, hu, by rw [List.length_append, nums_length, List.length_singleton]; omega⟩, Option.bind_some, w64 (by omega) (by omega)]
    rw [show nums bs ++ [32] ++ nums (Lib.decDigits ns[i].toNat) = nums (bs ++ (32 :: Lib.decDigits ns[i].toNat)) from by rw [nums_append]; simp [nums], show (i : Int) + 1 = ((i + 1 : Nat) : Int) from rfl, ih (i + 1) k _ (by omega) (by omega) (by omega) (by rw [List.length_append, List.length_cons]; omega)]
    have e : numsText (ns.drop i) = (32 :: Lib.decDigits ns[i].toNat) ++ numsText (ns.drop (i + 1)) := by rw [List.drop_eq_getElem_cons hi]; rfl
    rw [e, List.append_assoc bs]
theorem line_is (ns : List Int) (hw : ∀ n ∈ ns, u64ok n) (hl : ns.length ≤ 1000000000) (k : Nat) (hk : ns.length < k) : script_line.f k ns = some (mk (lineText ns)) := by
  unfold script_line.f
  obtain ⟨k, rfl⟩ : ∃ m, k = m + 1 := ⟨k - 1, by omega⟩
  cases ns with
  | nil => rfl
  | cons n ns =>
    have hu := hw n List.mem_cons_self
    simp only [script_line.l0]
    have hr := rd_get (n :: ns) 0 (by simp)
    rw [show ((0 : Nat) : Int) = 0 from rfl] at hr
    simp only [List.getElem_cons_zero] at hr
    rw [if_pos (by simp only [List.length_cons]; omega), if_pos (by omega), if_pos (by simp only [List.length_cons]; omega), if_neg (by omega), hr]
    unfold strconv_AppendUint.f
    have hd := dec_len hu
    rw [if_pos ⟨rfl, hu, by simp⟩, Option.bind_some, w64 (by omega) (by omega)]
    have := line_l0 (n :: ns) hw hl ns.length 1 k (Lib.decDigits n.toNat) (by simp; omega) (by omega) (by simp only [List.length_cons] at hk; omega) (by omega)
    simp only [List.nil_append]
    exact this
end Go.Proofs.YtlfoaaeelcmhiaaDoor.Pure
end

section
/- Plain laws, on: script.Tell and the reference's. -/
namespace Go.Proofs.YtlfoaaeelcmhiaaDoor.Pure
open Go.RowKit Go.Proofs.YtlfoaaeelcmhiaaDoor.G
open Go.Proofs.YtlfoaaeelcmhiaaDoorW.PrintWords hiding nums
set_option linter.unusedVariables false
set_option linter.unusedSimpArgs false
def flat (l : List S50) : List Int := l.flatMap fun x => [x.f0, x.f1]
theorem rd50_get (l : List S50) (i : Nat) (h : i < l.length) : rd_T50 l (i : Int) = l[i] := by
  unfold rd_T50
  rw [Int.toNat_natCast, List.getD_eq_getElem?_getD, List.getElem?_eq_getElem h]
  rfl
theorem flat_len (l : List S50) : (flat l).length = 2 * l.length := by
  induction l with
  | nil => rfl
  | cons x l ih =>
    have e : flat (x :: l) = [x.f0, x.f1] ++ flat l := rfl
    rw [e, List.length_append, ih]
    simp only [List.length_cons, List.length_nil]
    omega
theorem flat_text (l : List S50) : numsText (flat l) = l.flatMap pairBytes := by
  induction l with
  | nil => rfl
  | cons x l ih =>
    have e : flat (x :: l) = [x.f0, x.f1] ++ flat l := rfl
    have e2 : numsText ([x.f0, x.f1] ++ flat l) = numsText [x.f0, x.f1] ++ numsText (flat l) := by simp [numsText]
    rw [e, e2, ih]
    simp [numsText, pairBytes]
theorem tell_l0 (l : List S50) (hg : pairsGood l) (hll : l.length ≤ 400000000) : ∀ (d i k : Nat) (acc : List Int), l.length = i + d → (∀ n ∈ acc, u64ok n) → acc.length ≤ 2 * i + 1 → 0 < acc.length → d + 2 * l.length + 5 ≤ k →
    script_Tell.l0 k acc l (l.length : Int) (i : Int) = some (mk (lineText (acc ++ flat (l.drop i)))) := by
  intro d
  induction d with
  | zero =>
    intro i k acc h1 ha hl h0 hk2
    obtain ⟨k, rfl⟩ : ∃ m, k = m + 1 := ⟨k - 1, by omega⟩
    simp only [script_Tell.l0]
    rw [if_neg (by omega), line_is acc ha (by omega) k (by omega), List.drop_eq_nil_of_le (by omega)]
    simp [flat]
  | succ d ih =>
    intro i k acc h1 ha hl h0 hk2
    obtain ⟨k, rfl⟩ : ∃ m, k = m + 1 := ⟨k - 1, by omega⟩
    have hi : i < l.length := by omega
    have hx := hg.2 _ (List.getElem_mem hi)
    simp only [script_Tell.l0]
    rw [if_pos (by omega), if_pos (by omega), if_pos (by omega), rd50_get _ _ hi, Option.bind_some, if_pos (by simp only [List.length_cons, List.length_nil]; omega), w64 (by omega) (by omega), show (i : Int) + 1 = ((i + 1 : Nat) : Int) from rfl]
    rw [ih (i + 1) k (acc ++ [l[i].f0, l[i].f1]) (by omega) (fun n hn => ?_) (by simp only [List.length_append, List.length_cons, List.length_nil]; omega) (by simp only [List.length_append]; omega) (by omega)]
    · have e : flat (l.drop i) = [l[i].f0, l[i].f1] ++ flat (l.drop (i + 1)) := by rw [List.drop_eq_getElem_cons hi]; rfl
      rw [e, List.append_assoc]
    · rcases List.mem_append.1 hn with h | h
      · exact ha n h
      · simp only [List.mem_cons, List.not_mem_nil, or_false] at h
        rcases h with h | h <;> subst h
        · exact hx.1
        · exact hx.2
end Go.Proofs.YtlfoaaeelcmhiaaDoor.Pure
end

section
/- Plain laws, on: script.Tell is the reference's Tell. -/
namespace Go.Proofs.YtlfoaaeelcmhiaaDoor.Pure
open Go.RowKit Go.Proofs.YtlfoaaeelcmhiaaDoor.G
open Go.Proofs.YtlfoaaeelcmhiaaDoorW.PrintWords hiding nums
set_option linter.unusedVariables false
set_option linter.unusedSimpArgs false
def i64ok (n : Int) : Prop := -9223372036854775808 ≤ n ∧ n ≤ 9223372036854775807
def tellT (kind key0 value0 : Int) (code : Int) (is : Bool) (key value num : Int) (l : List S50) : ByteArray :=
  if code = 0 then
    (if kind = 1 then ⟨#[111, 107]⟩
     else if kind = 2 then (if is = true then ⟨#[121, 101, 115]⟩ else ⟨#[110, 111]⟩)
     else if kind = 6 then ⟨(Lib.itoa num).toArray⟩
     else if kind = 7 then mk (pairsBytes l)
     else if kind = 3 ∨ kind = 4 ∨ kind = 5 then (if is = true then (if kind = 3 then mk (lineText [value]) else mk (lineText [key, value])) else ⟨#[110, 111, 110, 101]⟩)
     else ⟨#[]⟩)
  else (⟨#[101, 114, 114, 111, 114, 32]⟩ : ByteArray) ++ ⟨(Lib.itoa code).toArray⟩
theorem itoa_len (n : Int) (h : i64ok n) : (Lib.itoa n).length ≤ 21 := by
  have h0 := h.1
  have h1 := h.2
  unfold Lib.itoa
  split
  · have := dec_len (n := (n.natAbs : Int)) ⟨by omega, by omega⟩
    rw [Int.toNat_natCast] at this
    simp only [List.length_cons]
    omega
  · have := dec_len (n := n) ⟨by omega, by omega⟩
    omega
theorem tell_is (kind key0 value0 code : Int) (is : Bool) (key value num : Int) (l : List S50) (hc : i64ok code) (hn : i64ok num) (hk : u64ok key) (hv : u64ok value) (hg : pairsGood l) (hl : l.length ≤ 400000000) (k : Nat) (hkk : 3 * l.length + 30 ≤ k) :
    script_Tell.f k kind key0 value0 code is key value num l = some (tellT kind key0 value0 code is key value num l) := by
  obtain ⟨k, rfl⟩ : ∃ m, k = m + 2 := ⟨k - 2, by omega⟩
  have hI : ∀ n, i64ok n → strconv_Itoa.f n = some ⟨(Lib.itoa n).toArray⟩ := fun n h => by unfold strconv_Itoa.f; exact if_pos h
  unfold script_Tell.f tellT
  by_cases c0 : code = 0
  · rw [if_pos c0, if_pos c0]
    by_cases c1 : kind = 1
    · rw [if_pos c1, if_pos c1]
    · rw [if_neg c1, if_neg c1]
      by_cases c2 : kind = 2
      · rw [if_pos c2, if_pos c2]
        simp only [script_Tell.j0]
        cases is with
        | true => rfl
        | false => rw [if_neg (by simp), if_pos c2]; rfl
      · rw [if_neg c2, if_neg c2]
        simp only [script_Tell.j0]
        rw [if_neg (by simp), if_neg c2]
        by_cases c6 : kind = 6
        · rw [if_pos c6, if_pos c6, hI num hn]
          rfl
        · rw [if_neg c6, if_neg c6]
          by_cases c7 : kind = 7
          · rw [if_pos c7, if_pos c7, u64w (by omega) (by omega)]
            have h1 := tell_l0 l hg hl l.length 0 (k + 1) [(l.length : Int)] (by omega) (fun n hn => by simp at hn; subst hn; exact ⟨by omega, by omega⟩) (by simp) (by simp) (by omega)
            rw [show ((0 : Nat) : Int) = 0 from rfl, List.drop_zero] at h1
            rw [h1]
            congr 2
            show Lib.decDigits _ ++ numsText (flat l) = _
            rw [flat_text]
            simp [pairsBytes]
          · rw [if_neg c7, if_neg c7]
            have hj2 : ∀ b : Bool, (b = true ↔ ¬ (kind = 3 ∨ kind = 4 ∨ kind = 5)) → script_Tell.j2 (k + 1) b kind key0 value0 code is key value num l = some (if kind = 3 ∨ kind = 4 ∨ kind = 5 then (if is = true then (if kind = 3 then mk (lineText [value]) else mk (lineText [key, value])) else ⟨#[110, 111, 110, 101]⟩) else ⟨#[]⟩) := by
              intro b hb
              simp only [script_Tell.j2]
              by_cases h3 : kind = 3 ∨ kind = 4 ∨ kind = 5
              · rw [if_neg (fun h => hb.1 h h3), if_pos h3]
                cases is with
                | true =>
                  rw [if_pos rfl, if_pos rfl]
                  by_cases hk3 : kind = 3
                  · rw [if_pos hk3, if_pos hk3, line_is [value] (fun n hn => by simp at hn; subst hn; exact hv) (by simp) k (by simp; omega)]
                    rfl
                  · rw [if_neg hk3, if_neg hk3, line_is [key, value] (fun n hn => by simp at hn; rcases hn with hn | hn <;> subst hn; exact hk; exact hv) (by simp) k (by simp; omega)]
                    rfl
                | false => rfl
              · rw [if_pos (hb.2 h3), if_neg h3]
            by_cases h3 : kind < 3
            · rw [if_pos h3]
              exact hj2 true (by simp; omega)
            · rw [if_neg h3]
              exact hj2 _ (by rw [decide_eq_true_iff]; omega)
  · rw [if_neg c0, if_neg c0, hI code hc, Option.bind_some, if_pos]
    have := itoa_len code hc
    have hs : (⟨(Lib.itoa code).toArray⟩ : ByteArray).size = (Lib.itoa code).length := by rw [← bl_length]; simp [bl]
    rw [hs]
    omega
end Go.Proofs.YtlfoaaeelcmhiaaDoor.Pure
end

section
-- Written by a program of this session (wip/gprint.py: the kit's print, with contracts proved by hand)
namespace Go.Proofs.YtlfoaaeelcmhiaaDoor.G
open Go.RowKit Go.Proofs.YtlfoaaeelcmhiaaDoorW.PrintWords Go.Proofs.YtlfoaaeelcmhiaaDoorW.PrintLast Go.Proofs.YtlfoaaeelcmhiaaDoorW.PrintMore
attribute [local go_sem] max2_int min2_int max_two min_two max_three min_three max_four min_four   -- for this text's walks alone
set_option linter.unusedVariables false
set_option linter.unusedSimpArgs false

theorem eqA38 (d : Nat) (w : World) (x0 y0 : Int) (x1 y1 : Int) (x2 y2 : Int) :
    (Op.equalIn (d + 2) 38 (.agg #[.int .i64 x0, .int .u64 x1, .int .u64 x2]) (.agg #[.int .i64 y0, .int .u64 y1, .int .u64 y2])).run Tryd.prog w = .ok (x0 == y0 && (x1 == y1 && (x2 == y2))) w := by
  refine eqA_of Tryd.underlying38 (by kernel_rfl) ?_
  refine eqf_cons (by rfl) (by go_simp; rfl) (by go_simp; rfl) (by go_simp) ?_
  refine eqf_cons (by rfl) (by go_simp; rfl) (by go_simp; rfl) (by go_simp) ?_
  exact eqf_last (by rfl) (by go_simp; rfl) (by go_simp; rfl) (by go_simp)
end Go.Proofs.YtlfoaaeelcmhiaaDoor.G
end

section
-- Written by a program of this session (wip/gprint.py: the kit's print, with contracts proved by hand)
namespace Go.Proofs.YtlfoaaeelcmhiaaDoor.G
open Go.RowKit Go.Proofs.YtlfoaaeelcmhiaaDoorW.PrintWords Go.Proofs.YtlfoaaeelcmhiaaDoorW.PrintLast Go.Proofs.YtlfoaaeelcmhiaaDoorW.PrintMore
attribute [local go_sem] max2_int min2_int max_two min_two max_three min_three max_four min_four   -- for this text's walks alone
set_option linter.unusedVariables false
set_option linter.unusedSimpArgs false

/-! ### script_kind: function 31 -/
def script_kind.f (a0 : ByteArray) : Option (Int) := if a0.toList = ([112, 117, 116] : List UInt8) then (some 1) else (if a0.toList = ([100, 101, 108] : List UInt8) then (some 2) else (if a0.toList = ([103, 101, 116] : List UInt8) then (some 3) else (if a0.toList = ([102, 108, 111, 111, 114] : List UInt8) then (some 4) else (if a0.toList = ([99, 101, 105, 108] : List UInt8) then (some 5) else (if a0.toList = ([114, 97, 110, 107] : List UInt8) then (some 6) else (if a0.toList = ([114, 97, 110, 103, 101] : List UInt8) then (some 7) else (some 0)))))))
set_option maxHeartbeats 8000000 in
set_option maxRecDepth 100000 in
theorem script_kind.calls (a0 : ByteArray) (r : Int) (w : World) (h : script_kind.f a0 = some r) :
    Calls Tryd.prog 31 #[.string a0] w fun e w' => e = .returned (.int .i64 r) ∧ Drawn0 w w' := by
  have H : (if a0.toList = ([112, 117, 116] : List UInt8) then (some 1) else (if a0.toList = ([100, 101, 108] : List UInt8) then (some 2) else (if a0.toList = ([103, 101, 116] : List UInt8) then (some 3) else (if a0.toList = ([102, 108, 111, 111, 114] : List UInt8) then (some 4) else (if a0.toList = ([99, 101, 105, 108] : List UInt8) then (some 5) else (if a0.toList = ([114, 97, 110, 107] : List UInt8) then (some 6) else (if a0.toList = ([114, 97, 110, 103, 101] : List UInt8) then (some 7) else (some 0)))))))) = some r := h
  clear h
  by_cases c2 : a0.toList = ([112, 117, 116] : List UInt8)
  · rw [if_pos c2] at H
    have c2b0 : (a0.toList == ([112, 117, 116] : List UInt8)) = true := beq_iff_eq.mpr c2
    have c2b1 : (a0.toList != ([112, 117, 116] : List UInt8)) = false := bne_eq_false_iff_eq.mpr c2
    clear c2
    obtain rfl := Option.some.inj H
    go_enter Tryd.func31, Tryd.ntmps31
    go_wp2
    go_ret
    exact ⟨by first | rfl | (simp; done) | (simp [*]; done), by repeat (first | exact Drawn0.refl _ | apply Drawn0.step)⟩
  · rw [if_neg c2] at H
    have c2b0 : (a0.toList == ([112, 117, 116] : List UInt8)) = false := beq_eq_false_iff_ne.mpr c2
    have c2b1 : (a0.toList != ([112, 117, 116] : List UInt8)) = true := bne_iff_ne.mpr c2
    by_cases c3 : a0.toList = ([100, 101, 108] : List UInt8)
    · rw [if_pos c3] at H
      have c3b0 : (a0.toList == ([100, 101, 108] : List UInt8)) = true := beq_iff_eq.mpr c3
      have c3b1 : (a0.toList != ([100, 101, 108] : List UInt8)) = false := bne_eq_false_iff_eq.mpr c3
      clear c3
      obtain rfl := Option.some.inj H
      go_enter Tryd.func31, Tryd.ntmps31
      go_wp2
      go_ret
      exact ⟨by first | rfl | (simp; done) | (simp [*]; done), by repeat (first | exact Drawn0.refl _ | apply Drawn0.step)⟩
    · rw [if_neg c3] at H
      have c3b0 : (a0.toList == ([100, 101, 108] : List UInt8)) = false := beq_eq_false_iff_ne.mpr c3
      have c3b1 : (a0.toList != ([100, 101, 108] : List UInt8)) = true := bne_iff_ne.mpr c3
      by_cases c4 : a0.toList = ([103, 101, 116] : List UInt8)
      · rw [if_pos c4] at H
        have c4b0 : (a0.toList == ([103, 101, 116] : List UInt8)) = true := beq_iff_eq.mpr c4
        have c4b1 : (a0.toList != ([103, 101, 116] : List UInt8)) = false := bne_eq_false_iff_eq.mpr c4
        clear c4
        obtain rfl := Option.some.inj H
        go_enter Tryd.func31, Tryd.ntmps31
        go_wp2
        go_ret
        exact ⟨by first | rfl | (simp; done) | (simp [*]; done), by repeat (first | exact Drawn0.refl _ | apply Drawn0.step)⟩
      · rw [if_neg c4] at H
        have c4b0 : (a0.toList == ([103, 101, 116] : List UInt8)) = false := beq_eq_false_iff_ne.mpr c4
        have c4b1 : (a0.toList != ([103, 101, 116] : List UInt8)) = true := bne_iff_ne.mpr c4
        by_cases c5 : a0.toList = ([102, 108, 111, 111, 114] : List UInt8)
        · rw [if_pos c5] at H
          have c5b0 : (a0.toList == ([102, 108, 111, 111, 114] : List UInt8)) = true := beq_iff_eq.mpr c5
          have c5b1 : (a0.toList != ([102, 108, 111, 111, 114] : List UInt8)) = false := bne_eq_false_iff_eq.mpr c5
          clear c5
          obtain rfl := Option.some.inj H
          go_enter Tryd.func31, Tryd.ntmps31
          go_wp2
          go_ret
          exact ⟨by first | rfl | (simp; done) | (simp [*]; done), by repeat (first | exact Drawn0.refl _ | apply Drawn0.step)⟩
        · rw [if_neg c5] at H
          have c5b0 : (a0.toList == ([102, 108, 111, 111, 114] : List UInt8)) = false := beq_eq_false_iff_ne.mpr c5
          have c5b1 : (a0.toList != ([102, 108, 111, 111, 114] : List UInt8)) = true := bne_iff_ne.mpr c5
          by_cases c6 : a0.toList = ([99, 101, 105, 108] : List UInt8)
          · rw [if_pos c6] at H
            have c6b0 : (a0.toList == ([99, 101, 105, 108] : List UInt8)) = true := beq_iff_eq.mpr c6
            have c6b1 : (a0.toList != ([99, 101, 105, 108] : List UInt8)) = false := bne_eq_false_iff_eq.mpr c6
            clear c6
            obtain rfl := Option.some.inj H
            go_enter Tryd.func31, Tryd.ntmps31
            go_wp2
            go_ret
            exact ⟨by first | rfl | (simp; done) | (simp [*]; done), by repeat (first | exact Drawn0.refl _ | apply Drawn0.step)⟩
          · rw [if_neg c6] at H
            have c6b0 : (a0.toList == ([99, 101, 105, 108] : List UInt8)) = false := beq_eq_false_iff_ne.mpr c6
            have c6b1 : (a0.toList != ([99, 101, 105, 108] : List UInt8)) = true := bne_iff_ne.mpr c6
            by_cases c7 : a0.toList = ([114, 97, 110, 107] : List UInt8)
            · rw [if_pos c7] at H
              have c7b0 : (a0.toList == ([114, 97, 110, 107] : List UInt8)) = true := beq_iff_eq.mpr c7
              have c7b1 : (a0.toList != ([114, 97, 110, 107] : List UInt8)) = false := bne_eq_false_iff_eq.mpr c7
              clear c7
              obtain rfl := Option.some.inj H
              go_enter Tryd.func31, Tryd.ntmps31
              go_wp2
              go_ret
              exact ⟨by first | rfl | (simp; done) | (simp [*]; done), by repeat (first | exact Drawn0.refl _ | apply Drawn0.step)⟩
            · rw [if_neg c7] at H
              have c7b0 : (a0.toList == ([114, 97, 110, 107] : List UInt8)) = false := beq_eq_false_iff_ne.mpr c7
              have c7b1 : (a0.toList != ([114, 97, 110, 107] : List UInt8)) = true := bne_iff_ne.mpr c7
              by_cases c8 : a0.toList = ([114, 97, 110, 103, 101] : List UInt8)
              · rw [if_pos c8] at H
                have c8b0 : (a0.toList == ([114, 97, 110, 103, 101] : List UInt8)) = true := beq_iff_eq.mpr c8
                have c8b1 : (a0.toList != ([114, 97, 110, 103, 101] : List UInt8)) = false := bne_eq_false_iff_eq.mpr c8
                clear c8
                obtain rfl := Option.some.inj H
                go_enter Tryd.func31, Tryd.ntmps31
                go_wp2
                go_ret
                exact ⟨by first | rfl | (simp; done) | (simp [*]; done), by repeat (first | exact Drawn0.refl _ | apply Drawn0.step)⟩
              · rw [if_neg c8] at H
                have c8b0 : (a0.toList == ([114, 97, 110, 103, 101] : List UInt8)) = false := beq_eq_false_iff_ne.mpr c8
                have c8b1 : (a0.toList != ([114, 97, 110, 103, 101] : List UInt8)) = true := bne_iff_ne.mpr c8
                obtain rfl := Option.some.inj H
                go_enter Tryd.func31, Tryd.ntmps31
                go_wp2
                go_ret
                exact ⟨by first | rfl | (simp; done) | (simp [*]; done), by repeat (first | exact Drawn0.refl _ | apply Drawn0.step)⟩

end Go.Proofs.YtlfoaaeelcmhiaaDoor.G
end

section
-- Written by a program of this session (wip/gprint.py: the kit's print, with contracts proved by hand)
namespace Go.Proofs.YtlfoaaeelcmhiaaDoor.G
open Go.RowKit Go.Proofs.YtlfoaaeelcmhiaaDoorW.PrintWords Go.Proofs.YtlfoaaeelcmhiaaDoorW.PrintLast Go.Proofs.YtlfoaaeelcmhiaaDoorW.PrintMore
attribute [local go_sem] max2_int min2_int max_two min_two max_three min_three max_four min_four   -- for this text's walks alone
set_option linter.unusedVariables false
set_option linter.unusedSimpArgs false

/-! ### script_Op: function 18 -/
def script_Op.j0 : Nat → Bool → ByteArray → List Int → Int → Int → Int → Option (Int × Int × Int × Bool)
  | 0, _, _, _, _, _, _ => none
  | k + 1, x26, x141000, x141001, x144000, x144001, x144002 => if x26 = true then (some (0, 0, 0, false)) else (if 0 < (x141001.length : Int) then (if (x141001.length : Int) > 1 then (if 1 < (x141001.length : Int) then (some (x144000, rd x141001 0, rd x141001 1, true)) else (none)) else (some (x144000, rd x141001 0, x144002, true))) else (none))
def script_Op.f (k : Nat) (a0_0 : ByteArray) (l0_1 : List Int) : Option (Int × Int × Int × Bool) := (script_kind.f a0_0).bind fun t142 => ((script_takes.f k a0_0).bind fun bt144 => (if t142 = 0 then (script_Op.j0 k true a0_0 l0_1 t142 0 0) else (script_Op.j0 k ((l0_1.length : Int) != bt144.1) a0_0 l0_1 t142 0 0)))
theorem script_Op.mono_l : ∀ k, (∀ y0 y1 y2 y3 y4 y5, LeO (script_Op.j0 k y0 y1 y2 y3 y4 y5) (script_Op.j0 (k + 1) y0 y1 y2 y3 y4 y5))
  | 0 => fun _ _ _ _ _ _ r h => by simp [script_Op.j0] at h
  | k + 1 => by
    have ih0 := script_Op.mono_l k
    · intro y0 y1 y2 y3 y4 y5
      unfold script_Op.j0
      repeat' first
      | (with_reducible exact ih0 _ _ _ _ _ _)
      | (with_reducible exact script_takes.mono _ _)
      | (with_reducible exact LeO.refl _)
      | (with_reducible exact LeO.none _)
      | (with_reducible refine LeO.ite ?_ ?_)
      | (with_reducible refine LeO.bind ?_ (fun _ => ?_))
      | exact ih0 _ _ _ _ _ _
      | exact script_takes.mono _ _
      | exact LeO.none _
      | refine LeO.ite ?_ ?_
      | refine LeO.bind ?_ (fun _ => ?_)
theorem script_Op.mono : ∀ a0 a1 k, LeO (script_Op.f k a0 a1) (script_Op.f (k + 1) a0 a1) := by
  intro a0 a1 k
  have ih0 := script_Op.mono_l k
  unfold script_Op.f
  repeat' first
      | (with_reducible exact ih0 _ _ _ _ _ _)
      | (with_reducible exact script_takes.mono _ _)
      | (with_reducible exact LeO.refl _)
      | (with_reducible exact LeO.none _)
      | (with_reducible refine LeO.ite ?_ ?_)
      | (with_reducible refine LeO.bind ?_ (fun _ => ?_))
      | exact ih0 _ _ _ _ _ _
      | exact script_takes.mono _ _
      | exact LeO.none _
      | refine LeO.ite ?_ ?_
      | refine LeO.bind ?_ (fun _ => ?_)
set_option maxHeartbeats 8000000 in
set_option maxRecDepth 100000 in
theorem script_Op.calls (k : Nat) (a0_0 : ByteArray) (A0_1 : Option Addr) (c0_1 : Nat) (l0_1 : List Int) (r1 : Int) (r2 : Int) (r3 : Int) (r4 : Bool) (w : World) (hr0_1 : Kd.C (Kd.int .u64) w A0_1 l0_1.length l0_1) (hc0_1 : l0_1.length ≤ c0_1) (h : script_Op.f k a0_0 l0_1 = some (r1, r2, r3, r4)) :
    Calls Tryd.prog 18 #[.agg #[.string a0_0, .slice A0_1 l0_1.length c0_1]] w fun e w' => e = .returned (.tuple #[.agg #[.int .i64 r1, .int .u64 r2, .int .u64 r3], .bool r4]) ∧ Below w.heap.size w w' := by
  have hu30 := Tryd.underlying30
  have hu38 := Tryd.underlying38
  have HR0_1 := Aside0.mk hr0_1
  have HC0_1 := Aside0.mk hc0_1
  clear hr0_1 hc0_1
  have HB := Aside0.mk (Below.refl w.heap.size w)
  have H : ((script_kind.f a0_0).bind fun t142 => ((script_takes.f k a0_0).bind fun bt144 => (if t142 = 0 then (script_Op.j0 k true a0_0 l0_1 t142 0 0) else (script_Op.j0 k ((l0_1.length : Int) != bt144.1) a0_0 l0_1 t142 0 0)))) = some (r1, r2, r3, r4) := h
  clear h
  replace H := Option.bind_eq_some_iff.mp H
  obtain ⟨t142, A20, H⟩ := H
  replace H : ((script_takes.f k a0_0).bind fun bt144 => (if t142 = 0 then (script_Op.j0 k true a0_0 l0_1 t142 0 0) else (script_Op.j0 k ((l0_1.length : Int) != bt144.1) a0_0 l0_1 t142 0 0))) = some (r1, r2, r3, r4) := H
  have A2 := Aside0.mk A20
  clear A20
  replace H := Option.bind_eq_some_iff.mp H
  obtain ⟨⟨t144, t145⟩, A30, H⟩ := H
  replace H : (if t142 = 0 then (script_Op.j0 k true a0_0 l0_1 t142 0 0) else (script_Op.j0 k ((l0_1.length : Int) != t144) a0_0 l0_1 t142 0 0)) = some (r1, r2, r3, r4) := H
  have A3 := Aside0.mk A30
  clear A30
  have HC4 := Aside0.mk H
  clear H
  go_enter Tryd.func18, Tryd.ntmps18
  go_upto_region 3 with (first | ((with_reducible refine gate_dst (N := 1) rfl ?_); (try (refine gate_guard (by rfl) ?_; dsimp only)); refine box_event ?hg (N := 1) ?hd (cs := #[.string a0_0, .slice A0_1 l0_1.length c0_1]) (t := 30) ?hr ?_; (case hd => rfl); (case hg => rfl); (case hr => first | (go_simp; done) | (go_simp; rfl)); intro gb140 hg w5 hbox hb; have n0_ := Aside0.mk (below_step (by repeat (first | (with_reducible first | exact HB.out | apply below_alloc | apply pw_below_drewN | apply below_drew1) | exact HB.out)) hb); have n1_ := Aside0.mk (hbox); have n2_ := Aside0.mk ((by rw [hg]; exact (below_size (by repeat (first | (with_reducible first | exact HB.out | apply below_alloc | apply pw_below_drewN | apply below_drew1) | exact HB.out))) : w.heap.size ≤ gb140)); have n3_ := Aside0.mk ((by rw [hg]; exact (below_size (by repeat (first | (with_reducible first | exact HB.out | apply below_alloc | apply pw_below_drewN | apply below_drew1) | exact HB.out))) : w.heap.size ≤ gb140)); clear HB; have HB := n0_; have BK140 := n1_; have GW140 := n2_; have GE140 := n3_; clear n0_ n1_ n2_ n3_; clear hb hbox hg) | ((with_reducible refine gate_dst (N := 2) rfl ?_); (try (refine gate_guard (by rfl) ?_; dsimp only)); refine box_event ?hg (N := 2) ?hd (cs := #[.int .i64 0, .int .u64 0, .int .u64 0]) (t := 38) ?hr ?_; (case hd => rfl); (case hg => rfl); (case hr => first | (go_simp; done) | (go_simp; rfl)); intro gb141 hg w6 hbox hb; have n0_ := Aside0.mk (blk_below (g := gb140) (o := .cells #[.string a0_0, .slice A0_1 l0_1.length c0_1] 30 (0, 0)) (by (with_reducible repeat (first | refine blk_drewN ?_ _ | refine blk_drew ?_ | refine blk_alloc ?_ _)); exact BK140.out) hb); have n1_ := Aside0.mk (below_step (by repeat (first | (with_reducible first | exact HB.out | apply below_alloc | apply pw_below_drewN | apply below_drew1 | refine below_set ?_ GE140.out) | exact HB.out)) hb); have n2_ := Aside0.mk (hbox); have n3_ := Aside0.mk ((by rw [hg]; exact (below_size (by repeat (first | (with_reducible first | exact HB.out | apply below_alloc | apply pw_below_drewN | apply below_drew1 | refine below_set ?_ GE140.out) | exact HB.out))) : w.heap.size ≤ gb141)); have n4_ := Aside0.mk ((by rw [hg]; exact (below_size (by repeat (first | (with_reducible first | exact HB.out | apply below_alloc | apply pw_below_drewN | apply below_drew1 | refine below_set ?_ GE140.out) | exact HB.out))) : w.heap.size ≤ gb141)); have n5_ := Aside0.mk ((by rw [hg]; exact Nat.ne_of_lt (blk_lt (g := gb140) (o := .cells #[.string a0_0, .slice A0_1 l0_1.length c0_1] 30 (0, 0)) (by (with_reducible repeat (first | refine blk_drewN ?_ _ | refine blk_drew ?_ | refine blk_alloc ?_ _)); exact BK140.out)) : gb140 ≠ gb141)); have n6_ := Aside0.mk ((by rw [hg]; exact Nat.ne_of_gt (blk_lt (g := gb140) (o := .cells #[.string a0_0, .slice A0_1 l0_1.length c0_1] 30 (0, 0)) (by (with_reducible repeat (first | refine blk_drewN ?_ _ | refine blk_drew ?_ | refine blk_alloc ?_ _)); exact BK140.out)) : gb141 ≠ gb140)); clear BK140; clear HB; have BK140 := n0_; have HB := n1_; have BK141 := n2_; have GW141 := n3_; have GE141 := n4_; have NB140_141 := n5_; have NB141_140 := n6_; clear n0_ n1_ n2_ n3_ n4_ n5_ n6_; clear hb hbox hg; have hnb7 := NB140_141.out; have hnc7 := NB141_140.out; have hcz8_0 : w6.cell? ⟨gb140, 0, none⟩ = some (.string a0_0) := (blk_cell BK140.out 0).trans rfl; have hcz8_1 : w6.cell? ⟨gb140, 1, none⟩ = some (.slice A0_1 l0_1.length c0_1) := (blk_cell BK140.out 1).trans rfl; have hfz8_0 := blk_frozen BK140.out 0; have hfz8_1 := blk_frozen BK140.out 1) | ((with_reducible refine gate_callee (f := 31) rfl ?_); refine goesL_ (some 9) rfl rfl Tryd.func31 (by kernel_rfl) rfl #[.string a0_0] rfl (by (try simp only [List.map_toArray, List.map_cons, List.map_nil]); first | done | rfl | (simp only [List.length_drop, List.length_take]; rfl)) ?_; (with_reducible refine (script_kind.calls a0_0 t142 _ A2.out).mono ?_); rintro e w' ⟨rfl, ⟨nd, rfl⟩⟩; refine ⟨_, rfl, ?_⟩; (try (rw [drewN_self w6]; generalize hq_ : World.drewN w6 _ = w6; have n0_ : Aside0 (w6.heap[gb140]? = some (.cells #[.string a0_0, .slice A0_1 l0_1.length c0_1] 30 (0, 0))) := ⟨by rw [← hq_]; exact (by (with_reducible repeat (first | refine blk_drewN ?_ _ | refine blk_drew ?_ | refine blk_alloc ?_ _)); exact BK140.out)⟩; have n1_ : Aside0 (w6.heap[gb141]? = some (.cells #[.int .i64 0, .int .u64 0, .int .u64 0] 38 (0, 0))) := ⟨by rw [← hq_]; exact (by (with_reducible repeat (first | refine blk_drewN ?_ _ | refine blk_drew ?_ | refine blk_alloc ?_ _)); exact BK141.out)⟩; have n2_ : Aside0 (Below w.heap.size w w6) := ⟨by rw [← hq_]; exact (by repeat (first | (with_reducible first | exact HB.out | apply below_alloc | apply pw_below_drewN | apply below_drew1 | refine below_set ?_ GE140.out | refine below_set ?_ GE141.out) | exact HB.out))⟩; clear BK140 BK141 HB hq_; have BK140 := n0_; have BK141 := n1_; have HB := n2_; clear n0_ n1_ n2_))) | ((with_reducible refine gate_dst (N := 4) rfl ?_); (try (refine gate_guard (by rfl) ?_; dsimp only)); refine box_event ?hg (N := 4) ?hd (cs := #[.int .i64 0, .int .u64 0, .int .u64 0]) (t := 38) ?hr ?_; (case hd => rfl); (case hg => rfl); (case hr => first | (go_simp; done) | (go_simp; rfl)); intro gb143 hg w9 hbox hb; have n0_ := Aside0.mk (blk_below (g := gb140) (o := .cells #[.string a0_0, .slice A0_1 l0_1.length c0_1] 30 (0, 0)) (by (with_reducible repeat (first | refine blk_drewN ?_ _ | refine blk_drew ?_ | refine blk_alloc ?_ _)); exact BK140.out) hb); have n1_ := Aside0.mk (blk_below (g := gb141) (o := .cells #[.int .i64 0, .int .u64 0, .int .u64 0] 38 (0, 0)) (by (with_reducible repeat (first | refine blk_drewN ?_ _ | refine blk_drew ?_ | refine blk_alloc ?_ _)); exact BK141.out) hb); have n2_ := Aside0.mk (below_step (by repeat (first | (with_reducible first | exact HB.out | apply below_alloc | apply pw_below_drewN | apply below_drew1 | refine below_set ?_ GE140.out | refine below_set ?_ GE141.out) | exact HB.out)) hb); have n3_ := Aside0.mk (hbox); have n4_ := Aside0.mk ((by rw [hg]; exact (below_size (by repeat (first | (with_reducible first | exact HB.out | apply below_alloc | apply pw_below_drewN | apply below_drew1 | refine below_set ?_ GE140.out | refine below_set ?_ GE141.out) | exact HB.out))) : w.heap.size ≤ gb143)); have n5_ := Aside0.mk ((by rw [hg]; exact (below_size (by repeat (first | (with_reducible first | exact HB.out | apply below_alloc | apply pw_below_drewN | apply below_drew1 | refine below_set ?_ GE140.out | refine below_set ?_ GE141.out) | exact HB.out))) : w.heap.size ≤ gb143)); have n6_ := Aside0.mk ((by rw [hg]; exact Nat.ne_of_lt (blk_lt (g := gb140) (o := .cells #[.string a0_0, .slice A0_1 l0_1.length c0_1] 30 (0, 0)) (by (with_reducible repeat (first | refine blk_drewN ?_ _ | refine blk_drew ?_ | refine blk_alloc ?_ _)); exact BK140.out)) : gb140 ≠ gb143)); have n7_ := Aside0.mk ((by rw [hg]; exact Nat.ne_of_gt (blk_lt (g := gb140) (o := .cells #[.string a0_0, .slice A0_1 l0_1.length c0_1] 30 (0, 0)) (by (with_reducible repeat (first | refine blk_drewN ?_ _ | refine blk_drew ?_ | refine blk_alloc ?_ _)); exact BK140.out)) : gb143 ≠ gb140)); have n8_ := Aside0.mk ((by rw [hg]; exact Nat.ne_of_lt (blk_lt (g := gb141) (o := .cells #[.int .i64 0, .int .u64 0, .int .u64 0] 38 (0, 0)) (by (with_reducible repeat (first | refine blk_drewN ?_ _ | refine blk_drew ?_ | refine blk_alloc ?_ _)); exact BK141.out)) : gb141 ≠ gb143)); have n9_ := Aside0.mk ((by rw [hg]; exact Nat.ne_of_gt (blk_lt (g := gb141) (o := .cells #[.int .i64 0, .int .u64 0, .int .u64 0] 38 (0, 0)) (by (with_reducible repeat (first | refine blk_drewN ?_ _ | refine blk_drew ?_ | refine blk_alloc ?_ _)); exact BK141.out)) : gb143 ≠ gb141)); clear BK140; clear BK141; clear HB; have BK140 := n0_; have BK141 := n1_; have HB := n2_; have BK143 := n3_; have GW143 := n4_; have GE143 := n5_; have NB140_143 := n6_; have NB143_140 := n7_; have NB141_143 := n8_; have NB143_141 := n9_; clear n0_ n1_ n2_ n3_ n4_ n5_ n6_ n7_ n8_ n9_; clear hb hbox hg; have hnb10 := NB143_140.out; have hnc10 := NB140_143.out; have hnb11 := NB143_141.out; have hnc11 := NB141_143.out; have hcz12_0 : w9.cell? ⟨gb143, 0, none⟩ = some (.int .i64 0) := (blk_cell BK143.out 0).trans rfl; have hcz12_1 : w9.cell? ⟨gb143, 1, none⟩ = some (.int .u64 0) := (blk_cell BK143.out 1).trans rfl; have hcz12_2 : w9.cell? ⟨gb143, 2, none⟩ = some (.int .u64 0) := (blk_cell BK143.out 2).trans rfl; have hfz12_0 := blk_frozen BK143.out 0; have hfz12_1 := blk_frozen BK143.out 1; have hfz12_2 := blk_frozen BK143.out 2; have hcz13_0 : w9.cell? ⟨gb140, 0, none⟩ = some (.string a0_0) := (blk_cell BK140.out 0).trans rfl; have hcz13_1 : w9.cell? ⟨gb140, 1, none⟩ = some (.slice A0_1 l0_1.length c0_1) := (blk_cell BK140.out 1).trans rfl; have hfz13_0 := blk_frozen BK140.out 0; have hfz13_1 := blk_frozen BK140.out 1) | ((with_reducible refine gate_callee (f := 27) rfl ?_); refine goesL_ (some 14) rfl rfl Tryd.func27 (by kernel_rfl) rfl #[.string a0_0] rfl (by (try simp only [List.map_toArray, List.map_cons, List.map_nil]); first | done | rfl | (simp only [List.length_drop, List.length_take]; rfl)) ?_; (with_reducible refine (script_takes.calls k a0_0 t144 t145 _ A3.out).mono ?_); rintro e w' ⟨rfl, ⟨nd, rfl⟩⟩; refine ⟨_, rfl, ?_⟩))
  (try simp only [Act.put, List.setIfInBounds_toArray, List.set_cons_zero, List.set_cons_succ])
  go_cut [26] (fun v26 wc => ∃ (kq : Nat) (x26_3 : Bool), v26 = .bool x26_3 ∧ Aside0 (script_Op.j0 kq x26_3 a0_0 l0_1 t142 0 0 = some (r1, r2, r3, r4)) ∧ Aside0 (kq ≤ k) ∧ Aside0 (wc.heap[gb140]? = some (.cells #[.string a0_0, (.slice A0_1 l0_1.length c0_1)] 30 (0, 0))) ∧ Aside0 (wc.heap[gb141]? = some (.cells #[.int .i64 0, .int .u64 0, .int .u64 0] 38 (0, 0))) ∧ Aside0 (wc.heap[gb143]? = some (.cells #[.int .i64 t142, .int .u64 0, .int .u64 0] 38 (0, 0))) ∧ Aside0 (Below w.heap.size w wc))
  case first =>
    have H := HC4.out
    clear HC4
    by_cases c14 : t142 = 0
    · rw [if_pos c14] at H
      have c14b0 : (t142 == 0) = true := beq_iff_eq.mpr c14
      have c14b1 : (t142 != 0) = false := bne_eq_false_iff_eq.mpr c14
      clear c14
      (first | rw [c14b0] | (simp only [i64_w, i32_w]; rw [c14b0]) | skip)
      have H' := Aside0.mk H
      clear H
      have hnb15 := NB143_140.out
      have hnc15 := NB140_143.out
      have hnb16 := NB143_141.out
      have hnc16 := NB141_143.out
      have hcz17_0 : w9.cell? ⟨gb143, 0, none⟩ = some (.int .i64 0) := (blk_cell BK143.out 0).trans rfl
      have hcz17_1 : w9.cell? ⟨gb143, 1, none⟩ = some (.int .u64 0) := (blk_cell BK143.out 1).trans rfl
      have hcz17_2 : w9.cell? ⟨gb143, 2, none⟩ = some (.int .u64 0) := (blk_cell BK143.out 2).trans rfl
      have hfz17_0 := blk_frozen BK143.out 0
      have hfz17_1 := blk_frozen BK143.out 1
      have hfz17_2 := blk_frozen BK143.out 2
      go_wp2
      go_meet
      case rel => exact ⟨_, (true), (by first | rfl | (simp; done) | (simp [*]; done)), H', ⟨by first | omega | exact Nat.le_refl _⟩, ⟨by (with_reducible repeat (first | refine blk_drewN ?_ _ | refine blk_drew ?_ | refine blk_alloc ?_ _)); refine blk_far ?_ NB140_143.out _; (with_reducible repeat (first | refine blk_drewN ?_ _ | refine blk_drew ?_ | refine blk_alloc ?_ _)); refine blk_far ?_ NB140_143.out _; (with_reducible repeat (first | refine blk_drewN ?_ _ | refine blk_drew ?_ | refine blk_alloc ?_ _)); refine blk_far ?_ NB140_143.out _; (with_reducible repeat (first | refine blk_drewN ?_ _ | refine blk_drew ?_ | refine blk_alloc ?_ _)); exact BK140.out⟩, ⟨by (with_reducible repeat (first | refine blk_drewN ?_ _ | refine blk_drew ?_ | refine blk_alloc ?_ _)); refine blk_far ?_ NB141_143.out _; (with_reducible repeat (first | refine blk_drewN ?_ _ | refine blk_drew ?_ | refine blk_alloc ?_ _)); refine blk_far ?_ NB141_143.out _; (with_reducible repeat (first | refine blk_drewN ?_ _ | refine blk_drew ?_ | refine blk_alloc ?_ _)); refine blk_far ?_ NB141_143.out _; (with_reducible repeat (first | refine blk_drewN ?_ _ | refine blk_drew ?_ | refine blk_alloc ?_ _)); exact BK141.out⟩, ⟨by (with_reducible repeat (first | refine blk_drewN ?_ _ | refine blk_drew ?_ | refine blk_alloc ?_ _)); refine blk_put (cs := #[.int .i64 t142, .int .u64 0, .int .u64 0]) ?_ 2 _ rfl; (with_reducible repeat (first | refine blk_drewN ?_ _ | refine blk_drew ?_ | refine blk_alloc ?_ _)); refine blk_put (cs := #[.int .i64 t142, .int .u64 0, .int .u64 0]) ?_ 1 _ rfl; (with_reducible repeat (first | refine blk_drewN ?_ _ | refine blk_drew ?_ | refine blk_alloc ?_ _)); refine blk_put (cs := #[.int .i64 0, .int .u64 0, .int .u64 0]) ?_ 0 _ rfl; (with_reducible repeat (first | refine blk_drewN ?_ _ | refine blk_drew ?_ | refine blk_alloc ?_ _)); exact BK143.out⟩, ⟨by repeat (first | (with_reducible first | exact HB.out | apply below_alloc | apply pw_below_drewN | apply below_drew1 | refine below_set ?_ GE140.out | refine below_set ?_ GE141.out | refine below_set ?_ GE143.out) | exact HB.out)⟩⟩
    · rw [if_neg c14] at H
      have c14b0 : (t142 == 0) = false := beq_eq_false_iff_ne.mpr c14
      have c14b1 : (t142 != 0) = true := bne_iff_ne.mpr c14
      (first | rw [c14b0] | (simp only [i64_w, i32_w]; rw [c14b0]) | skip)
      have H' := Aside0.mk H
      clear H
      have hnb18 := NB143_140.out
      have hnc18 := NB140_143.out
      have hnb19 := NB143_141.out
      have hnc19 := NB141_143.out
      have hcz20_0 : w9.cell? ⟨gb143, 0, none⟩ = some (.int .i64 0) := (blk_cell BK143.out 0).trans rfl
      have hcz20_1 : w9.cell? ⟨gb143, 1, none⟩ = some (.int .u64 0) := (blk_cell BK143.out 1).trans rfl
      have hcz20_2 : w9.cell? ⟨gb143, 2, none⟩ = some (.int .u64 0) := (blk_cell BK143.out 2).trans rfl
      have hfz20_0 := blk_frozen BK143.out 0
      have hfz20_1 := blk_frozen BK143.out 1
      have hfz20_2 := blk_frozen BK143.out 2
      have hnb21 := NB140_141.out
      have hnc21 := NB141_140.out
      have hcz22_0 : w9.cell? ⟨gb140, 0, none⟩ = some (.string a0_0) := (blk_cell BK140.out 0).trans rfl
      have hcz22_1 : w9.cell? ⟨gb140, 1, none⟩ = some (.slice A0_1 l0_1.length c0_1) := (blk_cell BK140.out 1).trans rfl
      have hfz22_0 := blk_frozen BK140.out 0
      have hfz22_1 := blk_frozen BK140.out 1
      go_wp2
      go_meet
      case rel => exact ⟨_, (((l0_1.length : Int) != t144)), (by first | rfl | (simp; done) | (simp [*]; done)), H', ⟨by first | omega | exact Nat.le_refl _⟩, ⟨by (with_reducible repeat (first | refine blk_drewN ?_ _ | refine blk_drew ?_ | refine blk_alloc ?_ _)); refine blk_far ?_ NB140_143.out _; (with_reducible repeat (first | refine blk_drewN ?_ _ | refine blk_drew ?_ | refine blk_alloc ?_ _)); refine blk_far ?_ NB140_143.out _; (with_reducible repeat (first | refine blk_drewN ?_ _ | refine blk_drew ?_ | refine blk_alloc ?_ _)); refine blk_far ?_ NB140_143.out _; (with_reducible repeat (first | refine blk_drewN ?_ _ | refine blk_drew ?_ | refine blk_alloc ?_ _)); exact BK140.out⟩, ⟨by (with_reducible repeat (first | refine blk_drewN ?_ _ | refine blk_drew ?_ | refine blk_alloc ?_ _)); refine blk_far ?_ NB141_143.out _; (with_reducible repeat (first | refine blk_drewN ?_ _ | refine blk_drew ?_ | refine blk_alloc ?_ _)); refine blk_far ?_ NB141_143.out _; (with_reducible repeat (first | refine blk_drewN ?_ _ | refine blk_drew ?_ | refine blk_alloc ?_ _)); refine blk_far ?_ NB141_143.out _; (with_reducible repeat (first | refine blk_drewN ?_ _ | refine blk_drew ?_ | refine blk_alloc ?_ _)); exact BK141.out⟩, ⟨by (with_reducible repeat (first | refine blk_drewN ?_ _ | refine blk_drew ?_ | refine blk_alloc ?_ _)); refine blk_put (cs := #[.int .i64 t142, .int .u64 0, .int .u64 0]) ?_ 2 _ rfl; (with_reducible repeat (first | refine blk_drewN ?_ _ | refine blk_drew ?_ | refine blk_alloc ?_ _)); refine blk_put (cs := #[.int .i64 t142, .int .u64 0, .int .u64 0]) ?_ 1 _ rfl; (with_reducible repeat (first | refine blk_drewN ?_ _ | refine blk_drew ?_ | refine blk_alloc ?_ _)); refine blk_put (cs := #[.int .i64 0, .int .u64 0, .int .u64 0]) ?_ 0 _ rfl; (with_reducible repeat (first | refine blk_drewN ?_ _ | refine blk_drew ?_ | refine blk_alloc ?_ _)); exact BK143.out⟩, ⟨by repeat (first | (with_reducible first | exact HB.out | apply below_alloc | apply pw_below_drewN | apply below_drew1 | refine below_set ?_ GE140.out | refine below_set ?_ GE141.out | refine below_set ?_ GE143.out) | exact HB.out)⟩⟩
  case rest =>
    clear HC4
    try clear c1
    try clear c2
    try clear p2
    try clear c3
    try clear c7
    try clear c10
    try clear c11
    try clear c14
    try clear c14b0
    try clear c14b1
    try clear c15
    try clear c16
    try clear c18
    try clear c19
    try clear c21
    try clear hcz12_0
    try clear hcz12_1
    try clear hcz12_2
    try clear hcz13_0
    try clear hcz13_1
    try clear hcz17_0
    try clear hcz17_1
    try clear hcz17_2
    try clear hcz20_0
    try clear hcz20_1
    try clear hcz20_2
    try clear hcz22_0
    try clear hcz22_1
    try clear hcz8_0
    try clear hcz8_1
    try clear hfz12_0
    try clear hfz12_1
    try clear hfz12_2
    try clear hfz13_0
    try clear hfz13_1
    try clear hfz17_0
    try clear hfz17_1
    try clear hfz17_2
    try clear hfz20_0
    try clear hfz20_1
    try clear hfz20_2
    try clear hfz22_0
    try clear hfz22_1
    try clear hfz8_0
    try clear hfz8_1
    obtain ⟨kq, x26_3, rfl, HA, HJ3, BK140, BK141, BK143, HB⟩ := hcut
    cases kq with
    | zero => exact absurd HA.out (by simp [script_Op.j0])
    | succ kj3 =>
      have H := HA.out
      clear HA
      simp only [script_Op.j0] at H
      by_cases c23 : x26_3 = true
      · subst c23
        have H1 : (some (0, 0, 0, false)) = some (r1, r2, r3, r4) := by rw [if_pos rfl] at H; exact H
        clear H
        have H := H1
        clear H1
        simp only [Option.some.injEq, Prod.mk.injEq] at H
        obtain ⟨rfl, rfl, rfl, rfl⟩ := H
        have hnb24 := NB141_140.out
        have hnc24 := NB140_141.out
        have hnb25 := NB141_143.out
        have hnc25 := NB143_141.out
        have hcz26_0 : wc.cell? ⟨gb141, 0, none⟩ = some (.int .i64 0) := (blk_cell BK141.out 0).trans rfl
        have hcz26_1 : wc.cell? ⟨gb141, 1, none⟩ = some (.int .u64 0) := (blk_cell BK141.out 1).trans rfl
        have hcz26_2 : wc.cell? ⟨gb141, 2, none⟩ = some (.int .u64 0) := (blk_cell BK141.out 2).trans rfl
        have hfz26_0 := blk_frozen BK141.out 0
        have hfz26_1 := blk_frozen BK141.out 1
        have hfz26_2 := blk_frozen BK141.out 2
        go_wp2
        refine bodyPost_ret (results_ct rfl _ _ gb141 38 #[.int .i64 0, .int .u64 0, .int .u64 0] (0, 0) _ rfl (by (with_reducible repeat (first | refine blk_drewN ?_ _ | refine blk_drew ?_ | refine blk_alloc ?_ _)); refine blk_put (cs := #[.int .i64 0, .int .u64 0, .int .u64 0]) ?_ 2 _ rfl; (with_reducible repeat (first | refine blk_drewN ?_ _ | refine blk_drew ?_ | refine blk_alloc ?_ _)); refine blk_put (cs := #[.int .i64 0, .int .u64 0, .int .u64 0]) ?_ 1 _ rfl; (with_reducible repeat (first | refine blk_drewN ?_ _ | refine blk_drew ?_ | refine blk_alloc ?_ _)); refine blk_put (cs := #[.int .i64 0, .int .u64 0, .int .u64 0]) ?_ 0 _ rfl; (with_reducible repeat (first | refine blk_drewN ?_ _ | refine blk_drew ?_ | refine blk_alloc ?_ _)); exact BK141.out) Tryd.underlying38 rfl (by kernel_rfl)) rfl ?_
        exact ⟨by first | rfl | (simp [errW_none, errW_some] <;> rfl) | (simp [*, errW_none, errW_some] <;> rfl), by repeat (first | (with_reducible first | exact HB.out | apply below_alloc | apply pw_below_drewN | apply below_drew1 | refine below_set ?_ GE140.out | refine below_set ?_ GE141.out | refine below_set ?_ GE143.out) | exact HB.out)⟩
      · replace c23 := Bool.eq_false_iff.mpr c23
        subst c23
        have H1 : (if 0 < (l0_1.length : Int) then (if (l0_1.length : Int) > 1 then (if 1 < (l0_1.length : Int) then (some (t142, rd l0_1 0, rd l0_1 1, true)) else (none)) else (some (t142, rd l0_1 0, 0, true))) else (none)) = some (r1, r2, r3, r4) := by rw [if_neg (show ¬ (false = true) by decide)] at H; exact H
        clear H
        have H := H1
        clear H1
        by_cases c27 : 0 < (l0_1.length : Int)
        · rw [if_pos c27] at H
          have c27b0 : decide (0 < (l0_1.length : Int)) = true := decide_eq_true c27
          have c27b1 : decide (0 < l0_1.length) = true := decide_eq_true (by omega)
          clear c27
          by_cases c28 : (l0_1.length : Int) > 1
          · rw [if_pos c28] at H
            have c28b0 : decide (1 < (l0_1.length : Int)) = true := decide_eq_true c28
            have c28b1 : decide (1 < l0_1.length) = true := decide_eq_true (by omega)
            clear c28
            by_cases c29 : 1 < (l0_1.length : Int)
            · rw [if_pos c29] at H
              have c29b0 : decide (1 < (l0_1.length : Int)) = true := decide_eq_true c29
              have c29b1 : decide (1 < l0_1.length) = true := decide_eq_true (by omega)
              clear c29
              simp only [Option.some.injEq, Prod.mk.injEq] at H
              obtain ⟨rfl, rfl, rfl, rfl⟩ := H
              have hnb30 := NB140_141.out
              have hnc30 := NB141_140.out
              have hnb31 := NB140_143.out
              have hnc31 := NB143_140.out
              have hcz32_0 : wc.cell? ⟨gb140, 0, none⟩ = some (.string a0_0) := (blk_cell BK140.out 0).trans rfl
              have hcz32_1 : wc.cell? ⟨gb140, 1, none⟩ = some (.slice A0_1 l0_1.length c0_1) := (blk_cell BK140.out 1).trans rfl
              have hfz32_0 := blk_frozen BK140.out 0
              have hfz32_1 := blk_frozen BK140.out 1
              have p146 : 0 ≤ (0 : Int) := (by omega)
              have q146 : 0 < (l0_1.length : Int) := of_decide_eq_true (by first | (with_reducible assumption) | assumption)
              obtain ⟨ad146, e146, hx146_0⟩ := Kd.at_int HR0_1.out 0 p146 q146
              cases e146
              have qi146 : (0 < l0_1.length) = True := eq_true (by omega)
              (try rw [show ((0 : Int)).toNat = 0 from rfl] at hx146_0)
              (try rw [Addr.add_zero'] at hx146_0)
              replace hx146_0 := (HB.out.cell (World.block_lt_of_cell? w _ hx146_0)).trans hx146_0
              replace p146 := eq_true p146
              replace q146 := eq_true q146
              have hnb33 := NB143_141.out
              have hnc33 := NB141_143.out
              have hcz34_0 : wc.cell? ⟨gb143, 0, none⟩ = some (.int .i64 t142) := (blk_cell BK143.out 0).trans rfl
              have hcz34_1 : wc.cell? ⟨gb143, 1, none⟩ = some (.int .u64 0) := (blk_cell BK143.out 1).trans rfl
              have hcz34_2 : wc.cell? ⟨gb143, 2, none⟩ = some (.int .u64 0) := (blk_cell BK143.out 2).trans rfl
              have hfz34_0 := blk_frozen BK143.out 0
              have hfz34_1 := blk_frozen BK143.out 1
              have hfz34_2 := blk_frozen BK143.out 2
              have p147 : 0 ≤ (1 : Int) := (by omega)
              have q147 : 1 < (l0_1.length : Int) := of_decide_eq_true (by first | (with_reducible assumption) | assumption)
              obtain ⟨ad147, e147, hx147_0⟩ := Kd.at_int HR0_1.out 1 p147 q147
              obtain rfl : ad146 = ad147 := (by injection e147)
              (try simp only [show (1 : Int).toNat = 1 from rfl, Nat.reduceMul, Nat.reduceEqDiff, Go.Addr.add, ↓reduceIte] at hx147_0)
              have qi147 : (1 < l0_1.length) = True := eq_true (by omega)
              (try rw [show ((1 : Int)).toNat = 1 from rfl] at hx147_0)
              have hn147_0 : ad146.block ≠ gb143 := Nat.ne_of_lt (Nat.lt_of_lt_of_le (by have := World.block_lt_of_cell? _ _ hx147_0; first | rwa [add_block] at this | exact this) GW143.out)
              replace hx147_0 := (HB.out.cell (World.block_lt_of_cell? w _ hx147_0)).trans hx147_0
              replace hx147_0 := (cell_far (p := ⟨gb143, 1, none⟩) (by first | (rw [add_block]; exact hn147_0) | (show (Addr.add _ _).block ≠ _; rw [add_block]; exact hn147_0) | exact hn147_0) (.int .u64 (rd l0_1 0))).trans hx147_0
              clear hn147_0
              replace p147 := eq_true p147
              replace q147 := eq_true q147
              have hcz35_0 : wc.cell? ⟨gb141, 0, none⟩ = some (.int .i64 0) := (blk_cell BK141.out 0).trans rfl
              have hcz35_1 : wc.cell? ⟨gb141, 1, none⟩ = some (.int .u64 0) := (blk_cell BK141.out 1).trans rfl
              have hcz35_2 : wc.cell? ⟨gb141, 2, none⟩ = some (.int .u64 0) := (blk_cell BK141.out 2).trans rfl
              have hfz35_0 := blk_frozen BK141.out 0
              have hfz35_1 := blk_frozen BK141.out 1
              have hfz35_2 := blk_frozen BK141.out 2
              go_wp2
              refine bodyPost_ret (results_ct rfl _ _ gb141 38 #[.int .i64 t142, .int .u64 (rd l0_1 0), .int .u64 (rd l0_1 1)] (0, 0) _ rfl (by (with_reducible repeat (first | refine blk_drewN ?_ _ | refine blk_drew ?_ | refine blk_alloc ?_ _)); refine blk_put (cs := #[.int .i64 t142, .int .u64 (rd l0_1 0), .int .u64 0]) ?_ 2 _ rfl; (with_reducible repeat (first | refine blk_drewN ?_ _ | refine blk_drew ?_ | refine blk_alloc ?_ _)); refine blk_put (cs := #[.int .i64 t142, .int .u64 0, .int .u64 0]) ?_ 1 _ rfl; (with_reducible repeat (first | refine blk_drewN ?_ _ | refine blk_drew ?_ | refine blk_alloc ?_ _)); refine blk_put (cs := #[.int .i64 0, .int .u64 0, .int .u64 0]) ?_ 0 _ rfl; (with_reducible repeat (first | refine blk_drewN ?_ _ | refine blk_drew ?_ | refine blk_alloc ?_ _)); refine blk_far ?_ NB141_143.out _; (with_reducible repeat (first | refine blk_drewN ?_ _ | refine blk_drew ?_ | refine blk_alloc ?_ _)); refine blk_far ?_ NB141_143.out _; (with_reducible repeat (first | refine blk_drewN ?_ _ | refine blk_drew ?_ | refine blk_alloc ?_ _)); exact BK141.out) Tryd.underlying38 rfl (by kernel_rfl)) rfl ?_
              exact ⟨by first | rfl | (simp [errW_none, errW_some] <;> rfl) | (simp [*, errW_none, errW_some] <;> rfl), by repeat (first | (with_reducible first | exact HB.out | apply below_alloc | apply pw_below_drewN | apply below_drew1 | refine below_set ?_ GE140.out | refine below_set ?_ GE141.out | refine below_set ?_ GE143.out) | exact HB.out)⟩
            · rw [if_neg c29] at H
              exact absurd H (by simp)
          · rw [if_neg c28] at H
            have c28b0 : decide (1 < (l0_1.length : Int)) = false := decide_eq_false c28
            have c28b1 : decide (1 < l0_1.length) = false := decide_eq_false (by omega)
            clear c28
            simp only [Option.some.injEq, Prod.mk.injEq] at H
            obtain ⟨rfl, rfl, rfl, rfl⟩ := H
            have hnb36 := NB140_141.out
            have hnc36 := NB141_140.out
            have hnb37 := NB140_143.out
            have hnc37 := NB143_140.out
            have hcz38_0 : wc.cell? ⟨gb140, 0, none⟩ = some (.string a0_0) := (blk_cell BK140.out 0).trans rfl
            have hcz38_1 : wc.cell? ⟨gb140, 1, none⟩ = some (.slice A0_1 l0_1.length c0_1) := (blk_cell BK140.out 1).trans rfl
            have hfz38_0 := blk_frozen BK140.out 0
            have hfz38_1 := blk_frozen BK140.out 1
            have p146 : 0 ≤ (0 : Int) := (by omega)
            have q146 : 0 < (l0_1.length : Int) := of_decide_eq_true (by first | (with_reducible assumption) | assumption)
            obtain ⟨ad146, e146, hx146_0⟩ := Kd.at_int HR0_1.out 0 p146 q146
            cases e146
            have qi146 : (0 < l0_1.length) = True := eq_true (by omega)
            (try rw [show ((0 : Int)).toNat = 0 from rfl] at hx146_0)
            (try rw [Addr.add_zero'] at hx146_0)
            replace hx146_0 := (HB.out.cell (World.block_lt_of_cell? w _ hx146_0)).trans hx146_0
            replace p146 := eq_true p146
            replace q146 := eq_true q146
            have hnb39 := NB143_141.out
            have hnc39 := NB141_143.out
            have hcz40_0 : wc.cell? ⟨gb143, 0, none⟩ = some (.int .i64 t142) := (blk_cell BK143.out 0).trans rfl
            have hcz40_1 : wc.cell? ⟨gb143, 1, none⟩ = some (.int .u64 0) := (blk_cell BK143.out 1).trans rfl
            have hcz40_2 : wc.cell? ⟨gb143, 2, none⟩ = some (.int .u64 0) := (blk_cell BK143.out 2).trans rfl
            have hfz40_0 := blk_frozen BK143.out 0
            have hfz40_1 := blk_frozen BK143.out 1
            have hfz40_2 := blk_frozen BK143.out 2
            have hcz41_0 : wc.cell? ⟨gb141, 0, none⟩ = some (.int .i64 0) := (blk_cell BK141.out 0).trans rfl
            have hcz41_1 : wc.cell? ⟨gb141, 1, none⟩ = some (.int .u64 0) := (blk_cell BK141.out 1).trans rfl
            have hcz41_2 : wc.cell? ⟨gb141, 2, none⟩ = some (.int .u64 0) := (blk_cell BK141.out 2).trans rfl
            have hfz41_0 := blk_frozen BK141.out 0
            have hfz41_1 := blk_frozen BK141.out 1
            have hfz41_2 := blk_frozen BK141.out 2
            go_wp2
            refine bodyPost_ret (results_ct rfl _ _ gb141 38 #[.int .i64 t142, .int .u64 (rd l0_1 0), .int .u64 0] (0, 0) _ rfl (by (with_reducible repeat (first | refine blk_drewN ?_ _ | refine blk_drew ?_ | refine blk_alloc ?_ _)); refine blk_put (cs := #[.int .i64 t142, .int .u64 (rd l0_1 0), .int .u64 0]) ?_ 2 _ rfl; (with_reducible repeat (first | refine blk_drewN ?_ _ | refine blk_drew ?_ | refine blk_alloc ?_ _)); refine blk_put (cs := #[.int .i64 t142, .int .u64 0, .int .u64 0]) ?_ 1 _ rfl; (with_reducible repeat (first | refine blk_drewN ?_ _ | refine blk_drew ?_ | refine blk_alloc ?_ _)); refine blk_put (cs := #[.int .i64 0, .int .u64 0, .int .u64 0]) ?_ 0 _ rfl; (with_reducible repeat (first | refine blk_drewN ?_ _ | refine blk_drew ?_ | refine blk_alloc ?_ _)); refine blk_far ?_ NB141_143.out _; (with_reducible repeat (first | refine blk_drewN ?_ _ | refine blk_drew ?_ | refine blk_alloc ?_ _)); exact BK141.out) Tryd.underlying38 rfl (by kernel_rfl)) rfl ?_
            exact ⟨by first | rfl | (simp [errW_none, errW_some] <;> rfl) | (simp [*, errW_none, errW_some] <;> rfl), by repeat (first | (with_reducible first | exact HB.out | apply below_alloc | apply pw_below_drewN | apply below_drew1 | refine below_set ?_ GE140.out | refine below_set ?_ GE141.out | refine below_set ?_ GE143.out) | exact HB.out)⟩
        · rw [if_neg c27] at H
          exact absurd H (by simp)

end Go.Proofs.YtlfoaaeelcmhiaaDoor.G
end

section
-- Written by a program of this session (wip/gprint.py: the kit's print, with contracts proved by hand)
namespace Go.Proofs.YtlfoaaeelcmhiaaDoor.G
open Go.RowKit Go.Proofs.YtlfoaaeelcmhiaaDoorW.PrintWords Go.Proofs.YtlfoaaeelcmhiaaDoorW.PrintLast Go.Proofs.YtlfoaaeelcmhiaaDoorW.PrintMore
attribute [local go_sem] max2_int min2_int max_two min_two max_three min_three max_four min_four   -- for this text's walks alone
set_option linter.unusedVariables false
set_option linter.unusedSimpArgs false

attribute [local go_sem high] eqA38
/-! ### inclinelaw21_shown: function 11 -/
def inclinelaw21_shown.f (k : Nat)  : Option (Bool) := (script_Parse.f (⟨#[112, 117, 116, 32, 49, 32, 49, 48, 10, 10, 35, 32, 97, 108, 108, 10, 32, 32, 114, 97, 110, 103, 101, 32, 48, 32, 32, 32, 57, 32]⟩ : ByteArray)).bind fun bt182 => ((script_Parse.f (⟨#[103, 101, 116, 32, 53, 10, 71, 101, 116, 32, 53]⟩ : ByteArray)).bind fun bt187 => ((script_Parse.f (⟨#[103, 101, 116, 32, 48, 49]⟩ : ByteArray)).bind fun bt192 => ((script_Parse.f (⟨#[103, 101, 116]⟩ : ByteArray)).bind fun bt197 => ((script_Print.f k (([(⟨(⟨#[115, 97, 118, 101]⟩ : ByteArray), ([] : List Int)⟩ : S30), (⟨(⟨#[112, 97, 116, 104]⟩ : ByteArray), (([0, 7] : List Int))⟩ : S30)] : List (S30)))).bind fun bt208 => ((script_Print.f k (([(⟨(⟨#[83, 97, 118, 101]⟩ : ByteArray), ([] : List Int)⟩ : S30)] : List (S30)))).bind fun bt213 => ((script_Op.f k (⟨#[114, 97, 110, 103, 101]⟩ : ByteArray) (([9, 3] : List Int))).bind fun bt218 => ((script_Op.f k (⟨#[115, 116, 97, 116, 115]⟩ : ByteArray) ([] : List Int)).bind fun bt223 => ((script_Tell.f k 7 0 0 0 false 0 0 0 (([(⟨3, 30⟩ : S50), (⟨4, 40⟩ : S50)] : List (S50)))).bind fun t240 => ((inclinelaw21_same.f k bt182.1 (([(⟨(⟨#[112, 117, 116]⟩ : ByteArray), (([1, 10] : List Int))⟩ : S30), (⟨(⟨#[114, 97, 110, 103, 101]⟩ : ByteArray), (([0, 9] : List Int))⟩ : S30)] : List (S30)))).bind fun t241 => (if t241 = true then (if bt182.2.1 = 0 then (if bt182.2.2 = 0 then (if bt187.2.1 = 2 then (if bt187.2.2 = 211 then (if bt192.2.1 = 1 then (if bt192.2.2 = 212 then (if bt197.2.1 = 1 then (if bt197.2.2 = 213 then (if bt208.1.toList = ([115, 97, 118, 101, 10, 112, 97, 116, 104, 32, 48, 32, 55, 10] : List UInt8) then (if bt208.2 = 0 then (if bt213.2 = 211 then (if (bt218.1 == 7 && (bt218.2.1 == 9 && (bt218.2.2.1 == 3))) = true then (if bt218.2.2.2 = true then (if bt223.2.2.2 = true then (none) else (if t240.toList = ([50, 32, 51, 32, 51, 48, 32, 52, 32, 52, 48] : List UInt8) then ((script_Tell.f k 9 0 0 1 false 0 0 0 ([] : List (S50))).bind fun t242 => (some (t242.toList == ([101, 114, 114, 111, 114, 32, 49] : List UInt8)))) else (none))) else (none)) else (none)) else (none)) else (none)) else (none)) else (none)) else (none)) else (none)) else (none)) else (none)) else (none)) else (none)) else (none)) else (none)))))))))))
theorem inclinelaw21_shown.mono : ∀ k, LeO (inclinelaw21_shown.f k ) (inclinelaw21_shown.f (k + 1) ) := by
  intro  k
  unfold inclinelaw21_shown.f
  repeat' first
      | (with_reducible exact inclinelaw21_same.mono _ _ _)
      | (with_reducible exact script_Op.mono _ _ _)
      | (with_reducible exact script_Print.mono _ _)
      | (with_reducible exact script_Tell.mono _ _ _ _ _ _ _ _ _ _)
      | (with_reducible exact LeO.refl _)
      | (with_reducible exact LeO.none _)
      | (with_reducible refine LeO.ite ?_ ?_)
      | (with_reducible refine LeO.bind ?_ (fun _ => ?_))
      | exact inclinelaw21_same.mono _ _ _
      | exact script_Op.mono _ _ _
      | exact script_Print.mono _ _
      | exact script_Tell.mono _ _ _ _ _ _ _ _ _ _
      | exact LeO.none _
      | refine LeO.ite ?_ ?_
      | refine LeO.bind ?_ (fun _ => ?_)
set_option maxHeartbeats 8000000 in
set_option maxRecDepth 100000 in
theorem inclinelaw21_shown.calls (k : Nat)  (r : Bool) (w : World) (hT : Tabs w) (h : inclinelaw21_shown.f k  = some r) :
    Calls Tryd.prog 11 #[] w fun e w' => e = .returned (.bool r) ∧ Below w.heap.size w w' := by
  have HT := Aside0.mk hT
  clear hT
  have hu30 := Tryd.underlying30
  have hu38 := Tryd.underlying38
  have hu50 := Tryd.underlying50
  have hu44 := Tryd.underlying44
  have HB := Aside0.mk (Below.refl w.heap.size w)
  have H : ((script_Parse.f (⟨#[112, 117, 116, 32, 49, 32, 49, 48, 10, 10, 35, 32, 97, 108, 108, 10, 32, 32, 114, 97, 110, 103, 101, 32, 48, 32, 32, 32, 57, 32]⟩ : ByteArray)).bind fun bt182 => ((script_Parse.f (⟨#[103, 101, 116, 32, 53, 10, 71, 101, 116, 32, 53]⟩ : ByteArray)).bind fun bt187 => ((script_Parse.f (⟨#[103, 101, 116, 32, 48, 49]⟩ : ByteArray)).bind fun bt192 => ((script_Parse.f (⟨#[103, 101, 116]⟩ : ByteArray)).bind fun bt197 => ((script_Print.f k (([(⟨(⟨#[115, 97, 118, 101]⟩ : ByteArray), ([] : List Int)⟩ : S30), (⟨(⟨#[112, 97, 116, 104]⟩ : ByteArray), (([0, 7] : List Int))⟩ : S30)] : List (S30)))).bind fun bt208 => ((script_Print.f k (([(⟨(⟨#[83, 97, 118, 101]⟩ : ByteArray), ([] : List Int)⟩ : S30)] : List (S30)))).bind fun bt213 => ((script_Op.f k (⟨#[114, 97, 110, 103, 101]⟩ : ByteArray) (([9, 3] : List Int))).bind fun bt218 => ((script_Op.f k (⟨#[115, 116, 97, 116, 115]⟩ : ByteArray) ([] : List Int)).bind fun bt223 => ((script_Tell.f k 7 0 0 0 false 0 0 0 (([(⟨3, 30⟩ : S50), (⟨4, 40⟩ : S50)] : List (S50)))).bind fun t240 => ((inclinelaw21_same.f k bt182.1 (([(⟨(⟨#[112, 117, 116]⟩ : ByteArray), (([1, 10] : List Int))⟩ : S30), (⟨(⟨#[114, 97, 110, 103, 101]⟩ : ByteArray), (([0, 9] : List Int))⟩ : S30)] : List (S30)))).bind fun t241 => (if t241 = true then (if bt182.2.1 = 0 then (if bt182.2.2 = 0 then (if bt187.2.1 = 2 then (if bt187.2.2 = 211 then (if bt192.2.1 = 1 then (if bt192.2.2 = 212 then (if bt197.2.1 = 1 then (if bt197.2.2 = 213 then (if bt208.1.toList = ([115, 97, 118, 101, 10, 112, 97, 116, 104, 32, 48, 32, 55, 10] : List UInt8) then (if bt208.2 = 0 then (if bt213.2 = 211 then (if (bt218.1 == 7 && (bt218.2.1 == 9 && (bt218.2.2.1 == 3))) = true then (if bt218.2.2.2 = true then (if bt223.2.2.2 = true then (none) else (if t240.toList = ([50, 32, 51, 32, 51, 48, 32, 52, 32, 52, 48] : List UInt8) then ((script_Tell.f k 9 0 0 1 false 0 0 0 ([] : List (S50))).bind fun t242 => (some (t242.toList == ([101, 114, 114, 111, 114, 32, 49] : List UInt8)))) else (none))) else (none)) else (none)) else (none)) else (none)) else (none)) else (none)) else (none)) else (none)) else (none)) else (none)) else (none)) else (none)) else (none)) else (none)))))))))))) = some r := h
  clear h
  replace H := Option.bind_eq_some_iff.mp H
  obtain ⟨⟨t182, t183, t184⟩, A10, H⟩ := H
  replace H : ((script_Parse.f (⟨#[103, 101, 116, 32, 53, 10, 71, 101, 116, 32, 53]⟩ : ByteArray)).bind fun bt187 => ((script_Parse.f (⟨#[103, 101, 116, 32, 48, 49]⟩ : ByteArray)).bind fun bt192 => ((script_Parse.f (⟨#[103, 101, 116]⟩ : ByteArray)).bind fun bt197 => ((script_Print.f k (([(⟨(⟨#[115, 97, 118, 101]⟩ : ByteArray), ([] : List Int)⟩ : S30), (⟨(⟨#[112, 97, 116, 104]⟩ : ByteArray), (([0, 7] : List Int))⟩ : S30)] : List (S30)))).bind fun bt208 => ((script_Print.f k (([(⟨(⟨#[83, 97, 118, 101]⟩ : ByteArray), ([] : List Int)⟩ : S30)] : List (S30)))).bind fun bt213 => ((script_Op.f k (⟨#[114, 97, 110, 103, 101]⟩ : ByteArray) (([9, 3] : List Int))).bind fun bt218 => ((script_Op.f k (⟨#[115, 116, 97, 116, 115]⟩ : ByteArray) ([] : List Int)).bind fun bt223 => ((script_Tell.f k 7 0 0 0 false 0 0 0 (([(⟨3, 30⟩ : S50), (⟨4, 40⟩ : S50)] : List (S50)))).bind fun t240 => ((inclinelaw21_same.f k t182 (([(⟨(⟨#[112, 117, 116]⟩ : ByteArray), (([1, 10] : List Int))⟩ : S30), (⟨(⟨#[114, 97, 110, 103, 101]⟩ : ByteArray), (([0, 9] : List Int))⟩ : S30)] : List (S30)))).bind fun t241 => (if t241 = true then (if t183 = 0 then (if t184 = 0 then (if bt187.2.1 = 2 then (if bt187.2.2 = 211 then (if bt192.2.1 = 1 then (if bt192.2.2 = 212 then (if bt197.2.1 = 1 then (if bt197.2.2 = 213 then (if bt208.1.toList = ([115, 97, 118, 101, 10, 112, 97, 116, 104, 32, 48, 32, 55, 10] : List UInt8) then (if bt208.2 = 0 then (if bt213.2 = 211 then (if (bt218.1 == 7 && (bt218.2.1 == 9 && (bt218.2.2.1 == 3))) = true then (if bt218.2.2.2 = true then (if bt223.2.2.2 = true then (none) else (if t240.toList = ([50, 32, 51, 32, 51, 48, 32, 52, 32, 52, 48] : List UInt8) then ((script_Tell.f k 9 0 0 1 false 0 0 0 ([] : List (S50))).bind fun t242 => (some (t242.toList == ([101, 114, 114, 111, 114, 32, 49] : List UInt8)))) else (none))) else (none)) else (none)) else (none)) else (none)) else (none)) else (none)) else (none)) else (none)) else (none)) else (none)) else (none)) else (none)) else (none)) else (none))))))))))) = some r := H
  have A1 := Aside0.mk A10
  clear A10
  replace H := Option.bind_eq_some_iff.mp H
  obtain ⟨⟨t187, t188, t189⟩, A20, H⟩ := H
  replace H : ((script_Parse.f (⟨#[103, 101, 116, 32, 48, 49]⟩ : ByteArray)).bind fun bt192 => ((script_Parse.f (⟨#[103, 101, 116]⟩ : ByteArray)).bind fun bt197 => ((script_Print.f k (([(⟨(⟨#[115, 97, 118, 101]⟩ : ByteArray), ([] : List Int)⟩ : S30), (⟨(⟨#[112, 97, 116, 104]⟩ : ByteArray), (([0, 7] : List Int))⟩ : S30)] : List (S30)))).bind fun bt208 => ((script_Print.f k (([(⟨(⟨#[83, 97, 118, 101]⟩ : ByteArray), ([] : List Int)⟩ : S30)] : List (S30)))).bind fun bt213 => ((script_Op.f k (⟨#[114, 97, 110, 103, 101]⟩ : ByteArray) (([9, 3] : List Int))).bind fun bt218 => ((script_Op.f k (⟨#[115, 116, 97, 116, 115]⟩ : ByteArray) ([] : List Int)).bind fun bt223 => ((script_Tell.f k 7 0 0 0 false 0 0 0 (([(⟨3, 30⟩ : S50), (⟨4, 40⟩ : S50)] : List (S50)))).bind fun t240 => ((inclinelaw21_same.f k t182 (([(⟨(⟨#[112, 117, 116]⟩ : ByteArray), (([1, 10] : List Int))⟩ : S30), (⟨(⟨#[114, 97, 110, 103, 101]⟩ : ByteArray), (([0, 9] : List Int))⟩ : S30)] : List (S30)))).bind fun t241 => (if t241 = true then (if t183 = 0 then (if t184 = 0 then (if t188 = 2 then (if t189 = 211 then (if bt192.2.1 = 1 then (if bt192.2.2 = 212 then (if bt197.2.1 = 1 then (if bt197.2.2 = 213 then (if bt208.1.toList = ([115, 97, 118, 101, 10, 112, 97, 116, 104, 32, 48, 32, 55, 10] : List UInt8) then (if bt208.2 = 0 then (if bt213.2 = 211 then (if (bt218.1 == 7 && (bt218.2.1 == 9 && (bt218.2.2.1 == 3))) = true then (if bt218.2.2.2 = true then (if bt223.2.2.2 = true then (none) else (if t240.toList = ([50, 32, 51, 32, 51, 48, 32, 52, 32, 52, 48] : List UInt8) then ((script_Tell.f k 9 0 0 1 false 0 0 0 ([] : List (S50))).bind fun t242 => (some (t242.toList == ([101, 114, 114, 111, 114, 32, 49] : List UInt8)))) else (none))) else (none)) else (none)) else (none)) else (none)) else (none)) else (none)) else (none)) else (none)) else (none)) else (none)) else (none)) else (none)) else (none)) else (none)))))))))) = some r := H
  have A2 := Aside0.mk A20
  clear A20
  replace H := Option.bind_eq_some_iff.mp H
  obtain ⟨⟨t192, t193, t194⟩, A30, H⟩ := H
  replace H : ((script_Parse.f (⟨#[103, 101, 116]⟩ : ByteArray)).bind fun bt197 => ((script_Print.f k (([(⟨(⟨#[115, 97, 118, 101]⟩ : ByteArray), ([] : List Int)⟩ : S30), (⟨(⟨#[112, 97, 116, 104]⟩ : ByteArray), (([0, 7] : List Int))⟩ : S30)] : List (S30)))).bind fun bt208 => ((script_Print.f k (([(⟨(⟨#[83, 97, 118, 101]⟩ : ByteArray), ([] : List Int)⟩ : S30)] : List (S30)))).bind fun bt213 => ((script_Op.f k (⟨#[114, 97, 110, 103, 101]⟩ : ByteArray) (([9, 3] : List Int))).bind fun bt218 => ((script_Op.f k (⟨#[115, 116, 97, 116, 115]⟩ : ByteArray) ([] : List Int)).bind fun bt223 => ((script_Tell.f k 7 0 0 0 false 0 0 0 (([(⟨3, 30⟩ : S50), (⟨4, 40⟩ : S50)] : List (S50)))).bind fun t240 => ((inclinelaw21_same.f k t182 (([(⟨(⟨#[112, 117, 116]⟩ : ByteArray), (([1, 10] : List Int))⟩ : S30), (⟨(⟨#[114, 97, 110, 103, 101]⟩ : ByteArray), (([0, 9] : List Int))⟩ : S30)] : List (S30)))).bind fun t241 => (if t241 = true then (if t183 = 0 then (if t184 = 0 then (if t188 = 2 then (if t189 = 211 then (if t193 = 1 then (if t194 = 212 then (if bt197.2.1 = 1 then (if bt197.2.2 = 213 then (if bt208.1.toList = ([115, 97, 118, 101, 10, 112, 97, 116, 104, 32, 48, 32, 55, 10] : List UInt8) then (if bt208.2 = 0 then (if bt213.2 = 211 then (if (bt218.1 == 7 && (bt218.2.1 == 9 && (bt218.2.2.1 == 3))) = true then (if bt218.2.2.2 = true then (if bt223.2.2.2 = true then (none) else (if t240.toList = ([50, 32, 51, 32, 51, 48, 32, 52, 32, 52, 48] : List UInt8) then ((script_Tell.f k 9 0 0 1 false 0 0 0 ([] : List (S50))).bind fun t242 => (some (t242.toList == ([101, 114, 114, 111, 114, 32, 49] : List UInt8)))) else (none))) else (none)) else (none)) else (none)) else (none)) else (none)) else (none)) else (none)) else (none)) else (none)) else (none)) else (none)) else (none)) else (none)) else (none))))))))) = some r := H
  have A3 := Aside0.mk A30
  clear A30
  replace H := Option.bind_eq_some_iff.mp H
  obtain ⟨⟨t197, t198, t199⟩, A40, H⟩ := H
  replace H : ((script_Print.f k (([(⟨(⟨#[115, 97, 118, 101]⟩ : ByteArray), ([] : List Int)⟩ : S30), (⟨(⟨#[112, 97, 116, 104]⟩ : ByteArray), (([0, 7] : List Int))⟩ : S30)] : List (S30)))).bind fun bt208 => ((script_Print.f k (([(⟨(⟨#[83, 97, 118, 101]⟩ : ByteArray), ([] : List Int)⟩ : S30)] : List (S30)))).bind fun bt213 => ((script_Op.f k (⟨#[114, 97, 110, 103, 101]⟩ : ByteArray) (([9, 3] : List Int))).bind fun bt218 => ((script_Op.f k (⟨#[115, 116, 97, 116, 115]⟩ : ByteArray) ([] : List Int)).bind fun bt223 => ((script_Tell.f k 7 0 0 0 false 0 0 0 (([(⟨3, 30⟩ : S50), (⟨4, 40⟩ : S50)] : List (S50)))).bind fun t240 => ((inclinelaw21_same.f k t182 (([(⟨(⟨#[112, 117, 116]⟩ : ByteArray), (([1, 10] : List Int))⟩ : S30), (⟨(⟨#[114, 97, 110, 103, 101]⟩ : ByteArray), (([0, 9] : List Int))⟩ : S30)] : List (S30)))).bind fun t241 => (if t241 = true then (if t183 = 0 then (if t184 = 0 then (if t188 = 2 then (if t189 = 211 then (if t193 = 1 then (if t194 = 212 then (if t198 = 1 then (if t199 = 213 then (if bt208.1.toList = ([115, 97, 118, 101, 10, 112, 97, 116, 104, 32, 48, 32, 55, 10] : List UInt8) then (if bt208.2 = 0 then (if bt213.2 = 211 then (if (bt218.1 == 7 && (bt218.2.1 == 9 && (bt218.2.2.1 == 3))) = true then (if bt218.2.2.2 = true then (if bt223.2.2.2 = true then (none) else (if t240.toList = ([50, 32, 51, 32, 51, 48, 32, 52, 32, 52, 48] : List UInt8) then ((script_Tell.f k 9 0 0 1 false 0 0 0 ([] : List (S50))).bind fun t242 => (some (t242.toList == ([101, 114, 114, 111, 114, 32, 49] : List UInt8)))) else (none))) else (none)) else (none)) else (none)) else (none)) else (none)) else (none)) else (none)) else (none)) else (none)) else (none)) else (none)) else (none)) else (none)) else (none)))))))) = some r := H
  have A4 := Aside0.mk A40
  clear A40
  obtain ⟨y202, hy202⟩ : ∃ y_ : List Int, y_ = (([0, 7] : List Int)) := ⟨_, rfl⟩
  replace H : ((script_Print.f k (([(⟨(⟨#[115, 97, 118, 101]⟩ : ByteArray), ([] : List Int)⟩ : S30), (⟨(⟨#[112, 97, 116, 104]⟩ : ByteArray), y202⟩ : S30)] : List (S30)))).bind fun bt208 => ((script_Print.f k (([(⟨(⟨#[83, 97, 118, 101]⟩ : ByteArray), ([] : List Int)⟩ : S30)] : List (S30)))).bind fun bt213 => ((script_Op.f k (⟨#[114, 97, 110, 103, 101]⟩ : ByteArray) (([9, 3] : List Int))).bind fun bt218 => ((script_Op.f k (⟨#[115, 116, 97, 116, 115]⟩ : ByteArray) ([] : List Int)).bind fun bt223 => ((script_Tell.f k 7 0 0 0 false 0 0 0 (([(⟨3, 30⟩ : S50), (⟨4, 40⟩ : S50)] : List (S50)))).bind fun t240 => ((inclinelaw21_same.f k t182 (([(⟨(⟨#[112, 117, 116]⟩ : ByteArray), (([1, 10] : List Int))⟩ : S30), (⟨(⟨#[114, 97, 110, 103, 101]⟩ : ByteArray), (([0, 9] : List Int))⟩ : S30)] : List (S30)))).bind fun t241 => (if t241 = true then (if t183 = 0 then (if t184 = 0 then (if t188 = 2 then (if t189 = 211 then (if t193 = 1 then (if t194 = 212 then (if t198 = 1 then (if t199 = 213 then (if bt208.1.toList = ([115, 97, 118, 101, 10, 112, 97, 116, 104, 32, 48, 32, 55, 10] : List UInt8) then (if bt208.2 = 0 then (if bt213.2 = 211 then (if (bt218.1 == 7 && (bt218.2.1 == 9 && (bt218.2.2.1 == 3))) = true then (if bt218.2.2.2 = true then (if bt223.2.2.2 = true then (none) else (if t240.toList = ([50, 32, 51, 32, 51, 48, 32, 52, 32, 52, 48] : List UInt8) then ((script_Tell.f k 9 0 0 1 false 0 0 0 ([] : List (S50))).bind fun t242 => (some (t242.toList == ([101, 114, 114, 111, 114, 32, 49] : List UInt8)))) else (none))) else (none)) else (none)) else (none)) else (none)) else (none)) else (none)) else (none)) else (none)) else (none)) else (none)) else (none)) else (none)) else (none)) else (none)))))))) = some r := by first | (rw [hy202]; with_reducible exact H) | (have H2_ := (Option.bind_some _ _).symm.trans H; rw [hy202]; with_reducible exact H2_) | (have H2_ := (Option.bind_some _ _).symm.trans H; with_reducible exact H2_) | with_reducible exact H | (rw [hy202]; exact H) | exact H
  have Ny202 := Aside0.mk hy202
  clear hy202
  obtain ⟨y205, hy205⟩ : ∃ y_ : List (S30), y_ = (([(⟨(⟨#[115, 97, 118, 101]⟩ : ByteArray), ([] : List Int)⟩ : S30), (⟨(⟨#[112, 97, 116, 104]⟩ : ByteArray), y202⟩ : S30)] : List (S30))) := ⟨_, rfl⟩
  replace H : ((script_Print.f k y205).bind fun bt208 => ((script_Print.f k (([(⟨(⟨#[83, 97, 118, 101]⟩ : ByteArray), ([] : List Int)⟩ : S30)] : List (S30)))).bind fun bt213 => ((script_Op.f k (⟨#[114, 97, 110, 103, 101]⟩ : ByteArray) (([9, 3] : List Int))).bind fun bt218 => ((script_Op.f k (⟨#[115, 116, 97, 116, 115]⟩ : ByteArray) ([] : List Int)).bind fun bt223 => ((script_Tell.f k 7 0 0 0 false 0 0 0 (([(⟨3, 30⟩ : S50), (⟨4, 40⟩ : S50)] : List (S50)))).bind fun t240 => ((inclinelaw21_same.f k t182 (([(⟨(⟨#[112, 117, 116]⟩ : ByteArray), (([1, 10] : List Int))⟩ : S30), (⟨(⟨#[114, 97, 110, 103, 101]⟩ : ByteArray), (([0, 9] : List Int))⟩ : S30)] : List (S30)))).bind fun t241 => (if t241 = true then (if t183 = 0 then (if t184 = 0 then (if t188 = 2 then (if t189 = 211 then (if t193 = 1 then (if t194 = 212 then (if t198 = 1 then (if t199 = 213 then (if bt208.1.toList = ([115, 97, 118, 101, 10, 112, 97, 116, 104, 32, 48, 32, 55, 10] : List UInt8) then (if bt208.2 = 0 then (if bt213.2 = 211 then (if (bt218.1 == 7 && (bt218.2.1 == 9 && (bt218.2.2.1 == 3))) = true then (if bt218.2.2.2 = true then (if bt223.2.2.2 = true then (none) else (if t240.toList = ([50, 32, 51, 32, 51, 48, 32, 52, 32, 52, 48] : List UInt8) then ((script_Tell.f k 9 0 0 1 false 0 0 0 ([] : List (S50))).bind fun t242 => (some (t242.toList == ([101, 114, 114, 111, 114, 32, 49] : List UInt8)))) else (none))) else (none)) else (none)) else (none)) else (none)) else (none)) else (none)) else (none)) else (none)) else (none)) else (none)) else (none)) else (none)) else (none)) else (none)))))))) = some r := by first | (rw [hy205]; with_reducible exact H) | (have H2_ := (Option.bind_some _ _).symm.trans H; rw [hy205]; with_reducible exact H2_) | (have H2_ := (Option.bind_some _ _).symm.trans H; with_reducible exact H2_) | with_reducible exact H | (rw [hy205]; exact H) | exact H
  have Ny205 := Aside0.mk hy205
  clear hy205
  replace H := Option.bind_eq_some_iff.mp H
  obtain ⟨⟨t208, t209⟩, A50, H⟩ := H
  replace H : ((script_Print.f k (([(⟨(⟨#[83, 97, 118, 101]⟩ : ByteArray), ([] : List Int)⟩ : S30)] : List (S30)))).bind fun bt213 => ((script_Op.f k (⟨#[114, 97, 110, 103, 101]⟩ : ByteArray) (([9, 3] : List Int))).bind fun bt218 => ((script_Op.f k (⟨#[115, 116, 97, 116, 115]⟩ : ByteArray) ([] : List Int)).bind fun bt223 => ((script_Tell.f k 7 0 0 0 false 0 0 0 (([(⟨3, 30⟩ : S50), (⟨4, 40⟩ : S50)] : List (S50)))).bind fun t240 => ((inclinelaw21_same.f k t182 (([(⟨(⟨#[112, 117, 116]⟩ : ByteArray), (([1, 10] : List Int))⟩ : S30), (⟨(⟨#[114, 97, 110, 103, 101]⟩ : ByteArray), (([0, 9] : List Int))⟩ : S30)] : List (S30)))).bind fun t241 => (if t241 = true then (if t183 = 0 then (if t184 = 0 then (if t188 = 2 then (if t189 = 211 then (if t193 = 1 then (if t194 = 212 then (if t198 = 1 then (if t199 = 213 then (if t208.toList = ([115, 97, 118, 101, 10, 112, 97, 116, 104, 32, 48, 32, 55, 10] : List UInt8) then (if t209 = 0 then (if bt213.2 = 211 then (if (bt218.1 == 7 && (bt218.2.1 == 9 && (bt218.2.2.1 == 3))) = true then (if bt218.2.2.2 = true then (if bt223.2.2.2 = true then (none) else (if t240.toList = ([50, 32, 51, 32, 51, 48, 32, 52, 32, 52, 48] : List UInt8) then ((script_Tell.f k 9 0 0 1 false 0 0 0 ([] : List (S50))).bind fun t242 => (some (t242.toList == ([101, 114, 114, 111, 114, 32, 49] : List UInt8)))) else (none))) else (none)) else (none)) else (none)) else (none)) else (none)) else (none)) else (none)) else (none)) else (none)) else (none)) else (none)) else (none)) else (none)) else (none))))))) = some r := H
  have A5 := Aside0.mk A50
  clear A50
  obtain ⟨y210, hy210⟩ : ∃ y_ : List (S30), y_ = (([(⟨(⟨#[83, 97, 118, 101]⟩ : ByteArray), ([] : List Int)⟩ : S30)] : List (S30))) := ⟨_, rfl⟩
  replace H : ((script_Print.f k y210).bind fun bt213 => ((script_Op.f k (⟨#[114, 97, 110, 103, 101]⟩ : ByteArray) (([9, 3] : List Int))).bind fun bt218 => ((script_Op.f k (⟨#[115, 116, 97, 116, 115]⟩ : ByteArray) ([] : List Int)).bind fun bt223 => ((script_Tell.f k 7 0 0 0 false 0 0 0 (([(⟨3, 30⟩ : S50), (⟨4, 40⟩ : S50)] : List (S50)))).bind fun t240 => ((inclinelaw21_same.f k t182 (([(⟨(⟨#[112, 117, 116]⟩ : ByteArray), (([1, 10] : List Int))⟩ : S30), (⟨(⟨#[114, 97, 110, 103, 101]⟩ : ByteArray), (([0, 9] : List Int))⟩ : S30)] : List (S30)))).bind fun t241 => (if t241 = true then (if t183 = 0 then (if t184 = 0 then (if t188 = 2 then (if t189 = 211 then (if t193 = 1 then (if t194 = 212 then (if t198 = 1 then (if t199 = 213 then (if t208.toList = ([115, 97, 118, 101, 10, 112, 97, 116, 104, 32, 48, 32, 55, 10] : List UInt8) then (if t209 = 0 then (if bt213.2 = 211 then (if (bt218.1 == 7 && (bt218.2.1 == 9 && (bt218.2.2.1 == 3))) = true then (if bt218.2.2.2 = true then (if bt223.2.2.2 = true then (none) else (if t240.toList = ([50, 32, 51, 32, 51, 48, 32, 52, 32, 52, 48] : List UInt8) then ((script_Tell.f k 9 0 0 1 false 0 0 0 ([] : List (S50))).bind fun t242 => (some (t242.toList == ([101, 114, 114, 111, 114, 32, 49] : List UInt8)))) else (none))) else (none)) else (none)) else (none)) else (none)) else (none)) else (none)) else (none)) else (none)) else (none)) else (none)) else (none)) else (none)) else (none)) else (none))))))) = some r := by first | (rw [hy210]; with_reducible exact H) | (have H2_ := (Option.bind_some _ _).symm.trans H; rw [hy210]; with_reducible exact H2_) | (have H2_ := (Option.bind_some _ _).symm.trans H; with_reducible exact H2_) | with_reducible exact H | (rw [hy210]; exact H) | exact H
  have Ny210 := Aside0.mk hy210
  clear hy210
  replace H := Option.bind_eq_some_iff.mp H
  obtain ⟨⟨t213, t214⟩, A60, H⟩ := H
  replace H : ((script_Op.f k (⟨#[114, 97, 110, 103, 101]⟩ : ByteArray) (([9, 3] : List Int))).bind fun bt218 => ((script_Op.f k (⟨#[115, 116, 97, 116, 115]⟩ : ByteArray) ([] : List Int)).bind fun bt223 => ((script_Tell.f k 7 0 0 0 false 0 0 0 (([(⟨3, 30⟩ : S50), (⟨4, 40⟩ : S50)] : List (S50)))).bind fun t240 => ((inclinelaw21_same.f k t182 (([(⟨(⟨#[112, 117, 116]⟩ : ByteArray), (([1, 10] : List Int))⟩ : S30), (⟨(⟨#[114, 97, 110, 103, 101]⟩ : ByteArray), (([0, 9] : List Int))⟩ : S30)] : List (S30)))).bind fun t241 => (if t241 = true then (if t183 = 0 then (if t184 = 0 then (if t188 = 2 then (if t189 = 211 then (if t193 = 1 then (if t194 = 212 then (if t198 = 1 then (if t199 = 213 then (if t208.toList = ([115, 97, 118, 101, 10, 112, 97, 116, 104, 32, 48, 32, 55, 10] : List UInt8) then (if t209 = 0 then (if t214 = 211 then (if (bt218.1 == 7 && (bt218.2.1 == 9 && (bt218.2.2.1 == 3))) = true then (if bt218.2.2.2 = true then (if bt223.2.2.2 = true then (none) else (if t240.toList = ([50, 32, 51, 32, 51, 48, 32, 52, 32, 52, 48] : List UInt8) then ((script_Tell.f k 9 0 0 1 false 0 0 0 ([] : List (S50))).bind fun t242 => (some (t242.toList == ([101, 114, 114, 111, 114, 32, 49] : List UInt8)))) else (none))) else (none)) else (none)) else (none)) else (none)) else (none)) else (none)) else (none)) else (none)) else (none)) else (none)) else (none)) else (none)) else (none)) else (none)))))) = some r := H
  have A6 := Aside0.mk A60
  clear A60
  obtain ⟨y215, hy215⟩ : ∃ y_ : List Int, y_ = (([9, 3] : List Int)) := ⟨_, rfl⟩
  replace H : ((script_Op.f k (⟨#[114, 97, 110, 103, 101]⟩ : ByteArray) y215).bind fun bt218 => ((script_Op.f k (⟨#[115, 116, 97, 116, 115]⟩ : ByteArray) ([] : List Int)).bind fun bt223 => ((script_Tell.f k 7 0 0 0 false 0 0 0 (([(⟨3, 30⟩ : S50), (⟨4, 40⟩ : S50)] : List (S50)))).bind fun t240 => ((inclinelaw21_same.f k t182 (([(⟨(⟨#[112, 117, 116]⟩ : ByteArray), (([1, 10] : List Int))⟩ : S30), (⟨(⟨#[114, 97, 110, 103, 101]⟩ : ByteArray), (([0, 9] : List Int))⟩ : S30)] : List (S30)))).bind fun t241 => (if t241 = true then (if t183 = 0 then (if t184 = 0 then (if t188 = 2 then (if t189 = 211 then (if t193 = 1 then (if t194 = 212 then (if t198 = 1 then (if t199 = 213 then (if t208.toList = ([115, 97, 118, 101, 10, 112, 97, 116, 104, 32, 48, 32, 55, 10] : List UInt8) then (if t209 = 0 then (if t214 = 211 then (if (bt218.1 == 7 && (bt218.2.1 == 9 && (bt218.2.2.1 == 3))) = true then (if bt218.2.2.2 = true then (if bt223.2.2.2 = true then (none) else (if t240.toList = ([50, 32, 51, 32, 51, 48, 32, 52, 32, 52, 48] : List UInt8) then ((script_Tell.f k 9 0 0 1 false 0 0 0 ([] : List (S50))).bind fun t242 => (some (t242.toList == ([101, 114, 114, 111, 114, 32, 49] : List UInt8)))) else (none))) else (none)) else (none)) else (none)) else (none)) else (none)) else (none)) else (none)) else (none)) else (none)) else (none)) else (none)) else (none)) else (none)) else (none)))))) = some r := by first | (rw [hy215]; with_reducible exact H) | (have H2_ := (Option.bind_some _ _).symm.trans H; rw [hy215]; with_reducible exact H2_) | (have H2_ := (Option.bind_some _ _).symm.trans H; with_reducible exact H2_) | with_reducible exact H | (rw [hy215]; exact H) | exact H
  have Ny215 := Aside0.mk hy215
  clear hy215
  replace H := Option.bind_eq_some_iff.mp H
  obtain ⟨⟨t218, t219, t220, t221⟩, A70, H⟩ := H
  replace H : ((script_Op.f k (⟨#[115, 116, 97, 116, 115]⟩ : ByteArray) ([] : List Int)).bind fun bt223 => ((script_Tell.f k 7 0 0 0 false 0 0 0 (([(⟨3, 30⟩ : S50), (⟨4, 40⟩ : S50)] : List (S50)))).bind fun t240 => ((inclinelaw21_same.f k t182 (([(⟨(⟨#[112, 117, 116]⟩ : ByteArray), (([1, 10] : List Int))⟩ : S30), (⟨(⟨#[114, 97, 110, 103, 101]⟩ : ByteArray), (([0, 9] : List Int))⟩ : S30)] : List (S30)))).bind fun t241 => (if t241 = true then (if t183 = 0 then (if t184 = 0 then (if t188 = 2 then (if t189 = 211 then (if t193 = 1 then (if t194 = 212 then (if t198 = 1 then (if t199 = 213 then (if t208.toList = ([115, 97, 118, 101, 10, 112, 97, 116, 104, 32, 48, 32, 55, 10] : List UInt8) then (if t209 = 0 then (if t214 = 211 then (if (t218 == 7 && (t219 == 9 && (t220 == 3))) = true then (if t221 = true then (if bt223.2.2.2 = true then (none) else (if t240.toList = ([50, 32, 51, 32, 51, 48, 32, 52, 32, 52, 48] : List UInt8) then ((script_Tell.f k 9 0 0 1 false 0 0 0 ([] : List (S50))).bind fun t242 => (some (t242.toList == ([101, 114, 114, 111, 114, 32, 49] : List UInt8)))) else (none))) else (none)) else (none)) else (none)) else (none)) else (none)) else (none)) else (none)) else (none)) else (none)) else (none)) else (none)) else (none)) else (none)) else (none))))) = some r := H
  have A7 := Aside0.mk A70
  clear A70
  replace H := Option.bind_eq_some_iff.mp H
  obtain ⟨⟨t223, t224, t225, t226⟩, A80, H⟩ := H
  replace H : ((script_Tell.f k 7 0 0 0 false 0 0 0 (([(⟨3, 30⟩ : S50), (⟨4, 40⟩ : S50)] : List (S50)))).bind fun t240 => ((inclinelaw21_same.f k t182 (([(⟨(⟨#[112, 117, 116]⟩ : ByteArray), (([1, 10] : List Int))⟩ : S30), (⟨(⟨#[114, 97, 110, 103, 101]⟩ : ByteArray), (([0, 9] : List Int))⟩ : S30)] : List (S30)))).bind fun t241 => (if t241 = true then (if t183 = 0 then (if t184 = 0 then (if t188 = 2 then (if t189 = 211 then (if t193 = 1 then (if t194 = 212 then (if t198 = 1 then (if t199 = 213 then (if t208.toList = ([115, 97, 118, 101, 10, 112, 97, 116, 104, 32, 48, 32, 55, 10] : List UInt8) then (if t209 = 0 then (if t214 = 211 then (if (t218 == 7 && (t219 == 9 && (t220 == 3))) = true then (if t221 = true then (if t226 = true then (none) else (if t240.toList = ([50, 32, 51, 32, 51, 48, 32, 52, 32, 52, 48] : List UInt8) then ((script_Tell.f k 9 0 0 1 false 0 0 0 ([] : List (S50))).bind fun t242 => (some (t242.toList == ([101, 114, 114, 111, 114, 32, 49] : List UInt8)))) else (none))) else (none)) else (none)) else (none)) else (none)) else (none)) else (none)) else (none)) else (none)) else (none)) else (none)) else (none)) else (none)) else (none)) else (none)))) = some r := H
  have A8 := Aside0.mk A80
  clear A80
  obtain ⟨y228, hy228⟩ : ∃ y_ : List Int, y_ = (([1, 10] : List Int)) := ⟨_, rfl⟩
  replace H : ((script_Tell.f k 7 0 0 0 false 0 0 0 (([(⟨3, 30⟩ : S50), (⟨4, 40⟩ : S50)] : List (S50)))).bind fun t240 => ((inclinelaw21_same.f k t182 (([(⟨(⟨#[112, 117, 116]⟩ : ByteArray), y228⟩ : S30), (⟨(⟨#[114, 97, 110, 103, 101]⟩ : ByteArray), (([0, 9] : List Int))⟩ : S30)] : List (S30)))).bind fun t241 => (if t241 = true then (if t183 = 0 then (if t184 = 0 then (if t188 = 2 then (if t189 = 211 then (if t193 = 1 then (if t194 = 212 then (if t198 = 1 then (if t199 = 213 then (if t208.toList = ([115, 97, 118, 101, 10, 112, 97, 116, 104, 32, 48, 32, 55, 10] : List UInt8) then (if t209 = 0 then (if t214 = 211 then (if (t218 == 7 && (t219 == 9 && (t220 == 3))) = true then (if t221 = true then (if t226 = true then (none) else (if t240.toList = ([50, 32, 51, 32, 51, 48, 32, 52, 32, 52, 48] : List UInt8) then ((script_Tell.f k 9 0 0 1 false 0 0 0 ([] : List (S50))).bind fun t242 => (some (t242.toList == ([101, 114, 114, 111, 114, 32, 49] : List UInt8)))) else (none))) else (none)) else (none)) else (none)) else (none)) else (none)) else (none)) else (none)) else (none)) else (none)) else (none)) else (none)) else (none)) else (none)) else (none)))) = some r := by first | (rw [hy228]; with_reducible exact H) | (have H2_ := (Option.bind_some _ _).symm.trans H; rw [hy228]; with_reducible exact H2_) | (have H2_ := (Option.bind_some _ _).symm.trans H; with_reducible exact H2_) | with_reducible exact H | (rw [hy228]; exact H) | exact H
  have Ny228 := Aside0.mk hy228
  clear hy228
  obtain ⟨y231, hy231⟩ : ∃ y_ : List Int, y_ = (([0, 9] : List Int)) := ⟨_, rfl⟩
  replace H : ((script_Tell.f k 7 0 0 0 false 0 0 0 (([(⟨3, 30⟩ : S50), (⟨4, 40⟩ : S50)] : List (S50)))).bind fun t240 => ((inclinelaw21_same.f k t182 (([(⟨(⟨#[112, 117, 116]⟩ : ByteArray), y228⟩ : S30), (⟨(⟨#[114, 97, 110, 103, 101]⟩ : ByteArray), y231⟩ : S30)] : List (S30)))).bind fun t241 => (if t241 = true then (if t183 = 0 then (if t184 = 0 then (if t188 = 2 then (if t189 = 211 then (if t193 = 1 then (if t194 = 212 then (if t198 = 1 then (if t199 = 213 then (if t208.toList = ([115, 97, 118, 101, 10, 112, 97, 116, 104, 32, 48, 32, 55, 10] : List UInt8) then (if t209 = 0 then (if t214 = 211 then (if (t218 == 7 && (t219 == 9 && (t220 == 3))) = true then (if t221 = true then (if t226 = true then (none) else (if t240.toList = ([50, 32, 51, 32, 51, 48, 32, 52, 32, 52, 48] : List UInt8) then ((script_Tell.f k 9 0 0 1 false 0 0 0 ([] : List (S50))).bind fun t242 => (some (t242.toList == ([101, 114, 114, 111, 114, 32, 49] : List UInt8)))) else (none))) else (none)) else (none)) else (none)) else (none)) else (none)) else (none)) else (none)) else (none)) else (none)) else (none)) else (none)) else (none)) else (none)) else (none)))) = some r := by first | (rw [hy231]; with_reducible exact H) | (have H2_ := (Option.bind_some _ _).symm.trans H; rw [hy231]; with_reducible exact H2_) | (have H2_ := (Option.bind_some _ _).symm.trans H; with_reducible exact H2_) | with_reducible exact H | (rw [hy231]; exact H) | exact H
  have Ny231 := Aside0.mk hy231
  clear hy231
  obtain ⟨y234, hy234⟩ : ∃ y_ : List (S30), y_ = (([(⟨(⟨#[112, 117, 116]⟩ : ByteArray), y228⟩ : S30), (⟨(⟨#[114, 97, 110, 103, 101]⟩ : ByteArray), y231⟩ : S30)] : List (S30))) := ⟨_, rfl⟩
  replace H : ((script_Tell.f k 7 0 0 0 false 0 0 0 (([(⟨3, 30⟩ : S50), (⟨4, 40⟩ : S50)] : List (S50)))).bind fun t240 => ((inclinelaw21_same.f k t182 y234).bind fun t241 => (if t241 = true then (if t183 = 0 then (if t184 = 0 then (if t188 = 2 then (if t189 = 211 then (if t193 = 1 then (if t194 = 212 then (if t198 = 1 then (if t199 = 213 then (if t208.toList = ([115, 97, 118, 101, 10, 112, 97, 116, 104, 32, 48, 32, 55, 10] : List UInt8) then (if t209 = 0 then (if t214 = 211 then (if (t218 == 7 && (t219 == 9 && (t220 == 3))) = true then (if t221 = true then (if t226 = true then (none) else (if t240.toList = ([50, 32, 51, 32, 51, 48, 32, 52, 32, 52, 48] : List UInt8) then ((script_Tell.f k 9 0 0 1 false 0 0 0 ([] : List (S50))).bind fun t242 => (some (t242.toList == ([101, 114, 114, 111, 114, 32, 49] : List UInt8)))) else (none))) else (none)) else (none)) else (none)) else (none)) else (none)) else (none)) else (none)) else (none)) else (none)) else (none)) else (none)) else (none)) else (none)) else (none)))) = some r := by first | (rw [hy234]; with_reducible exact H) | (have H2_ := (Option.bind_some _ _).symm.trans H; rw [hy234]; with_reducible exact H2_) | (have H2_ := (Option.bind_some _ _).symm.trans H; with_reducible exact H2_) | with_reducible exact H | (rw [hy234]; exact H) | exact H
  have Ny234 := Aside0.mk hy234
  clear hy234
  obtain ⟨y237, hy237⟩ : ∃ y_ : List (S50), y_ = (([(⟨3, 30⟩ : S50), (⟨4, 40⟩ : S50)] : List (S50))) := ⟨_, rfl⟩
  replace H : ((script_Tell.f k 7 0 0 0 false 0 0 0 y237).bind fun t240 => ((inclinelaw21_same.f k t182 y234).bind fun t241 => (if t241 = true then (if t183 = 0 then (if t184 = 0 then (if t188 = 2 then (if t189 = 211 then (if t193 = 1 then (if t194 = 212 then (if t198 = 1 then (if t199 = 213 then (if t208.toList = ([115, 97, 118, 101, 10, 112, 97, 116, 104, 32, 48, 32, 55, 10] : List UInt8) then (if t209 = 0 then (if t214 = 211 then (if (t218 == 7 && (t219 == 9 && (t220 == 3))) = true then (if t221 = true then (if t226 = true then (none) else (if t240.toList = ([50, 32, 51, 32, 51, 48, 32, 52, 32, 52, 48] : List UInt8) then ((script_Tell.f k 9 0 0 1 false 0 0 0 ([] : List (S50))).bind fun t242 => (some (t242.toList == ([101, 114, 114, 111, 114, 32, 49] : List UInt8)))) else (none))) else (none)) else (none)) else (none)) else (none)) else (none)) else (none)) else (none)) else (none)) else (none)) else (none)) else (none)) else (none)) else (none)) else (none)))) = some r := by first | (rw [hy237]; with_reducible exact H) | (have H2_ := (Option.bind_some _ _).symm.trans H; rw [hy237]; with_reducible exact H2_) | (have H2_ := (Option.bind_some _ _).symm.trans H; with_reducible exact H2_) | with_reducible exact H | (rw [hy237]; exact H) | exact H
  have Ny237 := Aside0.mk hy237
  clear hy237
  replace H := Option.bind_eq_some_iff.mp H
  obtain ⟨t240, A90, H⟩ := H
  replace H : ((inclinelaw21_same.f k t182 y234).bind fun t241 => (if t241 = true then (if t183 = 0 then (if t184 = 0 then (if t188 = 2 then (if t189 = 211 then (if t193 = 1 then (if t194 = 212 then (if t198 = 1 then (if t199 = 213 then (if t208.toList = ([115, 97, 118, 101, 10, 112, 97, 116, 104, 32, 48, 32, 55, 10] : List UInt8) then (if t209 = 0 then (if t214 = 211 then (if (t218 == 7 && (t219 == 9 && (t220 == 3))) = true then (if t221 = true then (if t226 = true then (none) else (if t240.toList = ([50, 32, 51, 32, 51, 48, 32, 52, 32, 52, 48] : List UInt8) then ((script_Tell.f k 9 0 0 1 false 0 0 0 ([] : List (S50))).bind fun t242 => (some (t242.toList == ([101, 114, 114, 111, 114, 32, 49] : List UInt8)))) else (none))) else (none)) else (none)) else (none)) else (none)) else (none)) else (none)) else (none)) else (none)) else (none)) else (none)) else (none)) else (none)) else (none)) else (none))) = some r := H
  have A9 := Aside0.mk A90
  clear A90
  replace H := Option.bind_eq_some_iff.mp H
  obtain ⟨t241, A100, H⟩ := H
  replace H : (if t241 = true then (if t183 = 0 then (if t184 = 0 then (if t188 = 2 then (if t189 = 211 then (if t193 = 1 then (if t194 = 212 then (if t198 = 1 then (if t199 = 213 then (if t208.toList = ([115, 97, 118, 101, 10, 112, 97, 116, 104, 32, 48, 32, 55, 10] : List UInt8) then (if t209 = 0 then (if t214 = 211 then (if (t218 == 7 && (t219 == 9 && (t220 == 3))) = true then (if t221 = true then (if t226 = true then (none) else (if t240.toList = ([50, 32, 51, 32, 51, 48, 32, 52, 32, 52, 48] : List UInt8) then ((script_Tell.f k 9 0 0 1 false 0 0 0 ([] : List (S50))).bind fun t242 => (some (t242.toList == ([101, 114, 114, 111, 114, 32, 49] : List UInt8)))) else (none))) else (none)) else (none)) else (none)) else (none)) else (none)) else (none)) else (none)) else (none)) else (none)) else (none)) else (none)) else (none)) else (none)) else (none)) = some r := H
  have A10 := Aside0.mk A100
  clear A100
  by_cases c11 : t241 = true
  · subst c11
    have H1 : (if t183 = 0 then (if t184 = 0 then (if t188 = 2 then (if t189 = 211 then (if t193 = 1 then (if t194 = 212 then (if t198 = 1 then (if t199 = 213 then (if t208.toList = ([115, 97, 118, 101, 10, 112, 97, 116, 104, 32, 48, 32, 55, 10] : List UInt8) then (if t209 = 0 then (if t214 = 211 then (if (t218 == 7 && (t219 == 9 && (t220 == 3))) = true then (if t221 = true then (if t226 = true then (none) else (if t240.toList = ([50, 32, 51, 32, 51, 48, 32, 52, 32, 52, 48] : List UInt8) then ((script_Tell.f k 9 0 0 1 false 0 0 0 ([] : List (S50))).bind fun t242 => (some (t242.toList == ([101, 114, 114, 111, 114, 32, 49] : List UInt8)))) else (none))) else (none)) else (none)) else (none)) else (none)) else (none)) else (none)) else (none)) else (none)) else (none)) else (none)) else (none)) else (none)) else (none)) = some r := by rw [if_pos rfl] at H; exact H
    clear H
    have H := H1
    clear H1
    by_cases c12 : t183 = 0
    · rw [if_pos c12] at H
      have c12b0 : (t183 == 0) = true := beq_iff_eq.mpr c12
      have c12b1 : (t183 != 0) = false := bne_eq_false_iff_eq.mpr c12
      clear c12
      by_cases c13 : t184 = 0
      · rw [if_pos c13] at H
        have c13b0 : (t184 == 0) = true := beq_iff_eq.mpr c13
        have c13b1 : (t184 != 0) = false := bne_eq_false_iff_eq.mpr c13
        clear c13
        by_cases c14 : t188 = 2
        · rw [if_pos c14] at H
          have c14b0 : (t188 == 2) = true := beq_iff_eq.mpr c14
          have c14b1 : (t188 != 2) = false := bne_eq_false_iff_eq.mpr c14
          clear c14
          by_cases c15 : t189 = 211
          · rw [if_pos c15] at H
            have c15b0 : (t189 == 211) = true := beq_iff_eq.mpr c15
            have c15b1 : (t189 != 211) = false := bne_eq_false_iff_eq.mpr c15
            clear c15
            by_cases c16 : t193 = 1
            · rw [if_pos c16] at H
              have c16b0 : (t193 == 1) = true := beq_iff_eq.mpr c16
              have c16b1 : (t193 != 1) = false := bne_eq_false_iff_eq.mpr c16
              clear c16
              by_cases c17 : t194 = 212
              · rw [if_pos c17] at H
                have c17b0 : (t194 == 212) = true := beq_iff_eq.mpr c17
                have c17b1 : (t194 != 212) = false := bne_eq_false_iff_eq.mpr c17
                clear c17
                by_cases c18 : t198 = 1
                · rw [if_pos c18] at H
                  have c18b0 : (t198 == 1) = true := beq_iff_eq.mpr c18
                  have c18b1 : (t198 != 1) = false := bne_eq_false_iff_eq.mpr c18
                  clear c18
                  by_cases c19 : t199 = 213
                  · rw [if_pos c19] at H
                    have c19b0 : (t199 == 213) = true := beq_iff_eq.mpr c19
                    have c19b1 : (t199 != 213) = false := bne_eq_false_iff_eq.mpr c19
                    clear c19
                    by_cases c20 : t208.toList = ([115, 97, 118, 101, 10, 112, 97, 116, 104, 32, 48, 32, 55, 10] : List UInt8)
                    · rw [if_pos c20] at H
                      have c20b0 : (t208.toList == ([115, 97, 118, 101, 10, 112, 97, 116, 104, 32, 48, 32, 55, 10] : List UInt8)) = true := beq_iff_eq.mpr c20
                      have c20b1 : (t208.toList != ([115, 97, 118, 101, 10, 112, 97, 116, 104, 32, 48, 32, 55, 10] : List UInt8)) = false := bne_eq_false_iff_eq.mpr c20
                      clear c20
                      by_cases c21 : t209 = 0
                      · rw [if_pos c21] at H
                        have c21b0 : (t209 == 0) = true := beq_iff_eq.mpr c21
                        have c21b1 : (t209 != 0) = false := bne_eq_false_iff_eq.mpr c21
                        clear c21
                        by_cases c22 : t214 = 211
                        · rw [if_pos c22] at H
                          have c22b0 : (t214 == 211) = true := beq_iff_eq.mpr c22
                          have c22b1 : (t214 != 211) = false := bne_eq_false_iff_eq.mpr c22
                          clear c22
                          by_cases c23 : (t218 == 7 && (t219 == 9 && (t220 == 3))) = true
                          · rw [if_pos c23] at H
                            have c23b0 : (t218 == 7 && (t219 == 9 && (t220 == 3))) = true := c23
                            (try (have c23b1 : decide (t218 = 7 && (t219 == 9 && (t220 == 3))) = true := by simpa using c23))
                            (try (have c23b2 : (t218 == 7 && (t219 == 9 && (t220 == 3))) = true := by simpa using c23))
                            clear c23
                            by_cases c24 : t221 = true
                            · subst c24
                              have H1 : (if t226 = true then (none) else (if t240.toList = ([50, 32, 51, 32, 51, 48, 32, 52, 32, 52, 48] : List UInt8) then ((script_Tell.f k 9 0 0 1 false 0 0 0 ([] : List (S50))).bind fun t242 => (some (t242.toList == ([101, 114, 114, 111, 114, 32, 49] : List UInt8)))) else (none))) = some r := by rw [if_pos rfl] at H; exact H
                              clear H
                              have H := H1
                              clear H1
                              by_cases c25 : t226 = true
                              · subst c25
                                have H1 : (none) = some r := by rw [if_pos rfl] at H; exact H
                                clear H
                                have H := H1
                                clear H1
                                exact absurd H (by simp)
                              · replace c25 := Bool.eq_false_iff.mpr c25
                                subst c25
                                have H1 : (if t240.toList = ([50, 32, 51, 32, 51, 48, 32, 52, 32, 52, 48] : List UInt8) then ((script_Tell.f k 9 0 0 1 false 0 0 0 ([] : List (S50))).bind fun t242 => (some (t242.toList == ([101, 114, 114, 111, 114, 32, 49] : List UInt8)))) else (none)) = some r := by rw [if_neg (show ¬ (false = true) by decide)] at H; exact H
                                clear H
                                have H := H1
                                clear H1
                                by_cases c26 : t240.toList = ([50, 32, 51, 32, 51, 48, 32, 52, 32, 52, 48] : List UInt8)
                                · rw [if_pos c26] at H
                                  have c26b0 : (t240.toList == ([50, 32, 51, 32, 51, 48, 32, 52, 32, 52, 48] : List UInt8)) = true := beq_iff_eq.mpr c26
                                  have c26b1 : (t240.toList != ([50, 32, 51, 32, 51, 48, 32, 52, 32, 52, 48] : List UInt8)) = false := bne_eq_false_iff_eq.mpr c26
                                  clear c26
                                  replace H := Option.bind_eq_some_iff.mp H
                                  obtain ⟨t242, A270, H⟩ := H
                                  replace H : (some (t242.toList == ([101, 114, 114, 111, 114, 32, 49] : List UInt8))) = some r := H
                                  have A27 := Aside0.mk A270
                                  clear A270
                                  obtain rfl := Option.some.inj H
                                  go_enter Tryd.func11, Tryd.ntmps11
                                  go_wp2_with (first | ((with_reducible refine gate_callee (f := 12) rfl ?_); refine goesL_ (some 24) rfl rfl Tryd.func12 (by kernel_rfl) rfl #[.string (⟨#[112, 117, 116, 32, 49, 32, 49, 48, 10, 10, 35, 32, 97, 108, 108, 10, 32, 32, 114, 97, 110, 103, 101, 32, 48, 32, 32, 32, 57, 32]⟩ : ByteArray)] rfl (by (try simp only [List.map_toArray, List.map_cons, List.map_nil]); first | done | rfl | (simp only [List.length_drop, List.length_take]; rfl)) ?_; (with_reducible refine (script_Parse.calls (⟨#[112, 117, 116, 32, 49, 32, 49, 48, 10, 10, 35, 32, 97, 108, 108, 10, 32, 32, 114, 97, 110, 103, 101, 32, 48, 32, 32, 32, 57, 32]⟩ : ByteArray) t182 t183 t184 _ A1.out).mono ?_); rintro e w28 ⟨v185, rfl, ho0, hb⟩; refine ⟨_, rfl, ?_⟩; have n0_ := Aside0.mk (Kd.N_lower (Kd.N_mono (ok' := fun k_ => True) (Kd.S_N (Kd.S_bound ho0)) (fun k_ hk_ => trivial)) (below_size (by repeat (first | (with_reducible first | exact HB.out | apply below_alloc | apply pw_below_drewN | apply below_drew1) | exact HB.out)))); have n1_ := Aside0.mk (below_step (by repeat (first | (with_reducible first | exact HB.out | apply below_alloc | apply pw_below_drewN | apply below_drew1) | exact HB.out)) hb); clear HB; have HO186 := n0_; have HB := n1_; clear n0_ n1_; (try clear hb); (try clear hb2); (try clear hk); (try clear hi); (try clear ho0)) | ((with_reducible refine gate_callee (f := 12) rfl ?_); refine goesL_ (some 29) rfl rfl Tryd.func12 (by kernel_rfl) rfl #[.string (⟨#[103, 101, 116, 32, 53, 10, 71, 101, 116, 32, 53]⟩ : ByteArray)] rfl (by (try simp only [List.map_toArray, List.map_cons, List.map_nil]); first | done | rfl | (simp only [List.length_drop, List.length_take]; rfl)) ?_; (with_reducible refine (script_Parse.calls (⟨#[103, 101, 116, 32, 53, 10, 71, 101, 116, 32, 53]⟩ : ByteArray) t187 t188 t189 _ A2.out).mono ?_); rintro e w29 ⟨v190, rfl, ho0, hb⟩; refine ⟨_, rfl, ?_⟩; have n0_ := Aside0.mk (Kd.N_elder' (by (with_reducible repeat (first | apply Kd.N_alloc | apply Kd.N_drewN | apply Kd.N_drew)); exact HO186.out) (Kd.N_base (Kd.S_N ho0)) hb); have n1_ := Aside0.mk (Kd.N_lower (Kd.N_mono (ok' := fun k_ => some k_ ≠ (v185 : Value).ownBlock) (Kd.S_N (Kd.S_bound ho0)) (fun k_ hk_ => (Kd.fresh' (Kd.N_lt (by (with_reducible repeat (first | apply Kd.N_alloc | apply Kd.N_drewN | apply Kd.N_drew)); exact HO186.out)) k_ hk_.2.1))) (below_size (by repeat (first | (with_reducible first | exact HB.out | apply below_alloc | apply pw_below_drewN | apply below_drew1) | exact HB.out)))); have n2_ := Aside0.mk (below_step (by repeat (first | (with_reducible first | exact HB.out | apply below_alloc | apply pw_below_drewN | apply below_drew1) | exact HB.out)) hb); clear HO186; clear HB; have HO186 := n0_; have HO191 := n1_; have HB := n2_; clear n0_ n1_ n2_; (try clear hb); (try clear hb2); (try clear hk); (try clear hi); (try clear ho0)) | ((with_reducible refine gate_callee (f := 12) rfl ?_); refine goesL_ (some 34) rfl rfl Tryd.func12 (by kernel_rfl) rfl #[.string (⟨#[103, 101, 116, 32, 48, 49]⟩ : ByteArray)] rfl (by (try simp only [List.map_toArray, List.map_cons, List.map_nil]); first | done | rfl | (simp only [List.length_drop, List.length_take]; rfl)) ?_; (with_reducible refine (script_Parse.calls (⟨#[103, 101, 116, 32, 48, 49]⟩ : ByteArray) t192 t193 t194 _ A3.out).mono ?_); rintro e w30 ⟨v195, rfl, ho0, hb⟩; refine ⟨_, rfl, ?_⟩; have n0_ := Aside0.mk (Kd.N_elder' (by (with_reducible repeat (first | apply Kd.N_alloc | apply Kd.N_drewN | apply Kd.N_drew)); exact HO186.out) (Kd.N_base (Kd.S_N ho0)) hb); have n1_ := Aside0.mk (Kd.N_elder' (by (with_reducible repeat (first | apply Kd.N_alloc | apply Kd.N_drewN | apply Kd.N_drew)); exact HO191.out) (Kd.N_base (Kd.S_N ho0)) hb); have n2_ := Aside0.mk (Kd.N_lower (Kd.N_mono (ok' := fun k_ => some k_ ≠ (v185 : Value).ownBlock ∧ some k_ ≠ (v190 : Value).ownBlock) (Kd.S_N (Kd.S_bound ho0)) (fun k_ hk_ => ⟨(Kd.fresh' (Kd.N_lt (by (with_reducible repeat (first | apply Kd.N_alloc | apply Kd.N_drewN | apply Kd.N_drew)); exact HO186.out)) k_ hk_.2.1), (Kd.fresh' (Kd.N_lt (by (with_reducible repeat (first | apply Kd.N_alloc | apply Kd.N_drewN | apply Kd.N_drew)); exact HO191.out)) k_ hk_.2.1)⟩)) (below_size (by repeat (first | (with_reducible first | exact HB.out | apply below_alloc | apply pw_below_drewN | apply below_drew1) | exact HB.out)))); have n3_ := Aside0.mk (below_step (by repeat (first | (with_reducible first | exact HB.out | apply below_alloc | apply pw_below_drewN | apply below_drew1) | exact HB.out)) hb); clear HO186; clear HO191; clear HB; have HO186 := n0_; have HO191 := n1_; have HO196 := n2_; have HB := n3_; clear n0_ n1_ n2_ n3_; (try clear hb); (try clear hb2); (try clear hk); (try clear hi); (try clear ho0)) | ((with_reducible refine gate_callee (f := 12) rfl ?_); refine goesL_ (some 39) rfl rfl Tryd.func12 (by kernel_rfl) rfl #[.string (⟨#[103, 101, 116]⟩ : ByteArray)] rfl (by (try simp only [List.map_toArray, List.map_cons, List.map_nil]); first | done | rfl | (simp only [List.length_drop, List.length_take]; rfl)) ?_; (with_reducible refine (script_Parse.calls (⟨#[103, 101, 116]⟩ : ByteArray) t197 t198 t199 _ A4.out).mono ?_); rintro e w31 ⟨v200, rfl, ho0, hb⟩; refine ⟨_, rfl, ?_⟩; have n0_ := Aside0.mk (Kd.N_elder' (by (with_reducible repeat (first | apply Kd.N_alloc | apply Kd.N_drewN | apply Kd.N_drew)); exact HO186.out) (Kd.N_base (Kd.S_N ho0)) hb); have n1_ := Aside0.mk (Kd.N_elder' (by (with_reducible repeat (first | apply Kd.N_alloc | apply Kd.N_drewN | apply Kd.N_drew)); exact HO191.out) (Kd.N_base (Kd.S_N ho0)) hb); have n2_ := Aside0.mk (Kd.N_elder' (by (with_reducible repeat (first | apply Kd.N_alloc | apply Kd.N_drewN | apply Kd.N_drew)); exact HO196.out) (Kd.N_base (Kd.S_N ho0)) hb); have n3_ := Aside0.mk (Kd.N_lower (Kd.N_mono (ok' := fun k_ => some k_ ≠ (v185 : Value).ownBlock ∧ some k_ ≠ (v190 : Value).ownBlock ∧ some k_ ≠ (v195 : Value).ownBlock) (Kd.S_N (Kd.S_bound ho0)) (fun k_ hk_ => ⟨(Kd.fresh' (Kd.N_lt (by (with_reducible repeat (first | apply Kd.N_alloc | apply Kd.N_drewN | apply Kd.N_drew)); exact HO186.out)) k_ hk_.2.1), (Kd.fresh' (Kd.N_lt (by (with_reducible repeat (first | apply Kd.N_alloc | apply Kd.N_drewN | apply Kd.N_drew)); exact HO191.out)) k_ hk_.2.1), (Kd.fresh' (Kd.N_lt (by (with_reducible repeat (first | apply Kd.N_alloc | apply Kd.N_drewN | apply Kd.N_drew)); exact HO196.out)) k_ hk_.2.1)⟩)) (below_size (by repeat (first | (with_reducible first | exact HB.out | apply below_alloc | apply pw_below_drewN | apply below_drew1) | exact HB.out)))); have n4_ := Aside0.mk (below_step (by repeat (first | (with_reducible first | exact HB.out | apply below_alloc | apply pw_below_drewN | apply below_drew1) | exact HB.out)) hb); clear HO186; clear HO191; clear HO196; clear HB; have HO186 := n0_; have HO191 := n1_; have HO196 := n2_; have HO201 := n3_; have HB := n4_; clear n0_ n1_ n2_ n3_ n4_; (try clear hb); (try clear hb2); (try clear hk); (try clear hi); (try clear ho0)) | ((with_reducible refine gate_dst (N := 45) rfl ?_); refine Kd.R_lit (Kd.int .u64) _ 31 ?hg (N := 45) ?hd (xs := ([0, 7] : List Int)) (inner := [.int .u64 0, .int .u64 7]) (ok := fun _ => True) (okp := fun _ => True) ?hr ?hp (fun _ hk => hk) trivial (Below.refl _ _) (Nat.le_refl _) (by simp) ?_; (case hd => rfl); (case hg => rfl); (case hr => first | (go_simp; done) | (go_simp; rfl)); (case hp => exact (Reps.one (show Kd.M (Kd.int .u64) _ _ _ 0 [.int .u64 0] from rfl) (Reps.one (show Kd.M (Kd.int .u64) _ _ _ 7 [.int .u64 7] from rfl) (Reps.none _ _)))); intro v203 w32 ho33 hb hg_ hnew_; clear hg_ hnew_; (first | rw [← Ny202.out] at ho33 | (simp only [Int.reduceToNat] at ho33; rw [← Ny202.out] at ho33)); have n0_ := Aside0.mk (Kd.N_elder' (by (with_reducible repeat (first | apply Kd.N_alloc | apply Kd.N_drewN | apply Kd.N_drew)); exact HO186.out) (Kd.R_base ho33) hb); have n1_ := Aside0.mk (Kd.N_elder' (by (with_reducible repeat (first | apply Kd.N_alloc | apply Kd.N_drewN | apply Kd.N_drew)); exact HO191.out) (Kd.R_base ho33) hb); have n2_ := Aside0.mk (Kd.N_elder' (by (with_reducible repeat (first | apply Kd.N_alloc | apply Kd.N_drewN | apply Kd.N_drew)); exact HO196.out) (Kd.R_base ho33) hb); have n3_ := Aside0.mk (Kd.N_elder' (by (with_reducible repeat (first | apply Kd.N_alloc | apply Kd.N_drewN | apply Kd.N_drew)); exact HO201.out) (Kd.R_base ho33) hb); have n4_ := Aside0.mk (Kd.R_lower ho33 (below_size (by repeat (first | (with_reducible first | exact HB.out | apply below_alloc | apply pw_below_drewN | apply below_drew1) | exact HB.out)))); have n5_ := Aside0.mk (below_step (by repeat (first | (with_reducible first | exact HB.out | apply below_alloc | apply pw_below_drewN | apply below_drew1) | exact HB.out)) hb); clear HO186; clear HO191; clear HO196; clear HO201; clear HB; have HO186 := n0_; have HO191 := n1_; have HO196 := n2_; have HO201 := n3_; have HO204 := n4_; have HB := n5_; clear n0_ n1_ n2_ n3_ n4_ n5_; clear hb ho33; obtain ⟨Ao34, co34, eo34⟩ := Kd.R_slice HO204.out; subst eo34) | ((with_reducible refine gate_dst (N := 47) rfl ?_); refine Kd.N_lit k30 _ 30 ?hg (N' := 47) ?hd (xs := ([(⟨(⟨#[115, 97, 118, 101]⟩ : ByteArray), ([] : List Int)⟩ : S30), (⟨(⟨#[112, 97, 116, 104]⟩ : ByteArray), y202⟩ : S30)] : List (S30))) (inner := [.string (⟨#[115, 97, 118, 101]⟩ : ByteArray), .slice none 0 0, .string (⟨#[112, 97, 116, 104]⟩ : ByteArray), .slice Ao34 y202.length co34]) (ok := (fun k_ => some k_ ≠ (v185 : Value).ownBlock ∧ some k_ ≠ (v190 : Value).ownBlock ∧ some k_ ≠ (v195 : Value).ownBlock ∧ some k_ ≠ (v200 : Value).ownBlock)) (okp := (fun k_ => some k_ ≠ (v185 : Value).ownBlock ∧ some k_ ≠ (v190 : Value).ownBlock ∧ some k_ ≠ (v195 : Value).ownBlock ∧ some k_ ≠ (v200 : Value).ownBlock)) ?hr ?hp (fun _ hk => hk) ((show ∀ k_, w32.heap.size ≤ k_ → (fun k_ => some k_ ≠ (v185 : Value).ownBlock ∧ some k_ ≠ (v190 : Value).ownBlock ∧ some k_ ≠ (v195 : Value).ownBlock ∧ some k_ ≠ (v200 : Value).ownBlock) k_ from fun k_ hk => ⟨Kd.fresh' (Kd.N_lt (by (with_reducible repeat (first | apply Kd.N_alloc | apply Kd.N_drewN | apply Kd.N_drew)); exact HO186.out)) k_ hk, Kd.fresh' (Kd.N_lt (by (with_reducible repeat (first | apply Kd.N_alloc | apply Kd.N_drewN | apply Kd.N_drew)); exact HO191.out)) k_ hk, Kd.fresh' (Kd.N_lt (by (with_reducible repeat (first | apply Kd.N_alloc | apply Kd.N_drewN | apply Kd.N_drew)); exact HO196.out)) k_ hk, Kd.fresh' (Kd.N_lt (by (with_reducible repeat (first | apply Kd.N_alloc | apply Kd.N_drewN | apply Kd.N_drew)); exact HO201.out)) k_ hk⟩) _ (Nat.le_refl _)) (Below.refl _ _) (Nat.le_refl _) (by simp) ?_; (case hd => rfl); (case hg => rfl); (case hr => first | (go_simp; done) | (go_simp; rfl)); (case hp => exact (Reps.c2 (show Kd.FK k30 _ _ (⟨(⟨#[115, 97, 118, 101]⟩ : ByteArray), ([] : List Int)⟩ : S30) [.string (⟨#[115, 97, 118, 101]⟩ : ByteArray), .slice none 0 0] from (k30_mkF _ _ (⟨(⟨#[115, 97, 118, 101]⟩ : ByteArray), ([] : List Int)⟩ : S30) (Nat.le_refl _) (Kd.F_nil _ _ _))) (Reps.c2 (show Kd.FK k30 _ _ (⟨(⟨#[112, 97, 116, 104]⟩ : ByteArray), y202⟩ : S30) [.string (⟨#[112, 97, 116, 104]⟩ : ByteArray), .slice Ao34 y202.length co34] from (k30_mkF _ _ (⟨(⟨#[112, 97, 116, 104]⟩ : ByteArray), y202⟩ : S30) (Kd.R_reads' (Kd.R_mono (ok' := (fun k_ => some k_ ≠ (v185 : Value).ownBlock ∧ some k_ ≠ (v190 : Value).ownBlock ∧ some k_ ≠ (v195 : Value).ownBlock ∧ some k_ ≠ (v200 : Value).ownBlock)) (Kd.R_apart' (Kd.R_apart' (Kd.R_apart' (Kd.R_apart' (HO204.out) (Kd.N_typed HO186.out) (by decide)) (Kd.N_typed HO191.out) (by decide)) (Kd.N_typed HO196.out) (by decide)) (Kd.N_typed HO201.out) (by decide)) (fun k_ hk => ⟨hk.1.1.1.2, ⟨hk.1.1.2, ⟨hk.1.2, hk.2⟩⟩⟩))).2.1 (Kd.R_F (Kd.R_mono (ok' := (fun k_ => some k_ ≠ (v185 : Value).ownBlock ∧ some k_ ≠ (v190 : Value).ownBlock ∧ some k_ ≠ (v195 : Value).ownBlock ∧ some k_ ≠ (v200 : Value).ownBlock)) (Kd.R_apart' (Kd.R_apart' (Kd.R_apart' (Kd.R_apart' (HO204.out) (Kd.N_typed HO186.out) (by decide)) (Kd.N_typed HO191.out) (by decide)) (Kd.N_typed HO196.out) (by decide)) (Kd.N_typed HO201.out) (by decide)) (fun k_ hk => ⟨hk.1.1.1.2, ⟨hk.1.1.2, ⟨hk.1.2, hk.2⟩⟩⟩))))) (Reps.none _ _)))); intro v206 w35 ho36 hb hg_ hnew_; clear hg_ hnew_; (first | rw [← Ny205.out] at ho36 | (simp only [Int.reduceToNat] at ho36; rw [← Ny205.out] at ho36)); have n0_ := Aside0.mk (Kd.N_elder' (by (with_reducible repeat (first | apply Kd.N_alloc | apply Kd.N_drewN | apply Kd.N_drew)); exact HO186.out) (Kd.N_base ho36) hb); have n1_ := Aside0.mk (Kd.N_elder' (by (with_reducible repeat (first | apply Kd.N_alloc | apply Kd.N_drewN | apply Kd.N_drew)); exact HO191.out) (Kd.N_base ho36) hb); have n2_ := Aside0.mk (Kd.N_elder' (by (with_reducible repeat (first | apply Kd.N_alloc | apply Kd.N_drewN | apply Kd.N_drew)); exact HO196.out) (Kd.N_base ho36) hb); have n3_ := Aside0.mk (Kd.N_elder' (by (with_reducible repeat (first | apply Kd.N_alloc | apply Kd.N_drewN | apply Kd.N_drew)); exact HO201.out) (Kd.N_base ho36) hb); have n4_ := Aside0.mk (Kd.N_lower ho36 (below_size (by repeat (first | (with_reducible first | exact HB.out | apply below_alloc | apply pw_below_drewN | apply below_drew1) | exact HB.out)))); have n5_ := Aside0.mk (below_step (by repeat (first | (with_reducible first | exact HB.out | apply below_alloc | apply pw_below_drewN | apply below_drew1) | exact HB.out)) hb); clear HO186; clear HO191; clear HO196; clear HO201; clear HB; clear HO204; have HO186 := n0_; have HO191 := n1_; have HO196 := n2_; have HO201 := n3_; have HO207 := n4_; have HB := n5_; clear n0_ n1_ n2_ n3_ n4_ n5_; clear hb ho36; obtain ⟨Ao37, co37, eo37⟩ := Kd.N_slice HO207.out; subst eo37) | ((with_reducible refine gate_callee (f := 16) rfl ?_); refine goesL_ (some 48) rfl rfl Tryd.func16 (by kernel_rfl) rfl #[.slice Ao37 y205.length co37] rfl (by (try simp only [List.map_toArray, List.map_cons, List.map_nil]); first | done | rfl | (simp only [List.length_drop, List.length_take]; rfl)) ?_; (with_reducible refine (script_Print.calls k _ _ y205 t208 t209 _ ?side1 ?side2 ?sideT A5.out).mono ?_); (case sideT => exact Tabs.keep HT.out (by repeat (first | (with_reducible first | exact HB.out | apply below_alloc | apply pw_below_drewN | apply below_drew1) | exact HB.out))); (case side1 => repeat (first | exact (Kd.N_reads' HO207.out).2.2 | (with_reducible refine Kd.C_alloc ?_ _) | (with_reducible refine Kd.C_drewN ?_ _) | (with_reducible refine Kd.C_drew ?_))); (case side2 => exact (Kd.N_reads' HO207.out).2.1); rintro e w38 ⟨rfl, hb⟩; refine ⟨_, rfl, ?_⟩; have n0_ := Aside0.mk (Kd.N_below (by (with_reducible repeat (first | apply Kd.N_alloc | apply Kd.N_drewN | apply Kd.N_drew)); exact HO186.out) hb); have n1_ := Aside0.mk (Kd.N_below (by (with_reducible repeat (first | apply Kd.N_alloc | apply Kd.N_drewN | apply Kd.N_drew)); exact HO191.out) hb); have n2_ := Aside0.mk (Kd.N_below (by (with_reducible repeat (first | apply Kd.N_alloc | apply Kd.N_drewN | apply Kd.N_drew)); exact HO196.out) hb); have n3_ := Aside0.mk (Kd.N_below (by (with_reducible repeat (first | apply Kd.N_alloc | apply Kd.N_drewN | apply Kd.N_drew)); exact HO201.out) hb); have n4_ := Aside0.mk (Kd.N_below (by (with_reducible repeat (first | apply Kd.N_alloc | apply Kd.N_drewN | apply Kd.N_drew)); exact HO207.out) hb); have n5_ := Aside0.mk (below_step (by repeat (first | (with_reducible first | exact HB.out | apply below_alloc | apply pw_below_drewN | apply below_drew1) | exact HB.out)) hb); clear HO186; clear HO191; clear HO196; clear HO201; clear HO207; clear HB; have HO186 := n0_; have HO191 := n1_; have HO196 := n2_; have HO201 := n3_; have HO207 := n4_; have HB := n5_; clear n0_ n1_ n2_ n3_ n4_ n5_; (try clear hb); (try clear hb2); (try clear hk); (try clear hi)) | ((with_reducible refine gate_dst (N := 53) rfl ?_); refine Kd.N_lit k30 _ 30 ?hg (N' := 53) ?hd (xs := ([(⟨(⟨#[83, 97, 118, 101]⟩ : ByteArray), ([] : List Int)⟩ : S30)] : List (S30))) (inner := [.string (⟨#[83, 97, 118, 101]⟩ : ByteArray), .slice none 0 0]) (ok := (fun k_ => some k_ ≠ (v185 : Value).ownBlock ∧ some k_ ≠ (v190 : Value).ownBlock ∧ some k_ ≠ (v195 : Value).ownBlock ∧ some k_ ≠ (v200 : Value).ownBlock ∧ some k_ ≠ (.slice Ao37 y205.length co37 : Value).ownBlock)) (okp := (fun k_ => some k_ ≠ (v185 : Value).ownBlock ∧ some k_ ≠ (v190 : Value).ownBlock ∧ some k_ ≠ (v195 : Value).ownBlock ∧ some k_ ≠ (v200 : Value).ownBlock ∧ some k_ ≠ (.slice Ao37 y205.length co37 : Value).ownBlock)) ?hr ?hp (fun _ hk => hk) ((show ∀ k_, w38.heap.size ≤ k_ → (fun k_ => some k_ ≠ (v185 : Value).ownBlock ∧ some k_ ≠ (v190 : Value).ownBlock ∧ some k_ ≠ (v195 : Value).ownBlock ∧ some k_ ≠ (v200 : Value).ownBlock ∧ some k_ ≠ (.slice Ao37 y205.length co37 : Value).ownBlock) k_ from fun k_ hk => ⟨Kd.fresh' (Kd.N_lt (by (with_reducible repeat (first | apply Kd.N_alloc | apply Kd.N_drewN | apply Kd.N_drew)); exact HO186.out)) k_ hk, Kd.fresh' (Kd.N_lt (by (with_reducible repeat (first | apply Kd.N_alloc | apply Kd.N_drewN | apply Kd.N_drew)); exact HO191.out)) k_ hk, Kd.fresh' (Kd.N_lt (by (with_reducible repeat (first | apply Kd.N_alloc | apply Kd.N_drewN | apply Kd.N_drew)); exact HO196.out)) k_ hk, Kd.fresh' (Kd.N_lt (by (with_reducible repeat (first | apply Kd.N_alloc | apply Kd.N_drewN | apply Kd.N_drew)); exact HO201.out)) k_ hk, Kd.fresh' (Kd.N_lt (by (with_reducible repeat (first | apply Kd.N_alloc | apply Kd.N_drewN | apply Kd.N_drew)); exact HO207.out)) k_ hk⟩) _ (Nat.le_refl _)) (Below.refl _ _) (Nat.le_refl _) (by simp) ?_; (case hd => rfl); (case hg => rfl); (case hr => first | (go_simp; done) | (go_simp; rfl)); (case hp => exact (Reps.c2 (show Kd.FK k30 _ _ (⟨(⟨#[83, 97, 118, 101]⟩ : ByteArray), ([] : List Int)⟩ : S30) [.string (⟨#[83, 97, 118, 101]⟩ : ByteArray), .slice none 0 0] from (k30_mkF _ _ (⟨(⟨#[83, 97, 118, 101]⟩ : ByteArray), ([] : List Int)⟩ : S30) (Nat.le_refl _) (Kd.F_nil _ _ _))) (Reps.none _ _))); intro v211 w39 ho40 hb hg_ hnew_; clear hg_ hnew_; (first | rw [← Ny210.out] at ho40 | (simp only [Int.reduceToNat] at ho40; rw [← Ny210.out] at ho40)); have n0_ := Aside0.mk (Kd.N_elder' (by (with_reducible repeat (first | apply Kd.N_alloc | apply Kd.N_drewN | apply Kd.N_drew)); exact HO186.out) (Kd.N_base ho40) hb); have n1_ := Aside0.mk (Kd.N_elder' (by (with_reducible repeat (first | apply Kd.N_alloc | apply Kd.N_drewN | apply Kd.N_drew)); exact HO191.out) (Kd.N_base ho40) hb); have n2_ := Aside0.mk (Kd.N_elder' (by (with_reducible repeat (first | apply Kd.N_alloc | apply Kd.N_drewN | apply Kd.N_drew)); exact HO196.out) (Kd.N_base ho40) hb); have n3_ := Aside0.mk (Kd.N_elder' (by (with_reducible repeat (first | apply Kd.N_alloc | apply Kd.N_drewN | apply Kd.N_drew)); exact HO201.out) (Kd.N_base ho40) hb); have n4_ := Aside0.mk (Kd.N_elder' (by (with_reducible repeat (first | apply Kd.N_alloc | apply Kd.N_drewN | apply Kd.N_drew)); exact HO207.out) (Kd.N_base ho40) hb); have n5_ := Aside0.mk (Kd.N_lower ho40 (below_size (by repeat (first | (with_reducible first | exact HB.out | apply below_alloc | apply pw_below_drewN | apply below_drew1) | exact HB.out)))); have n6_ := Aside0.mk (below_step (by repeat (first | (with_reducible first | exact HB.out | apply below_alloc | apply pw_below_drewN | apply below_drew1) | exact HB.out)) hb); clear HO186; clear HO191; clear HO196; clear HO201; clear HO207; clear HB; have HO186 := n0_; have HO191 := n1_; have HO196 := n2_; have HO201 := n3_; have HO207 := n4_; have HO212 := n5_; have HB := n6_; clear n0_ n1_ n2_ n3_ n4_ n5_ n6_; clear hb ho40; obtain ⟨Ao41, co41, eo41⟩ := Kd.N_slice HO212.out; subst eo41) | ((with_reducible refine gate_callee (f := 16) rfl ?_); refine goesL_ (some 54) rfl rfl Tryd.func16 (by kernel_rfl) rfl #[.slice Ao41 y210.length co41] rfl (by (try simp only [List.map_toArray, List.map_cons, List.map_nil]); first | done | rfl | (simp only [List.length_drop, List.length_take]; rfl)) ?_; (with_reducible refine (script_Print.calls k _ _ y210 t213 t214 _ ?side1 ?side2 ?sideT A6.out).mono ?_); (case sideT => exact Tabs.keep HT.out (by repeat (first | (with_reducible first | exact HB.out | apply below_alloc | apply pw_below_drewN | apply below_drew1) | exact HB.out))); (case side1 => repeat (first | exact (Kd.N_reads' HO212.out).2.2 | (with_reducible refine Kd.C_alloc ?_ _) | (with_reducible refine Kd.C_drewN ?_ _) | (with_reducible refine Kd.C_drew ?_))); (case side2 => exact (Kd.N_reads' HO212.out).2.1); rintro e w42 ⟨rfl, hb⟩; refine ⟨_, rfl, ?_⟩; have n0_ := Aside0.mk (Kd.N_below (by (with_reducible repeat (first | apply Kd.N_alloc | apply Kd.N_drewN | apply Kd.N_drew)); exact HO186.out) hb); have n1_ := Aside0.mk (Kd.N_below (by (with_reducible repeat (first | apply Kd.N_alloc | apply Kd.N_drewN | apply Kd.N_drew)); exact HO191.out) hb); have n2_ := Aside0.mk (Kd.N_below (by (with_reducible repeat (first | apply Kd.N_alloc | apply Kd.N_drewN | apply Kd.N_drew)); exact HO196.out) hb); have n3_ := Aside0.mk (Kd.N_below (by (with_reducible repeat (first | apply Kd.N_alloc | apply Kd.N_drewN | apply Kd.N_drew)); exact HO201.out) hb); have n4_ := Aside0.mk (Kd.N_below (by (with_reducible repeat (first | apply Kd.N_alloc | apply Kd.N_drewN | apply Kd.N_drew)); exact HO207.out) hb); have n5_ := Aside0.mk (Kd.N_below (by (with_reducible repeat (first | apply Kd.N_alloc | apply Kd.N_drewN | apply Kd.N_drew)); exact HO212.out) hb); have n6_ := Aside0.mk (below_step (by repeat (first | (with_reducible first | exact HB.out | apply below_alloc | apply pw_below_drewN | apply below_drew1) | exact HB.out)) hb); clear HO186; clear HO191; clear HO196; clear HO201; clear HO207; clear HO212; clear HB; have HO186 := n0_; have HO191 := n1_; have HO196 := n2_; have HO201 := n3_; have HO207 := n4_; have HO212 := n5_; have HB := n6_; clear n0_ n1_ n2_ n3_ n4_ n5_ n6_; (try clear hb); (try clear hb2); (try clear hk); (try clear hi)) | ((with_reducible refine gate_dst (N := 58) rfl ?_); refine Kd.R_lit (Kd.int .u64) _ 31 ?hg (N := 58) ?hd (xs := ([9, 3] : List Int)) (inner := [.int .u64 9, .int .u64 3]) (ok := fun _ => True) (okp := fun _ => True) ?hr ?hp (fun _ hk => hk) trivial (Below.refl _ _) (Nat.le_refl _) (by simp) ?_; (case hd => rfl); (case hg => rfl); (case hr => first | (go_simp; done) | (go_simp; rfl)); (case hp => exact (Reps.one (show Kd.M (Kd.int .u64) _ _ _ 9 [.int .u64 9] from rfl) (Reps.one (show Kd.M (Kd.int .u64) _ _ _ 3 [.int .u64 3] from rfl) (Reps.none _ _)))); intro v216 w43 ho44 hb hg_ hnew_; clear hg_ hnew_; (first | rw [← Ny215.out] at ho44 | (simp only [Int.reduceToNat] at ho44; rw [← Ny215.out] at ho44)); have n0_ := Aside0.mk (Kd.N_elder' (by (with_reducible repeat (first | apply Kd.N_alloc | apply Kd.N_drewN | apply Kd.N_drew)); exact HO186.out) (Kd.R_base ho44) hb); have n1_ := Aside0.mk (Kd.N_elder' (by (with_reducible repeat (first | apply Kd.N_alloc | apply Kd.N_drewN | apply Kd.N_drew)); exact HO191.out) (Kd.R_base ho44) hb); have n2_ := Aside0.mk (Kd.N_elder' (by (with_reducible repeat (first | apply Kd.N_alloc | apply Kd.N_drewN | apply Kd.N_drew)); exact HO196.out) (Kd.R_base ho44) hb); have n3_ := Aside0.mk (Kd.N_elder' (by (with_reducible repeat (first | apply Kd.N_alloc | apply Kd.N_drewN | apply Kd.N_drew)); exact HO201.out) (Kd.R_base ho44) hb); have n4_ := Aside0.mk (Kd.N_elder' (by (with_reducible repeat (first | apply Kd.N_alloc | apply Kd.N_drewN | apply Kd.N_drew)); exact HO207.out) (Kd.R_base ho44) hb); have n5_ := Aside0.mk (Kd.N_elder' (by (with_reducible repeat (first | apply Kd.N_alloc | apply Kd.N_drewN | apply Kd.N_drew)); exact HO212.out) (Kd.R_base ho44) hb); have n6_ := Aside0.mk (Kd.R_lower ho44 (below_size (by repeat (first | (with_reducible first | exact HB.out | apply below_alloc | apply pw_below_drewN | apply below_drew1) | exact HB.out)))); have n7_ := Aside0.mk (below_step (by repeat (first | (with_reducible first | exact HB.out | apply below_alloc | apply pw_below_drewN | apply below_drew1) | exact HB.out)) hb); clear HO186; clear HO191; clear HO196; clear HO201; clear HO207; clear HO212; clear HB; have HO186 := n0_; have HO191 := n1_; have HO196 := n2_; have HO201 := n3_; have HO207 := n4_; have HO212 := n5_; have HO217 := n6_; have HB := n7_; clear n0_ n1_ n2_ n3_ n4_ n5_ n6_ n7_; clear hb ho44; obtain ⟨Ao45, co45, eo45⟩ := Kd.R_slice HO217.out; subst eo45) | ((with_reducible refine gate_callee (f := 18) rfl ?_); refine goesL_ (some 60) rfl rfl Tryd.func18 (by kernel_rfl) rfl #[.agg #[.string (⟨#[114, 97, 110, 103, 101]⟩ : ByteArray), .slice Ao45 y215.length co45]] rfl (by (try simp only [List.map_toArray, List.map_cons, List.map_nil]); first | done | rfl | (simp only [List.length_drop, List.length_take]; rfl)) ?_; (with_reducible refine (script_Op.calls k (⟨#[114, 97, 110, 103, 101]⟩ : ByteArray) _ _ y215 t218 t219 t220 true _ ?side1 ?side2 A7.out).mono ?_); (case side1 => repeat (first | exact (Kd.R_reads' HO217.out).2.2 | (with_reducible refine Kd.C_alloc ?_ _) | (with_reducible refine Kd.C_drewN ?_ _) | (with_reducible refine Kd.C_drew ?_))); (case side2 => exact (Kd.R_reads' HO217.out).2.1); rintro e w46 ⟨rfl, hb⟩; refine ⟨_, rfl, ?_⟩; have n0_ := Aside0.mk (Kd.N_below (by (with_reducible repeat (first | apply Kd.N_alloc | apply Kd.N_drewN | apply Kd.N_drew)); exact HO186.out) hb); have n1_ := Aside0.mk (Kd.N_below (by (with_reducible repeat (first | apply Kd.N_alloc | apply Kd.N_drewN | apply Kd.N_drew)); exact HO191.out) hb); have n2_ := Aside0.mk (Kd.N_below (by (with_reducible repeat (first | apply Kd.N_alloc | apply Kd.N_drewN | apply Kd.N_drew)); exact HO196.out) hb); have n3_ := Aside0.mk (Kd.N_below (by (with_reducible repeat (first | apply Kd.N_alloc | apply Kd.N_drewN | apply Kd.N_drew)); exact HO201.out) hb); have n4_ := Aside0.mk (Kd.N_below (by (with_reducible repeat (first | apply Kd.N_alloc | apply Kd.N_drewN | apply Kd.N_drew)); exact HO207.out) hb); have n5_ := Aside0.mk (Kd.N_below (by (with_reducible repeat (first | apply Kd.N_alloc | apply Kd.N_drewN | apply Kd.N_drew)); exact HO212.out) hb); have n6_ := Aside0.mk (Kd.R_below (by (with_reducible repeat (first | apply Kd.R_alloc | apply Kd.R_drewN | apply Kd.R_drew)); exact HO217.out) hb); have n7_ := Aside0.mk (below_step (by repeat (first | (with_reducible first | exact HB.out | apply below_alloc | apply pw_below_drewN | apply below_drew1) | exact HB.out)) hb); clear HO186; clear HO191; clear HO196; clear HO201; clear HO207; clear HO212; clear HO217; clear HB; have HO186 := n0_; have HO191 := n1_; have HO196 := n2_; have HO201 := n3_; have HO207 := n4_; have HO212 := n5_; have HO217 := n6_; have HB := n7_; clear n0_ n1_ n2_ n3_ n4_ n5_ n6_ n7_; (try clear hb); (try clear hb2); (try clear hk); (try clear hi)) | ((with_reducible refine gate_dst (N := 17) rfl ?_); refine box_event ?hg (N := 17) ?hd (cs := #[.int .i64 0, .int .u64 0, .int .u64 0]) (t := 38) ?hr ?_; (case hd => rfl); (case hg => rfl); (case hr => first | (go_simp; done) | (go_simp; rfl)); intro gb222 hg w47 hbox hb; have n0_ := Aside0.mk (Kd.N_below (Kd.N_elderB (by (with_reducible repeat (first | apply Kd.N_alloc | apply Kd.N_drewN | apply Kd.N_drew)); exact HO186.out) gb222 (Nat.le_of_eq hg.symm)) hb); have n1_ := Aside0.mk (Kd.N_below (Kd.N_elderB (by (with_reducible repeat (first | apply Kd.N_alloc | apply Kd.N_drewN | apply Kd.N_drew)); exact HO191.out) gb222 (Nat.le_of_eq hg.symm)) hb); have n2_ := Aside0.mk (Kd.N_below (Kd.N_elderB (by (with_reducible repeat (first | apply Kd.N_alloc | apply Kd.N_drewN | apply Kd.N_drew)); exact HO196.out) gb222 (Nat.le_of_eq hg.symm)) hb); have n3_ := Aside0.mk (Kd.N_below (Kd.N_elderB (by (with_reducible repeat (first | apply Kd.N_alloc | apply Kd.N_drewN | apply Kd.N_drew)); exact HO201.out) gb222 (Nat.le_of_eq hg.symm)) hb); have n4_ := Aside0.mk (Kd.N_below (Kd.N_elderB (by (with_reducible repeat (first | apply Kd.N_alloc | apply Kd.N_drewN | apply Kd.N_drew)); exact HO207.out) gb222 (Nat.le_of_eq hg.symm)) hb); have n5_ := Aside0.mk (Kd.N_below (Kd.N_elderB (by (with_reducible repeat (first | apply Kd.N_alloc | apply Kd.N_drewN | apply Kd.N_drew)); exact HO212.out) gb222 (Nat.le_of_eq hg.symm)) hb); have n6_ := Aside0.mk (Kd.R_below (by (with_reducible repeat (first | apply Kd.R_alloc | apply Kd.R_drewN | apply Kd.R_drew)); exact HO217.out) hb); have n7_ := Aside0.mk (below_step (by repeat (first | (with_reducible first | exact HB.out | apply below_alloc | apply pw_below_drewN | apply below_drew1) | exact HB.out)) hb); have n8_ := Aside0.mk (hbox); have n9_ := Aside0.mk ((by rw [hg]; exact (below_size (by repeat (first | (with_reducible first | exact HB.out | apply below_alloc | apply pw_below_drewN | apply below_drew1) | exact HB.out))) : w.heap.size ≤ gb222)); have n10_ := Aside0.mk ((by rw [hg]; exact (below_size (by repeat (first | (with_reducible first | exact HB.out | apply below_alloc | apply pw_below_drewN | apply below_drew1) | exact HB.out))) : w.heap.size ≤ gb222)); clear HO186; clear HO191; clear HO196; clear HO201; clear HO207; clear HO212; clear HO217; clear HB; have HO186 := n0_; have HO191 := n1_; have HO196 := n2_; have HO201 := n3_; have HO207 := n4_; have HO212 := n5_; have HO217 := n6_; have HB := n7_; have BK222 := n8_; have GW222 := n9_; have GE222 := n10_; clear n0_ n1_ n2_ n3_ n4_ n5_ n6_ n7_ n8_ n9_ n10_; clear hb hbox hg; have hcz48_0 : w47.cell? ⟨gb222, 0, none⟩ = some (.int .i64 0) := (blk_cell BK222.out 0).trans rfl; have hcz48_1 : w47.cell? ⟨gb222, 1, none⟩ = some (.int .u64 0) := (blk_cell BK222.out 1).trans rfl; have hcz48_2 : w47.cell? ⟨gb222, 2, none⟩ = some (.int .u64 0) := (blk_cell BK222.out 2).trans rfl; have hfz48_0 := blk_frozen BK222.out 0; have hfz48_1 := blk_frozen BK222.out 1; have hfz48_2 := blk_frozen BK222.out 2) | ((with_reducible refine gate_callee (f := 18) rfl ?_); refine goesL_ (some 65) rfl rfl Tryd.func18 (by kernel_rfl) rfl #[.agg #[.string (⟨#[115, 116, 97, 116, 115]⟩ : ByteArray), .slice none 0 0]] rfl (by (try simp only [List.map_toArray, List.map_cons, List.map_nil]); first | done | rfl | (simp only [List.length_drop, List.length_take]; rfl)) ?_; (refine (script_Op.calls k (⟨#[115, 116, 97, 116, 115]⟩ : ByteArray) _ _ ([] : List Int) t223 t224 t225 false _ ?side1 ?side2 A8.out).mono ?_); (case side1 => exact Kd.C_nil _ _); (case side2 => exact Nat.le_refl _); rintro e w49 ⟨rfl, hb⟩; refine ⟨_, rfl, ?_⟩; have n0_ := Aside0.mk (Kd.N_below (by (with_reducible repeat (first | apply Kd.N_alloc | apply Kd.N_drewN | apply Kd.N_drew)); exact (Kd.N_mono (Kd.N_far (p := ⟨gb222, 2, none⟩) (Kd.N_far (p := ⟨gb222, 1, none⟩) (Kd.N_far (p := ⟨gb222, 0, none⟩) (Kd.N_mono HO186.out (fun k_ hk => (⟨hk, hk.2⟩ : _ ∧ k_ ≠ gb222))) (fun _ hk => hk.2) (.int .i64 t218)) (fun _ hk => hk.2) (.int .u64 t219)) (fun _ hk => hk.2) (.int .u64 t220)) (fun _ h_ => h_.1))) hb); have n1_ := Aside0.mk (Kd.N_below (by (with_reducible repeat (first | apply Kd.N_alloc | apply Kd.N_drewN | apply Kd.N_drew)); exact (Kd.N_mono (Kd.N_far (p := ⟨gb222, 2, none⟩) (Kd.N_far (p := ⟨gb222, 1, none⟩) (Kd.N_far (p := ⟨gb222, 0, none⟩) (Kd.N_mono HO191.out (fun k_ hk => (⟨hk, hk.2⟩ : _ ∧ k_ ≠ gb222))) (fun _ hk => hk.2) (.int .i64 t218)) (fun _ hk => hk.2) (.int .u64 t219)) (fun _ hk => hk.2) (.int .u64 t220)) (fun _ h_ => h_.1))) hb); have n2_ := Aside0.mk (Kd.N_below (by (with_reducible repeat (first | apply Kd.N_alloc | apply Kd.N_drewN | apply Kd.N_drew)); exact (Kd.N_mono (Kd.N_far (p := ⟨gb222, 2, none⟩) (Kd.N_far (p := ⟨gb222, 1, none⟩) (Kd.N_far (p := ⟨gb222, 0, none⟩) (Kd.N_mono HO196.out (fun k_ hk => (⟨hk, hk.2⟩ : _ ∧ k_ ≠ gb222))) (fun _ hk => hk.2) (.int .i64 t218)) (fun _ hk => hk.2) (.int .u64 t219)) (fun _ hk => hk.2) (.int .u64 t220)) (fun _ h_ => h_.1))) hb); have n3_ := Aside0.mk (Kd.N_below (by (with_reducible repeat (first | apply Kd.N_alloc | apply Kd.N_drewN | apply Kd.N_drew)); exact (Kd.N_mono (Kd.N_far (p := ⟨gb222, 2, none⟩) (Kd.N_far (p := ⟨gb222, 1, none⟩) (Kd.N_far (p := ⟨gb222, 0, none⟩) (Kd.N_mono HO201.out (fun k_ hk => (⟨hk, hk.2⟩ : _ ∧ k_ ≠ gb222))) (fun _ hk => hk.2) (.int .i64 t218)) (fun _ hk => hk.2) (.int .u64 t219)) (fun _ hk => hk.2) (.int .u64 t220)) (fun _ h_ => h_.1))) hb); have n4_ := Aside0.mk (Kd.N_below (by (with_reducible repeat (first | apply Kd.N_alloc | apply Kd.N_drewN | apply Kd.N_drew)); exact (Kd.N_mono (Kd.N_far (p := ⟨gb222, 2, none⟩) (Kd.N_far (p := ⟨gb222, 1, none⟩) (Kd.N_far (p := ⟨gb222, 0, none⟩) (Kd.N_mono HO207.out (fun k_ hk => (⟨hk, hk.2⟩ : _ ∧ k_ ≠ gb222))) (fun _ hk => hk.2) (.int .i64 t218)) (fun _ hk => hk.2) (.int .u64 t219)) (fun _ hk => hk.2) (.int .u64 t220)) (fun _ h_ => h_.1))) hb); have n5_ := Aside0.mk (Kd.N_below (by (with_reducible repeat (first | apply Kd.N_alloc | apply Kd.N_drewN | apply Kd.N_drew)); exact (Kd.N_mono (Kd.N_far (p := ⟨gb222, 2, none⟩) (Kd.N_far (p := ⟨gb222, 1, none⟩) (Kd.N_far (p := ⟨gb222, 0, none⟩) (Kd.N_mono HO212.out (fun k_ hk => (⟨hk, hk.2⟩ : _ ∧ k_ ≠ gb222))) (fun _ hk => hk.2) (.int .i64 t218)) (fun _ hk => hk.2) (.int .u64 t219)) (fun _ hk => hk.2) (.int .u64 t220)) (fun _ h_ => h_.1))) hb); have n6_ := Aside0.mk (Kd.R_below (by (with_reducible repeat (first | apply Kd.R_alloc | apply Kd.R_drewN | apply Kd.R_drew)); exact (Kd.R_mono (Kd.R_far (p := ⟨gb222, 2, none⟩) (Kd.R_far (p := ⟨gb222, 1, none⟩) (Kd.R_far (p := ⟨gb222, 0, none⟩) (Kd.R_types HO217.out BK222.out (by decide)) (fun _ hk => hk.2) (.int .i64 t218)) (fun _ hk => hk.2) (.int .u64 t219)) (fun _ hk => hk.2) (.int .u64 t220)) (fun _ h_ => h_.1))) hb); have n7_ := Aside0.mk (blk_below (g := gb222) (o := .cells #[.int .i64 t218, .int .u64 t219, .int .u64 t220] 38 (0, 0)) (by (with_reducible repeat (first | refine blk_drewN ?_ _ | refine blk_drew ?_ | refine blk_alloc ?_ _)); refine blk_put (cs := #[.int .i64 t218, .int .u64 t219, .int .u64 0]) ?_ 2 _ rfl; (with_reducible repeat (first | refine blk_drewN ?_ _ | refine blk_drew ?_ | refine blk_alloc ?_ _)); refine blk_put (cs := #[.int .i64 t218, .int .u64 0, .int .u64 0]) ?_ 1 _ rfl; (with_reducible repeat (first | refine blk_drewN ?_ _ | refine blk_drew ?_ | refine blk_alloc ?_ _)); refine blk_put (cs := #[.int .i64 0, .int .u64 0, .int .u64 0]) ?_ 0 _ rfl; (with_reducible repeat (first | refine blk_drewN ?_ _ | refine blk_drew ?_ | refine blk_alloc ?_ _)); exact BK222.out) hb); have n8_ := Aside0.mk (below_step (by repeat (first | (with_reducible first | exact HB.out | apply below_alloc | apply pw_below_drewN | apply below_drew1 | refine below_set ?_ GE222.out) | exact HB.out)) hb); clear HO186; clear HO191; clear HO196; clear HO201; clear HO207; clear HO212; clear HO217; clear BK222; clear HB; have HO186 := n0_; have HO191 := n1_; have HO196 := n2_; have HO201 := n3_; have HO207 := n4_; have HO212 := n5_; have HO217 := n6_; have BK222 := n7_; have HB := n8_; clear n0_ n1_ n2_ n3_ n4_ n5_ n6_ n7_ n8_; (try clear hb); (try clear hb2); (try clear hk); (try clear hi)) | ((with_reducible refine gate_dst (N := 19) rfl ?_); refine box_event ?hg (N := 19) ?hd (cs := #[.int .i64 0, .int .u64 0, .int .u64 0]) (t := 38) ?hr ?_; (case hd => rfl); (case hg => rfl); (case hr => first | (go_simp; done) | (go_simp; rfl)); intro gb227 hg w50 hbox hb; have n0_ := Aside0.mk (Kd.N_below (Kd.N_elderB (by (with_reducible repeat (first | apply Kd.N_alloc | apply Kd.N_drewN | apply Kd.N_drew)); exact HO186.out) gb227 (Nat.le_of_eq hg.symm)) hb); have n1_ := Aside0.mk (Kd.N_below (Kd.N_elderB (by (with_reducible repeat (first | apply Kd.N_alloc | apply Kd.N_drewN | apply Kd.N_drew)); exact HO191.out) gb227 (Nat.le_of_eq hg.symm)) hb); have n2_ := Aside0.mk (Kd.N_below (Kd.N_elderB (by (with_reducible repeat (first | apply Kd.N_alloc | apply Kd.N_drewN | apply Kd.N_drew)); exact HO196.out) gb227 (Nat.le_of_eq hg.symm)) hb); have n3_ := Aside0.mk (Kd.N_below (Kd.N_elderB (by (with_reducible repeat (first | apply Kd.N_alloc | apply Kd.N_drewN | apply Kd.N_drew)); exact HO201.out) gb227 (Nat.le_of_eq hg.symm)) hb); have n4_ := Aside0.mk (Kd.N_below (Kd.N_elderB (by (with_reducible repeat (first | apply Kd.N_alloc | apply Kd.N_drewN | apply Kd.N_drew)); exact HO207.out) gb227 (Nat.le_of_eq hg.symm)) hb); have n5_ := Aside0.mk (Kd.N_below (Kd.N_elderB (by (with_reducible repeat (first | apply Kd.N_alloc | apply Kd.N_drewN | apply Kd.N_drew)); exact HO212.out) gb227 (Nat.le_of_eq hg.symm)) hb); have n6_ := Aside0.mk (Kd.R_below (by (with_reducible repeat (first | apply Kd.R_alloc | apply Kd.R_drewN | apply Kd.R_drew)); exact HO217.out) hb); have n7_ := Aside0.mk (blk_below (g := gb222) (o := .cells #[.int .i64 t218, .int .u64 t219, .int .u64 t220] 38 (0, 0)) (by (with_reducible repeat (first | refine blk_drewN ?_ _ | refine blk_drew ?_ | refine blk_alloc ?_ _)); exact BK222.out) hb); have n8_ := Aside0.mk (below_step (by repeat (first | (with_reducible first | exact HB.out | apply below_alloc | apply pw_below_drewN | apply below_drew1 | refine below_set ?_ GE222.out) | exact HB.out)) hb); have n9_ := Aside0.mk (hbox); have n10_ := Aside0.mk ((by rw [hg]; exact (below_size (by repeat (first | (with_reducible first | exact HB.out | apply below_alloc | apply pw_below_drewN | apply below_drew1 | refine below_set ?_ GE222.out) | exact HB.out))) : w.heap.size ≤ gb227)); have n11_ := Aside0.mk ((by rw [hg]; exact (below_size (by repeat (first | (with_reducible first | exact HB.out | apply below_alloc | apply pw_below_drewN | apply below_drew1 | refine below_set ?_ GE222.out) | exact HB.out))) : w.heap.size ≤ gb227)); have n12_ := Aside0.mk ((by rw [hg]; exact Nat.ne_of_lt (blk_lt (g := gb222) (o := .cells #[.int .i64 t218, .int .u64 t219, .int .u64 t220] 38 (0, 0)) (by (with_reducible repeat (first | refine blk_drewN ?_ _ | refine blk_drew ?_ | refine blk_alloc ?_ _)); exact BK222.out)) : gb222 ≠ gb227)); have n13_ := Aside0.mk ((by rw [hg]; exact Nat.ne_of_gt (blk_lt (g := gb222) (o := .cells #[.int .i64 t218, .int .u64 t219, .int .u64 t220] 38 (0, 0)) (by (with_reducible repeat (first | refine blk_drewN ?_ _ | refine blk_drew ?_ | refine blk_alloc ?_ _)); exact BK222.out)) : gb227 ≠ gb222)); clear HO186; clear HO191; clear HO196; clear HO201; clear HO207; clear HO212; clear HO217; clear BK222; clear HB; have HO186 := n0_; have HO191 := n1_; have HO196 := n2_; have HO201 := n3_; have HO207 := n4_; have HO212 := n5_; have HO217 := n6_; have BK222 := n7_; have HB := n8_; have BK227 := n9_; have GW227 := n10_; have GE227 := n11_; have NB222_227 := n12_; have NB227_222 := n13_; clear n0_ n1_ n2_ n3_ n4_ n5_ n6_ n7_ n8_ n9_ n10_ n11_ n12_ n13_; clear hb hbox hg; have hnb51 := NB227_222.out; have hnc51 := NB222_227.out; have hcz52_0 : w50.cell? ⟨gb227, 0, none⟩ = some (.int .i64 0) := (blk_cell BK227.out 0).trans rfl; have hcz52_1 : w50.cell? ⟨gb227, 1, none⟩ = some (.int .u64 0) := (blk_cell BK227.out 1).trans rfl; have hcz52_2 : w50.cell? ⟨gb227, 2, none⟩ = some (.int .u64 0) := (blk_cell BK227.out 2).trans rfl; have hfz52_0 := blk_frozen BK227.out 0; have hfz52_1 := blk_frozen BK227.out 1; have hfz52_2 := blk_frozen BK227.out 2) | ((with_reducible refine gate_dst (N := 68) rfl ?_); refine Kd.R_lit (Kd.int .u64) _ 31 ?hg (N := 68) ?hd (xs := ([1, 10] : List Int)) (inner := [.int .u64 1, .int .u64 10]) (ok := fun _ => True) (okp := fun _ => True) ?hr ?hp (fun _ hk => hk) trivial (Below.refl _ _) (Nat.le_refl _) (by simp) ?_; (case hd => rfl); (case hg => rfl); (case hr => first | (go_simp; done) | (go_simp; rfl)); (case hp => exact (Reps.one (show Kd.M (Kd.int .u64) _ _ _ 1 [.int .u64 1] from rfl) (Reps.one (show Kd.M (Kd.int .u64) _ _ _ 10 [.int .u64 10] from rfl) (Reps.none _ _)))); intro v229 w53 ho54 hb hg_ hnew_; clear hg_ hnew_; (first | rw [← Ny228.out] at ho54 | (simp only [Int.reduceToNat] at ho54; rw [← Ny228.out] at ho54)); have n0_ := Aside0.mk (Kd.N_elder' (by (with_reducible repeat (first | apply Kd.N_alloc | apply Kd.N_drewN | apply Kd.N_drew)); exact (Kd.N_mono (Kd.N_far (p := ⟨gb227, 2, none⟩) (Kd.N_far (p := ⟨gb227, 1, none⟩) (Kd.N_far (p := ⟨gb227, 0, none⟩) (Kd.N_mono HO186.out (fun k_ hk => (⟨hk, hk.2⟩ : _ ∧ k_ ≠ gb227))) (fun _ hk => hk.2) (.int .i64 t223)) (fun _ hk => hk.2) (.int .u64 t224)) (fun _ hk => hk.2) (.int .u64 t225)) (fun _ h_ => h_.1))) (Kd.R_base ho54) hb); have n1_ := Aside0.mk (Kd.N_elder' (by (with_reducible repeat (first | apply Kd.N_alloc | apply Kd.N_drewN | apply Kd.N_drew)); exact (Kd.N_mono (Kd.N_far (p := ⟨gb227, 2, none⟩) (Kd.N_far (p := ⟨gb227, 1, none⟩) (Kd.N_far (p := ⟨gb227, 0, none⟩) (Kd.N_mono HO191.out (fun k_ hk => (⟨hk, hk.2⟩ : _ ∧ k_ ≠ gb227))) (fun _ hk => hk.2) (.int .i64 t223)) (fun _ hk => hk.2) (.int .u64 t224)) (fun _ hk => hk.2) (.int .u64 t225)) (fun _ h_ => h_.1))) (Kd.R_base ho54) hb); have n2_ := Aside0.mk (Kd.N_elder' (by (with_reducible repeat (first | apply Kd.N_alloc | apply Kd.N_drewN | apply Kd.N_drew)); exact (Kd.N_mono (Kd.N_far (p := ⟨gb227, 2, none⟩) (Kd.N_far (p := ⟨gb227, 1, none⟩) (Kd.N_far (p := ⟨gb227, 0, none⟩) (Kd.N_mono HO196.out (fun k_ hk => (⟨hk, hk.2⟩ : _ ∧ k_ ≠ gb227))) (fun _ hk => hk.2) (.int .i64 t223)) (fun _ hk => hk.2) (.int .u64 t224)) (fun _ hk => hk.2) (.int .u64 t225)) (fun _ h_ => h_.1))) (Kd.R_base ho54) hb); have n3_ := Aside0.mk (Kd.N_elder' (by (with_reducible repeat (first | apply Kd.N_alloc | apply Kd.N_drewN | apply Kd.N_drew)); exact (Kd.N_mono (Kd.N_far (p := ⟨gb227, 2, none⟩) (Kd.N_far (p := ⟨gb227, 1, none⟩) (Kd.N_far (p := ⟨gb227, 0, none⟩) (Kd.N_mono HO201.out (fun k_ hk => (⟨hk, hk.2⟩ : _ ∧ k_ ≠ gb227))) (fun _ hk => hk.2) (.int .i64 t223)) (fun _ hk => hk.2) (.int .u64 t224)) (fun _ hk => hk.2) (.int .u64 t225)) (fun _ h_ => h_.1))) (Kd.R_base ho54) hb); have n4_ := Aside0.mk (Kd.N_elder' (by (with_reducible repeat (first | apply Kd.N_alloc | apply Kd.N_drewN | apply Kd.N_drew)); exact (Kd.N_mono (Kd.N_far (p := ⟨gb227, 2, none⟩) (Kd.N_far (p := ⟨gb227, 1, none⟩) (Kd.N_far (p := ⟨gb227, 0, none⟩) (Kd.N_mono HO207.out (fun k_ hk => (⟨hk, hk.2⟩ : _ ∧ k_ ≠ gb227))) (fun _ hk => hk.2) (.int .i64 t223)) (fun _ hk => hk.2) (.int .u64 t224)) (fun _ hk => hk.2) (.int .u64 t225)) (fun _ h_ => h_.1))) (Kd.R_base ho54) hb); have n5_ := Aside0.mk (Kd.N_elder' (by (with_reducible repeat (first | apply Kd.N_alloc | apply Kd.N_drewN | apply Kd.N_drew)); exact (Kd.N_mono (Kd.N_far (p := ⟨gb227, 2, none⟩) (Kd.N_far (p := ⟨gb227, 1, none⟩) (Kd.N_far (p := ⟨gb227, 0, none⟩) (Kd.N_mono HO212.out (fun k_ hk => (⟨hk, hk.2⟩ : _ ∧ k_ ≠ gb227))) (fun _ hk => hk.2) (.int .i64 t223)) (fun _ hk => hk.2) (.int .u64 t224)) (fun _ hk => hk.2) (.int .u64 t225)) (fun _ h_ => h_.1))) (Kd.R_base ho54) hb); have n6_ := Aside0.mk (Kd.R_elder' (by (with_reducible repeat (first | apply Kd.R_alloc | apply Kd.R_drewN | apply Kd.R_drew)); exact (Kd.R_mono (Kd.R_far (p := ⟨gb227, 2, none⟩) (Kd.R_far (p := ⟨gb227, 1, none⟩) (Kd.R_far (p := ⟨gb227, 0, none⟩) (Kd.R_types HO217.out BK227.out (by decide)) (fun _ hk => hk.2) (.int .i64 t223)) (fun _ hk => hk.2) (.int .u64 t224)) (fun _ hk => hk.2) (.int .u64 t225)) (fun _ h_ => h_.1))) (Kd.R_base ho54) hb); have n7_ := Aside0.mk (Kd.R_lower (Kd.R_new' ho54 (Kd.R_lt (by (with_reducible repeat (first | apply Kd.R_alloc | apply Kd.R_drewN | apply Kd.R_drew)); exact (Kd.R_mono (Kd.R_far (p := ⟨gb227, 2, none⟩) (Kd.R_far (p := ⟨gb227, 1, none⟩) (Kd.R_far (p := ⟨gb227, 0, none⟩) (Kd.R_types HO217.out BK227.out (by decide)) (fun _ hk => hk.2) (.int .i64 t223)) (fun _ hk => hk.2) (.int .u64 t224)) (fun _ hk => hk.2) (.int .u64 t225)) (fun _ h_ => h_.1))))) (below_size (by repeat (first | (with_reducible first | exact HB.out | apply below_alloc | apply pw_below_drewN | apply below_drew1 | refine below_set ?_ GE222.out | refine below_set ?_ GE227.out) | exact HB.out)))); have n8_ := Aside0.mk (blk_below (g := gb222) (o := .cells #[.int .i64 t218, .int .u64 t219, .int .u64 t220] 38 (0, 0)) (by (with_reducible repeat (first | refine blk_drewN ?_ _ | refine blk_drew ?_ | refine blk_alloc ?_ _)); refine blk_far ?_ NB222_227.out _; (with_reducible repeat (first | refine blk_drewN ?_ _ | refine blk_drew ?_ | refine blk_alloc ?_ _)); refine blk_far ?_ NB222_227.out _; (with_reducible repeat (first | refine blk_drewN ?_ _ | refine blk_drew ?_ | refine blk_alloc ?_ _)); refine blk_far ?_ NB222_227.out _; (with_reducible repeat (first | refine blk_drewN ?_ _ | refine blk_drew ?_ | refine blk_alloc ?_ _)); exact BK222.out) hb); have n9_ := Aside0.mk (blk_below (g := gb227) (o := .cells #[.int .i64 t223, .int .u64 t224, .int .u64 t225] 38 (0, 0)) (by (with_reducible repeat (first | refine blk_drewN ?_ _ | refine blk_drew ?_ | refine blk_alloc ?_ _)); refine blk_put (cs := #[.int .i64 t223, .int .u64 t224, .int .u64 0]) ?_ 2 _ rfl; (with_reducible repeat (first | refine blk_drewN ?_ _ | refine blk_drew ?_ | refine blk_alloc ?_ _)); refine blk_put (cs := #[.int .i64 t223, .int .u64 0, .int .u64 0]) ?_ 1 _ rfl; (with_reducible repeat (first | refine blk_drewN ?_ _ | refine blk_drew ?_ | refine blk_alloc ?_ _)); refine blk_put (cs := #[.int .i64 0, .int .u64 0, .int .u64 0]) ?_ 0 _ rfl; (with_reducible repeat (first | refine blk_drewN ?_ _ | refine blk_drew ?_ | refine blk_alloc ?_ _)); exact BK227.out) hb); have n10_ := Aside0.mk (below_step (by repeat (first | (with_reducible first | exact HB.out | apply below_alloc | apply pw_below_drewN | apply below_drew1 | refine below_set ?_ GE222.out | refine below_set ?_ GE227.out) | exact HB.out)) hb); clear HO186; clear HO191; clear HO196; clear HO201; clear HO207; clear HO212; clear HO217; clear BK222; clear BK227; clear HB; have HO186 := n0_; have HO191 := n1_; have HO196 := n2_; have HO201 := n3_; have HO207 := n4_; have HO212 := n5_; have HO217 := n6_; have HO230 := n7_; have BK222 := n8_; have BK227 := n9_; have HB := n10_; clear n0_ n1_ n2_ n3_ n4_ n5_ n6_ n7_ n8_ n9_ n10_; clear hb ho54; obtain ⟨Ao55, co55, eo55⟩ := Kd.R_slice HO230.out; subst eo55) | ((with_reducible refine gate_dst (N := 70) rfl ?_); refine Kd.R_lit (Kd.int .u64) _ 31 ?hg (N := 70) ?hd (xs := ([0, 9] : List Int)) (inner := [.int .u64 0, .int .u64 9]) (ok := fun _ => True) (okp := fun _ => True) ?hr ?hp (fun _ hk => hk) trivial (Below.refl _ _) (Nat.le_refl _) (by simp) ?_; (case hd => rfl); (case hg => rfl); (case hr => first | (go_simp; done) | (go_simp; rfl)); (case hp => exact (Reps.one (show Kd.M (Kd.int .u64) _ _ _ 0 [.int .u64 0] from rfl) (Reps.one (show Kd.M (Kd.int .u64) _ _ _ 9 [.int .u64 9] from rfl) (Reps.none _ _)))); intro v232 w56 ho57 hb hg_ hnew_; clear hg_ hnew_; (first | rw [← Ny231.out] at ho57 | (simp only [Int.reduceToNat] at ho57; rw [← Ny231.out] at ho57)); have n0_ := Aside0.mk (Kd.N_elder' (by (with_reducible repeat (first | apply Kd.N_alloc | apply Kd.N_drewN | apply Kd.N_drew)); exact HO186.out) (Kd.R_base ho57) hb); have n1_ := Aside0.mk (Kd.N_elder' (by (with_reducible repeat (first | apply Kd.N_alloc | apply Kd.N_drewN | apply Kd.N_drew)); exact HO191.out) (Kd.R_base ho57) hb); have n2_ := Aside0.mk (Kd.N_elder' (by (with_reducible repeat (first | apply Kd.N_alloc | apply Kd.N_drewN | apply Kd.N_drew)); exact HO196.out) (Kd.R_base ho57) hb); have n3_ := Aside0.mk (Kd.N_elder' (by (with_reducible repeat (first | apply Kd.N_alloc | apply Kd.N_drewN | apply Kd.N_drew)); exact HO201.out) (Kd.R_base ho57) hb); have n4_ := Aside0.mk (Kd.N_elder' (by (with_reducible repeat (first | apply Kd.N_alloc | apply Kd.N_drewN | apply Kd.N_drew)); exact HO207.out) (Kd.R_base ho57) hb); have n5_ := Aside0.mk (Kd.N_elder' (by (with_reducible repeat (first | apply Kd.N_alloc | apply Kd.N_drewN | apply Kd.N_drew)); exact HO212.out) (Kd.R_base ho57) hb); have n6_ := Aside0.mk (Kd.R_elder' (by (with_reducible repeat (first | apply Kd.R_alloc | apply Kd.R_drewN | apply Kd.R_drew)); exact HO217.out) (Kd.R_base ho57) hb); have n7_ := Aside0.mk (Kd.R_elder' (by (with_reducible repeat (first | apply Kd.R_alloc | apply Kd.R_drewN | apply Kd.R_drew)); exact HO230.out) (Kd.R_base ho57) hb); have n8_ := Aside0.mk (Kd.R_lower (Kd.R_new' (Kd.R_new' ho57 (Kd.R_lt (by (with_reducible repeat (first | apply Kd.R_alloc | apply Kd.R_drewN | apply Kd.R_drew)); exact HO217.out))) (Kd.R_lt (by (with_reducible repeat (first | apply Kd.R_alloc | apply Kd.R_drewN | apply Kd.R_drew)); exact HO230.out))) (below_size (by repeat (first | (with_reducible first | exact HB.out | apply below_alloc | apply pw_below_drewN | apply below_drew1 | refine below_set ?_ GE222.out | refine below_set ?_ GE227.out) | exact HB.out)))); have n9_ := Aside0.mk (blk_below (g := gb222) (o := .cells #[.int .i64 t218, .int .u64 t219, .int .u64 t220] 38 (0, 0)) (by (with_reducible repeat (first | refine blk_drewN ?_ _ | refine blk_drew ?_ | refine blk_alloc ?_ _)); exact BK222.out) hb); have n10_ := Aside0.mk (blk_below (g := gb227) (o := .cells #[.int .i64 t223, .int .u64 t224, .int .u64 t225] 38 (0, 0)) (by (with_reducible repeat (first | refine blk_drewN ?_ _ | refine blk_drew ?_ | refine blk_alloc ?_ _)); exact BK227.out) hb); have n11_ := Aside0.mk (below_step (by repeat (first | (with_reducible first | exact HB.out | apply below_alloc | apply pw_below_drewN | apply below_drew1 | refine below_set ?_ GE222.out | refine below_set ?_ GE227.out) | exact HB.out)) hb); clear HO186; clear HO191; clear HO196; clear HO201; clear HO207; clear HO212; clear HO217; clear HO230; clear BK222; clear BK227; clear HB; have HO186 := n0_; have HO191 := n1_; have HO196 := n2_; have HO201 := n3_; have HO207 := n4_; have HO212 := n5_; have HO217 := n6_; have HO230 := n7_; have HO233 := n8_; have BK222 := n9_; have BK227 := n10_; have HB := n11_; clear n0_ n1_ n2_ n3_ n4_ n5_ n6_ n7_ n8_ n9_ n10_ n11_; clear hb ho57; obtain ⟨Ao58, co58, eo58⟩ := Kd.R_slice HO233.out; subst eo58) | ((with_reducible refine gate_dst (N := 72) rfl ?_); refine Kd.N_lit k30 _ 30 ?hg (N' := 72) ?hd (xs := ([(⟨(⟨#[112, 117, 116]⟩ : ByteArray), y228⟩ : S30), (⟨(⟨#[114, 97, 110, 103, 101]⟩ : ByteArray), y231⟩ : S30)] : List (S30))) (inner := [.string (⟨#[112, 117, 116]⟩ : ByteArray), .slice Ao55 y228.length co55, .string (⟨#[114, 97, 110, 103, 101]⟩ : ByteArray), .slice Ao58 y231.length co58]) (ok := (fun k_ => some k_ ≠ (v185 : Value).ownBlock ∧ some k_ ≠ (v190 : Value).ownBlock ∧ some k_ ≠ (v195 : Value).ownBlock ∧ some k_ ≠ (v200 : Value).ownBlock ∧ some k_ ≠ (.slice Ao37 y205.length co37 : Value).ownBlock ∧ some k_ ≠ (.slice Ao41 y210.length co41 : Value).ownBlock ∧ some k_ ≠ (.slice Ao45 y215.length co45 : Value).ownBlock ∧ k_ ≠ gb222 ∧ k_ ≠ gb227)) (okp := (fun k_ => some k_ ≠ (v185 : Value).ownBlock ∧ some k_ ≠ (v190 : Value).ownBlock ∧ some k_ ≠ (v195 : Value).ownBlock ∧ some k_ ≠ (v200 : Value).ownBlock ∧ some k_ ≠ (.slice Ao37 y205.length co37 : Value).ownBlock ∧ some k_ ≠ (.slice Ao41 y210.length co41 : Value).ownBlock ∧ some k_ ≠ (.slice Ao45 y215.length co45 : Value).ownBlock ∧ k_ ≠ gb222 ∧ k_ ≠ gb227)) ?hr ?hp (fun _ hk => hk) ((show ∀ k_, w56.heap.size ≤ k_ → (fun k_ => some k_ ≠ (v185 : Value).ownBlock ∧ some k_ ≠ (v190 : Value).ownBlock ∧ some k_ ≠ (v195 : Value).ownBlock ∧ some k_ ≠ (v200 : Value).ownBlock ∧ some k_ ≠ (.slice Ao37 y205.length co37 : Value).ownBlock ∧ some k_ ≠ (.slice Ao41 y210.length co41 : Value).ownBlock ∧ some k_ ≠ (.slice Ao45 y215.length co45 : Value).ownBlock ∧ k_ ≠ gb222 ∧ k_ ≠ gb227) k_ from fun k_ hk => ⟨Kd.fresh' (Kd.N_lt (by (with_reducible repeat (first | apply Kd.N_alloc | apply Kd.N_drewN | apply Kd.N_drew)); exact HO186.out)) k_ hk, Kd.fresh' (Kd.N_lt (by (with_reducible repeat (first | apply Kd.N_alloc | apply Kd.N_drewN | apply Kd.N_drew)); exact HO191.out)) k_ hk, Kd.fresh' (Kd.N_lt (by (with_reducible repeat (first | apply Kd.N_alloc | apply Kd.N_drewN | apply Kd.N_drew)); exact HO196.out)) k_ hk, Kd.fresh' (Kd.N_lt (by (with_reducible repeat (first | apply Kd.N_alloc | apply Kd.N_drewN | apply Kd.N_drew)); exact HO201.out)) k_ hk, Kd.fresh' (Kd.N_lt (by (with_reducible repeat (first | apply Kd.N_alloc | apply Kd.N_drewN | apply Kd.N_drew)); exact HO207.out)) k_ hk, Kd.fresh' (Kd.N_lt (by (with_reducible repeat (first | apply Kd.N_alloc | apply Kd.N_drewN | apply Kd.N_drew)); exact HO212.out)) k_ hk, Kd.fresh' (Kd.R_lt (by (with_reducible repeat (first | apply Kd.R_alloc | apply Kd.R_drewN | apply Kd.R_drew)); exact HO217.out)) k_ hk, Kd.freshB (g := gb222) (o := .cells #[.int .i64 t218, .int .u64 t219, .int .u64 t220] 38 (0, 0)) (by (with_reducible repeat (first | refine blk_drewN ?_ _ | refine blk_drew ?_ | refine blk_alloc ?_ _)); exact BK222.out) k_ hk, Kd.freshB (g := gb227) (o := .cells #[.int .i64 t223, .int .u64 t224, .int .u64 t225] 38 (0, 0)) (by (with_reducible repeat (first | refine blk_drewN ?_ _ | refine blk_drew ?_ | refine blk_alloc ?_ _)); exact BK227.out) k_ hk⟩) _ (Nat.le_refl _)) (Below.refl _ _) (Nat.le_refl _) (by simp) ?_; (case hd => rfl); (case hg => rfl); (case hr => first | (go_simp; done) | (go_simp; rfl)); (case hp => exact (Reps.c2 (show Kd.FK k30 _ _ (⟨(⟨#[112, 117, 116]⟩ : ByteArray), y228⟩ : S30) [.string (⟨#[112, 117, 116]⟩ : ByteArray), .slice Ao55 y228.length co55] from (k30_mkF _ _ (⟨(⟨#[112, 117, 116]⟩ : ByteArray), y228⟩ : S30) (Kd.R_reads' (Kd.R_mono (ok' := (fun k_ => some k_ ≠ (v185 : Value).ownBlock ∧ some k_ ≠ (v190 : Value).ownBlock ∧ some k_ ≠ (v195 : Value).ownBlock ∧ some k_ ≠ (v200 : Value).ownBlock ∧ some k_ ≠ (.slice Ao37 y205.length co37 : Value).ownBlock ∧ some k_ ≠ (.slice Ao41 y210.length co41 : Value).ownBlock ∧ some k_ ≠ (.slice Ao45 y215.length co45 : Value).ownBlock ∧ k_ ≠ gb222 ∧ k_ ≠ gb227)) (Kd.R_types (Kd.R_types (Kd.R_apart' (Kd.R_apart' (Kd.R_apart' (Kd.R_apart' (Kd.R_apart' (Kd.R_apart' (HO230.out) (Kd.N_typed HO186.out) (by decide)) (Kd.N_typed HO191.out) (by decide)) (Kd.N_typed HO196.out) (by decide)) (Kd.N_typed HO201.out) (by decide)) (Kd.N_typed HO207.out) (by decide)) (Kd.N_typed HO212.out) (by decide)) BK222.out (by decide)) BK227.out (by decide)) (fun k_ hk => ⟨hk.1.1.1.1.1.1.1.2, ⟨hk.1.1.1.1.1.1.2, ⟨hk.1.1.1.1.1.2, ⟨hk.1.1.1.1.2, ⟨hk.1.1.1.2, ⟨hk.1.1.2, ⟨hk.1.1.1.1.1.1.1.1.1.2, ⟨hk.1.2, hk.2⟩⟩⟩⟩⟩⟩⟩⟩))).2.1 (Kd.R_F (Kd.R_mono (ok' := (fun k_ => some k_ ≠ (v185 : Value).ownBlock ∧ some k_ ≠ (v190 : Value).ownBlock ∧ some k_ ≠ (v195 : Value).ownBlock ∧ some k_ ≠ (v200 : Value).ownBlock ∧ some k_ ≠ (.slice Ao37 y205.length co37 : Value).ownBlock ∧ some k_ ≠ (.slice Ao41 y210.length co41 : Value).ownBlock ∧ some k_ ≠ (.slice Ao45 y215.length co45 : Value).ownBlock ∧ k_ ≠ gb222 ∧ k_ ≠ gb227)) (Kd.R_types (Kd.R_types (Kd.R_apart' (Kd.R_apart' (Kd.R_apart' (Kd.R_apart' (Kd.R_apart' (Kd.R_apart' (HO230.out) (Kd.N_typed HO186.out) (by decide)) (Kd.N_typed HO191.out) (by decide)) (Kd.N_typed HO196.out) (by decide)) (Kd.N_typed HO201.out) (by decide)) (Kd.N_typed HO207.out) (by decide)) (Kd.N_typed HO212.out) (by decide)) BK222.out (by decide)) BK227.out (by decide)) (fun k_ hk => ⟨hk.1.1.1.1.1.1.1.2, ⟨hk.1.1.1.1.1.1.2, ⟨hk.1.1.1.1.1.2, ⟨hk.1.1.1.1.2, ⟨hk.1.1.1.2, ⟨hk.1.1.2, ⟨hk.1.1.1.1.1.1.1.1.1.2, ⟨hk.1.2, hk.2⟩⟩⟩⟩⟩⟩⟩⟩))))) (Reps.c2 (show Kd.FK k30 _ _ (⟨(⟨#[114, 97, 110, 103, 101]⟩ : ByteArray), y231⟩ : S30) [.string (⟨#[114, 97, 110, 103, 101]⟩ : ByteArray), .slice Ao58 y231.length co58] from (k30_mkF _ _ (⟨(⟨#[114, 97, 110, 103, 101]⟩ : ByteArray), y231⟩ : S30) (Kd.R_reads' (Kd.R_mono (ok' := (fun k_ => some k_ ≠ (v185 : Value).ownBlock ∧ some k_ ≠ (v190 : Value).ownBlock ∧ some k_ ≠ (v195 : Value).ownBlock ∧ some k_ ≠ (v200 : Value).ownBlock ∧ some k_ ≠ (.slice Ao37 y205.length co37 : Value).ownBlock ∧ some k_ ≠ (.slice Ao41 y210.length co41 : Value).ownBlock ∧ some k_ ≠ (.slice Ao45 y215.length co45 : Value).ownBlock ∧ k_ ≠ gb222 ∧ k_ ≠ gb227)) (Kd.R_types (Kd.R_types (Kd.R_apart' (Kd.R_apart' (Kd.R_apart' (Kd.R_apart' (Kd.R_apart' (Kd.R_apart' (HO233.out) (Kd.N_typed HO186.out) (by decide)) (Kd.N_typed HO191.out) (by decide)) (Kd.N_typed HO196.out) (by decide)) (Kd.N_typed HO201.out) (by decide)) (Kd.N_typed HO207.out) (by decide)) (Kd.N_typed HO212.out) (by decide)) BK222.out (by decide)) BK227.out (by decide)) (fun k_ hk => ⟨hk.1.1.1.1.1.1.1.2, ⟨hk.1.1.1.1.1.1.2, ⟨hk.1.1.1.1.1.2, ⟨hk.1.1.1.1.2, ⟨hk.1.1.1.2, ⟨hk.1.1.2, ⟨hk.1.1.1.1.1.1.1.1.1.2, ⟨hk.1.2, hk.2⟩⟩⟩⟩⟩⟩⟩⟩))).2.1 (Kd.R_F (Kd.R_mono (ok' := (fun k_ => some k_ ≠ (v185 : Value).ownBlock ∧ some k_ ≠ (v190 : Value).ownBlock ∧ some k_ ≠ (v195 : Value).ownBlock ∧ some k_ ≠ (v200 : Value).ownBlock ∧ some k_ ≠ (.slice Ao37 y205.length co37 : Value).ownBlock ∧ some k_ ≠ (.slice Ao41 y210.length co41 : Value).ownBlock ∧ some k_ ≠ (.slice Ao45 y215.length co45 : Value).ownBlock ∧ k_ ≠ gb222 ∧ k_ ≠ gb227)) (Kd.R_types (Kd.R_types (Kd.R_apart' (Kd.R_apart' (Kd.R_apart' (Kd.R_apart' (Kd.R_apart' (Kd.R_apart' (HO233.out) (Kd.N_typed HO186.out) (by decide)) (Kd.N_typed HO191.out) (by decide)) (Kd.N_typed HO196.out) (by decide)) (Kd.N_typed HO201.out) (by decide)) (Kd.N_typed HO207.out) (by decide)) (Kd.N_typed HO212.out) (by decide)) BK222.out (by decide)) BK227.out (by decide)) (fun k_ hk => ⟨hk.1.1.1.1.1.1.1.2, ⟨hk.1.1.1.1.1.1.2, ⟨hk.1.1.1.1.1.2, ⟨hk.1.1.1.1.2, ⟨hk.1.1.1.2, ⟨hk.1.1.2, ⟨hk.1.1.1.1.1.1.1.1.1.2, ⟨hk.1.2, hk.2⟩⟩⟩⟩⟩⟩⟩⟩))))) (Reps.none _ _)))); intro v235 w59 ho60 hb hg_ hnew_; clear hg_ hnew_; (first | rw [← Ny234.out] at ho60 | (simp only [Int.reduceToNat] at ho60; rw [← Ny234.out] at ho60)); have n0_ := Aside0.mk (Kd.N_elder' (by (with_reducible repeat (first | apply Kd.N_alloc | apply Kd.N_drewN | apply Kd.N_drew)); exact HO186.out) (Kd.N_base ho60) hb); have n1_ := Aside0.mk (Kd.N_elder' (by (with_reducible repeat (first | apply Kd.N_alloc | apply Kd.N_drewN | apply Kd.N_drew)); exact HO191.out) (Kd.N_base ho60) hb); have n2_ := Aside0.mk (Kd.N_elder' (by (with_reducible repeat (first | apply Kd.N_alloc | apply Kd.N_drewN | apply Kd.N_drew)); exact HO196.out) (Kd.N_base ho60) hb); have n3_ := Aside0.mk (Kd.N_elder' (by (with_reducible repeat (first | apply Kd.N_alloc | apply Kd.N_drewN | apply Kd.N_drew)); exact HO201.out) (Kd.N_base ho60) hb); have n4_ := Aside0.mk (Kd.N_elder' (by (with_reducible repeat (first | apply Kd.N_alloc | apply Kd.N_drewN | apply Kd.N_drew)); exact HO207.out) (Kd.N_base ho60) hb); have n5_ := Aside0.mk (Kd.N_elder' (by (with_reducible repeat (first | apply Kd.N_alloc | apply Kd.N_drewN | apply Kd.N_drew)); exact HO212.out) (Kd.N_base ho60) hb); have n6_ := Aside0.mk (Kd.R_below (by (with_reducible repeat (first | apply Kd.R_alloc | apply Kd.R_drewN | apply Kd.R_drew)); exact HO217.out) hb); have n7_ := Aside0.mk (Kd.N_lower ho60 (below_size (by repeat (first | (with_reducible first | exact HB.out | apply below_alloc | apply pw_below_drewN | apply below_drew1 | refine below_set ?_ GE222.out | refine below_set ?_ GE227.out) | exact HB.out)))); have n8_ := Aside0.mk (blk_below (g := gb222) (o := .cells #[.int .i64 t218, .int .u64 t219, .int .u64 t220] 38 (0, 0)) (by (with_reducible repeat (first | refine blk_drewN ?_ _ | refine blk_drew ?_ | refine blk_alloc ?_ _)); exact BK222.out) hb); have n9_ := Aside0.mk (blk_below (g := gb227) (o := .cells #[.int .i64 t223, .int .u64 t224, .int .u64 t225] 38 (0, 0)) (by (with_reducible repeat (first | refine blk_drewN ?_ _ | refine blk_drew ?_ | refine blk_alloc ?_ _)); exact BK227.out) hb); have n10_ := Aside0.mk (below_step (by repeat (first | (with_reducible first | exact HB.out | apply below_alloc | apply pw_below_drewN | apply below_drew1 | refine below_set ?_ GE222.out | refine below_set ?_ GE227.out) | exact HB.out)) hb); clear HO186; clear HO191; clear HO196; clear HO201; clear HO207; clear HO212; clear HO217; clear BK222; clear BK227; clear HB; clear HO230; clear HO233; have HO186 := n0_; have HO191 := n1_; have HO196 := n2_; have HO201 := n3_; have HO207 := n4_; have HO212 := n5_; have HO217 := n6_; have HO236 := n7_; have BK222 := n8_; have BK227 := n9_; have HB := n10_; clear n0_ n1_ n2_ n3_ n4_ n5_ n6_ n7_ n8_ n9_ n10_; clear hb ho60) | ((with_reducible refine gate_dst (N := 76) rfl ?_); refine Kd.R_lit k50 _ 50 ?hg (N := 76) ?hd (xs := ([(⟨3, 30⟩ : S50), (⟨4, 40⟩ : S50)] : List (S50))) (inner := [.int .u64 3, .int .u64 30, .int .u64 4, .int .u64 40]) (ok := fun _ => True) (okp := fun _ => True) ?hr ?hp (fun _ hk => hk) trivial (Below.refl _ _) (Nat.le_refl _) (by simp) ?_; (case hd => rfl); (case hg => rfl); (case hr => first | (go_simp; done) | (go_simp; rfl)); (case hp => exact (Reps.c2 (show Kd.M k50 _ _ _ (⟨3, 30⟩ : S50) [.int .u64 3, .int .u64 30] from (k50_mkM _ _ _ (⟨3, 30⟩ : S50) )) (Reps.c2 (show Kd.M k50 _ _ _ (⟨4, 40⟩ : S50) [.int .u64 4, .int .u64 40] from (k50_mkM _ _ _ (⟨4, 40⟩ : S50) )) (Reps.none _ _)))); intro v238 w61 ho62 hb hg_ hnew_; clear hg_ hnew_; (first | rw [← Ny237.out] at ho62 | (simp only [Int.reduceToNat] at ho62; rw [← Ny237.out] at ho62)); have n0_ := Aside0.mk (Kd.N_elder' (by (with_reducible repeat (first | apply Kd.N_alloc | apply Kd.N_drewN | apply Kd.N_drew)); exact HO186.out) (Kd.R_base ho62) hb); have n1_ := Aside0.mk (Kd.N_elder' (by (with_reducible repeat (first | apply Kd.N_alloc | apply Kd.N_drewN | apply Kd.N_drew)); exact HO191.out) (Kd.R_base ho62) hb); have n2_ := Aside0.mk (Kd.N_elder' (by (with_reducible repeat (first | apply Kd.N_alloc | apply Kd.N_drewN | apply Kd.N_drew)); exact HO196.out) (Kd.R_base ho62) hb); have n3_ := Aside0.mk (Kd.N_elder' (by (with_reducible repeat (first | apply Kd.N_alloc | apply Kd.N_drewN | apply Kd.N_drew)); exact HO201.out) (Kd.R_base ho62) hb); have n4_ := Aside0.mk (Kd.N_elder' (by (with_reducible repeat (first | apply Kd.N_alloc | apply Kd.N_drewN | apply Kd.N_drew)); exact HO207.out) (Kd.R_base ho62) hb); have n5_ := Aside0.mk (Kd.N_elder' (by (with_reducible repeat (first | apply Kd.N_alloc | apply Kd.N_drewN | apply Kd.N_drew)); exact HO212.out) (Kd.R_base ho62) hb); have n6_ := Aside0.mk (Kd.R_below (by (with_reducible repeat (first | apply Kd.R_alloc | apply Kd.R_drewN | apply Kd.R_drew)); exact HO217.out) hb); have n7_ := Aside0.mk (Kd.N_elder' (by (with_reducible repeat (first | apply Kd.N_alloc | apply Kd.N_drewN | apply Kd.N_drew)); exact HO236.out) (Kd.R_base ho62) hb); have n8_ := Aside0.mk (Kd.R_lower ho62 (below_size (by repeat (first | (with_reducible first | exact HB.out | apply below_alloc | apply pw_below_drewN | apply below_drew1 | refine below_set ?_ GE222.out | refine below_set ?_ GE227.out) | exact HB.out)))); have n9_ := Aside0.mk (blk_below (g := gb222) (o := .cells #[.int .i64 t218, .int .u64 t219, .int .u64 t220] 38 (0, 0)) (by (with_reducible repeat (first | refine blk_drewN ?_ _ | refine blk_drew ?_ | refine blk_alloc ?_ _)); exact BK222.out) hb); have n10_ := Aside0.mk (blk_below (g := gb227) (o := .cells #[.int .i64 t223, .int .u64 t224, .int .u64 t225] 38 (0, 0)) (by (with_reducible repeat (first | refine blk_drewN ?_ _ | refine blk_drew ?_ | refine blk_alloc ?_ _)); exact BK227.out) hb); have n11_ := Aside0.mk (below_step (by repeat (first | (with_reducible first | exact HB.out | apply below_alloc | apply pw_below_drewN | apply below_drew1 | refine below_set ?_ GE222.out | refine below_set ?_ GE227.out) | exact HB.out)) hb); clear HO186; clear HO191; clear HO196; clear HO201; clear HO207; clear HO212; clear HO217; clear HO236; clear BK222; clear BK227; clear HB; have HO186 := n0_; have HO191 := n1_; have HO196 := n2_; have HO201 := n3_; have HO207 := n4_; have HO212 := n5_; have HO217 := n6_; have HO236 := n7_; have HO239 := n8_; have BK222 := n9_; have BK227 := n10_; have HB := n11_; clear n0_ n1_ n2_ n3_ n4_ n5_ n6_ n7_ n8_ n9_ n10_ n11_; clear hb ho62; obtain ⟨Ao63, co63, eo63⟩ := Kd.R_slice HO239.out; subst eo63) | ((with_reducible refine gate_callee (f := 20) rfl ?_); refine goesL_ (some 78) rfl rfl Tryd.func20 (by kernel_rfl) rfl #[.agg #[.int .i64 7, .int .u64 0, .int .u64 0], .agg #[.int .i64 0, .bool false, .int .u64 0, .int .u64 0, .int .i64 0, .slice Ao63 y237.length co63]] rfl (by (try simp only [List.map_toArray, List.map_cons, List.map_nil]); first | done | rfl | (simp only [List.length_drop, List.length_take]; rfl)) ?_; (with_reducible refine (script_Tell.calls k 7 0 0 0 false 0 0 0 _ _ y237 t240 _ ?side1 ?side2 ?sideT A9.out).mono ?_); (case sideT => exact Tabs.keep HT.out (by repeat (first | (with_reducible first | exact HB.out | apply below_alloc | apply pw_below_drewN | apply below_drew1) | exact HB.out))); (case side1 => repeat (first | exact (Kd.R_reads' HO239.out).2.2 | (with_reducible refine Kd.C_alloc ?_ _) | (with_reducible refine Kd.C_drewN ?_ _) | (with_reducible refine Kd.C_drew ?_))); (case side2 => exact (Kd.R_reads' HO239.out).2.1); rintro e w64 ⟨rfl, hb⟩; refine ⟨_, rfl, ?_⟩; have n0_ := Aside0.mk (Kd.N_below (by (with_reducible repeat (first | apply Kd.N_alloc | apply Kd.N_drewN | apply Kd.N_drew)); exact HO186.out) hb); have n1_ := Aside0.mk (Kd.N_below (by (with_reducible repeat (first | apply Kd.N_alloc | apply Kd.N_drewN | apply Kd.N_drew)); exact HO191.out) hb); have n2_ := Aside0.mk (Kd.N_below (by (with_reducible repeat (first | apply Kd.N_alloc | apply Kd.N_drewN | apply Kd.N_drew)); exact HO196.out) hb); have n3_ := Aside0.mk (Kd.N_below (by (with_reducible repeat (first | apply Kd.N_alloc | apply Kd.N_drewN | apply Kd.N_drew)); exact HO201.out) hb); have n4_ := Aside0.mk (Kd.N_below (by (with_reducible repeat (first | apply Kd.N_alloc | apply Kd.N_drewN | apply Kd.N_drew)); exact HO207.out) hb); have n5_ := Aside0.mk (Kd.N_below (by (with_reducible repeat (first | apply Kd.N_alloc | apply Kd.N_drewN | apply Kd.N_drew)); exact HO212.out) hb); have n6_ := Aside0.mk (Kd.R_below (by (with_reducible repeat (first | apply Kd.R_alloc | apply Kd.R_drewN | apply Kd.R_drew)); exact HO217.out) hb); have n7_ := Aside0.mk (Kd.N_below (by (with_reducible repeat (first | apply Kd.N_alloc | apply Kd.N_drewN | apply Kd.N_drew)); exact HO236.out) hb); have n8_ := Aside0.mk (Kd.R_below (by (with_reducible repeat (first | apply Kd.R_alloc | apply Kd.R_drewN | apply Kd.R_drew)); exact HO239.out) hb); have n9_ := Aside0.mk (blk_below (g := gb222) (o := .cells #[.int .i64 t218, .int .u64 t219, .int .u64 t220] 38 (0, 0)) (by (with_reducible repeat (first | refine blk_drewN ?_ _ | refine blk_drew ?_ | refine blk_alloc ?_ _)); exact BK222.out) hb); have n10_ := Aside0.mk (blk_below (g := gb227) (o := .cells #[.int .i64 t223, .int .u64 t224, .int .u64 t225] 38 (0, 0)) (by (with_reducible repeat (first | refine blk_drewN ?_ _ | refine blk_drew ?_ | refine blk_alloc ?_ _)); exact BK227.out) hb); have n11_ := Aside0.mk (below_step (by repeat (first | (with_reducible first | exact HB.out | apply below_alloc | apply pw_below_drewN | apply below_drew1 | refine below_set ?_ GE222.out | refine below_set ?_ GE227.out) | exact HB.out)) hb); clear HO186; clear HO191; clear HO196; clear HO201; clear HO207; clear HO212; clear HO217; clear HO236; clear HO239; clear BK222; clear BK227; clear HB; have HO186 := n0_; have HO191 := n1_; have HO196 := n2_; have HO201 := n3_; have HO207 := n4_; have HO212 := n5_; have HO217 := n6_; have HO236 := n7_; have HO239 := n8_; have BK222 := n9_; have BK227 := n10_; have HB := n11_; clear n0_ n1_ n2_ n3_ n4_ n5_ n6_ n7_ n8_ n9_ n10_ n11_; (try clear hb); (try clear hb2); (try clear hk); (try clear hi); obtain ⟨Ao65, co65, eo65⟩ := Kd.N_slice HO186.out; subst eo65; obtain ⟨Ao66, co66, eo66⟩ := Kd.N_slice HO236.out; subst eo66) | ((with_reducible refine gate_callee (f := 14) rfl ?_); refine goesL_ (some 81) rfl rfl Tryd.func14 (by kernel_rfl) rfl #[.slice Ao65 t182.length co65, .slice Ao66 y234.length co66] rfl (by (try simp only [List.map_toArray, List.map_cons, List.map_nil]); first | done | rfl | (simp only [List.length_drop, List.length_take]; rfl)) ?_; (with_reducible refine (inclinelaw21_same.calls k _ _ t182 _ _ y234 true _ ?side1 ?side2 ?side3 ?side4 A10.out).mono ?_); (case side1 => repeat (first | exact (Kd.N_reads' HO186.out).2.2 | (with_reducible refine Kd.C_alloc ?_ _) | (with_reducible refine Kd.C_drewN ?_ _) | (with_reducible refine Kd.C_drew ?_))); (case side2 => exact (Kd.N_reads' HO186.out).2.1); (case side3 => repeat (first | exact (Kd.N_reads' HO236.out).2.2 | (with_reducible refine Kd.C_alloc ?_ _) | (with_reducible refine Kd.C_drewN ?_ _) | (with_reducible refine Kd.C_drew ?_))); (case side4 => exact (Kd.N_reads' HO236.out).2.1); rintro e w' ⟨rfl, ⟨nd, rfl⟩⟩; refine ⟨_, rfl, ?_⟩; have hcz67_0 : w64.cell? ⟨gb222, 0, none⟩ = some (.int .i64 t218) := (blk_cell BK222.out 0).trans rfl; have hcz67_1 : w64.cell? ⟨gb222, 1, none⟩ = some (.int .u64 t219) := (blk_cell BK222.out 1).trans rfl; have hcz67_2 : w64.cell? ⟨gb222, 2, none⟩ = some (.int .u64 t220) := (blk_cell BK222.out 2).trans rfl; have hfz67_0 := blk_frozen BK222.out 0; have hfz67_1 := blk_frozen BK222.out 1; have hfz67_2 := blk_frozen BK222.out 2) | (go_at_call 14; (with_reducible refine (inclinelaw21_same.calls k _ _ t182 _ _ y234 true _ ?side1 ?side2 ?side3 ?side4 A10.out).mono ?_); (case side1 => repeat (first | exact (Kd.N_reads' HO186.out).2.2 | (with_reducible refine Kd.C_alloc ?_ _) | (with_reducible refine Kd.C_drewN ?_ _) | (with_reducible refine Kd.C_drew ?_))); (case side2 => exact (Kd.N_reads' HO186.out).2.1); (case side3 => repeat (first | exact (Kd.N_reads' HO236.out).2.2 | (with_reducible refine Kd.C_alloc ?_ _) | (with_reducible refine Kd.C_drewN ?_ _) | (with_reducible refine Kd.C_drew ?_))); (case side4 => exact (Kd.N_reads' HO236.out).2.1); rintro e w' ⟨rfl, ⟨nd, rfl⟩⟩; have hcz67_0 : w64.cell? ⟨gb222, 0, none⟩ = some (.int .i64 t218) := (blk_cell BK222.out 0).trans rfl; have hcz67_1 : w64.cell? ⟨gb222, 1, none⟩ = some (.int .u64 t219) := (blk_cell BK222.out 1).trans rfl; have hcz67_2 : w64.cell? ⟨gb222, 2, none⟩ = some (.int .u64 t220) := (blk_cell BK222.out 2).trans rfl; have hfz67_0 := blk_frozen BK222.out 0; have hfz67_1 := blk_frozen BK222.out 1; have hfz67_2 := blk_frozen BK222.out 2) | (go_at_call 20; (refine (script_Tell.calls k 9 0 0 1 false 0 0 0 _ _ ([] : List (S50)) t242 _ ?side1 ?side2 ?sideT A27.out).mono ?_); (case sideT => exact Tabs.keep HT.out (by repeat (first | (with_reducible first | exact HB.out | apply below_alloc | apply pw_below_drewN | apply below_drew1) | exact HB.out))); (case side1 => exact Kd.C_nil _ _); (case side2 => exact Nat.le_refl _); rintro e w68 ⟨rfl, hb⟩; have n0_ := Aside0.mk (Kd.N_below (by (with_reducible repeat (first | apply Kd.N_alloc | apply Kd.N_drewN | apply Kd.N_drew)); exact HO186.out) hb); have n1_ := Aside0.mk (Kd.N_below (by (with_reducible repeat (first | apply Kd.N_alloc | apply Kd.N_drewN | apply Kd.N_drew)); exact HO191.out) hb); have n2_ := Aside0.mk (Kd.N_below (by (with_reducible repeat (first | apply Kd.N_alloc | apply Kd.N_drewN | apply Kd.N_drew)); exact HO196.out) hb); have n3_ := Aside0.mk (Kd.N_below (by (with_reducible repeat (first | apply Kd.N_alloc | apply Kd.N_drewN | apply Kd.N_drew)); exact HO201.out) hb); have n4_ := Aside0.mk (Kd.N_below (by (with_reducible repeat (first | apply Kd.N_alloc | apply Kd.N_drewN | apply Kd.N_drew)); exact HO207.out) hb); have n5_ := Aside0.mk (Kd.N_below (by (with_reducible repeat (first | apply Kd.N_alloc | apply Kd.N_drewN | apply Kd.N_drew)); exact HO212.out) hb); have n6_ := Aside0.mk (Kd.R_below (by (with_reducible repeat (first | apply Kd.R_alloc | apply Kd.R_drewN | apply Kd.R_drew)); exact HO217.out) hb); have n7_ := Aside0.mk (Kd.N_below (by (with_reducible repeat (first | apply Kd.N_alloc | apply Kd.N_drewN | apply Kd.N_drew)); exact HO236.out) hb); have n8_ := Aside0.mk (Kd.R_below (by (with_reducible repeat (first | apply Kd.R_alloc | apply Kd.R_drewN | apply Kd.R_drew)); exact HO239.out) hb); have n9_ := Aside0.mk (blk_below (g := gb222) (o := .cells #[.int .i64 t218, .int .u64 t219, .int .u64 t220] 38 (0, 0)) (by (with_reducible repeat (first | refine blk_drewN ?_ _ | refine blk_drew ?_ | refine blk_alloc ?_ _)); exact BK222.out) hb); have n10_ := Aside0.mk (blk_below (g := gb227) (o := .cells #[.int .i64 t223, .int .u64 t224, .int .u64 t225] 38 (0, 0)) (by (with_reducible repeat (first | refine blk_drewN ?_ _ | refine blk_drew ?_ | refine blk_alloc ?_ _)); exact BK227.out) hb); have n11_ := Aside0.mk (below_step (by repeat (first | (with_reducible first | exact HB.out | apply below_alloc | apply pw_below_drewN | apply below_drew1 | refine below_set ?_ GE222.out | refine below_set ?_ GE227.out) | exact HB.out)) hb); clear HO186; clear HO191; clear HO196; clear HO201; clear HO207; clear HO212; clear HO217; clear HO236; clear HO239; clear BK222; clear BK227; clear HB; have HO186 := n0_; have HO191 := n1_; have HO196 := n2_; have HO201 := n3_; have HO207 := n4_; have HO212 := n5_; have HO217 := n6_; have HO236 := n7_; have HO239 := n8_; have BK222 := n9_; have BK227 := n10_; have HB := n11_; clear n0_ n1_ n2_ n3_ n4_ n5_ n6_ n7_ n8_ n9_ n10_ n11_; (try clear hb); (try clear hb2); (try clear hk); (try clear hi)))
                                  go_ret
                                  exact ⟨by first | rfl | (simp [errW_none, errW_some] <;> rfl) | (simp [*, errW_none, errW_some] <;> rfl), by repeat (first | (with_reducible first | exact HB.out | apply below_alloc | apply pw_below_drewN | apply below_drew1 | refine below_set ?_ GE222.out | refine below_set ?_ GE227.out) | exact HB.out)⟩
                                · rw [if_neg c26] at H
                                  exact absurd H (by simp)
                            · replace c24 := Bool.eq_false_iff.mpr c24
                              subst c24
                              have H1 : (none) = some r := by rw [if_neg (show ¬ (false = true) by decide)] at H; exact H
                              clear H
                              have H := H1
                              clear H1
                              exact absurd H (by simp)
                          · rw [if_neg c23] at H
                            exact absurd H (by simp)
                        · rw [if_neg c22] at H
                          exact absurd H (by simp)
                      · rw [if_neg c21] at H
                        exact absurd H (by simp)
                    · rw [if_neg c20] at H
                      exact absurd H (by simp)
                  · rw [if_neg c19] at H
                    exact absurd H (by simp)
                · rw [if_neg c18] at H
                  exact absurd H (by simp)
              · rw [if_neg c17] at H
                exact absurd H (by simp)
            · rw [if_neg c16] at H
              exact absurd H (by simp)
          · rw [if_neg c15] at H
            exact absurd H (by simp)
        · rw [if_neg c14] at H
          exact absurd H (by simp)
      · rw [if_neg c13] at H
        exact absurd H (by simp)
    · rw [if_neg c12] at H
      exact absurd H (by simp)
  · replace c11 := Bool.eq_false_iff.mpr c11
    subst c11
    have H1 : (none) = some r := by rw [if_neg (show ¬ (false = true) by decide)] at H; exact H
    clear H
    have H := H1
    clear H1
    exact absurd H (by simp)

end Go.Proofs.YtlfoaaeelcmhiaaDoor.G
end
