/- Some of the claim's own texts, in one file: FirstW, OverW, BuildW, First8W, TopE, CubeT, BuiltW, RefT, TopS, TopGoodW, TopBadW, Kinds, AddW. Conditions: each theorem's own. -/
import Derived.Test.YtjlegggkibbkjaaZTop3
import Derived.WalkMore
import Derived.Deep.LoopGhost
import Derived.Test.YtjlegggkibbkjaaZTop2
import Derived.BigQuiet
import Derived.Test.YtjlegggkibbkjaaZTop1
import Derived.Deep.RegionHeld3
section
/- levels.firsts. -/

namespace Go.Proofs.Ytjlegggkibbkjaa.M
open Go Go.Proofs.Ytjlegggkibbkjaa Go.RowKit Go.Shelf Go.Proofs.Ytjlegggkibbkjaa.Pure Go.Proofs.Ytjlegggkibbkjaa.G Go.Proofs.YtjlegggkibbkjaaW.PrintWords
set_option linter.unusedVariables false
set_option linter.unusedSimpArgs false
def skeys (c : List Seg) : List Int := c.map (fun x => x.1.first)
/-- The first i keys are laid. -/
def laidK (c : List Seg) (i : Nat) : List Int := (skeys c).take i ++ List.replicate (c.length - i) 0
theorem laidK_zero (c : List Seg) : laidK c 0 = List.replicate c.length 0 := by simp [laidK]
theorem laidK_all (c : List Seg) : laidK c c.length = skeys c := by
  unfold laidK
  rw [List.take_of_length_le (by simp [skeys])]
  simp
theorem laidK_length (c : List Seg) {i : Nat} (hi : i ≤ c.length) : (laidK c i).length = c.length := by simp [laidK, skeys]; omega
theorem laidK_set (c : List Seg) {i : Nat} (hi : i < c.length) {x : Seg} (hx : c[i]? = some x) : (laidK c i).set i x.1.first = laidK c (i + 1) := by
  have hl : i < (skeys c).length := by simpa [skeys] using hi
  have e1 : ((skeys c).take i).length = i := by rw [List.length_take]; omega
  have e2 : (skeys c)[i] = x.1.first := by
    have : (skeys c)[i]? = some x.1.first := by simp [skeys, hx]
    rw [List.getElem?_eq_getElem hl] at this
    exact Option.some.inj this
  have e3 : c.length - i = (c.length - (i + 1)) + 1 := by omega
  unfold laidK
  rw [List.set_append_right _ _ (by omega), e1, Nat.sub_self, e3, List.replicate_succ, List.set_cons_zero, List.take_succ_eq_append_getElem hl, e2, List.append_assoc]
  rfl
theorem info31 : (Try.prog.info? 31).map (fun i => (i.zero, i.size, i.bytes)) = some (some (.int .u64 0), 1, 8) := by kernel_rfl
theorem info34 : (Try.prog.info? 34).map (fun i => (i.zero, i.size, i.bytes)) = some (some (.agg #[.int .u64 0, .float .f64 0, .float .f64 0, .int .i64 0, .int .i64 0]), 5, 40) := by kernel_rfl
/-- The keys laid so far. -/
structure KeysN (w wd : World) (xs : List Seg) (i : Nat) : Prop where
  below : Below w.heap.size w wd
  row : wd.ownsRow w.heap.size 31 1 (.slice (some ⟨w.heap.size, 0, none⟩) xs.length xs.length) xs.length (nums .u64 (laidK xs i))
theorem KeysN.put {w wd : World} {xs : List Seg} {i : Nat} (h : KeysN w wd xs i) (o : Obj) {x : Seg} (hi : i < xs.length) (hx : xs[i]? = some x) : KeysN w ((wd.alloc o).setCell ⟨w.heap.size, i, none⟩ (.int .u64 x.1.first)) xs (i + 1) := by
  have h2 := (own_store (h.row.alloc o) (i : Int) x.1.first).1
  rw [Int.toNat_natCast, laidK_set xs hi hx] at h2
  exact ⟨below_set (below_alloc h.below o) (Nat.le_refl _), h2⟩
set_option maxHeartbeats 4000000 in
set_option maxRecDepth 100000 in
theorem firsts12 (g cap : Nat) (xs : List Seg) (hl : xs.length ≤ 1099511627776) (w : World) (hs : SAt w g xs) (hg : g < w.heap.size) :
    Calls Try.prog 12 #[.slice (some ⟨g, 0, none⟩) xs.length cap] w fun e w' => e = .returned (.slice (some ⟨w.heap.size, 0, none⟩) xs.length xs.length) ∧ w'.ownsRow w.heap.size 31 1 (.slice (some ⟨w.heap.size, 0, none⟩) xs.length xs.length) xs.length (nums .u64 (skeys xs)) ∧ Below w.heap.size w w' := by
  have HL := Lib.hid hl
  have HS := Lib.hid hs
  have HG := Lib.hid hg
  have hmk := print_make (P := Try.prog) 22 31 .u64 8 Try.underlying22 info31 (by omega) xs.length (by omega)
  clear hl hs hg
  go_enter Try.func12, Try.ntmps12
  go_wp2
  have hK : KeysN w (w.alloc (.cells (madeCells #[.int .u64 0] xs.length) 31)) xs 0 := by
    refine ⟨(Below.refl _ w).alloc (Nat.le_refl _) _, ?_⟩
    rw [laidK_zero]
    exact own_made w w.heap.size 31 .u64 xs.length (Nat.le_refl _) (by have := HL.out; omega)
  have HK := Lib.hid hK
  clear hK
  go_loopg [4, 5, 11] xs.length (fun kq v4 v5 v11 wd => ∃ i : Nat, v11 = .int .i64 (i : Int) ∧ Hid (i ≤ xs.length ∧ xs.length - i ≤ kq) ∧ Hid (KeysN w wd xs i))
  case atStart => exact ⟨0, rfl, Lib.hid ⟨Nat.zero_le _, Nat.le_refl _⟩, HK⟩
  case round =>
    obtain ⟨i, rfl, HI, HN⟩ := hrel
    by_cases hi : i < xs.length
    · have hd : decide ((i : Int) < (xs.length : Int)) = true := decide_eq_true (by omega)
      have hd2 : decide (i < xs.length) = true := decide_eq_true hi
      obtain ⟨x, hx⟩ : ∃ x, xs[i]? = some x := ⟨_, List.getElem?_eq_getElem hi⟩
      have hsw := HS.out.keep (HN.out.below.block g HG.out)
      have c0 := hsw i x hx 0 _ rfl
      have c1 := hsw i x hx 1 _ rfl
      have c2 := hsw i x hx 2 _ rfl
      have c3 := hsw i x hx 3 _ rfl
      have c4 := hsw i x hx 4 _ rfl
      simp only [Nat.add_zero] at c0
      have hwr : IntKind.i64.wrap ((i : Int) + 1) = ((i + 1 : Nat) : Int) := by rw [IntWalk.i64_in _ (by have := HL.out; omega)]; omega
      have HLT := Lib.hid hi
      have HX := Lib.hid hx
      have hst : ∀ (f : Nat) (a : Addr) (W : World), (store a (.float .f64 f)).run Try.prog W = stored Try.prog W a (.float .f64 f) .plain := fun _ _ _ => run_store _ _ _ _ _ rfl
      clear hsw hi hx
      go_upto_region 5 with (fail)
      have eb := alloc_new wr (.cells #[.int .u64 x.1.first, .float .f64 x.2.1, .float .f64 x.2.2, .int .i64 (x.1.fr : Int), .int .i64 (x.1.to_ : Int)] 34)
      have q0 := (cell_of_row _ _ 0 _ _ _ eb).trans rfl
      have hat := own_at (HN.out.row.alloc (.cells #[.int .u64 x.1.first, .float .f64 x.2.1, .float .f64 x.2.2, .int .i64 (x.1.fr : Int), .int .i64 (x.1.to_ : Int)] 34)) (i : Int) (by omega) (by have := HLT.out; omega)
      rw [Int.toNat_natCast] at hat
      have z1 := hat.1
      have z2 := hat.2
      clear hat eb
      go_wp2_with (fail)
      go_roundg (xs.length - (i + 1))
      case measure => have := HI.out; have := HLT.out; omega
      case rel => exact ⟨i + 1, by first | rfl | rw [hwr], Lib.hid ⟨HLT.out, Nat.le_refl _⟩, Lib.hid (HN.out.put _ HLT.out HX.out)⟩
    · have hd : decide ((i : Int) < (xs.length : Int)) = false := decide_eq_false (by omega)
      have hd2 : decide (i < xs.length) = false := decide_eq_false hi
      have hil : i = xs.length := by have := HI.out; omega
      subst hil
      go_wp2_with (fail)
      have h := HN.out.row
      rw [laidK_all] at h
      exact bodyPost_ret (results_tmp rfl _ _ _) rfl ⟨rfl, h, HN.out.below⟩
end Go.Proofs.Ytjlegggkibbkjaa.M
end

section
/- levels.over. -/
namespace Go.Proofs.Ytjlegggkibbkjaa.M
open Go Go.Proofs.Ytjlegggkibbkjaa Go.RowKit Go.Shelf Go.Proofs.Ytjlegggkibbkjaa.Pure Go.Proofs.Ytjlegggkibbkjaa.G Go.Proofs.YtjlegggkibbkjaaW.PrintWords
set_option linter.unusedVariables false
set_option linter.unusedSimpArgs false
theorem run_make_rowN {P : Program} (t e : TypeId) (i : TypeInfo) (z : Value) (ht : P.underlying t = some (.slice e)) (hi : P.info? e = some i) (hz : i.zero = some z)
    (kl kc : IntKind) (n c : Nat) (hnc : n ≤ c) (hbytes : i.bytes * c ≤ 281474976710656) (h63 : c ≤ 9223372036854775807) (w : World) :
    (Instr.makeSlice t (.int kl (n : Int)) (.int kc (c : Int))).run P w = .ok (.slice (some ⟨w.heap.size, 0, none⟩) n c) (w.alloc (.cells (madeCells z.cells (c * i.size)) e)) := by
  have hb : (i.bytes : Int) * (c : Int) ≤ 281474976710656 := by
    have h : ((i.bytes * c : Nat) : Int) ≤ 281474976710656 := by omega
    rwa [Int.natCast_mul] at h
  have hr := run_make (P := P) w t e i z ht hi hz kl kc n c (by omega) (by omega) hb (by omega)
  simp only [Int.toNat_natCast] at hr
  exact hr
theorem laidS_at (xs : List Seg) (m r : Nat) (hr : r < 5) : (laidS xs (m + 1))[xs.length * 5 + r]? = (scells zseg)[r]? := by
  unfold laidS
  rw [List.getElem?_append_right (by rw [srow_length]; omega), srow_length, Nat.add_sub_cancel_left]
  have h := srow_get (List.replicate (m + 1) zseg) 0 r zseg (by simp [List.replicate_succ]) hr
  rw [Nat.zero_mul, Nat.zero_add] at h
  exact h
/-- The segments laid so far. -/
structure SegN (l : List Int) (ends : List Nat) (w wd : World) (g : Nat) (v5 : Value) (xs : List Seg) : Prop where
  below : Below w.heap.size w wd
  row : wd.ownsRow w.heap.size 3 1 v5 ends.length (irow ends)
  blk : wd.heap[g]? = some (.cells (laidS xs (ends.length - xs.length)).toArray 34 (0, 0))
  ge : w.heap.size ≤ g
  ne : v5.ownBlock ≠ some g
  le : xs.length ≤ ends.length
  segs : xs.map (·.1) = (List.range xs.length).map (segOf l ends)
theorem SegN.further {l : List Int} {ends : List Nat} {w wd X : World} {g : Nat} {v5 : Value} {xs : List Seg} (h : SegN l ends w wd g v5 xs) (hb : Below wd.heap.size wd X) : SegN l ends w X g v5 xs :=
  ⟨h.below.trans (hb.mono h.below.size), ownsRow_keep h.row (fun k hk => hb.block k (h.row.lt k hk).2), (hb.block g (Array.getElem?_eq_some_iff.1 h.blk).1).trans h.blk, h.ge, h.ne, h.le, h.segs⟩
theorem SegN.cells {l : List Int} {ends : List Nat} {w wd : World} {g : Nat} {v5 : Value} {xs : List Seg} (h : SegN l ends w wd g v5 xs) (hi : xs.length < ends.length) {r : Nat} {v : Value} (hv : (scells zseg)[r]? = some v) :
    wd.cell? ⟨g, xs.length * 5 + r, none⟩ = some v ∧ wd.frozen? ⟨g, xs.length * 5 + r, none⟩ = false := by
  have hr : r < 5 := (List.getElem?_eq_some_iff.1 hv).1
  refine ⟨?_, by simp [World.frozen?, h.blk]⟩
  rw [cell_of_row wd g _ _ _ _ h.blk]
  have h2 := laidS_at xs (ends.length - xs.length - 1) r hr
  rw [show ends.length - xs.length - 1 + 1 = ends.length - xs.length from by omega] at h2
  simpa using h2.trans hv
theorem SegN.put {l : List Int} {ends : List Nat} {w wd : World} {g : Nat} {v5 : Value} {xs : List Seg} (h : SegN l ends w wd g v5 xs) (hi : xs.length < ends.length) {x : Seg} (hx : x.1 = segOf l ends xs.length) {v0 v1 v2 v3 v4 : Value} (hc : scells x = [v0, v1, v2, v3, v4]) :
    SegN l ends w (((((wd.setCell ⟨g, xs.length * 5, none⟩ v0).setCell ⟨g, xs.length * 5 + 1, none⟩ v1).setCell ⟨g, xs.length * 5 + 2, none⟩ v2).setCell ⟨g, xs.length * 5 + 3, none⟩ v3).setCell ⟨g, xs.length * 5 + 4, none⟩ v4) g v5 (xs ++ [x]) := by
  have hother : ∀ k, k ≠ g → (((((wd.setCell ⟨g, xs.length * 5, none⟩ v0).setCell ⟨g, xs.length * 5 + 1, none⟩ v1).setCell ⟨g, xs.length * 5 + 2, none⟩ v2).setCell ⟨g, xs.length * 5 + 3, none⟩ v3).setCell ⟨g, xs.length * 5 + 4, none⟩ v4).heap[k]? = wd.heap[k]? := fun k hk => by
    rw [setCell_other _ _ _ _ hk, setCell_other _ _ _ _ hk, setCell_other _ _ _ _ hk, setCell_other _ _ _ _ hk, setCell_other _ _ _ _ hk]
  have ge := h.ge
  have hlen : (xs ++ [x]).length = xs.length + 1 := by simp
  refine ⟨below_set (below_set (below_set (below_set (below_set h.below ge) ge) ge) ge) ge, ownsRow_keep h.row (fun k hk => hother k (fun e => h.ne (by rw [← e]; exact hk))), ?_, ge, h.ne, by rw [hlen]; exact hi, ?_⟩
  · have h3 := setCell_blk (setCell_blk (setCell_blk (setCell_blk (setCell_blk h.blk v0 (j := xs.length * 5)) v1 (j := xs.length * 5 + 1)) v2 (j := xs.length * 5 + 2)) v3 (j := xs.length * 5 + 3)) v4 (j := xs.length * 5 + 4)
    simp only [List.setIfInBounds_toArray] at h3
    have h4 := laidS_set xs (ends.length - xs.length - 1) x hc
    rw [show ends.length - xs.length - 1 + 1 = ends.length - xs.length from by omega, Nat.add_zero] at h4
    rw [h4] at h3
    rw [hlen, show ends.length - (xs.length + 1) = ends.length - xs.length - 1 from by omega]
    exact h3
  · rw [hlen, List.range_succ, List.map_append, List.map_append, h.segs]
    simp [hx]
theorem ends_le {eps : Int} {l : List Int} {ends : List Nat} (h : Pure.Ends eps l ends) : ends.length ≤ l.length := by
  have h1 := bd_mono h.1 ends.length (Nat.le_refl _) 0 (Nat.zero_le _)
  rw [h.2, bd_zero] at h1
  omega
theorem irow_get {ends : List Nat} {i : Nat} (hi : i < ends.length) : (irow ends)[i]? = some (.int .i64 (bd ends (i + 1) : Int)) := by
  rw [bd_get hi]
  simp [irow, hi]
set_option maxHeartbeats 4000000 in
set_option maxRecDepth 100000 in
theorem over11 (hA : AddLaw) (A : Option Addr) (c : Nat) (l : List Int) (eps : Int) (he : 2 ≤ eps ∧ eps ≤ 64) (hn : 0 < l.length) (hl : l.length ≤ 4294967296) (hc : l.length ≤ c) (hr : Rise l) (hw : Wf l) (w : World) (hr0 : Kd.C (Kd.int .u64) w A l.length l) :
    Calls Try.prog 11 #[.slice A l.length c, .int .i64 eps] w fun e w' => (∃ (xs : List Seg) (g : Nat), e = .returned (.slice (some ⟨g, 0, none⟩) xs.length xs.length) ∧ Lvl eps l (xs.map (·.1)) ∧ w'.heap[g]? = some (.cells (srow xs).toArray 34 (0, 0)) ∧ w.heap.size ≤ g) ∧ Below w.heap.size w w' := by
  obtain ⟨i31, hi31, hz310, hz311, hz312⟩ := info_parts info31
  obtain ⟨i34, hi34, hz340, hz341, hz342⟩ := info_parts info34
  have HCUT := Lib.hid (cuts15 hA A c l eps he (by omega) hc hr (rises_of hr _ (Nat.le_refl _)) hw w hr0)
  have HMOD : Hid (∀ (a t : Nat) (A' : Option Addr), a < t → t ≤ l.length → Fits eps ((l.drop a).take (t - a)) → (if c = a then A else A.map (·.add (a * 1))) = A' → ∀ W, Below w.heap.size w W → Calls Try.prog 16 #[.slice A' (t - a) (c - a), .int .i64 eps, .int .i64 (a : Int)] W fun e w' => (∃ x y : Nat, e = .returned (.tuple #[.agg #[.int .u64 (l.getD a 0), .float .f64 x, .float .f64 y, .int .i64 (a : Int), .int .i64 (t : Int)], .int .i64 0])) ∧ Below W.heap.size W w') := Lib.hid (by
    intro a t A' hat ht hf hA' W hb
    have hcm := Kd.C_mid (c := c) (lo := a) (hi := t) (Kd.C_below hr0 hb) (by omega) ht hc
    rw [drop_take_sub] at hcm
    have hls := sub_len (l := l) (a := a) ht
    have h := model16 hA A' (c - a) ((l.drop a).take (t - a)) eps a he (by omega) (by omega) (by omega) (rise_sub hr ht) (rises_of (rise_sub hr ht) _ (Nat.le_refl _)) (wf_sub hw a t) hf W (by rw [← hA']; exact hcm)
    rw [hls] at h
    have h0 := sub_get (l := l) (a := a) (t := t) (i := 0) (by omega)
    rw [Nat.add_zero] at h0
    rw [h0, show a + (t - a) = t from by omega] at h
    exact h)
  have HCM : Hid (∀ (a t : Nat), a ≤ t → t ≤ l.length → ∀ W : World, (Instr.slice 22 (.slice A l.length c) (some (.int .i64 (a : Int))) (some (.int .i64 (t : Int))) none).run Try.prog W = .ok (.slice (if c = a then A else A.map (·.add (a * 1))) (t - a) (c - a)) W) := Lib.hid (by
    intro a t h1 h2 W
    have h := cut_mid (P := Try.prog) 22 31 .i64 .i64 Try.underlying22 hi31 1 hz311 A l.length c (a : Int) (t : Int) (by omega) (by omega) (by omega) hc W
    simp only [Int.toNat_natCast] at h
    exact h)
  have HMK : Hid (∀ (n : Nat), n ≤ 4294967296 → ∀ u : World, (Instr.makeSlice 30 (.int .i64 (n : Int)) (.int .i64 (n : Int))).run Try.prog u = .ok (.slice (some ⟨u.heap.size, 0, none⟩) n n) (u.alloc (.cells (laidS [] n).toArray 34))) := Lib.hid (by
    intro n hn u
    have := run_make_rowN (P := Try.prog) 30 34 i34 _ Try.underlying30 hi34 hz340 .i64 .i64 n n (Nat.le_refl _) (by rw [hz342]; omega) (by omega) u
    rw [hz341] at this
    rw [← made5]
    exact this)
  have HN := Lib.hid hn
  have HL := Lib.hid hl
  clear hA he hn hl hc hr hw hr0 hi31 hz310 hz311 hz312 i31 hi34 hz340 hz341 hz342 i34
  go_enter Try.func11, Try.ntmps11
  go_upto_region 2 with (go_at_call 15; go_must (refine (HCUT.out).mono ?_; rintro e X ⟨⟨ends, v, rfl, hE, hrow⟩, hb⟩; have HE := Lib.hid hE; have HB := Lib.hid hb; have HROW := Lib.hid hrow; clear hE hb hrow))
  have hpos := ends_pos HE.out HN.out
  obtain ⟨g5, c5, hv, hg5, _⟩ := HROW.out.form hpos
  subst hv
  have hmk := HMK.out ends.length (Nat.le_trans (ends_le HE.out) HL.out)
  have HPOS := Lib.hid hpos
  clear hpos hg5
  go_wp2_with (fail)
  have hN : SegN l ends w (X.alloc (.cells (laidS [] ends.length).toArray 34)) X.heap.size (.slice (some ⟨g5, 0, none⟩) ends.length c5) [] := by
    refine ⟨below_alloc HB.out _, HROW.out.alloc _, alloc_new X _, HB.out.size, fun e => ?_, Nat.zero_le _, rfl⟩
    have := (HROW.out.lt _ e).2
    omega
  have HSN := Lib.hid hN
  obtain ⟨g, hg⟩ : ∃ g, X.heap.size = g := ⟨_, rfl⟩
  rw [hg] at HSN ⊢
  clear hN hg HROW HB
  go_loopg [8, 9, 10, 22] ends.length (fun kq v8 v9 v10 v22 wd => ∃ xs : List Seg, v22 = .int .i64 (xs.length : Int) ∧ v8 = .int .i64 (bd ends xs.length : Int) ∧ Hid (xs.length ≤ ends.length ∧ ends.length - xs.length ≤ kq) ∧ Hid (SegN l ends w wd g (.slice (some ⟨g5, 0, none⟩) ends.length c5) xs))
  case atStart => exact ⟨[], rfl, rfl, Lib.hid ⟨Nat.zero_le _, Nat.le_refl _⟩, HSN⟩
  case round =>
    obtain ⟨xs, rfl, rfl, HI, HS⟩ := hrel
    by_cases hi : xs.length < ends.length
    · have hd : decide ((xs.length : Int) < (ends.length : Int)) = true := decide_eq_true (by omega)
      have hd2 : decide (xs.length < ends.length) = true := decide_eq_true hi
      obtain ⟨h1, h2, h3, _⟩ := HE.out.1.up xs.length hi
      have hce := HS.out.row.cells (g := g5) rfl xs.length _ (irow_get hi)
      rw [add_plain] at hce
      have hnx : bd ends (xs.length + 1) = bd ends (xs ++ [(zseg : Seg)]).length := by simp
      obtain ⟨a, ha⟩ : ∃ a, bd ends xs.length = a := ⟨_, rfl⟩
      obtain ⟨t, ht⟩ : ∃ t, bd ends (xs.length + 1) = t := ⟨_, rfl⟩
      rw [ha, ht] at h1 h3
      rw [ht] at h2 hce
      have hcm := HCM.out a t (Nat.le_of_lt h1) h2
      obtain ⟨A', hA'⟩ : ∃ A', (if c = a then A else A.map (·.add (a * 1))) = A' := ⟨_, rfl⟩
      have HMD := Lib.hid (HMOD.out a t A' h1 h2 h3 hA')
      rw [hA'] at hcm
      rw [ha]
      have hwr : IntKind.i64.wrap ((xs.length : Int) + 1) = ((xs.length + 1 : Nat) : Int) := by rw [IntWalk.i64_in _ (by have := HL.out; have := ends_le HE.out; omega)]; omega
      have hst : ∀ (f : Nat) (a : Addr) (W : World), (store a (.float .f64 f)).run Try.prog W = stored Try.prog W a (.float .f64 f) .plain := fun _ _ _ => run_store _ _ _ _ _ rfl
      obtain ⟨f0, hf0⟩ : ∃ f0, l.getD a 0 = f0 := ⟨_, rfl⟩
      rw [hf0] at HMD
      have HSG : Hid (∀ x y : Nat, segOf l ends xs.length = ⟨f0, a, t⟩) := Lib.hid (fun _ _ => by unfold segOf; rw [ha, ht, hf0])
      have HLT := Lib.hid hi
      have HHT := Lib.hid ht
      clear h1 h2 h3 hA' ha ht hf0 hnx hi
      go_upto_region 8 with (go_at_call 16; go_must (refine (HMD.out _ HS.out.below).mono ?_; rintro e Y ⟨⟨f1, f2, rfl⟩, hb⟩; have hY := HS.out.further hb; have z0 := hY.cells HLT.out (r := 0) rfl; have z1 := hY.cells HLT.out (r := 1) rfl; have z2 := hY.cells HLT.out (r := 2) rfl; have z3 := hY.cells HLT.out (r := 3) rfl; have z4 := hY.cells HLT.out (r := 4) rfl; rw [Nat.add_zero] at z0; obtain ⟨z0, q0⟩ := z0; obtain ⟨z1, q1⟩ := z1; obtain ⟨z2, q2⟩ := z2; obtain ⟨z3, q3⟩ := z3; obtain ⟨z4, q4⟩ := z4; have HY := Lib.hid hY; clear hY hb))
      go_wp2_with (fail)
      have hlen : (xs ++ [((⟨f0, a, t⟩, f1, f2) : Seg)]).length = xs.length + 1 := by simp
      go_roundg (ends.length - (xs.length + 1))
      case measure => have := HI.out; have := HLT.out; omega
      case rel =>
        refine ⟨xs ++ [((⟨f0, a, t⟩, f1, f2) : Seg)], by first | (rw [hlen]; rfl) | (rw [hlen, hwr]), by rw [hlen, HHT.out], Lib.hid (by rw [hlen]; exact ⟨HLT.out, Nat.le_refl _⟩), Lib.hid (HY.out.put HLT.out (x := (⟨f0, a, t⟩, f1, f2)) (HSG.out 0 0).symm rfl)⟩
    · have hd : decide ((xs.length : Int) < (ends.length : Int)) = false := decide_eq_false (by omega)
      have hd2 : decide (xs.length < ends.length) = false := decide_eq_false hi
      have hil : xs.length = ends.length := by have := HI.out; omega
      have HIL := Lib.hid hil
      clear hil hi
      go_wp2_with (fail)
      have hb := HS.out.blk
      have hs := HS.out.segs
      rw [HIL.out, Nat.sub_self, laidS_zero] at hb
      rw [HIL.out] at hs
      refine bodyPost_ret (results_tmp rfl _ _ _) rfl ⟨⟨xs, g, by first | rfl | (rw [HIL.out]; rfl), ⟨ends, HE.out, hs⟩, hb, HS.out.ge⟩, HS.out.below⟩
end Go.Proofs.Ytjlegggkibbkjaa.M
end

section
/- levels.Build. -/
namespace Go.Proofs.Ytjlegggkibbkjaa.M
open Go Go.Proofs.Ytjlegggkibbkjaa Go.RowKit Go.Shelf Go.Proofs.Ytjlegggkibbkjaa.Pure Go.Proofs.Ytjlegggkibbkjaa.G Go.Proofs.YtjlegggkibbkjaaW.PrintWords
set_option linter.unusedVariables false
set_option linter.unusedSimpArgs false
theorem C_of_own {W : World} {base c : Nat} {e : TypeId} {A : Option Addr} {xs : List Int} (h : W.ownsRow base e 1 (.slice A xs.length c) xs.length (nums .u64 xs)) : Kd.C (Kd.int .u64) W A xs.length xs := by
  have h2 := Kd.R_of_own (enc := Value.int .u64) (h1 := fun _ => rfl) (ok := fun _ => True) h (fun _ _ => trivial)
  obtain ⟨A', c', e', _, hc⟩ := Kd.R_reads h2
  cases e'
  exact hc
/-- Levels, each in a block. -/
abbrev Lev := Nat × List Seg
def lval (p : Lev) : Value := .slice (some ⟨p.1, 0, none⟩) p.2.length p.2.length
def lrow (Ls : List Lev) : List Value := Ls.map lval
def lsg (Ls : List Lev) : List (List Sg) := Ls.map fun p => p.2.map (·.1)
def LBlks (w : World) (Ls : List Lev) : Prop := ∀ p ∈ Ls, w.heap[p.1]? = some (.cells (srow p.2).toArray 34 (0, 0))
theorem info30 : (Try.prog.info? 30).map (fun i => (i.zero, i.size, i.bytes)) = some (some (.slice none 0 0), 1, 24) := by kernel_rfl
theorem firstsL_skeys (xs : List Seg) : firstsL (xs.map (·.1)) = skeys xs := by simp [firstsL, skeys]
/-- Ahead of a level. -/
structure LevN (eps : Int) (l : List Int) (w wd : World) (lk : List Int) (A : Option Addr) (ck : Nat) (v6 : Value) (Ls : List Lev) : Prop where
  below : Below w.heap.size w wd
  reads : Kd.C (Kd.int .u64) wd A lk.length lk
  cap : lk.length ≤ ck
  rise : Rise lk
  wf : Wf lk
  row : wd.ownsRow w.heap.size 30 1 v6 Ls.length (lrow Ls)
  blks : LBlks wd Ls
  ok : ∀ rest, LevelsOk eps lk rest → LevelsOk eps l (lsg Ls ++ rest)
  few : Ls.length + lk.length ≤ l.length
/-- Levels that are built. -/
def Built (eps : Int) (l : List Int) (w w' : World) (e : Ending) : Prop := ∃ (v : Value) (Ls : List Lev), e = .returned (.tuple #[v, .int .i64 0]) ∧ w'.ownsRow w.heap.size 30 1 v Ls.length (lrow Ls) ∧ LBlks w' Ls ∧ LevelsOk eps l (lsg Ls)
theorem LBlks.keep {w w' : World} {Ls : List Lev} (h : LBlks w Ls) (hk : ∀ k, k < w.heap.size → (∀ cur, w.heap[k]? ≠ some (.cells cur 30 (0, 0))) → w'.heap[k]? = w.heap[k]?) : LBlks w' Ls := by
  intro p hp
  have h1 := h p hp
  rw [hk p.1 (Array.getElem?_eq_some_iff.1 h1).1 (fun cur e => by rw [h1] at e; simp at e)]
  exact h1
/-- A level was laid behind the levels. -/
theorem LevN.app {eps : Int} {l : List Int} {w wd X X2 : World} {lk : List Int} {A : Option Addr} {ck : Nat} {v6 v' : Value} {Ls : List Lev} (h : LevN eps l w wd lk A ck v6 Ls) (hb : Below wd.heap.size wd X) {xs : List Seg} {g : Nat} (hx : Lvl eps lk (xs.map (·.1))) (hg : X.heap[g]? = some (.cells (srow xs).toArray 34 (0, 0))) (hg2 : wd.heap.size ≤ g) (o : Obj) (hl : lk ≠ [])
    (ho : X2.ownsRow w.heap.size 30 1 v' (Ls.length + 1) (lrow Ls ++ [lval (g, xs)])) (hgr : (X.alloc o).grownBy X2 v6.ownBlock) :
    Below w.heap.size w X2 ∧ X2.ownsRow w.heap.size 30 1 v' (Ls ++ [(g, xs)]).length (lrow (Ls ++ [(g, xs)])) ∧ LBlks X2 (Ls ++ [(g, xs)]) ∧ (xs.length = 1 → LevelsOk eps l (lsg (Ls ++ [(g, xs)]))) ∧ (xs.length ≠ 1 → ∀ rest, LevelsOk eps (skeys xs) rest → LevelsOk eps l (lsg (Ls ++ [(g, xs)]) ++ rest)) := by
  have hs := h.below.size
  have hs1 := hb.size
  have hs2 := hgr.size
  rw [World.size_alloc] at hs2
  have hX : Below w.heap.size w X := h.below.trans (hb.mono hs)
  have hrow : X.ownsRow w.heap.size 30 1 v6 Ls.length (lrow Ls) := ownsRow_keep h.row (fun k hk => hb.block k (h.row.lt k hk).2)
  have hkeep : ∀ k, k < X.heap.size → (∀ cur, X.heap[k]? ≠ some (.cells cur 30 (0, 0))) → X2.heap[k]? = X.heap[k]? := fun k hk hn =>
    (hgr.block k (by rw [World.size_alloc]; omega) (fun e => by
      obtain ⟨cur, hc⟩ := own_type hrow e.symm
      exact hn cur hc)).trans (Below.heap_alloc X o k hk)
  refine ⟨⟨hgr.os.trans hX.os, hgr.tape.trans hX.tape, hgr.output.trans hX.output, by omega, fun k hk => ?_⟩, ?_, ?_, ?_, ?_⟩
  · refine (hgr.block k (by rw [World.size_alloc]; omega) (fun e => ?_)).trans ((Below.heap_alloc X o k (by omega)).trans (hX.block k hk))
    have := (hrow.lt k e.symm).1
    omega
  · rw [List.length_append, List.length_singleton]
    have e : lrow (Ls ++ [(g, xs)]) = lrow Ls ++ [lval (g, xs)] := by simp [lrow]
    rw [e]
    exact ho
  · have h1 : LBlks X Ls := fun p hp => (hb.block p.1 (Array.getElem?_eq_some_iff.1 (h.blks p hp)).1).trans (h.blks p hp)
    intro p hp
    rcases List.mem_append.1 hp with hp | hp
    · exact h1.keep hkeep p hp
    · rw [List.mem_singleton] at hp
      subst hp
      rw [hkeep g (Array.getElem?_eq_some_iff.1 hg).1 (fun cur e => by rw [hg] at e; simp at e)]
      exact hg
  · intro h1
    have h2 := h.ok [xs.map (·.1)] ⟨hl, hx, fun _ => rfl, fun hc => absurd (by rw [List.length_map]; exact h1) hc⟩
    simpa [lsg] using h2
  · intro h1 rest hr
    have h2 := h.ok (xs.map (·.1) :: rest) ⟨hl, hx, fun hc => absurd (by rw [List.length_map] at hc; exact hc) h1, fun _ => by rw [firstsL_skeys]; exact hr⟩
    simpa [lsg] using h2
set_option maxHeartbeats 4000000 in
set_option maxRecDepth 100000 in
theorem build5 (hA : AddLaw) (A : Option Addr) (c : Nat) (l : List Int) (eps : Int) (he : 2 ≤ eps ∧ eps ≤ 64) (hl : l.length ≤ 4294967296) (hc : l.length ≤ c) (hr : Rise l) (hw : Wf l) (w : World) (hr0 : Kd.C (Kd.int .u64) w A l.length l) :
    Calls Try.prog 5 #[.slice A l.length c, .int .i64 eps] w fun e w' => Built eps l w w' e ∧ Below w.heap.size w w' := by
  obtain ⟨i30, hi30, hz300, hz301, hz302⟩ := info_parts info30
  have HA := Lib.hid hA
  have HE := Lib.hid he
  have HL := Lib.hid hl
  have HC := Lib.hid hc
  have HR := Lib.hid hr
  have HW := Lib.hid hw
  have HR0 := Lib.hid hr0
  have d1 : decide (eps < 2) = false := decide_eq_false (by omega)
  have d2 : decide (eps > 64) = false := decide_eq_false (by omega)
  have d3 : decide (64 < eps) = false := decide_eq_false (by omega)
  clear hA he hl hc hr hw hr0
  go_enter Try.func5, Try.ntmps5
  go_upto_region 3 with (fail)
  go_upto_region 4 with (go_at_call 10; go_must (refine (keys_Rising.calls A c l true _ HR0.out HC.out (by unfold keys_Rising.f; rw [rises_of HR.out _ (Nat.le_refl _)])).mono ?_; rintro e Y ⟨rfl, ⟨nd, rfl⟩⟩))
  go_loopg [0, 6, 7] l.length (fun kq v0 v6 v7 wd => ∃ (lk : List Int) (A0 : Option Addr) (ck : Nat) (A6 : Option Addr) (c6 : Nat) (Ls : List Lev), v0 = .slice A0 lk.length ck ∧ v6 = .slice A6 Ls.length c6 ∧ Hid (lk.length ≤ kq) ∧ Hid (LevN eps l w wd lk A0 ck (.slice A6 Ls.length c6) Ls))
  case atStart => exact ⟨l, A, c, none, 0, [], rfl, rfl, Lib.hid (Nat.le_refl _), Lib.hid ⟨below_drewN w nd, HR0.out, HC.out, HR.out, HW.out, World.ownsRow_nil _ _ _ _, fun p hp => by simp at hp, fun rest h => h, by simp⟩⟩
  case round =>
    obtain ⟨lk, A0, ck, A6, c6, Ls, rfl, rfl, HQ, HN⟩ := hrel
    by_cases hk : 0 < lk.length
    · have hd : decide ((lk.length : Int) > 0) = true := decide_eq_true (by omega)
      have hd1 : decide ((0 : Int) < (lk.length : Int)) = true := decide_eq_true (by omega)
      have hd2 : decide (0 < lk.length) = true := decide_eq_true hk
      have HOV := Lib.hid (over11 HA.out A0 ck lk eps HE.out hk (by have := HN.out.few; have := HL.out; omega) HN.out.cap HN.out.rise HN.out.wf wr HN.out.reads)
      have HLT := Lib.hid hk
      clear hk
      go_upto_region 8 with (go_at_call 11; go_must (refine (HOV.out).mono ?_; rintro e X ⟨⟨xs, g, rfl, hlv, hg, hg2⟩, hb⟩; have HX := Lib.hid (And.intro hlv (And.intro hg hg2)); have HB := Lib.hid hb; clear hlv hg hg2 hb))
      have hrX := ownsRow_keep HN.out.row (fun k hk => HB.out.block k (HN.out.row.lt k hk).2)
      have HRX := Lib.hid hrX
      clear hrX
      go_upto_region 9 with (at_builtin; go_must (refine wpList_append_own_at _ rfl (.tmp 25) (.tmp 27) 24 rfl w.heap.size 30 i30 _ 1 24 Try.underlying24 hi30 hz300 hz301 hz302 rfl (by decide) (.slice A6 Ls.length c6) Ls.length (lrow Ls) (by rfl) (HRX.out.alloc _) ⟨X.heap.size, 0, none⟩ 1 1 [lval (g, xs)] (by rfl) (by rfl) (World.news_of_block (cs := #[lval (g, xs)]) (t := 30) (fr := (0, 0)) (alloc_new X _)) (by intro u hu; simp only [List.mem_cons, List.not_mem_nil, or_false] at hu; subst hu; rfl) (by have := HL.out; have := HN.out.few; unfold maxLen; omega) (by have := HL.out; have := HN.out.few; omega) (by have := HN.out.below.size; have := HB.out.size; rw [World.size_alloc]; omega) ?_; intro v' X2 ho5 hg5 hn5 hat5; have O5 := Lib.hid ho5; have G5 := Lib.hid hg5; clear ho5 hg5 hn5 hat5))
      have hO5 := O5.out
      obtain ⟨A', c', hv', _⟩ := own_form hO5
      subst hv'
      clear hO5
      have hap := HN.out.app HB.out HX.out.1 HX.out.2.1 HX.out.2.2 (.cells #[lval (g, xs)] 30) (fun e => by have := HLT.out; rw [e] at this; simp at this) O5.out G5.out
      have HAP := Lib.hid hap
      clear hap
      by_cases h1 : xs.length = 1
      · have hq : ((xs.length : Int) == 1) = true := by rw [beq_iff_eq]; omega
        have H1 := Lib.hid h1
        clear h1
        go_wp2_with (fail)
        refine bodyPost_ret (results_tmp2 rfl _ _ _) rfl ?_
        obtain ⟨p1, p2, p3, p4, _⟩ := HAP.out
        rw [List.length_append, List.length_singleton] at p2
        exact ⟨⟨_, Ls ++ [(g, xs)], rfl, by rw [List.length_append, List.length_singleton]; exact p2, p3, p4 H1.out⟩, p1⟩
      · have hq : ((xs.length : Int) == 1) = false := by rw [beq_eq_false_iff_ne]; omega
        have hlx : xs.length < lk.length := by
          have hpos := HX.out.1.pos (fun e => by have := HLT.out; rw [e] at this; simp at this)
          have := HX.out.1.less HE.out.1 (by rw [List.length_map] at hpos ⊢; omega)
          rwa [List.length_map] at this
        have hsat := sat_of_blk (HAP.out.2.2.1 (g, xs) (List.mem_append_right _ (List.mem_singleton.2 rfl)))
        have hgl : g < X2.heap.size := (Array.getElem?_eq_some_iff.1 (HAP.out.2.2.1 (g, xs) (List.mem_append_right _ (List.mem_singleton.2 rfl)))).1
        have HF := Lib.hid (firsts12 g xs.length xs (by have := HN.out.few; have := HL.out; omega) X2 hsat hgl)
        have H1 := Lib.hid h1
        have HLX := Lib.hid hlx
        clear h1 hlx hsat hgl
        go_wp2_with (go_at_call 12; go_must (refine (HF.out).mono ?_; rintro e Z ⟨rfl, hz, hb⟩; have HZ := Lib.hid hz; have HBZ := Lib.hid hb; clear hz hb))
        go_roundg xs.length
        case measure => have := HLX.out; have := HQ.out; omega
        case rel =>
          obtain ⟨p1, p2, p3, _, p5⟩ := HAP.out
          have hsk : (skeys xs).length = xs.length := by simp [skeys]
          have hzz := HZ.out
          rw [← hsk] at hzz
          refine ⟨skeys xs, some ⟨X2.heap.size, 0, none⟩, xs.length, A', c', Ls ++ [(g, xs)], by rw [hsk], by rw [List.length_append, List.length_singleton], Lib.hid (by rw [hsk]; exact Nat.le_refl _), Lib.hid ?_⟩
          have hlvl := HX.out.1
          rw [List.length_append, List.length_singleton] at p2
          refine ⟨p1.trans (HBZ.out.mono p1.size), ?_, by rw [hsk]; exact Nat.le_refl _, ?_, ?_, ?_, fun p hp => (HBZ.out.block p.1 (Array.getElem?_eq_some_iff.1 (p3 p hp)).1).trans (p3 p hp), p5 H1.out, ?_⟩
          · have := C_of_own hzz
            exact this
          · rw [← firstsL_skeys]; exact hlvl.rise HN.out.rise
          · rw [← firstsL_skeys]; exact hlvl.wf HN.out.wf
          · rw [List.length_append, List.length_singleton]
            exact ownsRow_keep p2 (fun k hk => HBZ.out.block k (p2.lt k hk).2)
          · rw [List.length_append, List.length_singleton, hsk]
            have := HN.out.few; have := HLX.out; omega
    · have hd : decide ((lk.length : Int) > 0) = false := decide_eq_false (by omega)
      have hd1 : decide ((0 : Int) < (lk.length : Int)) = false := decide_eq_false (by omega)
      have hd2 : decide (0 < lk.length) = false := decide_eq_false hk
      have hl0 : lk = [] := List.eq_nil_of_length_eq_zero (by omega)
      have HL0 := Lib.hid hl0
      clear hl0 hk
      go_wp2_with (fail)
      refine bodyPost_ret (results_tmp2 rfl _ _ _) rfl ?_
      have h := HN.out.ok [] HL0.out
      rw [List.append_nil] at h
      exact ⟨⟨_, Ls, rfl, HN.out.row, HN.out.blks, h⟩, HN.out.below⟩
end Go.Proofs.Ytjlegggkibbkjaa.M
end

section
/- inclinetop.firsts; Build's refusals. -/
namespace Go.Proofs.Ytjlegggkibbkjaa.M
open Go Go.Proofs.Ytjlegggkibbkjaa Go.RowKit Go.Shelf Go.Proofs.Ytjlegggkibbkjaa.Pure Go.Proofs.Ytjlegggkibbkjaa.G Go.Proofs.YtjlegggkibbkjaaW.PrintWords
set_option linter.unusedVariables false
set_option linter.unusedSimpArgs false
/-- The keys appended so far. -/
structure KeysA (w wd : World) (xs : List Seg) (i : Nat) (v : Value) : Prop where
  below : Below w.heap.size w wd
  row : wd.ownsRow w.heap.size 31 1 v i (nums .u64 ((skeys xs).take i))
theorem KeysA.app {w wd X2 : World} {xs : List Seg} {i : Nat} {v v' : Value} (h : KeysA w wd xs i v) (o : Obj) {x : Seg} (hx : xs[i]? = some x)
    (ho : X2.ownsRow w.heap.size 31 1 v' (i + 1) (nums .u64 ((skeys xs).take i) ++ [.int .u64 x.1.first])) (hg : (wd.alloc o).grownBy X2 v.ownBlock) : KeysA w X2 xs (i + 1) v' := by
  have hs := h.below.size
  have hs2 := hg.size
  rw [World.size_alloc] at hs2
  refine ⟨⟨hg.os.trans h.below.os, hg.tape.trans h.below.tape, hg.output.trans h.below.output, by omega, fun k hk => ?_⟩, ?_⟩
  · refine (hg.block k (by rw [World.size_alloc]; omega) (fun e => ?_)).trans ((Below.heap_alloc wd o k (by omega)).trans (h.below.block k hk))
    have := (h.row.lt k e.symm).1
    omega
  · have hl : i < (skeys xs).length := by
      have := (List.getElem?_eq_some_iff.1 hx).1
      simpa [skeys] using this
    have e2 : (skeys xs)[i] = x.1.first := by
      have : (skeys xs)[i]? = some x.1.first := by simp [skeys, hx]
      rw [List.getElem?_eq_getElem hl] at this
      exact Option.some.inj this
    rw [List.take_succ_eq_append_getElem hl, e2, nums_append]
    exact ho
set_option maxHeartbeats 4000000 in
set_option maxRecDepth 100000 in
theorem firsts8 (g cap : Nat) (xs : List Seg) (hl : xs.length ≤ 1099511627776) (w : World) (hs : SAt w g xs) (hg : g < w.heap.size) :
    Calls Try.prog 8 #[.slice (some ⟨g, 0, none⟩) xs.length cap] w fun e w' => (∃ (A : Option Addr) (c : Nat), e = .returned (.slice A (skeys xs).length c) ∧ (skeys xs).length ≤ c ∧ Kd.C (Kd.int .u64) w' A (skeys xs).length (skeys xs)) ∧ Below w.heap.size w w' := by
  obtain ⟨i31, hi31, hz310, hz311, hz312⟩ := info_parts info31
  have HL := Lib.hid hl
  have HS := Lib.hid hs
  have HG := Lib.hid hg
  clear hl hs hg
  go_enter Try.func8, Try.ntmps8
  go_wp2
  have hK : KeysA w (w.alloc (.cells #[] 31)) xs 0 (.slice (some ⟨w.heap.size, 0, none⟩) 0 0) := ⟨(Below.refl _ w).alloc (Nat.le_refl _) _, by
    have := World.ownsRow_lit (base := w.heap.size) (e := 31) (size := 1) w #[] 0 (Nat.le_refl _) (by unfold maxLen; omega) rfl
    exact this⟩
  have HK := Lib.hid hK
  clear hK
  go_loopg [3, 4] xs.length (fun kq v3 v4 wd => ∃ (i : Nat) (A3 : Option Addr) (c3 : Nat), v4 = .int .i64 (i : Int) ∧ v3 = .slice A3 i c3 ∧ Hid (i ≤ xs.length ∧ xs.length - i ≤ kq) ∧ Hid (KeysA w wd xs i (.slice A3 i c3)))
  case atStart => exact ⟨0, _, _, rfl, rfl, Lib.hid ⟨Nat.zero_le _, Nat.le_refl _⟩, HK⟩
  case round =>
    obtain ⟨i, A3, c3, rfl, rfl, HI, HN⟩ := hrel
    by_cases hi : i < xs.length
    · have hd : decide ((i : Int) < (xs.length : Int)) = true := decide_eq_true (by omega)
      have hd2 : decide (i < xs.length) = true := decide_eq_true hi
      obtain ⟨x, hx⟩ : ∃ x, xs[i]? = some x := ⟨_, List.getElem?_eq_getElem hi⟩
      have hsw := HS.out.keep (HN.out.below.block g HG.out)
      have c0 := hsw i x hx 0 _ rfl
      simp only [Nat.add_zero] at c0
      have hwr : IntKind.i64.wrap ((i : Int) + 1) = ((i + 1 : Nat) : Int) := by rw [IntWalk.i64_in _ (by have := HL.out; omega)]; omega
      have HLT := Lib.hid hi
      have HX := Lib.hid hx
      clear hsw hi hx
      go_wp2_with (at_builtin; go_must (refine wpList_append_own_at _ rfl (.tmp 12) (.tmp 18) 22 rfl w.heap.size 31 i31 _ 1 8 Try.underlying22 hi31 hz310 hz311 hz312 rfl (by decide) (.slice A3 i c3) i (nums .u64 ((skeys xs).take i)) (by rfl) (HN.out.row.alloc _) ⟨wr.heap.size, 0, none⟩ 1 1 [.int .u64 x.1.first] (by rfl) (by rfl) (World.news_of_block (cs := #[.int .u64 x.1.first]) (t := 31) (fr := (0, 0)) (alloc_new wr _)) (by intro u hu; simp only [List.mem_cons, List.not_mem_nil, or_false] at hu; subst hu; rfl) (by have := HL.out; have := HLT.out; unfold maxLen; omega) (by have := HL.out; have := HLT.out; omega) (by have := HN.out.below.size; rw [World.size_alloc]; omega) ?_; intro v' X2 ho5 hg5 hn5 hat5; obtain ⟨A', c', hv', _⟩ := own_form ho5; subst hv'; have O5 := Lib.hid (HN.out.app _ HX.out ho5 hg5); clear ho5 hg5 hn5 hat5))
      go_roundg (xs.length - (i + 1))
      case measure => have := HI.out; have := HLT.out; omega
      case rel => exact ⟨i + 1, _, _, by first | rfl | rw [hwr], rfl, Lib.hid ⟨HLT.out, Nat.le_refl _⟩, O5⟩
    · have hd : decide ((i : Int) < (xs.length : Int)) = false := decide_eq_false (by omega)
      have hd2 : decide (i < xs.length) = false := decide_eq_false hi
      have hil : i = xs.length := by have := HI.out; omega
      subst hil
      go_wp2_with (fail)
      have h := HN.out.row
      have hsk : (skeys xs).length = xs.length := by simp [skeys]
      rw [List.take_of_length_le (by omega)] at h
      have hcap : xs.length ≤ c3 := by
        obtain ⟨_, _, e, hc⟩ := own_form h
        cases e
        exact hc
      rw [← hsk] at h hcap
      exact bodyPost_ret (results_tmp rfl _ _ _) rfl ⟨⟨A3, c3, by rw [hsk]; rfl, hcap, C_of_own h⟩, HN.out.below⟩
set_option maxHeartbeats 4000000 in
set_option maxRecDepth 100000 in
theorem build5_bad (A : Option Addr) (c : Nat) (l : List Int) (eps : Int) (hb : ¬ (2 ≤ eps ∧ eps ≤ 64) ∨ risesTo l l.length = false) (hc : l.length ≤ c) (w : World) (hr0 : Kd.C (Kd.int .u64) w A l.length l) :
    Calls Try.prog 5 #[.slice A l.length c, .int .i64 eps] w fun e w' => (∃ code : Int, code ≠ 0 ∧ e = .returned (.tuple #[.slice none 0 0, .int .i64 code])) ∧ Below w.heap.size w w' := by
  have HC := Lib.hid hc
  have HR0 := Lib.hid hr0
  clear hc hr0
  rcases Decidable.em (eps < 2) with h1 | h1
  · have d1 : decide (eps < 2) = true := decide_eq_true h1
    clear hb h1
    go_enter Try.func5, Try.ntmps5
    go_wp2_with (fail)
    exact bodyPost_ret (results_tmp2 rfl _ _ _) rfl ⟨⟨1, by decide, rfl⟩, Below.refl _ _⟩
  · have d1 : decide (eps < 2) = false := decide_eq_false h1
    rcases Decidable.em (eps > 64) with h2 | h2
    · have d2 : decide (eps > 64) = true := decide_eq_true h2
      have d3 : decide (64 < eps) = true := decide_eq_true h2
      clear hb h1 h2
      go_enter Try.func5, Try.ntmps5
      go_wp2_with (fail)
      exact bodyPost_ret (results_tmp2 rfl _ _ _) rfl ⟨⟨1, by decide, rfl⟩, Below.refl _ _⟩
    · have d2 : decide (eps > 64) = false := decide_eq_false h2
      have d3 : decide (64 < eps) = false := decide_eq_false h2
      have hf : risesTo l l.length = false := by
        rcases hb with hb | hb
        · exact absurd ⟨by omega, by omega⟩ hb
        · exact hb
      have HF := Lib.hid hf
      clear hb h1 h2 hf
      go_enter Try.func5, Try.ntmps5
      go_wp2_with (go_at_call 10; go_must (refine (keys_Rising.calls A c l false _ HR0.out HC.out (by unfold keys_Rising.f; rw [HF.out])).mono ?_; rintro e Y ⟨rfl, ⟨nd, rfl⟩⟩))
      exact bodyPost_ret (results_tmp2 rfl _ _ _) rfl ⟨⟨80, by decide, rfl⟩, below_drewN w nd⟩
end Go.Proofs.Ytjlegggkibbkjaa.M
end

section
/- Sixty cubes do not fit on one line. -/
namespace Go.Proofs.Ytjlegggkibbkjaa.Pure
theorem cubes_no : (addAll (newF 2) [0, 1, 8, 27, 64, 125, 216, 343]).isNone = true := by decide +kernel
end Go.Proofs.Ytjlegggkibbkjaa.Pure
end

section
/- Sixty cubes; what levels are. -/
namespace Go.Proofs.Ytjlegggkibbkjaa.M
open Go Go.RowKit Go.Proofs.Ytjlegggkibbkjaa.Pure Go.Proofs.Ytjlegggkibbkjaa.G
set_option linter.unusedVariables false
def cubes : List Int := (List.range 60).map fun i => ((i * i * i : Nat) : Int)
theorem cubes_len : cubes.length = 60 := by simp [cubes]
theorem cubes_rise : Rise cubes := rise_of (by decide +kernel)
theorem cubes_wf : Wf cubes := by
  intro x hx
  unfold cubes at hx
  obtain ⟨i, hi, rfl⟩ := List.mem_map.1 hx
  have hi := List.mem_range.1 hi
  have h1 : i * i ≤ 60 * 60 := Nat.mul_le_mul (by omega) (by omega)
  have h2 : i * i * i ≤ 60 * 60 * 60 := Nat.mul_le_mul h1 (by omega)
  omega
theorem cubes_take : cubes.take 8 = [0, 1, 8, 27, 64, 125, 216, 343] := by decide +kernel
theorem cubes_many {L : List Sg} (h : Lvl 2 cubes L) : L.length ≠ 1 := by
  obtain ⟨ends, he, rfl⟩ := h
  rw [segsOf_len]
  intro h1
  have h2 := (he.1.up 0 (by omega)).2.2.1
  have h3 := he.2
  rw [h1, cubes_len] at h3
  rw [bd_zero, h3, List.drop_zero] at h2
  obtain ⟨s, hs⟩ := h2
  have e : cubes.take (60 - 0) = cubes.take 8 ++ (cubes.take 60).drop 8 := by
    rw [Nat.sub_zero]
    conv => lhs; rw [← List.take_append_drop 8 (cubes.take 60)]
    rw [List.take_take]
    rfl
  rw [e, addAll_append, cubes_take] at hs
  have hn := cubes_no
  cases hq : addAll (newF 2) [0, 1, 8, 27, 64, 125, 216, 343] with
  | none => rw [hq] at hs; simp at hs
  | some q => rw [hq] at hn; simp at hn
theorem levels_last {eps : Int} : ∀ (lv : List (List Sg)) (l : List Int), LevelsOk eps l lv → lv ≠ [] → (lv.getD (lv.length - 1) []).length = 1 := by
  intro lv
  induction lv with
  | nil => intro l _ h; exact absurd rfl h
  | cons L rest ih =>
    intro l h _
    obtain ⟨q1, q2, q3, q4⟩ := h
    by_cases h1 : L.length = 1
    · rw [q3 h1]; simpa using h1
    · have h2 := q4 h1
      have hne : rest ≠ [] := by
        intro e
        rw [e] at h2
        have h3 : firstsL L = [] := h2
        have h4 := q2.pos q1
        have h5 : (firstsL L).length = 0 := by rw [h3]; rfl
        unfold firstsL at h5
        rw [List.length_map] at h5
        omega
      have h3 := ih _ h2 hne
      have hp : 0 < rest.length := List.length_pos_iff.2 hne
      rw [List.length_cons, Nat.add_sub_cancel]
      obtain ⟨n, hn⟩ : ∃ n, rest.length = n + 1 := ⟨rest.length - 1, by omega⟩
      rw [hn] at h3 ⊢
      simpa using h3
theorem levels_first {eps : Int} {l : List Int} {lv : List (List Sg)} (h : LevelsOk eps l lv) (hl : l ≠ []) : lv ≠ [] ∧ Lvl eps l (lv.getD 0 []) := by
  cases lv with
  | nil => exact absurd h hl
  | cons L rest => exact ⟨by simp, by simpa using h.2.1⟩
theorem levels_more {eps : Int} {l : List Int} {lv : List (List Sg)} (h : LevelsOk eps l lv) (hl : l ≠ []) (h1 : (lv.getD 0 []).length ≠ 1) : 1 < lv.length := by
  have hlast := levels_last lv l h (levels_first h hl).1
  rcases Nat.lt_or_ge 1 lv.length with h2 | h2
  · exact h2
  · have h3 : lv.length - 1 = 0 := by omega
    rw [h3] at hlast
    exact absurd hlast h1
theorem levels_few {eps : Int} (he : 2 ≤ eps) : ∀ (lv : List (List Sg)) (l : List Int), LevelsOk eps l lv → lv.length ≤ l.length := by
  intro lv
  induction lv with
  | nil => intro l _; exact Nat.zero_le _
  | cons L rest ih =>
    intro l h
    obtain ⟨q1, q2, q3, q4⟩ := h
    have hp := List.length_pos_iff.2 q1
    by_cases h1 : L.length = 1
    · rw [q3 h1]; exact hp
    · have h2 := ih _ (q4 h1)
      unfold firstsL at h2
      rw [List.length_map] at h2
      have h3 := q2.pos q1
      have h4 := q2.less he (by omega)
      rw [List.length_cons]
      omega
end Go.Proofs.Ytjlegggkibbkjaa.M
end

section
/- inclinetop.built is true. -/
namespace Go.Proofs.Ytjlegggkibbkjaa.M
open Go Go.Proofs.Ytjlegggkibbkjaa Go.RowKit Go.Shelf Go.Proofs.Ytjlegggkibbkjaa.Pure Go.Proofs.Ytjlegggkibbkjaa.G Go.Proofs.YtjlegggkibbkjaaW.PrintWords
set_option linter.unusedVariables false
set_option linter.unusedSimpArgs false
structure CubeN (w wd : World) (i : Nat) (v : Value) : Prop where
  below : Below w.heap.size w wd
  row : wd.ownsRow w.heap.size 31 1 v i (nums .u64 (cubes.take i))
theorem cube_get {i : Nat} (hi : i < 60) : cubes.take (i + 1) = cubes.take i ++ [((i * i * i : Nat) : Int)] := by
  have hl : i < cubes.length := by rw [cubes_len]; exact hi
  rw [List.take_succ_eq_append_getElem hl]
  congr 2
  simp [cubes]
theorem CubeN.app {w wd X2 : World} {i : Nat} {v v' : Value} (h : CubeN w wd i v) (o : Obj) {r : Int} (hi : i < 60) (hr : ((i * i * i : Nat) : Int) = r)
    (ho : X2.ownsRow w.heap.size 31 1 v' (i + 1) (nums .u64 (cubes.take i) ++ [.int .u64 r])) (hg : (wd.alloc o).grownBy X2 v.ownBlock) : CubeN w X2 (i + 1) v' := by
  have hs := h.below.size
  have hs2 := hg.size
  rw [World.size_alloc] at hs2
  refine ⟨⟨hg.os.trans h.below.os, hg.tape.trans h.below.tape, hg.output.trans h.below.output, by omega, fun k hk => ?_⟩, ?_⟩
  · refine (hg.block k (by rw [World.size_alloc]; omega) (fun e => ?_)).trans ((Below.heap_alloc wd o k (by omega)).trans (h.below.block k hk))
    have := (h.row.lt k e.symm).1
    omega
  · rw [cube_get hi, nums_append, hr]
    exact ho
theorem lrow_get {Ls : List Lev} {j : Nat} {p : Lev} (h : Ls[j]? = some p) : (lrow Ls)[j]? = some (lval p) := by simp [lrow, h]
theorem lsg_get {Ls : List Lev} {j : Nat} {p : Lev} (h : Ls[j]? = some p) : ((lsg Ls).getD j []).length = p.2.length := by
  rw [List.getD_eq_getElem?_getD]
  simp [lsg, h]
set_option maxHeartbeats 4000000 in
set_option maxRecDepth 100000 in
theorem built4 (hA : AddLaw) (w : World) :
    Calls Try.prog 4 #[] w fun e w' => e = .returned (.bool true) ∧ Below w.heap.size w w' := by
  obtain ⟨i31, hi31, hz310, hz311, hz312⟩ := info_parts info31
  have HA := Lib.hid hA
  clear hA
  go_enter Try.func4, Try.ntmps4
  go_wp2
  have hK : CubeN w (w.alloc (.cells #[] 31)) 0 (.slice (some ⟨w.heap.size, 0, none⟩) 0 0) := ⟨(Below.refl _ w).alloc (Nat.le_refl _) _, by
    have := World.ownsRow_lit (base := w.heap.size) (e := 31) (size := 1) w #[] 0 (Nat.le_refl _) (by unfold maxLen; omega) rfl
    exact this⟩
  have HK := Lib.hid hK
  clear hK
  go_loopg [1, 2] 60 (fun kq v1 v2 wd => ∃ (i : Nat) (A3 : Option Addr) (c3 : Nat), v2 = .int .u64 (i : Int) ∧ v1 = .slice A3 i c3 ∧ Hid (i ≤ 60 ∧ 60 - i ≤ kq) ∧ Hid (CubeN w wd i (.slice A3 i c3)))
  case atStart => exact ⟨0, _, _, rfl, rfl, Lib.hid ⟨Nat.zero_le _, Nat.le_refl _⟩, HK⟩
  case round =>
    obtain ⟨i, A3, c3, rfl, rfl, HI, HN⟩ := hrel
    by_cases hi : i < 60
    · have hd : decide ((i : Int) < 60) = true := decide_eq_true (by omega)
      have hd2 : decide (i < 60) = true := decide_eq_true hi
      obtain ⟨q, hq⟩ : ∃ q : Int, ((i * i : Nat) : Int) = q := ⟨_, rfl⟩
      obtain ⟨r, hr⟩ : ∃ r : Int, ((i * i * i : Nat) : Int) = r := ⟨_, rfl⟩
      have hb1 : i * i ≤ 60 * 60 := Nat.mul_le_mul (by omega) (by omega)
      have hb2 : i * i * i ≤ 60 * 60 * 60 := Nat.mul_le_mul hb1 (by omega)
      have hm1 : IntKind.u64.wrap ((i : Int) * (i : Int)) = q := by
        rw [← hq, ← Int.natCast_mul]
        exact IntWalk.u64_in _ (by omega)
      have hm2 : IntKind.u64.wrap (q * (i : Int)) = r := by
        rw [← hq, ← hr, ← Int.natCast_mul]
        exact IntWalk.u64_in _ (by omega)
      have hwr : IntKind.u64.wrap ((i : Int) + 1) = ((i + 1 : Nat) : Int) := by rw [IntWalk.u64_in _ (by omega)]; omega
      have HLT := Lib.hid hi
      have HR := Lib.hid hr
      clear hi hq hr hb1 hb2
      go_wp2_with (at_builtin; go_must (refine wpList_append_own_at _ rfl (.tmp 10) (.tmp 16) 22 rfl w.heap.size 31 i31 _ 1 8 Try.underlying22 hi31 hz310 hz311 hz312 rfl (by decide) (.slice A3 i c3) i (nums .u64 (cubes.take i)) (by rfl) (HN.out.row.alloc _) ⟨wr.heap.size, 0, none⟩ 1 1 [.int .u64 r] (by rfl) (by rfl) (World.news_of_block (cs := #[.int .u64 r]) (t := 31) (fr := (0, 0)) (alloc_new wr _)) (by intro u hu; simp only [List.mem_cons, List.not_mem_nil, or_false] at hu; subst hu; rfl) (by have := HLT.out; unfold maxLen; omega) (by have := HLT.out; omega) (by have := HN.out.below.size; rw [World.size_alloc]; omega) ?_; intro v' X2 ho5 hg5 hn5 hat5; obtain ⟨A', c', hv', _⟩ := own_form ho5; subst hv'; have O5 := Lib.hid (HN.out.app _ HLT.out HR.out ho5 hg5); clear ho5 hg5 hn5 hat5))
      go_roundg (60 - (i + 1))
      case measure => have := HI.out; have := HLT.out; omega
      case rel => exact ⟨i + 1, _, _, by first | rfl | rw [hwr], rfl, Lib.hid ⟨HLT.out, Nat.le_refl _⟩, O5⟩
    · have hil : i = 60 := by have := HI.out; omega
      subst hil
      clear hi
      have hrow := HN.out.row
      rw [List.take_of_length_le (by rw [cubes_len]; exact Nat.le_refl _)] at hrow
      have hcap : 60 ≤ c3 := by
        obtain ⟨_, _, e, hc⟩ := own_form hrow
        cases e
        exact hc
      have hC : Kd.C (Kd.int .u64) wr A3 cubes.length cubes := C_of_own (by rw [cubes_len]; exact hrow)
      have hbu := build5 HA.out A3 c3 cubes 2 (by omega) (by rw [cubes_len]; omega) (by rw [cubes_len]; exact hcap) cubes_rise cubes_wf wr hC
      rw [cubes_len] at hbu
      have HBU := Lib.hid hbu
      clear hrow hcap hC hbu
      go_upto_region 7 with (go_at_call 5; go_must (refine (HBU.out).mono ?_; rintro e X ⟨⟨v, Ls, rfl, hrow, hblk, hok⟩, hb⟩; have HROW := Lib.hid hrow; have HOK := Lib.hid hok; have HB := Lib.hid hb; clear hrow hblk hok hb))
      have hne : cubes ≠ [] := by intro e; have := cubes_len; rw [e] at this; simp at this
      have hfst := levels_first HOK.out hne
      have hn1 := cubes_many hfst.2
      have hp1 := hfst.2.pos hne
      have hmore := levels_more HOK.out hne hn1
      have hlast := levels_last _ _ HOK.out hfst.1
      have hll : (lsg Ls).length = Ls.length := by simp [lsg]
      rw [hll] at hmore hlast
      obtain ⟨n, hn⟩ : ∃ n, Ls.length = n := ⟨_, rfl⟩
      obtain ⟨p0, hp0⟩ : ∃ p, Ls[0]? = some p := ⟨_, List.getElem?_eq_getElem (by omega)⟩
      obtain ⟨pm, hpm⟩ : ∃ p, Ls[n - 1]? = some p := ⟨_, List.getElem?_eq_getElem (by omega)⟩
      rw [lsg_get hp0] at hn1 hp1
      rw [hn, lsg_get hpm] at hlast
      obtain ⟨g6, c6, hv, _, _⟩ := HROW.out.form (by omega)
      subst hv
      have hr0 := HROW.out
      rw [hn] at hr0 hmore ⊢
      have e0 := hr0.cells (g := g6) rfl 0 _ (lrow_get hp0)
      have em := hr0.cells (g := g6) rfl (n - 1) _ (lrow_get hpm)
      rw [add_plain] at e0 em
      obtain ⟨m, hm⟩ : ∃ m, n - 1 = m := ⟨_, rfl⟩
      rw [hm] at em
      have hsub : IntKind.i64.wrap ((n : Int) - 1) = (m : Int) := by
        have h2 : n ≤ 60 := by have := levels_few (by omega) _ _ HOK.out; rw [cubes_len] at this; simp [lsg] at this; omega
        rw [IntWalk.i64_in _ (by omega)]; omega
      have km3 : m < n := by omega
      have k1 : decide ((n : Int) > 1) = true := decide_eq_true (by omega)
      have k1' : decide ((1 : Int) < (n : Int)) = true := decide_eq_true (by omega)
      have k1'' : decide (1 < n) = true := decide_eq_true (by omega)
      have km : decide ((m : Int) < (n : Int)) = true := decide_eq_true (by omega)
      have km' : decide (m < n) = true := decide_eq_true (by omega)
      obtain ⟨a0, s0⟩ := p0
      obtain ⟨am, sm⟩ := pm
      obtain ⟨n0, hn0⟩ : ∃ n0, s0.length = n0 := ⟨_, rfl⟩
      obtain ⟨nm, hnm⟩ : ∃ nm, sm.length = nm := ⟨_, rfl⟩
      simp only [lval, hn0, hnm] at e0 em hn1 hp1 hlast
      have k2 : ((nm : Int) == 1) = true := by rw [beq_iff_eq]; omega
      have k3 : decide ((n0 : Int) > 1) = true := decide_eq_true (by omega)
      have k3' : decide ((1 : Int) < (n0 : Int)) = true := decide_eq_true (by omega)
      have k3'' : decide (1 < n0) = true := decide_eq_true (by omega)
      have HBW := Lib.hid (HN.out.below.trans (HB.out.mono HN.out.below.size))
      clear hne hfst hn1 hp1 hmore hlast hll hn hp0 hpm hr0 hm hn0 hnm HN
      go_wp2_with (fail)
      exact bodyPost_ret (results_tmp rfl _ _ _) rfl ⟨rfl, HBW.out⟩
end Go.Proofs.Ytjlegggkibbkjaa.M
end

section
/- The reference's Rising, in plain Lean. -/
namespace Go.Proofs.Ytjlegggkibbkjaa.M
open Go Go.RowKit Go.Proofs.Ytjlegggkibbkjaa.Pure Go.Proofs.Ytjlegggkibbkjaa.G Go.Proofs.YtjlegggkibbkjaaW.PrintWords
set_option linter.unusedVariables false
theorem ref_l0 (l : List Int) (hl : l.length ≤ 1099511627776) : ∀ d i : Nat, 1 ≤ i → i + d = l.length → risesTo l i = true → inclineref03_Rising.l0 (d + 1) l (i : Int) = some (risesTo l l.length) := by
  intro d
  induction d with
  | zero =>
    intro i h1 h2 h3
    rw [inclineref03_Rising.l0, if_neg (by omega), show l.length = i from by omega, h3]
  | succ d ih =>
    intro i h1 h2 h3
    have hw1 : wrap64 ((i : Int) - 1) = ((i - 1 : Nat) : Int) := by unfold wrap64; omega
    have hw2 : wrap64 ((i : Int) + 1) = ((i + 1 : Nat) : Int) := by unfold wrap64; omega
    rw [inclineref03_Rising.l0, hw1, hw2, if_pos (by omega), if_pos (by omega), if_pos (by omega), if_pos (by omega)]
    have e1 : rd l (i : Int) = l.getD i 0 := by simp [rd]
    have e2 : rd l ((i - 1 : Nat) : Int) = l.getD (i - 1) 0 := by simp only [rd, Int.toNat_natCast]
    rw [e1, e2]
    by_cases hc : l.getD i 0 ≤ l.getD (i - 1) 0
    · rw [if_pos hc, risesTo_bad l (k := i) (by omega) h1 (by omega)]
    · rw [if_neg hc]
      refine ih (i + 1) (by omega) (by omega) ?_
      rw [risesTo_succ, h3, Bool.true_and, decide_eq_true (by omega), Bool.or_true]
theorem ref_rising (l : List Int) (hl : l.length ≤ 1099511627776) : ∃ k, inclineref03_Rising.f k l = some (risesTo l l.length) := by
  by_cases h0 : l.length = 0
  · refine ⟨1, ?_⟩
    unfold inclineref03_Rising.f
    rw [inclineref03_Rising.l0, if_neg (by omega), h0, risesTo_zero]
  · refine ⟨l.length - 1 + 1, ?_⟩
    exact ref_l0 l hl (l.length - 1) 1 (by omega) (by omega) (by simp [risesTo, List.range_succ])
theorem eps_law (e : Int) : inclinetop_eps.f e = some (decide (2 ≤ e ∧ e ≤ 64)) := by
  unfold inclinetop_eps.f
  by_cases h : e ≥ 2
  · rw [if_pos h]
    congr 1
    exact decide_eq_decide.2 ⟨fun h2 => ⟨h, h2⟩, fun h2 => h2.2⟩
  · rw [if_neg h, decide_eq_false (fun h2 => h h2.1)]
end Go.Proofs.Ytjlegggkibbkjaa.M
end

section
/- What TopFew asks of levels, one by one. -/
namespace Go.Proofs.Ytjlegggkibbkjaa.M
open Go Go.RowKit Go.Proofs.Ytjlegggkibbkjaa.Pure Go.Proofs.Ytjlegggkibbkjaa.G
set_option linter.unusedVariables false
/-- Ahead of level i: the keys below it are row. -/
structure TopSt (e : Int) (Ls : List Lev) (i : Nat) (row : List Int) : Prop where
  more : i < Ls.length → LevelsOk e row (lsg (Ls.drop i))
  last : i = Ls.length → 0 < i → row.length = 1
theorem TopSt.start {e : Int} {l : List Int} {Ls : List Lev} (h : LevelsOk e l (lsg Ls)) : TopSt e Ls 0 l := ⟨fun _ => by rw [List.drop_zero]; exact h, fun _ h0 => absurd h0 (Nat.lt_irrefl 0)⟩
theorem TopSt.get {e : Int} {Ls : List Lev} {i : Nat} {row : List Int} (h : TopSt e Ls i row) {p : Lev} (hp : Ls[i]? = some p) :
    row ≠ [] ∧ Lvl e row (p.2.map (·.1)) ∧ TopSt e Ls (i + 1) (skeys p.2) := by
  have hi : i < Ls.length := (List.getElem?_eq_some_iff.1 hp).1
  have h1 := h.more hi
  have hd : Ls.drop i = p :: Ls.drop (i + 1) := by
    rw [List.drop_eq_getElem_cons hi]
    congr 1
    exact (List.getElem?_eq_some_iff.1 hp).2
  rw [hd] at h1
  obtain ⟨q1, q2, q3, q4⟩ := h1
  refine ⟨q1, q2, fun hn => ?_, fun hn _ => ?_⟩
  · rw [← firstsL_skeys]
    refine q4 (fun hc => ?_)
    have h2 : lsg (Ls.drop (i + 1)) = [] := q3 hc
    have h3 : (lsg (Ls.drop (i + 1))).length = 0 := by rw [h2]; rfl
    simp only [lsg, List.length_map, List.length_drop] at h3
    omega
  · have hs : (skeys p.2).length = p.2.length := by simp [skeys]
    rw [hs]
    by_cases h1 : (p.2.map (·.1)).length = 1
    · rwa [List.length_map] at h1
    · have h2 := q4 h1
      have h3 : Ls.drop (i + 1) = [] := List.drop_of_length_le (by omega)
      rw [h3] at h2
      have h4 : firstsL (p.2.map (·.1)) = [] := h2
      have h5 := q2.pos q1
      have h6 : (firstsL (p.2.map (·.1))).length = 0 := by rw [h4]; rfl
      unfold firstsL at h6
      simp only [List.length_map] at h5 h6
      omega
/-- The segments of a level, by their numbers. -/
theorem seg_get {row : List Int} {ends : List Nat} {xs : List Seg} (h : xs.map (·.1) = segsOf row ends) : xs.length = ends.length ∧ ∀ k x, xs[k]? = some x → x.1 = segOf row ends k := by
  have hl : xs.length = ends.length := by
    have := congrArg List.length h
    rwa [List.length_map, segsOf_len] at this
  refine ⟨hl, fun k x hx => ?_⟩
  have hk : k < ends.length := by
    have := (List.getElem?_eq_some_iff.1 hx).1
    omega
  have h1 : (xs.map (·.1))[k]? = some x.1 := by rw [List.getElem?_map, hx]; rfl
  rw [h] at h1
  unfold segsOf at h1
  rw [List.getElem?_map, List.getElem?_range hk] at h1
  exact (Option.some.inj h1).symm
theorem seg_facts {e : Int} {row : List Int} {ends : List Nat} (h : Pure.Ends e row ends) {k : Nat} (hk : k < ends.length) :
    bd ends k < bd ends (k + 1) ∧ bd ends (k + 1) ≤ row.length ∧ (k + 1 < ends.length → 2 * e - 1 ≤ (bd ends (k + 1) : Int) - (bd ends k : Int)) := by
  obtain ⟨h1, h2, _, h4⟩ := h.1.up k hk
  exact ⟨h1, h2, fun hk2 => h4 (bd_lt h hk2)⟩
end Go.Proofs.Ytjlegggkibbkjaa.M
end

section
/- TopFew where levels are built. -/
namespace Go.Proofs.Ytjlegggkibbkjaa.M
open Go Go.Proofs.Ytjlegggkibbkjaa Go.RowKit Go.Shelf Go.Proofs.Ytjlegggkibbkjaa.Pure Go.Proofs.Ytjlegggkibbkjaa.G Go.Proofs.YtjlegggkibbkjaaW.PrintWords
set_option linter.unusedVariables false
set_option linter.unusedSimpArgs false
/-- What holds throughout. -/
structure TopM (w wd : World) (base : Nat) (A6 : Option Addr) (c6 : Nat) (Ls : List Lev) : Prop where
  below : Below w.heap.size w wd
  row : wd.ownsRow base 30 1 (.slice A6 Ls.length c6) Ls.length (lrow Ls)
  blks : LBlks wd Ls
theorem TopM.further {w wd X : World} {base : Nat} {A6 : Option Addr} {c6 : Nat} {Ls : List Lev} (h : TopM w wd base A6 c6 Ls) (hb : Below wd.heap.size wd X) : TopM w X base A6 c6 Ls :=
  ⟨h.below.trans (hb.mono h.below.size), ownsRow_keep h.row (fun k hk => hb.block k (h.row.lt k hk).2), fun p hp => (hb.block p.1 (Array.getElem?_eq_some_iff.1 (h.blks p hp)).1).trans (h.blks p hp)⟩
set_option maxHeartbeats 8000000 in
set_option maxRecDepth 100000 in
theorem top_good (hA : AddLaw) (A : Option Addr) (c : Nat) (l : List Int) (e : Nat) (he : 2 ≤ e ∧ e ≤ 64) (hrt : risesTo l l.length = true) (hw : Wf l) (hl : l.length ≤ 1048576) (hc : l.length ≤ c) (w : World) (hr0 : Kd.C (Kd.int .u64) w A l.length l) :
    Calls Try.prog 3 #[.slice A l.length c, .int .i64 (e : Int)] w fun e w' => e = .returned (.bool true) ∧ Below w.heap.size w w' := by
  obtain ⟨kr, hkr⟩ := ref_rising l (by omega)
  rw [hrt] at hkr
  have hke := eps_law (e : Int)
  rw [decide_eq_true (by omega)] at hke
  have HB4 := Lib.hid (built4 hA w)
  have HB5 := Lib.hid (fun W (hb : Below w.heap.size w W) => build5 hA A c l (e : Int) (by omega) (by omega) hc (rise_of hrt) hw W (Kd.C_below hr0 hb))
  have HE := Lib.hid he
  have HL := Lib.hid hl
  have HC := Lib.hid hc
  have HR0 := Lib.hid hr0
  have HKR := Lib.hid hkr
  have HKE := Lib.hid hke
  clear hA he hrt hw hl hc hr0 hkr hke
  go_enter Try.func3, Try.ntmps3
  go_upto_region 2 with (go_at_call 4; go_must (refine (HB4.out).mono ?_; rintro e1 X ⟨rfl, hb⟩; have HB := Lib.hid hb; clear hb))
  go_upto_region 3 with (go_at_call 5; go_must (refine (HB5.out _ HB.out).mono ?_; rintro e1 Y ⟨⟨v, Ls, rfl, hrow, hblk, hok⟩, hb⟩; have HY := Lib.hid (And.intro hrow (And.intro hblk hok)); have HBY := Lib.hid (HB.out.trans (hb.mono HB.out.size)); clear hrow hblk hok hb))
  go_upto_region 4 with (go_at_call 6; go_must (refine (inclineref03_Rising.calls kr A c l true _ (Kd.C_below HR0.out HBY.out) HC.out HKR.out).mono ?_; rintro e1 Z ⟨rfl, ⟨nd, rfl⟩⟩))
  go_upto_region 5 with (go_at_call 7; go_must (refine (inclinetop_eps.calls (e : Int) true _ HKE.out).mono ?_; rintro e1 Z ⟨rfl, ⟨nd2, rfl⟩⟩))
  go_upto_region 9 with (fail)
  obtain ⟨A6, c6, hv, _⟩ := own_form HY.out.1
  subst hv
  have hM : TopM w (Y.drewN (nd + nd2)) X.heap.size A6 c6 Ls := (TopM.mk HBY.out HY.out.1 HY.out.2.1).further (below_drewN Y _)
  have HM := Lib.hid hM
  have HOK := Lib.hid HY.out.2.2
  have HLS : Hid (Ls.length ≤ l.length) := Lib.hid (by
    have h := levels_few (by have := HE.out; omega) _ _ HY.out.2.2
    simp only [lsg, List.length_map] at h
    exact h)
  obtain ⟨B, hB⟩ : ∃ B, X.heap.size = B := ⟨_, rfl⟩
  rw [hB] at HM
  have HR1 := Lib.hid (Kd.C_below HR0.out hM.below)
  clear hM HY HBY HB HB4 HB5 HKR HKE hB
  go_wp2_with (fail)
  go_loopg [10, 11, 12, 13, 14] Ls.length (fun kq v10 v11 v12 v13 v14 wd => ∃ (i : Nat) (row : List Int) (A10 : Option Addr) (c10 : Nat), v11 = .int .i64 (i : Int) ∧ v10 = .slice A10 row.length c10 ∧ Hid (i ≤ Ls.length ∧ Ls.length - i ≤ kq) ∧ Hid (TopM w wd B A6 c6 Ls) ∧ Hid (Kd.C (Kd.int .u64) wd A10 row.length row) ∧ Hid (row.length ≤ c10 ∧ row.length ≤ l.length ∧ TopSt (e : Int) Ls i row))
  case atStart => exact ⟨0, l, A, c, rfl, rfl, Lib.hid ⟨Nat.zero_le _, Nat.le_refl _⟩, HM, HR1, Lib.hid ⟨HC.out, Nat.le_refl _, TopSt.start HOK.out⟩⟩
  case round =>
    obtain ⟨i, row, A10, c10, rfl, rfl, HI, HN, HR, HT⟩ := hrel
    obtain ⟨V, hV⟩ : ∃ V, V = wr := ⟨_, rfl⟩
    subst hV
    by_cases hi : i < Ls.length
    · have hd : decide ((i : Int) < (Ls.length : Int)) = true := decide_eq_true (by omega)
      have hd2 : decide (i < Ls.length) = true := decide_eq_true hi
      obtain ⟨p, hp⟩ : ∃ p, Ls[i]? = some p := ⟨_, List.getElem?_eq_getElem hi⟩
      obtain ⟨hne, hlv, hst2⟩ := HT.out.2.2.get hp
      obtain ⟨ends, hE, hsegs⟩ := hlv
      obtain ⟨hxl, hxg⟩ := seg_get hsegs
      have hblk := HN.out.blks p (List.mem_of_getElem? hp)
      have hcap := Lvl.cap HE.out.1 (⟨ends, hE, hsegs⟩ : Lvl (e : Int) row (p.2.map (·.1)))
      rw [List.length_map] at hcap
      obtain ⟨g6, cc, hv, _, _⟩ := HN.out.row.form (by omega)
      cases hv
      obtain ⟨ai, xs⟩ := p
      have hsat := sat_of_blk hblk
      have hle := ends_le hE
      have hend := hE.2
      simp only at hxl hxg hst2 hsat hcap hblk
      obtain ⟨n, hn⟩ : ∃ n, xs.length = n := ⟨_, rfl⟩
      have hci : ∀ W, TopM w W B (some ⟨g6, 0, none⟩) c6 Ls → W.cell? ⟨g6, i, none⟩ = some (.slice (some ⟨ai, 0, none⟩) n n) := fun W hW => by
        have h := hW.row.cells (g := g6) rfl i _ (lrow_get hp)
        rw [add_plain] at h
        simp only [lval, hn] at h
        exact h
      have HCI := Lib.hid hci
      have HG := Lib.hid hxg
      have HEN := Lib.hid hE
      have HSAT := Lib.hid hsat
      have HS2 := Lib.hid hst2
      have HLE := Lib.hid hle
      have HCAP := Lib.hid hcap
      have HEND := Lib.hid hend
      have HXL := Lib.hid hxl
      have HXN := Lib.hid hn
      have HAI := Lib.hid (Array.getElem?_eq_some_iff.1 hblk).1
      have HLT := Lib.hid hi
      clear hci hxg hE hsat hst2 hle hcap hend hxl hn hblk hsegs hne hp hi
      go_wp2_with (fail)
      go_loopg [12, 13, 14] n (fun kq2 v12 v13 v14 wd => ∃ k : Nat, v13 = .int .i64 (k : Int) ∧ v12 = .int .i64 (bd ends k : Int) ∧ Hid (k ≤ n ∧ n - k ≤ kq2) ∧ Hid (Below V.heap.size V wd))
      case atStart => exact ⟨0, rfl, rfl, Lib.hid ⟨Nat.zero_le _, Nat.le_refl _⟩, Lib.hid (Below.refl _ _)⟩
      case round =>
        obtain ⟨k, rfl, rfl, HK, HB2⟩ := hrel
        have hM2 := HN.out.further HB2.out
        have ci := HCI.out _ hM2
        by_cases hk : k < n
        · have hd : decide ((k : Int) < (n : Int)) = true := decide_eq_true (by omega)
          have hd2 : decide (k < n) = true := decide_eq_true hk
          obtain ⟨x, hx⟩ : ∃ x, xs[k]? = some x := ⟨_, List.getElem?_eq_getElem (by have := HXN.out; omega)⟩
          have hxe := HG.out k x hx
          have hsw := HSAT.out.keep (HB2.out.block ai HAI.out)
          obtain ⟨h1, h2, h3⟩ := seg_facts HEN.out (k := k) (by have := HXN.out; have := HXL.out; omega)
          obtain ⟨f0, hf0⟩ : ∃ f0, row.getD (bd ends k) 0 = f0 := ⟨_, rfl⟩
          have hbk : ∃ a, bd ends k = a := ⟨_, rfl⟩
          obtain ⟨a, ha⟩ := hbk
          obtain ⟨t, ht⟩ : ∃ t, bd ends (k + 1) = t := ⟨_, rfl⟩
          have hxf : x.1 = ⟨f0, a, t⟩ := by rw [hxe]; unfold segOf; rw [hf0, ha, ht]
          obtain ⟨x1, f1, f2⟩ := x
          simp only at hxf
          subst hxf
          have c0 := hsw k _ hx 0 _ rfl
          have c1 := hsw k _ hx 1 _ rfl
          have c2 := hsw k _ hx 2 _ rfl
          have c3 := hsw k _ hx 3 _ rfl
          have c4 := hsw k _ hx 4 _ rfl
          simp only [Nat.add_zero] at c0
          rw [ha, ht] at h1 h3
          rw [ha] at hf0
          rw [ht] at h2
          rw [ha]
          have hst : ∀ (f : Nat) (a : Addr) (W : World), (store a (.float .f64 f)).run Try.prog W = stored Try.prog W a (.float .f64 f) .plain := fun _ _ _ => run_store _ _ _ _ _ rfl
          have HKL := Lib.hid hk
          have HF := Lib.hid (And.intro h1 (And.intro h2 h3))
          have HF0 := Lib.hid hf0
          have HHT := Lib.hid ht
          clear hk hx hxe hsw h1 h2 h3 hf0 ha ht hM2
          go_upto_region 18 with (fail)
          obtain ⟨b, hb⟩ : ∃ b, wr.heap.size = b := ⟨_, rfl⟩
          obtain ⟨W1, hW1⟩ : ∃ W1, wr.alloc (.cells #[.int .u64 f0, .float .f64 f1, .float .f64 f2, .int .i64 (a : Int), .int .i64 (t : Int)] 34) = W1 := ⟨_, rfl⟩
          have hbW : Below wr.heap.size wr W1 := by rw [← hW1]; exact (Below.refl _ wr).alloc (Nat.le_refl _) _
          have eb : W1.heap[b]? = some (.cells #[.int .u64 f0, .float .f64 f1, .float .f64 f2, .int .i64 (a : Int), .int .i64 (t : Int)] 34 (0, 0)) := by rw [← hW1, ← hb]; exact alloc_new wr _
          rw [hW1, hb]
          have hBW := HB2.out.trans (hbW.mono HB2.out.size)
          have HBW := Lib.hid hBW
          have q0 : W1.cell? ⟨b, 0, none⟩ = some (.int .u64 f0) := by rw [cell_of_row W1 _ 0 _ _ _ eb]; rfl
          have q3 : W1.cell? ⟨b, 3, none⟩ = some (.int .i64 (a : Int)) := by rw [cell_of_row W1 _ 3 _ _ _ eb]; rfl
          have q4 : W1.cell? ⟨b, 4, none⟩ = some (.int .i64 (t : Int)) := by rw [cell_of_row W1 _ 4 _ _ _ eb]; rfl
          have hci := HCI.out _ (HN.out.further hBW)
          obtain ⟨ad, e1, hx⟩ := Kd.at_int (Kd.C_below HR.out hBW) (a : Int) (by omega) (by have := HF.out.1; have := HF.out.2.1; omega)
          cases e1
          have hrd : rd row (a : Int) = row.getD a 0 := by simp [rd]
          rw [hrd, HF0.out] at hx
          simp only [Int.toNat_natCast] at hx
          have g1 : decide ((t : Int) ≤ (a : Int)) = false := decide_eq_false (by have := HF.out.1; omega)
          have g1' : decide (t ≤ a) = false := decide_eq_false (by have := HF.out.1; omega)
          have g2 : decide ((t : Int) > (row.length : Int)) = false := decide_eq_false (by have := HF.out.2.1; omega)
          have g2' : decide ((row.length : Int) < (t : Int)) = false := decide_eq_false (by have := HF.out.2.1; omega)
          have g2'' : decide (row.length < t) = false := decide_eq_false (by have := HF.out.2.1; omega)
          have g3 : (a : Int) < (row.length : Int) := by have := HF.out.2.1; have := HF.out.1; omega
          have g3' : a < row.length := by omega
          clear hb hW1 hbW eb hBW hrd c0 c1 c2 c3 c4 ci hst
          go_quiet (fail)
          obtain ⟨W2, hW2⟩ : ∃ W2, W1.drewN nq = W2 := ⟨_, rfl⟩
          have p3 : W2.cell? ⟨b, 3, none⟩ = some (.int .i64 (a : Int)) := by rw [← hW2]; exact q3
          have p4 : W2.cell? ⟨b, 4, none⟩ = some (.int .i64 (t : Int)) := by rw [← hW2]; exact q4
          have pci : W2.cell? ⟨g6, i, none⟩ = some (.slice (some ⟨ai, 0, none⟩) n n) := by rw [← hW2]; exact hci
          have HB3 : Hid (Below V.heap.size V W2) := Lib.hid (by rw [← hW2]; exact HBW.out.trans ((below_drewN W1 nq).mono HBW.out.size))
          rw [hW2]
          have hwk : IntKind.i64.wrap ((k : Int) + 1) = ((k + 1 : Nat) : Int) := by rw [IntWalk.i64_in _ (by have := HL.out; have := HKL.out; have := HXN.out; have := HXL.out; have := HLE.out; have := HT.out.2.1; omega)]; omega
          have hws : IntKind.i64.wrap ((t : Int) - (a : Int)) = (t : Int) - (a : Int) := IntWalk.i64_in _ (by have := HL.out; have := HT.out.2.1; have := HF.out.2.1; have := HF.out.1; omega)
          have hw2 : IntKind.i64.wrap (2 * (e : Int)) = 2 * (e : Int) := IntWalk.i64_in _ (by have := HE.out; omega)
          have hw3 : IntKind.i64.wrap (2 * (e : Int) - 1) = 2 * (e : Int) - 1 := IntWalk.i64_in _ (by have := HE.out; omega)
          have hilt := HLT.out
          clear hW2 q0 q3 q4 hci hx g1 g1' g2 g2' g2'' g3 g3' HBW
          by_cases hk1 : k + 1 < n
          · have r1 : decide ((k : Int) + 1 < (n : Int)) = true := decide_eq_true (by omega)
            have r1' : decide (k + 1 < n) = true := decide_eq_true hk1
            have h3 := HF.out.2.2 (by have := HXN.out; have := HXL.out; omega)
            have r2 : decide ((t : Int) - (a : Int) < 2 * (e : Int) - 1) = false := decide_eq_false (by omega)
            have r3 : decide ((t : Int) - (a : Int) ≤ (e : Int)) = false := decide_eq_false (by have := HE.out; omega)
            clear h3 hk1
            go_wp2_with (fail)
            go_roundg (n - (k + 1))
            case measure => have := HK.out; have := HKL.out; omega
            case rel => exact ⟨k + 1, by first | rfl | rw [hwk], by rw [HHT.out], Lib.hid ⟨HKL.out, Nat.le_refl _⟩, HB3⟩
          · have r1 : decide ((k : Int) + 1 < (n : Int)) = false := decide_eq_false (by omega)
            have r1' : decide (k + 1 < n) = false := decide_eq_false hk1
            clear hk1
            go_wp2_with (fail)
            go_roundg (n - (k + 1))
            case measure => have := HK.out; have := HKL.out; omega
            case rel => exact ⟨k + 1, by first | rfl | rw [hwk], by rw [HHT.out], Lib.hid ⟨HKL.out, Nat.le_refl _⟩, HB3⟩
        · have hd : decide ((k : Int) < (n : Int)) = false := decide_eq_false (by omega)
          have hd2 : decide (k < n) = false := decide_eq_false hk
          have hkn : k = n := by have := HK.out; omega
          have hat : bd ends k = row.length := by rw [← HEND.out]; congr 1; have := HXN.out; have := HXL.out; omega
          subst hkn
          rw [hat]
          have hilt := HLT.out
          have he0 : (e : Int) ≠ 0 := by have := HE.out; omega
          obtain ⟨qn, hqn⟩ : ∃ qn, row.length / e = qn := ⟨_, rfl⟩
          have hq : Int.tdiv (row.length : Int) (e : Int) = (qn : Int) := by
            rw [Int.tdiv_eq_ediv_of_nonneg (by omega), ← Int.natCast_ediv, hqn]
          have hqle : qn ≤ 1048576 := by rw [← hqn]; have := Nat.div_le_self row.length e; have := HL.out; have := HT.out.2.1; omega
          have hqw : IntKind.i64.wrap (qn : Int) = (qn : Int) := IntWalk.i64_in _ (by omega)
          have hqw2 : IntKind.i64.wrap ((qn : Int) + 1) = (qn : Int) + 1 := IntWalk.i64_in _ (by omega)
          have hcap : k ≤ qn + 1 := by have := HCAP.out; have := HXN.out; omega
          have g1 : decide ((k : Int) > (qn : Int) + 1) = false := decide_eq_false (by omega)
          have g1' : decide ((qn : Int) + 1 < (k : Int)) = false := decide_eq_false (by omega)
          have g1'' : decide (qn + 1 < k) = false := decide_eq_false (by omega)
          clear hk hat hqn hqle hcap hM2
          go_upto_region 23 with (fail)
          go_quiet (fail)
          obtain ⟨W2, hW2⟩ : ∃ W2, wr.drewN nq = W2 := ⟨_, rfl⟩
          have hB3 : Below V.heap.size V W2 := by rw [← hW2]; exact HB2.out.trans ((below_drewN wr nq).mono HB2.out.size)
          have pci := HCI.out _ (HN.out.further hB3)
          have h8 := firsts8 ai k xs (by have := HXL.out; have := HLE.out; have := HT.out.2.1; have := HL.out; omega) W2 (HSAT.out.keep (hB3.block ai HAI.out)) (by have := hB3.size; have := HAI.out; omega)
          rw [HXN.out] at h8
          have H8 := Lib.hid h8
          have HB3 := Lib.hid hB3
          have hwi : IntKind.i64.wrap ((i : Int) + 1) = ((i + 1 : Nat) : Int) := by rw [IntWalk.i64_in _ (by have := HLT.out; have := HLS.out; have := HL.out; omega)]; omega
          rw [hW2]
          clear hW2 ci he0 hq hqw hqw2 g1 g1' g1'' hB3 h8
          go_wp2_with (go_at_call 8; go_must (refine (H8.out).mono ?_; rintro e1 Z ⟨⟨A', c', rfl, hc', hC'⟩, hb⟩; have HZ := Lib.hid (And.intro hc' hC'); have HBZ := Lib.hid hb; clear hc' hC' hb))
          go_roundg (Ls.length - (i + 1))
          case measure => have := HI.out; have := HLT.out; omega
          case rel =>
            have hsk : (skeys xs).length ≤ l.length := by
              have : (skeys xs).length = xs.length := by simp [skeys]
              have := HXL.out; have := HLE.out; have := HT.out.2.1; omega
            exact ⟨i + 1, skeys xs, A', c', by first | rfl | rw [hwi], rfl, Lib.hid ⟨HLT.out, Nat.le_refl _⟩, Lib.hid ((HN.out.further HB3.out).further HBZ.out), Lib.hid HZ.out.2, Lib.hid ⟨HZ.out.1, hsk, HS2.out⟩⟩
    · have hd : decide ((i : Int) < (Ls.length : Int)) = false := decide_eq_false (by omega)
      have hd2 : decide (i < Ls.length) = false := decide_eq_false hi
      have hil : i = Ls.length := by have := HI.out; omega
      obtain ⟨r, ⟨kh, hkh⟩, hrn, hlv⟩ := height HE.out.1 HE.out.2 l.length (by have := HL.out; omega)
      have hh := hlv l (lsg Ls) HOK.out (Nat.le_refl _)
      simp only [lsg, List.length_map] at hh
      have hm1 : decide ((Ls.length : Int) ≤ (r : Int)) = true := decide_eq_true (by omega)
      have hm2 : decide (Ls.length ≤ r) = true := decide_eq_true hh
      have HKH := Lib.hid hkh
      have HIL := Lib.hid hil
      have HBF := Lib.hid HN.out.below
      clear hkh hrn hlv hil hi
      by_cases h0 : Ls.length = 0
      · have hl0 : l.length = 0 := by
          have h1 := HOK.out
          have h2 : Ls = [] := List.eq_nil_of_length_eq_zero h0
          rw [h2] at h1
          have h3 : l = [] := h1
          rw [h3]; rfl
        have z1 : ((Ls.length : Int) == 0) = true := by rw [beq_iff_eq]; omega
        have z2 : ((l.length : Int) == 0) = true := by rw [beq_iff_eq]; omega
        clear h0 hl0 hh HT
        go_wp2_with (go_at_call 9; go_must (refine (levels_MaxHeight.calls kh (l.length : Int) (e : Int) (r : Int) _ HKH.out).mono ?_; rintro e1 Z ⟨rfl, ⟨nd3, rfl⟩⟩))
        exact bodyPost_ret (results_tmp rfl _ _ _) rfl ⟨rfl, HBF.out.trans ((below_drewN _ _).mono HBF.out.size)⟩
      · have hl0 : l.length ≠ 0 := by
          intro hc
          have h1 := levels_few (by have := HE.out; omega) _ _ HOK.out
          simp only [lsg, List.length_map] at h1
          omega
        have hr1 : row.length = 1 := HT.out.2.2.last HIL.out (by have := HIL.out; omega)
        have z1 : ((Ls.length : Int) == 0) = false := by rw [beq_eq_false_iff_ne]; omega
        have z2 : ((l.length : Int) == 0) = false := by rw [beq_eq_false_iff_ne]; omega
        have z3 : ((row.length : Int) == 1) = true := by rw [beq_iff_eq]; omega
        clear h0 hl0 hh hr1 HT
        go_wp2_with (go_at_call 9; go_must (refine (levels_MaxHeight.calls kh (l.length : Int) (e : Int) (r : Int) _ HKH.out).mono ?_; rintro e1 Z ⟨rfl, ⟨nd3, rfl⟩⟩))
        exact bodyPost_ret (results_tmp rfl _ _ _) rfl ⟨rfl, HBF.out.trans ((below_drewN _ _).mono HBF.out.size)⟩
end Go.Proofs.Ytjlegggkibbkjaa.M
end

section
/- TopFew where levels.Build refuses. -/
namespace Go.Proofs.Ytjlegggkibbkjaa.M
open Go Go.Proofs.Ytjlegggkibbkjaa Go.RowKit Go.Shelf Go.Proofs.Ytjlegggkibbkjaa.Pure Go.Proofs.Ytjlegggkibbkjaa.G Go.Proofs.YtjlegggkibbkjaaW.PrintWords
set_option linter.unusedVariables false
set_option linter.unusedSimpArgs false
set_option maxHeartbeats 4000000 in
set_option maxRecDepth 100000 in
theorem top_bad (hA : AddLaw) (A : Option Addr) (c : Nat) (l : List Int) (eps : Int) (hbad : ¬ (2 ≤ eps ∧ eps ≤ 64) ∨ risesTo l l.length = false) (hl : l.length ≤ 1048576) (hc : l.length ≤ c) (w : World) (hr0 : Kd.C (Kd.int .u64) w A l.length l) :
    Calls Try.prog 3 #[.slice A l.length c, .int .i64 eps] w fun e w' => e = .returned (.bool true) ∧ Below w.heap.size w w' := by
  obtain ⟨b1, hb1⟩ : ∃ b1, risesTo l l.length = b1 := ⟨_, rfl⟩
  obtain ⟨b2, hb2⟩ : ∃ b2, decide (2 ≤ eps ∧ eps ≤ 64) = b2 := ⟨_, rfl⟩
  obtain ⟨kr, hkr⟩ := ref_rising l (by omega)
  rw [hb1] at hkr
  have hke := eps_law eps
  rw [hb2] at hke
  have HB4 := Lib.hid (built4 hA w)
  have HB5 := Lib.hid (fun W (hb : Below w.heap.size w W) => build5_bad A c l eps hbad hc W (Kd.C_below hr0 hb))
  have HC := Lib.hid hc
  have HR0 := Lib.hid hr0
  have HKR := Lib.hid hkr
  have HKE := Lib.hid hke
  have hand : (b1 && b2) = false := by
    rcases hbad with h | h
    · rw [← hb2, decide_eq_false h, Bool.and_false]
    · rw [← hb1, h, Bool.false_and]
  clear hA hbad hl hc hr0 hb1 hb2 hkr hke
  go_enter Try.func3, Try.ntmps3
  go_upto_region 2 with (go_at_call 4; go_must (refine (HB4.out).mono ?_; rintro e X ⟨rfl, hb⟩; have HB := Lib.hid hb; clear hb))
  go_upto_region 3 with (go_at_call 5; go_must (refine (HB5.out _ HB.out).mono ?_; rintro e Y ⟨⟨code, hcode, rfl⟩, hb⟩; have HBY := Lib.hid (HB.out.trans (hb.mono HB.out.size)); clear hb))
  go_upto_region 4 with (go_at_call 6; go_must (refine (inclineref03_Rising.calls kr A c l b1 _ (Kd.C_below HR0.out HBY.out) HC.out HKR.out).mono ?_; rintro e Z ⟨rfl, ⟨nd, rfl⟩⟩))
  go_upto_region 5 with (go_at_call 7; go_must (refine (inclinetop_eps.calls eps b2 _ HKE.out).mono ?_; rintro e Z ⟨rfl, hz⟩; have HZ := Lib.hid hz; clear hz))
  have hcd : (code == 0) = false := by rw [beq_eq_false_iff_ne]; exact hcode
  cases b1 <;> cases b2
  all_goals try cases hand
  all_goals go_wp2_with (fail)
  all_goals
    refine bodyPost_ret (results_tmp rfl _ _ _) rfl ⟨rfl, ?_⟩
    exact (HBY.out.trans ((below_drewN Y nd).mono HBY.out.size)).trans (HZ.out.below.mono HBY.out.size)
end Go.Proofs.Ytjlegggkibbkjaa.M
end

section
/- How TopFew's arguments read. -/
namespace Go.Proofs.Ytjlegggkibbkjaa
open Go.RowKit Go.Proofs.YtjlegggkibbkjaaW.PrintWords Go.Proofs.Ytjlegggkibbkjaa.Reading G
theorem open22 {H : Type} (enc : TypeId × Value → H) (w : World) (base : Nat) (spare : Nat → Bool) (held : Bool) :
    Opens enc Try.prog w base spare held 22 (Kd.slice 31 (Kd.int .u64)) (fun l => (l.length * 8 ≤ reach ∧ l.length ≤ maxLen) ∧ ∀ x ∈ l, (Lit.int .u64 x).wf = true) (fun l => l.length) :=
  (of_slice Try.underlying22 (by kernel_rfl) (by kernel_rfl) (of_int Try.underlying31)).imp (fun _ h => h) (fun l => by
    have : ∀ l : List Int, l.length ≤ (l.map (fun _ => 1)).sum := fun l => by induction l with
      | nil => simp
      | cons x l ih => simp only [List.length_cons, List.map_cons, List.sum_cons]; omega
    have := this l
    omega)
end Go.Proofs.Ytjlegggkibbkjaa
end

section
/- (*Fit).Add. -/
namespace Go.Proofs.Ytjlegggkibbkjaa.M
open Go Go.RowKit Go.Shelf Go.Proofs.Ytjlegggkibbkjaa.Pure Go.Proofs.Ytjlegggkibbkjaa.G Go.Proofs.YtjlegggkibbkjaaW.PrintWords
set_option linter.unusedVariables false
set_option linter.unusedSimpArgs false
set_option maxHeartbeats 4000000 in
set_option maxRecDepth 100000 in
/-- Two slopes lie in blocks of their own. -/
structure Two (X wd : World) (b7 b8 : Nat) (l m : Int × Int) : Prop where
  below : Below X.heap.size X wd
  h7 : wd.heap[b7]? = some (.cells #[.int .u64 l.1, .int .u64 l.2] 58 (0, 0))
  h8 : wd.heap[b8]? = some (.cells #[.int .u64 m.1, .int .u64 m.2] 58 (0, 0))
  ne : b7 ≠ b8
  n7 : X.heap.size ≤ b7
  n8 : X.heap.size ≤ b8
/-- Two slopes were turned. -/
structure Mid (X wd : World) (b7 b8 : Nat) (l m : Int × Int) : Prop where
  os : wd.os = X.os
  tape : wd.tape = X.tape
  output : wd.output = X.output
  size : X.heap.size ≤ wd.heap.size
  same : ∀ k, k < X.heap.size → k ≠ b7 → k ≠ b8 → wd.heap[k]? = X.heap[k]?
  h7 : wd.heap[b7]? = some (.cells #[.int .u64 l.1, .int .u64 l.2] 58 (0, 0))
  h8 : wd.heap[b8]? = some (.cells #[.int .u64 m.1, .int .u64 m.2] 58 (0, 0))
theorem Mid.step {X wd wd' : World} {b7 b8 : Nat} {l m : Int × Int} (h : Mid X wd b7 b8 l m) (hb : Below wd.heap.size wd wd') : Mid X wd' b7 b8 l m :=
  ⟨hb.os.trans h.os, hb.tape.trans h.tape, hb.output.trans h.output, Nat.le_trans h.size hb.size, fun k hk h1 h2 => (hb.block k (by have := h.size; omega)).trans (h.same k hk h1 h2), (hb.block _ (Array.getElem?_eq_some_iff.1 h.h7).1).trans h.h7, (hb.block _ (Array.getElem?_eq_some_iff.1 h.h8).1).trans h.h8⟩
theorem Mid.set7 {X wd : World} {b7 b8 : Nat} {l m l' : Int × Int} (h : Mid X wd b7 b8 l m) (hne : b7 ≠ b8) : Mid X ((wd.setCell ⟨b7, 0, none⟩ (.int .u64 l'.1)).setCell ⟨b7, 1, none⟩ (.int .u64 l'.2)) b7 b8 l' m :=
  ⟨h.os, h.tape, h.output, by rw [setCell_size, setCell_size]; exact h.size, fun k hk h1 h2 => (setCell_other _ _ _ _ h1).trans ((setCell_other _ _ _ _ h1).trans (h.same k hk h1 h2)), (setCell_blk (setCell_blk h.h7 _) _).trans rfl, (setCell_other _ _ _ _ hne.symm).trans ((setCell_other _ _ _ _ hne.symm).trans h.h8)⟩
theorem Mid.set8 {X wd : World} {b7 b8 : Nat} {l m m' : Int × Int} (h : Mid X wd b7 b8 l m) (hne : b7 ≠ b8) : Mid X ((wd.setCell ⟨b8, 0, none⟩ (.int .u64 m'.1)).setCell ⟨b8, 1, none⟩ (.int .u64 m'.2)) b7 b8 l m' :=
  ⟨h.os, h.tape, h.output, by rw [setCell_size, setCell_size]; exact h.size, fun k hk h1 h2 => (setCell_other _ _ _ _ h2).trans ((setCell_other _ _ _ _ h2).trans (h.same k hk h1 h2)), (setCell_other _ _ _ _ hne).trans ((setCell_other _ _ _ _ hne).trans h.h7), (setCell_blk (setCell_blk h.h8 _) _).trans rfl⟩
theorem Mid.c7 {X wd : World} {b7 b8 : Nat} {l m : Int × Int} (h : Mid X wd b7 b8 l m) : wd.cell? ⟨b7, 0, none⟩ = some (.int .u64 l.1) ∧ wd.cell? ⟨b7, 1, none⟩ = some (.int .u64 l.2) ∧ wd.frozen? ⟨b7, 0, none⟩ = false ∧ wd.frozen? ⟨b7, 1, none⟩ = false :=
  ⟨by rw [cell_of_row wd _ 0 _ _ _ h.h7]; rfl, by rw [cell_of_row wd _ 1 _ _ _ h.h7]; rfl, by simp [World.frozen?, h.h7], by simp [World.frozen?, h.h7]⟩
theorem Mid.c8 {X wd : World} {b7 b8 : Nat} {l m : Int × Int} (h : Mid X wd b7 b8 l m) : wd.cell? ⟨b8, 0, none⟩ = some (.int .u64 m.1) ∧ wd.cell? ⟨b8, 1, none⟩ = some (.int .u64 m.2) ∧ wd.frozen? ⟨b8, 0, none⟩ = false ∧ wd.frozen? ⟨b8, 1, none⟩ = false :=
  ⟨by rw [cell_of_row wd _ 0 _ _ _ h.h8]; rfl, by rw [cell_of_row wd _ 1 _ _ _ h.h8]; rfl, by simp [World.frozen?, h.h8], by simp [World.frozen?, h.h8]⟩
theorem below_al (X : World) (o : Obj) : Below X.heap.size X (X.alloc o) := (Below.refl _ X).alloc (Nat.le_refl _) o
theorem betw22 {p q : Pt} (h : p.1 < q.1) (h0 : 0 ≤ p.1) (h1 : q.1 < 18446744073709551616) {S : Int × Int} (hS : betwF p q = S) (w : World) : Calls Try.prog 22 #[.agg #[.int .u64 p.1, .int .i64 p.2], .agg #[.int .u64 q.1, .int .i64 q.2]] w fun e w' => e = .returned (.agg #[.int .u64 S.1, .int .u64 S.2]) ∧ Below w.heap.size w w' := by
  obtain ⟨kk, hkk⟩ := betw_f h h0 h1
  rw [hS] at hkk
  exact hull_between.calls kk p.1 p.2 q.1 q.2 S.1 S.2 w hkk
theorem blk_two {w w' : World} {g : Nat} (hb : Below w.heap.size w w') (h : w.heap[g]? = some (.cells #[.int .u64 0, .int .u64 0] 58 (0, 0))) : w'.heap[g]? = some (.cells #[.int .u64 0, .int .u64 0] 58 (0, 0)) ∧ w'.cell? ⟨g, 0, none⟩ = some (.int .u64 0) ∧ w'.cell? ⟨g, 1, none⟩ = some (.int .u64 0) ∧ w'.frozen? ⟨g, 0, none⟩ = false ∧ w'.frozen? ⟨g, 1, none⟩ = false := by
  have h2 := (hb.block g (Array.getElem?_eq_some_iff.1 h).1).trans h
  exact ⟨h2, by rw [cell_of_row w' _ 0 _ _ _ h2]; rfl, by rw [cell_of_row w' _ 1 _ _ _ h2]; rfl, by simp [World.frozen?, h2], by simp [World.frozen?, h2]⟩
theorem below_al' {Y X : World} (h : Below Y.heap.size Y X) (o : Obj) : Below Y.heap.size Y (X.alloc o) := h.alloc h.size o
theorem below_tr {Y X X2 : World} (h : Below Y.heap.size Y X) (h2 : Below X.heap.size X X2) : Below Y.heap.size Y X2 := h.trans (h2.mono h.size)
theorem two_a (X : World) (l m : Int × Int) : Two X (((X.alloc (.cells #[.int .u64 l.1, .int .u64 l.2] 58)).alloc (.cells #[.int .u64 m.1, .int .u64 m.2] 58)).drew) X.heap.size (X.heap.size + 1) l m := by
  have h1 := alloc_new X (.cells #[.int .u64 l.1, .int .u64 l.2] 58)
  have h2 := alloc_new (X.alloc (.cells #[.int .u64 l.1, .int .u64 l.2] 58)) (.cells #[.int .u64 m.1, .int .u64 m.2] 58)
  rw [World.size_alloc] at h2
  exact ⟨(((Below.refl _ X).alloc (Nat.le_refl _) _).alloc (by simp) _).drew, (Below.heap_alloc _ _ _ (by simp)).trans h1, h2, by omega, Nat.le_refl _, by omega⟩
theorem two_b (X : World) (l m : Int × Int) : Two X (((X.alloc (.cells #[.int .u64 m.1, .int .u64 m.2] 58)).alloc (.cells #[.int .u64 l.1, .int .u64 l.2] 58)).drew) (X.heap.size + 1) X.heap.size l m := by
  have h := two_a X m l
  exact ⟨h.below, h.h8, h.h7, h.ne.symm, h.n8, h.n7⟩
theorem st11 {Y V : World} {g : Nat} (hb : Below Y.heap.size Y V) (hg : Y.heap.size ≤ g) (h : V.heap[g]? = some (.cells #[.int .u64 0, .int .u64 0] 58 (0, 0))) (S : Int × Int) :
    Below Y.heap.size Y ((V.setCell ⟨g, 0, none⟩ (.int .u64 S.1)).setCell ⟨g, 1, none⟩ (.int .u64 S.2)) ∧ ((V.setCell ⟨g, 0, none⟩ (.int .u64 S.1)).setCell ⟨g, 1, none⟩ (.int .u64 S.2)).heap[g]? = some (.cells #[.int .u64 S.1, .int .u64 S.2] 58 (0, 0)) :=
  ⟨⟨hb.os, hb.tape, hb.output, by rw [setCell_size, setCell_size]; exact hb.size, fun k hk => (setCell_other _ _ _ _ (by omega)).trans ((setCell_other _ _ _ _ (by omega)).trans (hb.block k hk))⟩, (setCell_blk (setCell_blk h _) _).trans rfl⟩
theorem alloc_drew (Y : World) (o : Obj) : (Y.alloc o).drew.heap[Y.heap.size]? = some o := alloc_new Y o
theorem hid_tok {a b : Prop} (_ : a) (h : b) : b := h
theorem st11a {Y w2 w3 : World} {o : Obj} (hb2 : Below (Y.alloc o).drew.heap.size (Y.alloc o).drew w2) (hb3 : Below w2.heap.size w2 w3) (x0 : w3.heap[Y.heap.size]? = some (.cells #[.int .u64 0, .int .u64 0] 58 (0, 0))) (S : Int × Int) :
    Hid (Below Y.heap.size Y ((w3.setCell ⟨Y.heap.size, 0, none⟩ (.int .u64 S.1)).setCell ⟨Y.heap.size, 1, none⟩ (.int .u64 S.2)) ∧ ((w3.setCell ⟨Y.heap.size, 0, none⟩ (.int .u64 S.1)).setCell ⟨Y.heap.size, 1, none⟩ (.int .u64 S.2)).heap[Y.heap.size]? = some (.cells #[.int .u64 S.1, .int .u64 S.2] 58 (0, 0))) :=
  Lib.hid (st11 (below_tr (below_tr (below_al Y o).drew hb2) hb3) (Nat.le_refl _) x0 S)
theorem st11b {Y w2 w3 : World} {o : Obj} (hb2 : Below Y.drew.heap.size Y.drew w2) (hb3 : Below (w2.alloc o).heap.size (w2.alloc o) w3) (x0 : w3.heap[w2.heap.size]? = some (.cells #[.int .u64 0, .int .u64 0] 58 (0, 0))) (S : Int × Int) :
    Hid (Below Y.heap.size Y ((w3.setCell ⟨w2.heap.size, 0, none⟩ (.int .u64 S.1)).setCell ⟨w2.heap.size, 1, none⟩ (.int .u64 S.2)) ∧ ((w3.setCell ⟨w2.heap.size, 0, none⟩ (.int .u64 S.1)).setCell ⟨w2.heap.size, 1, none⟩ (.int .u64 S.2)).heap[w2.heap.size]? = some (.cells #[.int .u64 S.1, .int .u64 S.2] 58 (0, 0))) :=
  Lib.hid (st11 (below_tr (below_al' (below_tr (Below.refl _ Y).drew hb2) o) hb3) hb2.size x0 S)
theorem st11c {Y w2 w3 : World} (hb2 : Below Y.drew.heap.size Y.drew w2) (hb3 : Below w2.heap.size w2 w3) (S : Int × Int) :
    Hid (Below Y.heap.size Y (w3.alloc (.cells #[.int .u64 S.1, .int .u64 S.2] 58)) ∧ (w3.alloc (.cells #[.int .u64 S.1, .int .u64 S.2] 58)).heap[w3.heap.size]? = some (.cells #[.int .u64 S.1, .int .u64 S.2] 58 (0, 0))) :=
  Lib.hid ⟨below_al' (below_tr (below_tr (Below.refl _ Y).drew hb2) hb3) _, alloc_new w3 _⟩
theorem mid_turned {T : Blocks} {w X Z : World} {b7 b8 : Nat} {l m : Int × Int} (hw : Below w.heap.size w X) (hm : Mid X Z b7 b8 l m) (h7 : w.heap.size ≤ b7) (h8 : w.heap.size ≤ b8) : Turned T T w Z :=
  ⟨hm.os.trans hw.os, hm.tape.trans hw.tape, hm.output.trans hw.output, Nat.le_trans hw.size hm.size, fun _ h => h, fun _ h => .inl h, fun k hk _ => (hm.same k (by have := hw.size; omega) (by omega) (by omega)).trans (hw.block k hk)⟩
theorem mid_fit {T : Blocks} {X Z : World} {b b6 b7 b8 : Nat} {s : FitS} {v0 v1 : Value} {l m : Int × Int} (hf : FitAt X T b s v0 v1) (hm : Mid X Z b7 b8 l m) (hT : ∀ k, T k → k < b6) (h7 : b6 < b7) (h8 : b6 < b8) : FitAt Z T b s v0 v1 :=
  hf.keep (fun k hk => hm.same k (hf.lt k hk) (by have := hT k hk; omega) (by have := hT k hk; omega)) (fun _ h => h) (fun k hk => Nat.lt_of_lt_of_le (hf.lt k hk) hm.size)
theorem sc_os (W : World) (a : Addr) (u : Value) : (W.setCell a u).os = W.os := rfl
theorem sc_tape (W : World) (a : Addr) (u : Value) : (W.setCell a u).tape = W.tape := rfl
theorem sc_output (W : World) (a : Addr) (u : Value) : (W.setCell a u).output = W.output := rfl
theorem add_done {T : Blocks} {b b6 b7 b8 : Nat} {s : FitS} {k : Int} {l m : Int × Int} {w wr : World} {T' : Blocks} {u0 u1 : Value} (h : SideAt T b b6 b7 b8 s k l m w wr 2 T' u0 u1) (ha : addF s k = some (nextF s k l m)) (n : Nat) (hn : s.count = n) :
    AddPost T b s k w (.returned (.tuple #[.bool true, .int .i64 0])) ((((((wr.setCell ⟨b, 3, none⟩ (.int .u64 l.1)).setCell ⟨b, 4, none⟩ (.int .u64 l.2)).setCell ⟨b, 5, none⟩ (.int .u64 m.1)).setCell ⟨b, 6, none⟩ (.int .u64 m.2)).setCell ⟨b, 2, none⟩ (.int .u64 k)).setCell ⟨b, 1, none⟩ (.int .i64 ((n : Int) + 1))).drew := by
  subst hn
  have h0 : wr.heap[b]? = some (.cells #[.int .i64 s.e, .int .i64 (s.count : Int), .int .u64 s.last, .int .u64 s.least.1, .int .u64 s.least.2, .int .u64 s.most.1, .int .u64 s.most.2, u0, u1] 62 (0, 0)) := h.fit.blk
  have hb := setCell_blk (setCell_blk (setCell_blk (setCell_blk (setCell_blk (setCell_blk h0 (.int .u64 l.1) (j := 3)) (.int .u64 l.2) (j := 4)) (.int .u64 m.1) (j := 5)) (.int .u64 m.2) (j := 6)) (.int .u64 k) (j := 2)) (.int .i64 ((s.count : Int) + 1)) (j := 1)
  simp only [List.setIfInBounds_toArray, List.set_cons_succ, List.set_cons_zero] at hb
  generalize hZ : (((((wr.setCell ⟨b, 3, none⟩ (.int .u64 l.1)).setCell ⟨b, 4, none⟩ (.int .u64 l.2)).setCell ⟨b, 5, none⟩ (.int .u64 m.1)).setCell ⟨b, 6, none⟩ (.int .u64 m.2)).setCell ⟨b, 2, none⟩ (.int .u64 k)).setCell ⟨b, 1, none⟩ (.int .i64 ((s.count : Int) + 1)) = Z at hb ⊢
  have hk : ∀ i, i ≠ b → Z.heap[i]? = wr.heap[i]? := fun i hi => by
    rw [← hZ, setCell_other _ _ _ _ hi, setCell_other _ _ _ _ hi, setCell_other _ _ _ _ hi, setCell_other _ _ _ _ hi, setCell_other _ _ _ _ hi, setCell_other _ _ _ _ hi]
  have hz : Z.heap.size = wr.heap.size := by
    rw [← hZ, setCell_size, setCell_size, setCell_size, setCell_size, setCell_size, setCell_size]
  have ho : Z.os = wr.os ∧ Z.tape = wr.tape ∧ Z.output = wr.output := by rw [← hZ]; refine ⟨?_, ?_, ?_⟩ <;> simp only [sc_os, sc_tape, sc_output]
  clear hZ
  have hc : ((nextF s k l m).count : Int) = (s.count : Int) + 1 := by simp [nextF]
  have hT : Turned T T' w Z.drew := h.turned.cells h.tb ho.1 ho.2.1 ho.2.2 hk (Nat.le_of_eq hz.symm)
  have hF : FitAt Z T' b (nextF s k l m) u0 u1 := h.fit.cells hk (Nat.le_of_eq hz.symm) (by simp [sideS, nextF]) (by simp [sideS, nextF]) (by rw [hc]; exact hb)
  have hF2 : FitAt Z.drew T' b (nextF s k l m) u0 u1 := hF.below (Below.refl _ Z).drew
  exact ⟨T', u0, u1, hT, .inr ⟨nextF s k l m, ha, rfl, hF2⟩⟩
theorem add_fin {T : Blocks} {b b6 b7 b8 : Nat} {s : FitS} {k : Int} {l m : Int × Int} {w wr : World} {T' : Blocks} {u0 u1 : Value} (h : SideAt T b b6 b7 b8 s k l m w wr 2 T' u0 u1) (ha : addF s k = some (nextF s k l m)) (n : Nat) (hn : s.count = n) :
    (((((wr.setCell ⟨b, 3, none⟩ (.int .u64 l.1)).setCell ⟨b, 4, none⟩ (.int .u64 l.2)).setCell ⟨b, 5, none⟩ (.int .u64 m.1)).setCell ⟨b, 6, none⟩ (.int .u64 m.2)).setCell ⟨b, 2, none⟩ (.int .u64 k)).drew.cell? ⟨b, 1, none⟩ = some (.int .i64 (n : Int)) ∧
    (((((wr.setCell ⟨b, 3, none⟩ (.int .u64 l.1)).setCell ⟨b, 4, none⟩ (.int .u64 l.2)).setCell ⟨b, 5, none⟩ (.int .u64 m.1)).setCell ⟨b, 6, none⟩ (.int .u64 m.2)).setCell ⟨b, 2, none⟩ (.int .u64 k)).drew.frozen? ⟨b, 1, none⟩ = false ∧
    AddPost T b s k w (.returned (.tuple #[.bool true, .int .i64 0])) ((((((wr.setCell ⟨b, 3, none⟩ (.int .u64 l.1)).setCell ⟨b, 4, none⟩ (.int .u64 l.2)).setCell ⟨b, 5, none⟩ (.int .u64 m.1)).setCell ⟨b, 6, none⟩ (.int .u64 m.2)).setCell ⟨b, 2, none⟩ (.int .u64 k)).drew.setCell ⟨b, 1, none⟩ (.int .i64 ((n : Int) + 1))) := by
  have hf := add_done h ha n hn
  have h0 : wr.heap[b]? = some (.cells #[.int .i64 s.e, .int .i64 (s.count : Int), .int .u64 s.last, .int .u64 s.least.1, .int .u64 s.least.2, .int .u64 s.most.1, .int .u64 s.most.2, u0, u1] 62 (0, 0)) := h.fit.blk
  have hb := setCell_blk (setCell_blk (setCell_blk (setCell_blk (setCell_blk h0 (.int .u64 l.1) (j := 3)) (.int .u64 l.2) (j := 4)) (.int .u64 m.1) (j := 5)) (.int .u64 m.2) (j := 6)) (.int .u64 k) (j := 2)
  simp only [List.setIfInBounds_toArray, List.set_cons_succ, List.set_cons_zero] at hb
  generalize ((((wr.setCell ⟨b, 3, none⟩ (.int .u64 l.1)).setCell ⟨b, 4, none⟩ (.int .u64 l.2)).setCell ⟨b, 5, none⟩ (.int .u64 m.1)).setCell ⟨b, 6, none⟩ (.int .u64 m.2)).setCell ⟨b, 2, none⟩ (.int .u64 k) = C at *
  have hb2 : C.drew.heap[b]? = _ := hb
  refine ⟨by rw [cell_of_row C.drew _ 1 _ _ _ hb2, ← hn]; rfl, by simp [World.frozen?, hb2], ?_⟩
  exact hf
theorem laid_arm0 {T' : Blocks} {b : Nat} {s : FitS} {Y w2 : World} {u0 u1 v' : Value} {c' : List Pt} (hf : FitAt Y T' b s u0 u1) (hl : LaidPost Y.drew u0 c' (.returned v') w2) : w2.cell? ⟨b, 7, none⟩ = some u0 ∧ w2.frozen? ⟨b, 7, none⟩ = false ∧ ∃ A n c, v' = .slice A n c := by
  obtain ⟨v2, he, hr, ho, ht, hp, hs, hsame, hown⟩ := hl
  injection he with he
  subst he
  have h : w2.heap[b]? = _ := (hsame b (Array.getElem?_eq_some_iff.1 hf.blk).1 hf.ne0).trans hf.blk
  obtain ⟨A, c, e, _⟩ := own_form hr
  exact ⟨by rw [cell_of_row w2 _ 7 _ _ _ h]; rfl, by simp [World.frozen?, h], A, _, c, e⟩
theorem laid_arm1 {T' : Blocks} {b : Nat} {s : FitS} {Y w2 : World} {u0 u1 v' : Value} {c' : List Pt} (hf : FitAt Y T' b s u0 u1) (hl : LaidPost Y.drew u1 c' (.returned v') w2) : w2.cell? ⟨b, 8, none⟩ = some u1 ∧ w2.frozen? ⟨b, 8, none⟩ = false ∧ ∃ A n c, v' = .slice A n c := by
  obtain ⟨v2, he, hr, ho, ht, hp, hs, hsame, hown⟩ := hl
  injection he with he
  subst he
  have h : w2.heap[b]? = _ := (hsame b (Array.getElem?_eq_some_iff.1 hf.blk).1 hf.ne1).trans hf.blk
  obtain ⟨A, c, e, _⟩ := own_form hr
  exact ⟨by rw [cell_of_row w2 _ 8 _ _ _ h]; rfl, by simp [World.frozen?, h], A, _, c, e⟩
theorem cell_ne {W : World} {g j : Nat} {v : Value} (h : W.cell? ⟨g, j, none⟩ = some v) : ¬ g = W.heap.size := fun e => by
  have h1 := World.block_lt_of_cell? _ _ h
  have h2 : g < W.heap.size := h1
  omega
theorem keep2 {b b6 : Nat} {r0 r1 : Nat} {x0 x1 : Value} {W : World} (h6 : ¬ b6 = b) (j : Nat) (v : Value) (h : W.cell? ⟨b6, r0, none⟩ = some x0 ∧ W.cell? ⟨b6, r1, none⟩ = some x1) :
    (W.setCell ⟨b, j, none⟩ v).cell? ⟨b6, r0, none⟩ = some x0 ∧ (W.setCell ⟨b, j, none⟩ v).cell? ⟨b6, r1, none⟩ = some x1 := by
  have e : ∀ i, (W.setCell ⟨b, j, none⟩ v).cell? ⟨b6, i, none⟩ = W.cell? ⟨b6, i, none⟩ := fun i => by
    unfold World.cell?
    simp only [setCell_other _ _ _ _ h6]
  exact ⟨(e _).trans h.1, (e _).trans h.2⟩
theorem keep2_al {b6 r0 r1 : Nat} {x0 x1 : Value} {W : World} (o : Obj) (h : W.cell? ⟨b6, r0, none⟩ = some x0 ∧ W.cell? ⟨b6, r1, none⟩ = some x1) : (W.alloc o).cell? ⟨b6, r0, none⟩ = some x0 ∧ (W.alloc o).cell? ⟨b6, r1, none⟩ = some x1 := ⟨cell_al h.1 o, cell_al h.2 o⟩
theorem keep2_ald {b6 r0 r1 : Nat} {x0 x1 : Value} {W : World} (o : Obj) (h : W.drew.cell? ⟨b6, r0, none⟩ = some x0 ∧ W.drew.cell? ⟨b6, r1, none⟩ = some x1) : (W.alloc o).drew.cell? ⟨b6, r0, none⟩ = some x0 ∧ (W.alloc o).drew.cell? ⟨b6, r1, none⟩ = some x1 := ⟨cell_al (X := W) h.1 o, cell_al (X := W) h.2 o⟩
theorem keep2_below {b6 r0 r1 : Nat} {x0 x1 : Value} {W W' : World} (hb : Below W.heap.size W W') (h : W.cell? ⟨b6, r0, none⟩ = some x0 ∧ W.cell? ⟨b6, r1, none⟩ = some x1) : W'.cell? ⟨b6, r0, none⟩ = some x0 ∧ W'.cell? ⟨b6, r1, none⟩ = some x1 := ⟨Below.cell1 hb h.1, Below.cell1 hb h.2⟩
theorem keep_b6 {T : Blocks} {b b6 b7 b8 : Nat} {s : FitS} {k : Int} {l m : Int × Int} {w Y w2 : World} {j : Nat} {T' : Blocks} {u0 u1 u v' : Value} {c' : List Pt} (hS : SideAt T b b6 b7 b8 s k l m w Y j T' u0 u1) (hu : ∀ i, u.ownBlock = some i → T' i) (hl : LaidPost Y.drew u c' (.returned v') w2)
    {r0 r1 : Nat} {x0 x1 : Value} (h : Y.drew.cell? ⟨b6, r0, none⟩ = some x0 ∧ Y.drew.cell? ⟨b6, r1, none⟩ = some x1) : w2.cell? ⟨b6, r0, none⟩ = some x0 ∧ w2.cell? ⟨b6, r1, none⟩ = some x1 := by
  obtain ⟨v2, he, hr, ho, ht, hp, hs, hsame, hown⟩ := hl
  have h6 : w2.heap[b6]? = Y.drew.heap[b6]? := hsame b6 (Array.getElem?_eq_some_iff.1 hS.h6).1 (fun e => hS.n6 (hu _ e))
  have e : ∀ i, w2.cell? ⟨b6, i, none⟩ = Y.drew.cell? ⟨b6, i, none⟩ := fun i => by unfold World.cell?; simp only [h6]
  exact ⟨(e _).trans h.1, (e _).trans h.2⟩
theorem keep4 {b b7 b8 : Nat} {l m : Int × Int} {W : World} (h7 : ¬ b7 = b) (h8 : ¬ b8 = b) (j : Nat) (v : Value) (h : W.drew.cell? ⟨b7, 0, none⟩ = some (.int .u64 l.1) ∧ W.drew.cell? ⟨b7, 1, none⟩ = some (.int .u64 l.2) ∧ W.drew.cell? ⟨b8, 0, none⟩ = some (.int .u64 m.1) ∧ W.drew.cell? ⟨b8, 1, none⟩ = some (.int .u64 m.2)) :
    (W.setCell ⟨b, j, none⟩ v).drew.cell? ⟨b7, 0, none⟩ = some (.int .u64 l.1) ∧ (W.setCell ⟨b, j, none⟩ v).drew.cell? ⟨b7, 1, none⟩ = some (.int .u64 l.2) ∧ (W.setCell ⟨b, j, none⟩ v).drew.cell? ⟨b8, 0, none⟩ = some (.int .u64 m.1) ∧ (W.setCell ⟨b, j, none⟩ v).drew.cell? ⟨b8, 1, none⟩ = some (.int .u64 m.2) := by
  have e : ∀ g i, ¬ g = b → (W.setCell ⟨b, j, none⟩ v).drew.cell? ⟨g, i, none⟩ = W.drew.cell? ⟨g, i, none⟩ := fun g i hg => by
    show (W.setCell ⟨b, j, none⟩ v).cell? ⟨g, i, none⟩ = W.cell? ⟨g, i, none⟩
    unfold World.cell?
    simp only [setCell_other _ _ _ _ hg]
  exact ⟨(e _ _ h7).trans h.1, (e _ _ h7).trans h.2.1, (e _ _ h8).trans h.2.2.1, (e _ _ h8).trans h.2.2.2⟩
set_option maxHeartbeats 40000000 in
set_option maxRecDepth 100000 in
theorem add18 (T : Blocks) (b : Nat) (s : FitS) (v0 v1 : Value) (k : Int) (hk : 0 < s.count → s.last < k) (h0 : 0 ≤ k) (h1 : k < 18446744073709551616) (hI : Inv s) (hn : s.count ≤ 1099511627776) (w : World) (hF : FitAt w T b s v0 v1) :
    Calls Try.prog 18 #[.pointer (some ⟨b, 0, none⟩), .int .u64 k] w (AddPost T b s k w) := by
  have hbt := hF.blk
  have c0 : w.cell? ⟨b, 0, none⟩ = some (.int .i64 s.e) := by rw [cell_of_row w _ 0 _ _ _ hbt]; rfl
  have c1 : w.cell? ⟨b, 1, none⟩ = some (.int .i64 (s.count : Int)) := by rw [cell_of_row w _ 1 _ _ _ hbt]; rfl
  have c2 : w.cell? ⟨b, 2, none⟩ = some (.int .u64 s.last) := by rw [cell_of_row w _ 2 _ _ _ hbt]; rfl
  have c3 : w.cell? ⟨b, 3, none⟩ = some (.int .u64 s.least.1) := by rw [cell_of_row w _ 3 _ _ _ hbt]; rfl
  have c4 : w.cell? ⟨b, 4, none⟩ = some (.int .u64 s.least.2) := by rw [cell_of_row w _ 4 _ _ _ hbt]; rfl
  have c5 : w.cell? ⟨b, 5, none⟩ = some (.int .u64 s.most.1) := by rw [cell_of_row w _ 5 _ _ _ hbt]; rfl
  have c6 : w.cell? ⟨b, 6, none⟩ = some (.int .u64 s.most.2) := by rw [cell_of_row w _ 6 _ _ _ hbt]; rfl
  have blt : b < w.heap.size := (Array.getElem?_eq_some_iff.1 hbt).1
  obtain ⟨n, hnn⟩ : ∃ n, s.count = n := ⟨_, rfl⟩
  obtain ⟨E, hE⟩ : ∃ E, s.e = E := ⟨_, rfl⟩
  have he := hI.e
  rw [hE] at c0 he
  rw [hnn] at c1 hn
  have y1 : IntKind.i64.wrap ((n : Int) - E) = (n : Int) - E := IntWalk.i64_in _ (by omega)
  have y2 : IntKind.i64.wrap ((n : Int) + E) = (n : Int) + E := IntWalk.i64_in _ (by omega)
  have g1 : ∃ bb, decide ((n : Int) > 0) = bb := ⟨_, rfl⟩
  have hlast : n ≠ 0 → decide (k ≤ s.last) = false := fun h => decide_eq_false (by have := hk (by omega); omega)
  have HF := Lib.hid hF
  have HI := Lib.hid hI
  have HK := Lib.hid hk
  have HNE := Lib.hid (And.intro hnn hE)
  have HN := Lib.hid hn
  have HL := Lib.hid hlast
  clear g1 hlast hF hI hk hnn hE hbt
  go_enter Try.func18, Try.ntmps18
  go_upto_region 1 with (fail)
  go_cut [25] from 13 to 25 (fun v25 wd => v25 = .bool false ∧ w = wd)
  case first =>
    by_cases hz : n = 0
    · have d1 : decide ((n : Int) > 0) = false := decide_eq_false (by omega)
      have d2 : decide (0 < n) = false := decide_eq_false (by omega)
      clear hz
      go_wp2_with (fail)
      go_meet
      case rel => exact ⟨rfl, rfl⟩
    · have d1 : decide ((n : Int) > 0) = true := decide_eq_true (by omega)
      have d2 : decide (0 < n) = true := decide_eq_true (by omega)
      have d3 := HL.out hz
      clear hz
      go_wp2_with (fail)
      go_meet
      case rel => exact ⟨rfl, rfl⟩
  case rest =>
    obtain ⟨rfl, rfl⟩ := hcut
    go_upto_region 3 with (fail)
    go_region
    go_upto_region 4 with (fail)
    obtain ⟨b6, hb6⟩ : ∃ b6, w.heap.size = b6 := ⟨_, rfl⟩
    obtain ⟨X1, hX1⟩ : ∃ X1, (w.alloc (.cells #[.int .u64 k, .int .i64 ((n : Int) - E), .int .u64 k, .int .i64 ((n : Int) + E)] 65)).drew = X1 := ⟨_, rfl⟩
    have hb1 : Below w.heap.size w X1 := by rw [← hX1]; exact ((Below.refl _ w).alloc (Nat.le_refl _) _).drew
    have e6 : X1.heap[b6]? = some (.cells #[.int .u64 k, .int .i64 ((n : Int) - E), .int .u64 k, .int .i64 ((n : Int) + E)] 65 (0, 0)) := by rw [← hX1, ← hb6]; exact alloc_new w _
    have hs1 : X1.heap.size = b6 + 1 := by rw [← hX1, ← hb6]; exact World.size_alloc _ _
    rw [hX1, hb6]
    have c1' := Below.cell1 hb1 c1
    have c3' := Below.cell1 hb1 c3
    have c4' := Below.cell1 hb1 c4
    have c5' := Below.cell1 hb1 c5
    have c6' := Below.cell1 hb1 c6
    have t3 := cell_al c3'
    have t4 := cell_al c4'
    have t5 := cell_al c5'
    have t6 := cell_al c6'
    have u3 := cell_al2 c3'
    have u4 := cell_al2 c4'
    have u5 := cell_al2 c5'
    have u6 := cell_al2 c6'
    have HB1 := Lib.hid hb1
    have HE6 := Lib.hid e6
    have HS1 := Lib.hid (And.intro hb6 hs1)
    clear hX1 hb1 e6 hs1 hb6 c0 c1 c2 c3 c4 c5 c6 blt
    go_cut [7, 8] from 49 to 56 (fun v7 v8 wd => ∃ b7 b8, v7 = .pointer (some ⟨b7, 0, none⟩) ∧ v8 = .pointer (some ⟨b8, 0, none⟩) ∧ Hid (Two X1 wd b7 b8 s.least s.most))
    case first =>
      go_region
      all_goals
        go_wp2_with (fail)
        go_meet
      case rel => exact ⟨_, _, rfl, rfl, Lib.hid (two_a X1 s.least s.most)⟩
      case rel => exact ⟨_, _, rfl, rfl, Lib.hid (two_b X1 s.least s.most)⟩
    case rest =>
      obtain ⟨b7, b8, rfl, rfl, H2⟩ := hcut
      generalize wc = X at *
      have hwX : Below w.heap.size w X := HB1.out.trans (H2.out.below.mono HB1.out.size)
      have hFX : FitAt X T b s v0 v1 := HF.out.below hwX
      have k1 : X.cell? ⟨b, 1, none⟩ = some (.int .i64 (n : Int)) := Below.cell1 H2.out.below c1'
      have e6 : X.heap[b6]? = some (.cells #[.int .u64 k, .int .i64 ((n : Int) - E), .int .u64 k, .int .i64 ((n : Int) + E)] 65 (0, 0)) := (H2.out.below.block _ (Array.getElem?_eq_some_iff.1 HE6.out).1).trans HE6.out
      have HWX := Lib.hid hwX
      have HFX := Lib.hid hFX
      have HX6 := Lib.hid e6
      have HM0 : Hid (Mid X X b7 b8 s.least s.most) := Lib.hid ⟨rfl, rfl, rfl, Nat.le_refl _, fun _ _ _ _ => rfl, H2.out.h7, H2.out.h8⟩
      have HBB : Hid (w.heap.size = b6 ∧ b6 < b7 ∧ b6 < b8 ∧ b7 ≠ b8 ∧ b6 < X.heap.size ∧ b7 < X.heap.size ∧ b8 < X.heap.size ∧ ∀ k, T k → k < b6) := Lib.hid ⟨HS1.out.1, by have := H2.out.n7; have := HS1.out.2; omega, by have := H2.out.n8; have := HS1.out.2; omega, H2.out.ne, (Array.getElem?_eq_some_iff.1 e6).1, (Array.getElem?_eq_some_iff.1 H2.out.h7).1, (Array.getElem?_eq_some_iff.1 H2.out.h8).1, fun k hk => by rw [← HS1.out.1]; exact HF.out.lt k hk⟩
      clear hwX hFX e6 HF HB1 H2 HE6 HS1 c1' c3' c4' c5' c6' t3 t4 t5 t6 u3 u4 u5 u6
      go_upto_if 61 with (fail)
      go_cut [9, 10, 11] from 61 to 93 (fun v9 v10 v11 wd => ∃ l m : Int × Int, Hid (Mid X wd b7 b8 l m) ∧ Hid (addF s k = some (nextF s k l m)))
      case first =>
        by_cases hz : n = 0
        · have d1 : decide ((n : Int) > 0) = false := decide_eq_false (by omega)
          have HAD : Hid (addF s k = some (nextF s k s.least s.most)) := Lib.hid (by unfold addF; rw [if_pos (by rw [HNE.out.1]; exact hz)])
          have d2 : decide (0 < n) = false := decide_eq_false (by omega)
          clear hz
          first | rw [d1] | rw [d2]
          clear d1 d2
          go_wp2_with (fail)
          go_meet
          case rel => exact ⟨_, _, HM0, HAD⟩
        · have d1 : decide ((n : Int) > 0) = true := decide_eq_true (by omega)
          have HZ : Hid (0 < s.count) := Lib.hid (by rw [HNE.out.1]; omega)
          have d2 : decide (0 < n) = true := decide_eq_true (by omega)
          first | rw [d1] | rw [d2]
          clear d1 d2 hz
          have p0 : X.cell? ⟨b6, 0, none⟩ = some (.int .u64 k) := by rw [cell_of_row X _ 0 _ _ _ HX6.out]; rfl
          have p1 : X.cell? ⟨b6, 1, none⟩ = some (.int .i64 ((n : Int) - E)) := by rw [cell_of_row X _ 1 _ _ _ HX6.out]; rfl
          obtain ⟨P1, hP1⟩ : ∃ P1, touchF 1 s.up (k, (n : Int) - E) = P1 := ⟨_, rfl⟩
          have HT1 : Hid (Calls Try.prog 21 #[.pointer (some ⟨b, 0, none⟩), .int .i64 1, .agg #[.int .u64 k, .int .i64 ((n : Int) - E)]] X fun e w' => e = .returned (.agg #[.int .u64 P1.1, .int .i64 P1.2]) ∧ Below X.heap.size X w') := Lib.hid (by
            rw [← hP1]
            exact touch21 T b s v0 v1 1 s.up (.inr ⟨rfl, rfl⟩) (k, (n : Int) - E) (HI.out.some1 HZ.out).2 (Nat.le_trans HI.out.len.2 (by rw [HNE.out.1]; exact HN.out)) X HFX.out)
          have HP1 := Lib.hid hP1
          clear hP1
          go_upto_if 71 with (go_at_call 21; go_must (refine (HT1.out).mono ?_; rintro e X2 ⟨rfl, hb⟩; have aq0 := cell_al (Below.cell1 hb p0); have aq1 := cell_al (Below.cell1 hb p1); have HB2 := Lib.hid hb; clear hb))
          obtain ⟨b9, hb9⟩ : ∃ b9, X2.heap.size = b9 := ⟨_, rfl⟩
          obtain ⟨X3, hX3⟩ : ∃ X3, X2.alloc (.cells #[.int .u64 P1.1, .int .i64 P1.2] 64) = X3 := ⟨_, rfl⟩
          have hb3 : Below X2.heap.size X2 X3 := by rw [← hX3]; exact below_al X2 _
          have e9 : X3.heap[b9]? = some (.cells #[.int .u64 P1.1, .int .i64 P1.2] 64 (0, 0)) := by rw [← hX3, ← hb9]; exact alloc_new X2 _
          have hXX : Below X.heap.size X X3 := HB2.out.trans (hb3.mono HB2.out.size)
          rw [hX3, hb9]
          have HXX := Lib.hid hXX
          have HE9 := Lib.hid e9
          clear hX3 hb9 hb3 e9 hXX aq0 aq1 p0 p1
          go_cut [10] from 71 to 79 (fun v10 wd => Hid (Mid X wd b7 b8 (leastF s k) s.most))
          case first =>
            as_aux_lemma =>
              by_cases hy : P1.2 < (n : Int) - E
              · have hd : decide (P1.2 < (n : Int) - E) = true := decide_eq_true hy
                obtain ⟨S1, hS1⟩ : ∃ S1, betwF P1 (k, (n : Int) - E) = S1 := ⟨_, rfl⟩
                have hmem := HI.out.up _ (touchF_mem (side := 1) (p := (k, (n : Int) - E)) (HI.out.some1 HZ.out).2)
                rw [HP1.out] at hmem
                have HBT : Hid (∀ w, Calls Try.prog 22 #[.agg #[.int .u64 P1.1, .int .i64 P1.2], .agg #[.int .u64 k, .int .i64 ((n : Int) - E)]] w fun e w' => e = .returned (.agg #[.int .u64 S1.1, .int .u64 S1.2]) ∧ Below w.heap.size w w') := Lib.hid (fun w => betw22 (p := P1) (q := (k, (n : Int) - E)) (by have := HK.out HZ.out; have := hmem.2.2; show P1.1 < k; omega) hmem.2.1 h1 hS1 w)
                obtain ⟨bb, hbb⟩ : ∃ bb, belowF s.least S1 = bb := ⟨_, rfl⟩
                have HLF : Hid (leastF s k = if bb then S1 else s.least) := Lib.hid (by
                  unfold leastF
                  rw [HNE.out.1, HNE.out.2, HP1.out, if_pos hy, hS1, hbb])
                have HBB2 : Hid (belowF s.least S1 = bb) := Lib.hid hbb
                have q6 : X3.heap[b6]? = some (.cells #[.int .u64 k, .int .i64 ((n : Int) - E), .int .u64 k, .int .i64 ((n : Int) + E)] 65 (0, 0)) := (HXX.out.block _ HBB.out.2.2.2.2.1).trans HX6.out
                have p0 : X3.cell? ⟨b6, 0, none⟩ = some (.int .u64 k) := by rw [cell_of_row X3 _ 0 _ _ _ q6]; rfl
                have p1 : X3.cell? ⟨b6, 1, none⟩ = some (.int .i64 ((n : Int) - E)) := by rw [cell_of_row X3 _ 1 _ _ _ q6]; rfl
                have z0 : X3.cell? ⟨b9, 0, none⟩ = some (.int .u64 P1.1) := by rw [cell_of_row X3 _ 0 _ _ _ HE9.out]; rfl
                have z1 : X3.cell? ⟨b9, 1, none⟩ = some (.int .i64 P1.2) := by rw [cell_of_row X3 _ 1 _ _ _ HE9.out]; rfl
                rw [hd]
                clear hd hy hS1 hmem hbb q6
                go_upto_region 9 with (go_at_call 22; go_must (refine (HBT.out _).mono ?_; rintro e X4 ⟨rfl, hb⟩; have HB4 := Lib.hid hb; clear hb))
                obtain ⟨b10, hb10⟩ : ∃ b10, X4.heap.size = b10 := ⟨_, rfl⟩
                obtain ⟨X5, hX5⟩ : ∃ X5, X4.alloc (.cells #[.int .u64 S1.1, .int .u64 S1.2] 58) = X5 := ⟨_, rfl⟩
                have hb5 : Below X4.heap.size X4 X5 := by rw [← hX5]; exact below_al X4 _
                have e10 : X5.heap[b10]? = some (.cells #[.int .u64 S1.1, .int .u64 S1.2] 58 (0, 0)) := by rw [← hX5, ← hb10]; exact alloc_new X4 _
                have hX35 : Below X3.heap.size X3 X5 := HB4.out.trans (hb5.mono HB4.out.size)
                have hM5 : Mid X X5 b7 b8 s.least s.most := (HM0.out.step HXX.out).step hX35
                rw [hX5, hb10]
                obtain ⟨m70, m71, m72, m73⟩ := hM5.c7
                have s0 : X5.cell? ⟨b10, 0, none⟩ = some (.int .u64 S1.1) := by rw [cell_of_row X5 _ 0 _ _ _ e10]; rfl
                have s1 : X5.cell? ⟨b10, 1, none⟩ = some (.int .u64 S1.2) := by rw [cell_of_row X5 _ 1 _ _ _ e10]; rfl
                have HM5 := Lib.hid hM5
                have HE10 := Lib.hid e10
                clear hX5 hb10 hb5 e10 hX35 hM5 p0 p1 z0 z1
                go_upto_if 78 with (go_at_call 23; go_must (refine (hull_below.calls s.least.1 s.least.2 S1.1 S1.2 _ _ (below_some s.least S1)).mono ?_; rintro e X6 ⟨rfl, hb⟩; rw [HBB2.out]; have HB6 := Lib.hid hb; clear hb))
                cases bb with
                | true =>
                  have hM6 : Mid X X6 b7 b8 s.least s.most := HM5.out.step HB6.out
                  obtain ⟨m70, m71, m72, m73⟩ := hM6.c7
                  have s0 := Below.cell1 HB6.out s0
                  have s1 := Below.cell1 HB6.out s1
                  have HM6 := Lib.hid hM6
                  clear hM6
                  go_wp2_with (fail)
                  go_meet
                  case rel => exact Lib.hid (by rw [HLF.out]; exact HM6.out.set7 HBB.out.2.2.2.1)
                | false =>
                  go_wp2_with (fail)
                  go_meet
                  case rel => exact Lib.hid (by rw [HLF.out]; exact HM5.out.step HB6.out)
              · have hd : decide (P1.2 < (n : Int) - E) = false := decide_eq_false hy
                have HLF : Hid (leastF s k = s.least) := Lib.hid (by
                  unfold leastF
                  rw [HNE.out.1, HNE.out.2, HP1.out, if_neg hy])
                rw [hd]
                clear hd hy
                go_wp2_with (fail)
                go_meet
                case rel => exact Lib.hid (by rw [HLF.out]; exact HM0.out.step HXX.out)
          case rest =>
            generalize wc = Y at *
            have HMY := hcut
            have q6 : Y.heap[b6]? = some (.cells #[.int .u64 k, .int .i64 ((n : Int) - E), .int .u64 k, .int .i64 ((n : Int) + E)] 65 (0, 0)) := (HMY.out.same b6 HBB.out.2.2.2.2.1 (by have := HBB.out; omega) (by have := HBB.out; omega)).trans HX6.out
            have hFY : FitAt Y T b s v0 v1 := HFX.out.keep (fun j hj => HMY.out.same j (by have := HBB.out.2.2.2.2.2.2.2 j hj; have := HBB.out; omega) (by have := HBB.out.2.2.2.2.2.2.2 j hj; have := HBB.out; omega) (by have := HBB.out.2.2.2.2.2.2.2 j hj; have := HBB.out; omega)) (fun _ h => h) (fun j hj => by have := HBB.out.2.2.2.2.2.2.2 j hj; have := HBB.out; have := HMY.out.size; omega)
            have p2 : Y.cell? ⟨b6, 2, none⟩ = some (.int .u64 k) := by rw [cell_of_row Y _ 2 _ _ _ q6]; rfl
            have p3 : Y.cell? ⟨b6, 3, none⟩ = some (.int .i64 ((n : Int) + E)) := by rw [cell_of_row Y _ 3 _ _ _ q6]; rfl
            have HFY := Lib.hid hFY
            obtain ⟨P2, hP2⟩ : ∃ P2, touchF 0 s.lo (k, (n : Int) + E) = P2 := ⟨_, rfl⟩
            obtain ⟨S2, hS2⟩ : ∃ S2, betwF P2 (k, (n : Int) + E) = S2 := ⟨_, rfl⟩
            have hmem := HI.out.lo _ (touchF_mem (side := 0) (p := (k, (n : Int) + E)) (HI.out.some1 HZ.out).1)
            rw [hP2] at hmem
            have HBT2 : Hid (∀ w, Calls Try.prog 22 #[.agg #[.int .u64 P2.1, .int .i64 P2.2], .agg #[.int .u64 k, .int .i64 ((n : Int) + E)]] w fun e w' => e = .returned (.agg #[.int .u64 S2.1, .int .u64 S2.2]) ∧ Below w.heap.size w w') := Lib.hid (fun w => betw22 (p := P2) (q := (k, (n : Int) + E)) (by have := HK.out HZ.out; have := hmem.2.2; show P2.1 < k; omega) hmem.2.1 h1 hS2 w)
            have HT2 : Hid (∀ W, Below Y.heap.size Y W → Calls Try.prog 21 #[.pointer (some ⟨b, 0, none⟩), .int .i64 0, .agg #[.int .u64 k, .int .i64 ((n : Int) + E)]] W fun e w' => e = .returned (.agg #[.int .u64 P2.1, .int .i64 P2.2]) ∧ Below W.heap.size W w' ∧ w'.cell? ⟨b6, 2, none⟩ = some (.int .u64 k) ∧ w'.cell? ⟨b6, 3, none⟩ = some (.int .i64 ((n : Int) + E))) := Lib.hid (fun W hW => by
              rw [← hP2]
              refine (touch21 T b s v0 v1 0 s.lo (.inl ⟨rfl, rfl⟩) (k, (n : Int) + E) (HI.out.some1 HZ.out).1 (Nat.le_trans HI.out.len.1 (by rw [HNE.out.1]; exact HN.out)) W (HFY.out.below hW)).mono ?_
              rintro e w' ⟨h1, h2⟩
              exact ⟨h1, h2, Below.cell1 h2 (Below.cell1 hW p2), Below.cell1 h2 (Below.cell1 hW p3)⟩)
            have HP2 := Lib.hid (And.intro hP2 hS2)
            clear q6 hFY hP2 hS2 hmem hcut
            go_upto_region 11 with (fail)
            go_cut [11] from 80 to 86 (fun v11 wd => ∃ b11, v11 = .pointer (some ⟨b11, 0, none⟩) ∧ Hid (Below Y.heap.size Y wd ∧ wd.heap[b11]? = some (.cells #[.int .u64 S2.1, .int .u64 S2.2] 58 (0, 0))))
            case first =>
              as_aux_lemma =>
                have q2 := cell_al p2 (.cells #[.int .u64 0, .int .u64 0] 58)
                have q3 := cell_al p3 (.cells #[.int .u64 0, .int .u64 0] 58)
                clear HMY HWX HFX HX6 HM0 HBB HI HK HN HL HZ HNE HP1 HXX HE9 HFY HP2 k1 hn he y1 y2 h0 h1
                have ld : Y.drew.cell? ⟨b6, 2, none⟩ = some (.int .u64 k) ∧ Y.drew.cell? ⟨b6, 3, none⟩ = some (.int .i64 ((n : Int) + E)) := ⟨p2, p3⟩
                have hn1 : ¬ b6 = Y.heap.size := fun e => by have := World.block_lt_of_cell? _ _ p2; have h2 : b6 < Y.heap.size := this; omega
                go_region_held3 (fun W => W.cell? ⟨b6, 2, none⟩ = some (.int .u64 k) ∧ W.cell? ⟨b6, 3, none⟩ = some (.int .i64 ((n : Int) + E)))
                  (((try dsimp only); first
                    | with_reducible exact ld
                    | with_reducible exact kx
                    | with_reducible exact kz
                    | with_reducible exact keep2_ald _ (by assumption)
                    | with_reducible exact keep2_al _ (by assumption)
                    | with_reducible exact keep2 hn1 _ _ (keep2 hn1 _ _ kx)
                    | with_reducible exact keep2 hn2 _ _ (keep2 hn2 _ _ kx)))
                  (first
                  | (go_at_call 21; refine (HT2.out _ ?tb).mono ?_; (case tb => first | with_reducible exact (Below.refl _ Y).drew | with_reducible exact (below_al Y _).drew | with_reducible exact Below.refl _ _ | with_reducible exact below_al Y _); rintro e w2 ⟨rfl, hb2, z2, z3⟩; have kz := And.intro z2 z3; have hn2 : ¬ b6 = w2.heap.size := cell_ne z2; (try (with_reducible have hx := blk_two (g := Y.heap.size) hb2 (alloc_drew Y _); obtain ⟨y0, y1, y2, y3, y4⟩ := hx)))
                  | (go_at_call 22; refine (HBT2.out _).mono ?_; rintro e w3 ⟨rfl, hb3⟩; have kx := keep2_below (b6 := b6) (r0 := 2) (r1 := 3) hb3 (by assumption); (try (with_reducible have hx := blk_two (g := w2.heap.size) hb3 (alloc_new w2 _); obtain ⟨x0, x1, x2, x3, x4⟩ := hx)); (try (with_reducible have hx := blk_two (g := Y.heap.size) hb3 y0; obtain ⟨x0, x1, x2, x3, x4⟩ := hx))))
                all_goals
                  go_wp2_with (fail)
                  go_meet
                all_goals first
                  | with_reducible exact ⟨_, rfl, st11a hb2 (hid_tok y0 hb3) x0 S2⟩
                  | with_reducible exact ⟨_, rfl, st11b hb2 hb3 x0 S2⟩
                  | with_reducible exact ⟨_, rfl, st11c hb2 hb3 S2⟩
            case rest =>
              obtain ⟨b11, rfl, H11⟩ := hcut
              generalize wc = Y1 at *
              obtain ⟨bb, hbb⟩ : ∃ bb, belowF S2 s.most = bb := ⟨_, rfl⟩
              have HMF : Hid (mostF s k = if bb then S2 else s.most) := Lib.hid (by
                unfold mostF
                rw [HNE.out.1, HNE.out.2, HP2.out.1, HP2.out.2, hbb])
              have HBB3 : Hid (belowF S2 s.most = bb) := Lib.hid hbb
              have hM1 : Mid X Y1 b7 b8 (leastF s k) s.most := HMY.out.step H11.out.1
              obtain ⟨m70, m71, m72, m73⟩ := hM1.c7
              obtain ⟨m80, m81, m82, m83⟩ := hM1.c8
              have s0 : Y1.cell? ⟨b11, 0, none⟩ = some (.int .u64 S2.1) := by rw [cell_of_row Y1 _ 0 _ _ _ H11.out.2]; rfl
              have s1 : Y1.cell? ⟨b11, 1, none⟩ = some (.int .u64 S2.2) := by rw [cell_of_row Y1 _ 1 _ _ _ H11.out.2]; rfl
              have HM1 := Lib.hid hM1
              clear hM1 hbb p2 p3
              go_upto_if 89 with (go_at_call 23; go_must (refine (hull_below.calls S2.1 S2.2 s.most.1 s.most.2 _ _ (below_some S2 s.most)).mono ?_; rintro e Y2 ⟨rfl, hb⟩; rw [HBB3.out]; have HB2' := Lib.hid hb; clear hb))
              go_cut [10] from 89 to 90 (fun v10 wd => Hid (Mid X wd b7 b8 (leastF s k) (mostF s k)))
              case first =>
                cases bb with
                | true =>
                  have hM2 : Mid X Y2 b7 b8 (leastF s k) s.most := HM1.out.step HB2'.out
                  obtain ⟨m80, m81, m82, m83⟩ := hM2.c8
                  have s0 := Below.cell1 HB2'.out s0
                  have s1 := Below.cell1 HB2'.out s1
                  have HM2 := Lib.hid hM2
                  clear hM2
                  go_wp2_with (fail)
                  go_meet
                  case rel => exact Lib.hid (by rw [HMF.out]; exact HM2.out.set8 HBB.out.2.2.2.1)
                | false =>
                  go_wp2_with (fail)
                  go_meet
                  case rel => exact Lib.hid (by rw [HMF.out]; exact HM1.out.step HB2'.out)
              case rest =>
                have HM3 := hcut
                generalize wc = Z at *
                obtain ⟨bc, hbc⟩ : ∃ bc, belowF (mostF s k) (leastF s k) = bc := ⟨_, rfl⟩
                have HBC : Hid (belowF (mostF s k) (leastF s k) = bc) := Lib.hid hbc
                obtain ⟨m70, m71, m72, m73⟩ := HM3.out.c7
                obtain ⟨m80, m81, m82, m83⟩ := HM3.out.c8
                clear hcut hbc s0 s1
                go_upto_if 93 with (go_at_call 23; go_must (refine (hull_below.calls (mostF s k).1 (mostF s k).2 (leastF s k).1 (leastF s k).2 _ _ (below_some (mostF s k) (leastF s k))).mono ?_; rintro e Z2 ⟨rfl, hb⟩; rw [HBC.out]; have HB3 := Lib.hid hb; clear hb))
                have hM4 : Mid X Z2 b7 b8 (leastF s k) (mostF s k) := HM3.out.step HB3.out
                cases bc with
                | true =>
                  have hA : addF s k = none := by
                    unfold addF
                    rw [if_neg (by have := HZ.out; omega), if_pos HBC.out]
                  have HP : Hid (AddPost T b s k w (.returned (.tuple #[.bool false, .int .i64 0])) Z2) := Lib.hid (by
                    have hB := HBB.out
                    exact ⟨T, v0, v1, mid_turned HWX.out hM4 (by omega) (by omega), .inl ⟨hA, rfl, mid_fit HFX.out hM4 hB.2.2.2.2.2.2.2 hB.2.1 hB.2.2.1⟩⟩)
                  go_wp2_with (fail)
                  refine bodyPost_ret (results_tmp2 rfl _ _ _) rfl ?_
                  exact HP.out
                | false =>
                  have HA : Hid (addF s k = some (nextF s k (leastF s k) (mostF s k))) := Lib.hid (by
                    unfold addF
                    rw [if_neg (by have := HZ.out; omega), if_neg (by rw [HBC.out]; exact Bool.false_ne_true)])
                  have HM4 := Lib.hid hM4
                  clear hM4
                  go_wp2_with (fail)
                  go_meet
                  case rel => exact ⟨_, _, HM4, HA⟩
      case rest =>
        obtain ⟨l, m, HM5, HA⟩ := hcut
        generalize wc = Y at *
        have hS0 : SideAt T b b6 b7 b8 s k l m w Y 0 T v0 v1 := by
          have hB := HBB.out
          have hm := HM5.out
          refine ⟨mid_turned HWX.out hm (by omega) (by omega), ?_, HFX.out.tp, ?_, hm.h7, hm.h8, fun h => ?_, fun h => ?_, fun h => ?_⟩
          · have e : sideS s k 0 = s := by simp [sideS]
            rw [e]
            exact mid_fit HFX.out hm hB.2.2.2.2.2.2.2 hB.2.1 hB.2.2.1
          · rw [HNE.out.1, HNE.out.2]
            exact (hm.same b6 hB.2.2.2.2.1 (by omega) (by omega)).trans HX6.out
          · have := hB.2.2.2.2.2.2.2 _ h; omega
          · have := hB.2.2.2.2.2.2.2 _ h; omega
          · have := hB.2.2.2.2.2.2.2 _ h; omega
        have HS0 := Lib.hid hS0
        clear hS0 HM5 HBB HX6 HFX HWX HM0 k1
        go_wp2_with (fail)
        go_loopg [94] 2 (fun kq v94 wd => ∃ T' u0 u1, (v94 = .int .i64 0 ∧ Hid (2 ≤ kq) ∧ Hid (SideAt T b b6 b7 b8 s k l m w wd 0 T' u0 u1)) ∨ (v94 = .int .i64 1 ∧ Hid (1 ≤ kq) ∧ Hid (SideAt T b b6 b7 b8 s k l m w wd 1 T' u0 u1)) ∨ (v94 = .int .i64 2 ∧ Hid (SideAt T b b6 b7 b8 s k l m w wd 2 T' u0 u1)))
        case atStart => exact ⟨T, v0, v1, .inl ⟨rfl, Lib.hid (Nat.le_refl _), HS0⟩⟩
        case round =>
          obtain ⟨T', u0, u1, ⟨rfl, HQ, HS⟩ | ⟨rfl, HQ, HS⟩ | ⟨rfl, HS⟩⟩ := hrel
          · as_aux_lemma =>
              obtain ⟨A, nn, c, hu⟩ : ∃ A nn c, u0 = .slice A nn c := by obtain ⟨A, c, e, _⟩ := own_form HS.out.fit.r0; exact ⟨A, _, c, e⟩
              subst hu
              have hh6 := HS.out.h6
              rw [HNE.out.1, HNE.out.2] at hh6
              have d0 : wr.cell? ⟨b, 7, none⟩ = some (.slice A nn c) := by rw [cell_of_row wr _ 7 _ _ _ HS.out.fit.blk]; rfl
              have p0 : wr.cell? ⟨b6, 0, none⟩ = some (.int .u64 k) := by rw [cell_of_row wr _ 0 _ _ _ hh6]; rfl
              have p1 : wr.cell? ⟨b6, 1, none⟩ = some (.int .i64 ((n : Int) - E)) := by rw [cell_of_row wr _ 1 _ _ _ hh6]; rfl
              have HT : Hid (Calls Try.prog 24 #[.slice A nn c, .agg #[.int .u64 k, .int .i64 ((n : Int) - E)], .int .i64 0] wr.drew (LaidPost wr.drew (.slice A nn c) (laidF 0 s.lo (k, (n : Int) - E)))) := Lib.hid (laid24 0 s.lo (k, (n : Int) - E) _ (Nat.le_trans HI.out.len.1 (by rw [HNE.out.1]; exact HN.out)) wr.drew HS.out.fit.r0)
              clear hh6
              have hb6 : ¬ b6 = b := fun e => HS.out.n6 (by rw [e]; exact HS.out.turned.sub b HS.out.tb)
              have ld : wr.drew.cell? ⟨b6, 0, none⟩ = some (.int .u64 k) ∧ wr.drew.cell? ⟨b6, 1, none⟩ = some (.int .i64 ((n : Int) - E)) := ⟨p0, p1⟩
              go_upto_region 19 with (fail)
              refine wp_region_held_drew (S := fun W => W.cell? ⟨b6, 0, none⟩ = some (.int .u64 k) ∧ W.cell? ⟨b6, 1, none⟩ = some (.int .i64 ((n : Int) - E))) (by kernel_rfl) ld (fun hHeld => ?_)
              refine wpAnyH_take (i := 0) (v := ?vv0) rfl (by kernel_rfl) (by kernel_rfl) (by kernel_rfl) (fun _ _ _ h => h) (Or.inl ⟨by rfl, ?hy0⟩) (by assumption) ?rest0
              case hy0 => intro wz hSw; (try dsimp only at hSw); (try simp only [List.getElem_toArray, List.getElem_cons_succ, List.getElem_cons_zero]); go_simp; try with_reducible rfl
              try simp only [List.getElem_toArray, List.getElem_cons_succ, List.getElem_cons_zero, Act.put, List.setIfInBounds_toArray, List.set_cons_zero, List.set_cons_succ]
              refine wpAnyH_take (i := 1) (v := ?vv1) rfl (by kernel_rfl) (by kernel_rfl) (by kernel_rfl) (fun _ _ _ h => h) (Or.inl ⟨by rfl, ?hy1⟩) (by assumption) ?rest1
              case hy1 => intro wz hSw; (try dsimp only at hSw); (try simp only [List.getElem_toArray, List.getElem_cons_succ, List.getElem_cons_zero]); go_simp; try with_reducible rfl
              try simp only [List.getElem_toArray, List.getElem_cons_succ, List.getElem_cons_zero, Act.put, List.setIfInBounds_toArray, List.set_cons_zero, List.set_cons_succ]
              refine wpAnyH_take (i := 2) (v := ?vv2) rfl (by kernel_rfl) (by kernel_rfl) (by kernel_rfl) (fun _ _ _ h => h) (Or.inl ⟨by rfl, ?hy2⟩) (by assumption) ?rest2
              case hy2 => intro wz hSw; (try dsimp only at hSw); (try simp only [List.getElem_toArray, List.getElem_cons_succ, List.getElem_cons_zero]); go_simp; try with_reducible rfl
              try simp only [List.getElem_toArray, List.getElem_cons_succ, List.getElem_cons_zero, Act.put, List.setIfInBounds_toArray, List.set_cons_zero, List.set_cons_succ]
              refine wpAnyH_take (i := 3) (v := ?vv3) rfl (by kernel_rfl) (by kernel_rfl) (by kernel_rfl) (fun _ _ _ h => h) (Or.inl ⟨by rfl, ?hy3⟩) (by assumption) ?rest3
              case hy3 => intro wz hSw; (try dsimp only at hSw); (try simp only [List.getElem_toArray, List.getElem_cons_succ, List.getElem_cons_zero]); go_simp; try with_reducible rfl
              try simp only [List.getElem_toArray, List.getElem_cons_succ, List.getElem_cons_zero, Act.put, List.setIfInBounds_toArray, List.set_cons_zero, List.set_cons_succ]
              refine wpAnyH_take (i := 4) (v := ?vv4) rfl (by kernel_rfl) (by kernel_rfl) (by kernel_rfl) (fun _ _ _ h => h) (Or.inl ⟨by rfl, ?hy4⟩) (by assumption) ?rest4
              case hy4 => intro wz hSw; (try dsimp only at hSw); (try simp only [List.getElem_toArray, List.getElem_cons_succ, List.getElem_cons_zero]); go_simp; try with_reducible rfl
              try simp only [List.getElem_toArray, List.getElem_cons_succ, List.getElem_cons_zero, Act.put, List.setIfInBounds_toArray, List.set_cons_zero, List.set_cons_succ]
              refine wpAnyH_take (i := 5) (v := ?vv5) rfl (by kernel_rfl) (by kernel_rfl) (by kernel_rfl) (fun _ _ _ h => h) (Or.inl ⟨by rfl, ?hy5⟩) (by assumption) ?rest5
              case hy5 => intro wz hSw; (try dsimp only at hSw); (try simp only [List.getElem_toArray, List.getElem_cons_succ, List.getElem_cons_zero]); go_simp; try with_reducible rfl
              try simp only [List.getElem_toArray, List.getElem_cons_succ, List.getElem_cons_zero, Act.put, List.setIfInBounds_toArray, List.set_cons_zero, List.set_cons_succ]
              refine wpAnyH_take (i := 6) (v := ?vv6) rfl (by kernel_rfl) (by kernel_rfl) (by kernel_rfl) (fun _ _ _ h => h) (Or.inl ⟨by rfl, ?hy6⟩) (by assumption) ?rest6
              case hy6 => intro wz hSw; (try dsimp only at hSw); (try simp only [List.getElem_toArray, List.getElem_cons_succ, List.getElem_cons_zero]); go_simp; try with_reducible rfl
              try simp only [List.getElem_toArray, List.getElem_cons_succ, List.getElem_cons_zero, Act.put, List.setIfInBounds_toArray, List.set_cons_zero, List.set_cons_succ]
              refine wpAnyH_take (i := 8) (v := ?vv8) rfl (by kernel_rfl) (by kernel_rfl) (by kernel_rfl) (fun _ _ _ h => h) (Or.inl ⟨by rfl, ?hy8⟩) (by assumption) ?rest8
              case hy8 => intro wz hSw; (try dsimp only at hSw); (try simp only [List.getElem_toArray, List.getElem_cons_succ, List.getElem_cons_zero]); go_simp; try with_reducible rfl
              try simp only [List.getElem_toArray, List.getElem_cons_succ, List.getElem_cons_zero, Act.put, List.setIfInBounds_toArray, List.set_cons_zero, List.set_cons_succ]
              refine wpAnyH_take (i := 9) (v := ?vv9) rfl (by kernel_rfl) (by kernel_rfl) (by kernel_rfl) (fun _ _ _ h => h) (Or.inl ⟨by rfl, ?hy9⟩) (by assumption) ?rest9
              case hy9 => intro wz hSw; (try dsimp only at hSw); (try simp only [List.getElem_toArray, List.getElem_cons_succ, List.getElem_cons_zero]); go_simp; try with_reducible rfl
              try simp only [List.getElem_toArray, List.getElem_cons_succ, List.getElem_cons_zero, Act.put, List.setIfInBounds_toArray, List.set_cons_zero, List.set_cons_succ]
              refine wpAnyH_take (i := 10) (v := ?vv10) rfl (by kernel_rfl) (by kernel_rfl) (by kernel_rfl) (fun _ _ _ h => h) (Or.inl ⟨by rfl, ?hy10⟩) (by assumption) ?rest10
              case hy10 => intro wz hSw; (try dsimp only at hSw); (try simp only [List.getElem_toArray, List.getElem_cons_succ, List.getElem_cons_zero]); go_simp; try with_reducible rfl
              try simp only [List.getElem_toArray, List.getElem_cons_succ, List.getElem_cons_zero, Act.put, List.setIfInBounds_toArray, List.set_cons_zero, List.set_cons_succ]
              refine wpAnyH_take (i := 11) (v := ?vv11) rfl (by kernel_rfl) (by kernel_rfl) (by kernel_rfl) (fun _ _ _ h => h) (Or.inl ⟨by rfl, ?hy11⟩) (by assumption) ?rest11
              case hy11 => intro wz hSw; (try dsimp only at hSw); (try simp only [List.getElem_toArray, List.getElem_cons_succ, List.getElem_cons_zero]); go_simp; try with_reducible rfl
              try simp only [List.getElem_toArray, List.getElem_cons_succ, List.getElem_cons_zero, Act.put, List.setIfInBounds_toArray, List.set_cons_zero, List.set_cons_succ]
              refine wpAnyH_take (i := 13) (v := ?vv13) rfl (by kernel_rfl) (by kernel_rfl) (by kernel_rfl) (fun _ _ _ h => h) (Or.inl ⟨by rfl, ?hy13⟩) (by assumption) ?rest13
              case hy13 => intro wz hSw; (try dsimp only at hSw); (try simp only [List.getElem_toArray, List.getElem_cons_succ, List.getElem_cons_zero]); go_simp; try with_reducible rfl
              try simp only [List.getElem_toArray, List.getElem_cons_succ, List.getElem_cons_zero, Act.put, List.setIfInBounds_toArray, List.set_cons_zero, List.set_cons_succ]
              refine wpAnyH_take (i := 14) (v := ?vv14) rfl (by kernel_rfl) (by kernel_rfl) (by kernel_rfl) (fun _ _ _ h => h) (Or.inl ⟨by rfl, ?hy14⟩) (by assumption) ?rest14
              case hy14 => intro wz hSw; (try dsimp only at hSw); (try simp only [List.getElem_toArray, List.getElem_cons_succ, List.getElem_cons_zero]); go_simp; try with_reducible rfl
              try simp only [List.getElem_toArray, List.getElem_cons_succ, List.getElem_cons_zero, Act.put, List.setIfInBounds_toArray, List.set_cons_zero, List.set_cons_succ]
              refine wpAnyH_ready (rs := [7]) (by kernel_rfl) (by simp) ?_
              refine AllReadyH.cons rfl (fun K hK => ?_) AllReadyH.nil
              try simp only [List.getElem_toArray, List.getElem_cons_succ, List.getElem_cons_zero]
              go_simp
              refine hK.out _ _ ?_ (fun hHeld => ?_)
              · (try dsimp only); with_reducible exact hHeld
              clear hK K
              try simp only [List.getElem_toArray, List.getElem_cons_succ, List.getElem_cons_zero, Act.put, List.setIfInBounds_toArray, List.set_cons_zero, List.set_cons_succ]
              refine wpAnyH_ready (rs := [12]) (by kernel_rfl) (by simp) ?_
              refine AllReadyH.cons rfl (fun K hK => ?_) AllReadyH.nil
              try simp only [List.getElem_toArray, List.getElem_cons_succ, List.getElem_cons_zero]
              go_simp
              go_at_call 24
              refine (HT.out).mono ?_
              rintro e w2 hl
              have hl2 := hl
              obtain ⟨v', rfl, -⟩ := hl2
              have ha := laid_arm0 HS.out.fit hl
              have hk2 := keep_b6 HS.out HS.out.fit.own0 hl ld
              obtain ⟨a0, a1, A2, n2, c2, rfl⟩ := ha
              have HLP := Lib.hid hl
              clear hl
              go_wp2_with (fail)
              refine hK.out _ _ ?_ (fun hHeld => ?_)
              · (try dsimp only); with_reducible exact hk2
              clear hK K
              try simp only [List.getElem_toArray, List.getElem_cons_succ, List.getElem_cons_zero, Act.put, List.setIfInBounds_toArray, List.set_cons_zero, List.set_cons_succ]
              refine wpAnyH_take (i := 15) (v := ?vv15) rfl (by kernel_rfl) (by kernel_rfl) (by kernel_rfl) (fun _ _ _ h => h) (Or.inl ⟨by rfl, ?hy15⟩) (by assumption) ?rest15
              case hy15 => intro wz hSw; (try dsimp only at hSw); (try simp only [List.getElem_toArray, List.getElem_cons_succ, List.getElem_cons_zero]); go_simp; try with_reducible rfl
              try simp only [List.getElem_toArray, List.getElem_cons_succ, List.getElem_cons_zero, Act.put, List.setIfInBounds_toArray, List.set_cons_zero, List.set_cons_succ]
              refine wpAnyH_ready (rs := [16]) (by kernel_rfl) (by simp) ?_
              refine AllReadyH.cons rfl (fun K hK => ?_) AllReadyH.nil
              try simp only [List.getElem_toArray, List.getElem_cons_succ, List.getElem_cons_zero]
              go_simp
              refine hK.out _ _ ?_ (fun hHeld => ?_)
              · (try dsimp only); with_reducible exact keep2 hb6 _ _ hk2
              clear hK K
              try simp only [List.getElem_toArray, List.getElem_cons_succ, List.getElem_cons_zero, Act.put, List.setIfInBounds_toArray, List.set_cons_zero, List.set_cons_succ]
              refine wpAnyH_done (by kernel_rfl) ?_ _
              go_wp2_with (fail)
              go_roundg 1
              case measure => have := HQ.out; omega
              case rel =>
                have hl := HLP.out
                rw [← HNE.out.1, ← HNE.out.2] at hl
                exact ⟨_, _, _, .inr (.inl ⟨rfl, Lib.hid (Nat.le_refl _), Lib.hid (HS.out.step0 hl)⟩)⟩
          · as_aux_lemma =>
              obtain ⟨A, nn, c, hu⟩ : ∃ A nn c, u1 = .slice A nn c := by obtain ⟨A, c, e, _⟩ := own_form HS.out.fit.r1; exact ⟨A, _, c, e⟩
              subst hu
              have hh6 := HS.out.h6
              rw [HNE.out.1, HNE.out.2] at hh6
              have d0 : wr.cell? ⟨b, 8, none⟩ = some (.slice A nn c) := by rw [cell_of_row wr _ 8 _ _ _ HS.out.fit.blk]; rfl
              have p0 : wr.cell? ⟨b6, 2, none⟩ = some (.int .u64 k) := by rw [cell_of_row wr _ 2 _ _ _ hh6]; rfl
              have p1 : wr.cell? ⟨b6, 3, none⟩ = some (.int .i64 ((n : Int) + E)) := by rw [cell_of_row wr _ 3 _ _ _ hh6]; rfl
              have HT : Hid (Calls Try.prog 24 #[.slice A nn c, .agg #[.int .u64 k, .int .i64 ((n : Int) + E)], .int .i64 1] wr.drew (LaidPost wr.drew (.slice A nn c) (laidF 1 s.up (k, (n : Int) + E)))) := Lib.hid (laid24 1 s.up (k, (n : Int) + E) _ (Nat.le_trans HI.out.len.2 (by rw [HNE.out.1]; exact HN.out)) wr.drew HS.out.fit.r1)
              clear hh6
              have hb6 : ¬ b6 = b := fun e => HS.out.n6 (by rw [e]; exact HS.out.turned.sub b HS.out.tb)
              have ld : wr.drew.cell? ⟨b6, 2, none⟩ = some (.int .u64 k) ∧ wr.drew.cell? ⟨b6, 3, none⟩ = some (.int .i64 ((n : Int) + E)) := ⟨p0, p1⟩
              go_upto_region 19 with (fail)
              refine wp_region_held_drew (S := fun W => W.cell? ⟨b6, 2, none⟩ = some (.int .u64 k) ∧ W.cell? ⟨b6, 3, none⟩ = some (.int .i64 ((n : Int) + E))) (by kernel_rfl) ld (fun hHeld => ?_)
              refine wpAnyH_take (i := 0) (v := ?ww0) rfl (by kernel_rfl) (by kernel_rfl) (by kernel_rfl) (fun _ _ _ h => h) (Or.inl ⟨by rfl, ?hz0⟩) (by assumption) ?more0
              case hz0 => intro wz hSw; (try dsimp only at hSw); (try simp only [List.getElem_toArray, List.getElem_cons_succ, List.getElem_cons_zero]); go_simp; try with_reducible rfl
              try simp only [List.getElem_toArray, List.getElem_cons_succ, List.getElem_cons_zero, Act.put, List.setIfInBounds_toArray, List.set_cons_zero, List.set_cons_succ]
              refine wpAnyH_take (i := 1) (v := ?ww1) rfl (by kernel_rfl) (by kernel_rfl) (by kernel_rfl) (fun _ _ _ h => h) (Or.inl ⟨by rfl, ?hz1⟩) (by assumption) ?more1
              case hz1 => intro wz hSw; (try dsimp only at hSw); (try simp only [List.getElem_toArray, List.getElem_cons_succ, List.getElem_cons_zero]); go_simp; try with_reducible rfl
              try simp only [List.getElem_toArray, List.getElem_cons_succ, List.getElem_cons_zero, Act.put, List.setIfInBounds_toArray, List.set_cons_zero, List.set_cons_succ]
              refine wpAnyH_take (i := 2) (v := ?ww2) rfl (by kernel_rfl) (by kernel_rfl) (by kernel_rfl) (fun _ _ _ h => h) (Or.inl ⟨by rfl, ?hz2⟩) (by assumption) ?more2
              case hz2 => intro wz hSw; (try dsimp only at hSw); (try simp only [List.getElem_toArray, List.getElem_cons_succ, List.getElem_cons_zero]); go_simp; try with_reducible rfl
              try simp only [List.getElem_toArray, List.getElem_cons_succ, List.getElem_cons_zero, Act.put, List.setIfInBounds_toArray, List.set_cons_zero, List.set_cons_succ]
              refine wpAnyH_take (i := 3) (v := ?ww3) rfl (by kernel_rfl) (by kernel_rfl) (by kernel_rfl) (fun _ _ _ h => h) (Or.inl ⟨by rfl, ?hz3⟩) (by assumption) ?more3
              case hz3 => intro wz hSw; (try dsimp only at hSw); (try simp only [List.getElem_toArray, List.getElem_cons_succ, List.getElem_cons_zero]); go_simp; try with_reducible rfl
              try simp only [List.getElem_toArray, List.getElem_cons_succ, List.getElem_cons_zero, Act.put, List.setIfInBounds_toArray, List.set_cons_zero, List.set_cons_succ]
              refine wpAnyH_take (i := 4) (v := ?ww4) rfl (by kernel_rfl) (by kernel_rfl) (by kernel_rfl) (fun _ _ _ h => h) (Or.inl ⟨by rfl, ?hz4⟩) (by assumption) ?more4
              case hz4 => intro wz hSw; (try dsimp only at hSw); (try simp only [List.getElem_toArray, List.getElem_cons_succ, List.getElem_cons_zero]); go_simp; try with_reducible rfl
              try simp only [List.getElem_toArray, List.getElem_cons_succ, List.getElem_cons_zero, Act.put, List.setIfInBounds_toArray, List.set_cons_zero, List.set_cons_succ]
              refine wpAnyH_take (i := 5) (v := ?ww5) rfl (by kernel_rfl) (by kernel_rfl) (by kernel_rfl) (fun _ _ _ h => h) (Or.inl ⟨by rfl, ?hz5⟩) (by assumption) ?more5
              case hz5 => intro wz hSw; (try dsimp only at hSw); (try simp only [List.getElem_toArray, List.getElem_cons_succ, List.getElem_cons_zero]); go_simp; try with_reducible rfl
              try simp only [List.getElem_toArray, List.getElem_cons_succ, List.getElem_cons_zero, Act.put, List.setIfInBounds_toArray, List.set_cons_zero, List.set_cons_succ]
              refine wpAnyH_take (i := 6) (v := ?ww6) rfl (by kernel_rfl) (by kernel_rfl) (by kernel_rfl) (fun _ _ _ h => h) (Or.inl ⟨by rfl, ?hz6⟩) (by assumption) ?more6
              case hz6 => intro wz hSw; (try dsimp only at hSw); (try simp only [List.getElem_toArray, List.getElem_cons_succ, List.getElem_cons_zero]); go_simp; try with_reducible rfl
              try simp only [List.getElem_toArray, List.getElem_cons_succ, List.getElem_cons_zero, Act.put, List.setIfInBounds_toArray, List.set_cons_zero, List.set_cons_succ]
              refine wpAnyH_take (i := 8) (v := ?ww8) rfl (by kernel_rfl) (by kernel_rfl) (by kernel_rfl) (fun _ _ _ h => h) (Or.inl ⟨by rfl, ?hz8⟩) (by assumption) ?more8
              case hz8 => intro wz hSw; (try dsimp only at hSw); (try simp only [List.getElem_toArray, List.getElem_cons_succ, List.getElem_cons_zero]); go_simp; try with_reducible rfl
              try simp only [List.getElem_toArray, List.getElem_cons_succ, List.getElem_cons_zero, Act.put, List.setIfInBounds_toArray, List.set_cons_zero, List.set_cons_succ]
              refine wpAnyH_take (i := 9) (v := ?ww9) rfl (by kernel_rfl) (by kernel_rfl) (by kernel_rfl) (fun _ _ _ h => h) (Or.inl ⟨by rfl, ?hz9⟩) (by assumption) ?more9
              case hz9 => intro wz hSw; (try dsimp only at hSw); (try simp only [List.getElem_toArray, List.getElem_cons_succ, List.getElem_cons_zero]); go_simp; try with_reducible rfl
              try simp only [List.getElem_toArray, List.getElem_cons_succ, List.getElem_cons_zero, Act.put, List.setIfInBounds_toArray, List.set_cons_zero, List.set_cons_succ]
              refine wpAnyH_take (i := 10) (v := ?ww10) rfl (by kernel_rfl) (by kernel_rfl) (by kernel_rfl) (fun _ _ _ h => h) (Or.inl ⟨by rfl, ?hz10⟩) (by assumption) ?more10
              case hz10 => intro wz hSw; (try dsimp only at hSw); (try simp only [List.getElem_toArray, List.getElem_cons_succ, List.getElem_cons_zero]); go_simp; try with_reducible rfl
              try simp only [List.getElem_toArray, List.getElem_cons_succ, List.getElem_cons_zero, Act.put, List.setIfInBounds_toArray, List.set_cons_zero, List.set_cons_succ]
              refine wpAnyH_take (i := 11) (v := ?ww11) rfl (by kernel_rfl) (by kernel_rfl) (by kernel_rfl) (fun _ _ _ h => h) (Or.inl ⟨by rfl, ?hz11⟩) (by assumption) ?more11
              case hz11 => intro wz hSw; (try dsimp only at hSw); (try simp only [List.getElem_toArray, List.getElem_cons_succ, List.getElem_cons_zero]); go_simp; try with_reducible rfl
              try simp only [List.getElem_toArray, List.getElem_cons_succ, List.getElem_cons_zero, Act.put, List.setIfInBounds_toArray, List.set_cons_zero, List.set_cons_succ]
              refine wpAnyH_take (i := 13) (v := ?ww13) rfl (by kernel_rfl) (by kernel_rfl) (by kernel_rfl) (fun _ _ _ h => h) (Or.inl ⟨by rfl, ?hz13⟩) (by assumption) ?more13
              case hz13 => intro wz hSw; (try dsimp only at hSw); (try simp only [List.getElem_toArray, List.getElem_cons_succ, List.getElem_cons_zero]); go_simp; try with_reducible rfl
              try simp only [List.getElem_toArray, List.getElem_cons_succ, List.getElem_cons_zero, Act.put, List.setIfInBounds_toArray, List.set_cons_zero, List.set_cons_succ]
              refine wpAnyH_take (i := 14) (v := ?ww14) rfl (by kernel_rfl) (by kernel_rfl) (by kernel_rfl) (fun _ _ _ h => h) (Or.inl ⟨by rfl, ?hz14⟩) (by assumption) ?more14
              case hz14 => intro wz hSw; (try dsimp only at hSw); (try simp only [List.getElem_toArray, List.getElem_cons_succ, List.getElem_cons_zero]); go_simp; try with_reducible rfl
              try simp only [List.getElem_toArray, List.getElem_cons_succ, List.getElem_cons_zero, Act.put, List.setIfInBounds_toArray, List.set_cons_zero, List.set_cons_succ]
              refine wpAnyH_ready (rs := [7]) (by kernel_rfl) (by simp) ?_
              refine AllReadyH.cons rfl (fun K hK => ?_) AllReadyH.nil
              try simp only [List.getElem_toArray, List.getElem_cons_succ, List.getElem_cons_zero]
              go_simp
              refine hK.out _ _ ?_ (fun hHeld => ?_)
              · (try dsimp only); with_reducible exact hHeld
              clear hK K
              try simp only [List.getElem_toArray, List.getElem_cons_succ, List.getElem_cons_zero, Act.put, List.setIfInBounds_toArray, List.set_cons_zero, List.set_cons_succ]
              refine wpAnyH_ready (rs := [12]) (by kernel_rfl) (by simp) ?_
              refine AllReadyH.cons rfl (fun K hK => ?_) AllReadyH.nil
              try simp only [List.getElem_toArray, List.getElem_cons_succ, List.getElem_cons_zero]
              go_simp
              go_at_call 24
              refine (HT.out).mono ?_
              rintro e w2 hl
              have hl2 := hl
              obtain ⟨v', rfl, -⟩ := hl2
              have ha := laid_arm1 HS.out.fit hl
              have hk2 := keep_b6 HS.out HS.out.fit.own1 hl ld
              obtain ⟨a0, a1, A2, n2, c2, rfl⟩ := ha
              have HLP := Lib.hid hl
              clear hl
              go_wp2_with (fail)
              refine hK.out _ _ ?_ (fun hHeld => ?_)
              · (try dsimp only); with_reducible exact hk2
              clear hK K
              try simp only [List.getElem_toArray, List.getElem_cons_succ, List.getElem_cons_zero, Act.put, List.setIfInBounds_toArray, List.set_cons_zero, List.set_cons_succ]
              refine wpAnyH_take (i := 15) (v := ?ww15) rfl (by kernel_rfl) (by kernel_rfl) (by kernel_rfl) (fun _ _ _ h => h) (Or.inl ⟨by rfl, ?hz15⟩) (by assumption) ?more15
              case hz15 => intro wz hSw; (try dsimp only at hSw); (try simp only [List.getElem_toArray, List.getElem_cons_succ, List.getElem_cons_zero]); go_simp; try with_reducible rfl
              try simp only [List.getElem_toArray, List.getElem_cons_succ, List.getElem_cons_zero, Act.put, List.setIfInBounds_toArray, List.set_cons_zero, List.set_cons_succ]
              refine wpAnyH_ready (rs := [16]) (by kernel_rfl) (by simp) ?_
              refine AllReadyH.cons rfl (fun K hK => ?_) AllReadyH.nil
              try simp only [List.getElem_toArray, List.getElem_cons_succ, List.getElem_cons_zero]
              go_simp
              refine hK.out _ _ ?_ (fun hHeld => ?_)
              · (try dsimp only); with_reducible exact keep2 hb6 _ _ hk2
              clear hK K
              try simp only [List.getElem_toArray, List.getElem_cons_succ, List.getElem_cons_zero, Act.put, List.setIfInBounds_toArray, List.set_cons_zero, List.set_cons_succ]
              refine wpAnyH_done (by kernel_rfl) ?_ _
              go_wp2_with (fail)
              go_roundg 0
              case measure => have := HQ.out; omega
              case rel =>
                have hl := HLP.out
                rw [← HNE.out.1, ← HNE.out.2] at hl
                exact ⟨_, _, _, .inr (.inr ⟨rfl, Lib.hid (HS.out.step1 hl)⟩)⟩
          · as_aux_lemma =>
              have hbk := HS.out.fit.blk
              have hh7 := HS.out.h7
              have hh8 := HS.out.h8
              have f1 : wr.cell? ⟨b, 1, none⟩ = some (.int .i64 (n : Int)) := by rw [cell_of_row wr _ 1 _ _ _ hbk, ← HNE.out.1]; rfl
              have f2 : wr.cell? ⟨b, 2, none⟩ = some (.int .u64 s.last) := by rw [cell_of_row wr _ 2 _ _ _ hbk]; rfl
              have f3 : wr.cell? ⟨b, 3, none⟩ = some (.int .u64 s.least.1) := by rw [cell_of_row wr _ 3 _ _ _ hbk]; rfl
              have f4 : wr.cell? ⟨b, 4, none⟩ = some (.int .u64 s.least.2) := by rw [cell_of_row wr _ 4 _ _ _ hbk]; rfl
              have f5 : wr.cell? ⟨b, 5, none⟩ = some (.int .u64 s.most.1) := by rw [cell_of_row wr _ 5 _ _ _ hbk]; rfl
              have f6 : wr.cell? ⟨b, 6, none⟩ = some (.int .u64 s.most.2) := by rw [cell_of_row wr _ 6 _ _ _ hbk]; rfl
              have ff : ∀ j, wr.frozen? ⟨b, j, none⟩ = false := fun j => by simp [World.frozen?, hbk]
              have ff1 := ff 1
              have ff2 := ff 2
              have ff3 := ff 3
              have ff4 := ff 4
              have ff5 := ff 5
              have ff6 := ff 6
              have l0 : wr.cell? ⟨b7, 0, none⟩ = some (.int .u64 l.1) := by rw [cell_of_row wr _ 0 _ _ _ hh7]; rfl
              have l1 : wr.cell? ⟨b7, 1, none⟩ = some (.int .u64 l.2) := by rw [cell_of_row wr _ 1 _ _ _ hh7]; rfl
              have m0 : wr.cell? ⟨b8, 0, none⟩ = some (.int .u64 m.1) := by rw [cell_of_row wr _ 0 _ _ _ hh8]; rfl
              have m1 : wr.cell? ⟨b8, 1, none⟩ = some (.int .u64 m.2) := by rw [cell_of_row wr _ 1 _ _ _ hh8]; rfl
              have y3 : IntKind.i64.wrap ((n : Int) + 1) = (n : Int) + 1 := IntWalk.i64_in _ (by have := HN.out; omega)
              clear ff hbk hh7 hh8
              have hne7 : ¬ b7 = b := fun e => HS.out.n7 (by rw [e]; exact HS.out.turned.sub b HS.out.tb)
              have hne8 : ¬ b8 = b := fun e => HS.out.n8 (by rw [e]; exact HS.out.turned.sub b HS.out.tb)
              have hne7' : ¬ b = b7 := fun e => hne7 e.symm
              have hne8' : ¬ b = b8 := fun e => hne8 e.symm
              have ld : wr.drew.cell? ⟨b7, 0, none⟩ = some (.int .u64 l.1) ∧ wr.drew.cell? ⟨b7, 1, none⟩ = some (.int .u64 l.2) ∧ wr.drew.cell? ⟨b8, 0, none⟩ = some (.int .u64 m.1) ∧ wr.drew.cell? ⟨b8, 1, none⟩ = some (.int .u64 m.2) := ⟨l0, l1, m0, m1⟩
              go_upto_region 21 with (fail)
              go_region_held3 (fun W => W.cell? ⟨b7, 0, none⟩ = some (.int .u64 l.1) ∧ W.cell? ⟨b7, 1, none⟩ = some (.int .u64 l.2) ∧ W.cell? ⟨b8, 0, none⟩ = some (.int .u64 m.1) ∧ W.cell? ⟨b8, 1, none⟩ = some (.int .u64 m.2)) (((try dsimp only); first | with_reducible exact ld | with_reducible exact keep4 hne7 hne8 _ _ (keep4 hne7 hne8 _ _ (by assumption)) | with_reducible exact keep4 hne7 hne8 _ _ (by assumption))) (fail)
              obtain ⟨Z, hZ⟩ : ∃ Z, (((((wr.setCell ⟨b, 3, none⟩ (.int .u64 l.1)).setCell ⟨b, 4, none⟩ (.int .u64 l.2)).setCell ⟨b, 5, none⟩ (.int .u64 m.1)).setCell ⟨b, 6, none⟩ (.int .u64 m.2)).setCell ⟨b, 2, none⟩ (.int .u64 k)).drew = Z := ⟨_, rfl⟩
              have hfin := add_fin HS.out HA.out n HNE.out.1
              rw [hZ] at hfin
              rw [hZ]
              have zc1 := hfin.1
              have zf1 := hfin.2.1
              have HFIN := Lib.hid hfin.2.2
              clear hfin hZ f1 f2 f3 f4 f5 f6 ff1 ff2 ff3 ff4 ff5 ff6 l0 l1 m0 m1 ld hne7 hne8 hne7' hne8'
              go_wp2_with (fail)
              refine bodyPost_ret (results_tmp2 rfl _ _ _) rfl ?_
              exact HFIN.out
end Go.Proofs.Ytjlegggkibbkjaa.M
end
