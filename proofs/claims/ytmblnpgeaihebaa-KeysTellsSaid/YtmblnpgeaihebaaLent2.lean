/- The contract of 'lent', proved by hand: a copy of one's own, a mark behind it. -/
import Derived.Test.YtmblnpgeaihebaaLent
import Derived.Laws.MakeOwn
import Derived.Laws.Entries
namespace Go.Proofs.Ytmblnpgeaihebaa.G
open Go.RowKit Go.Proofs.YtmblnpgeaihebaaW.PrintWords Go.Proofs.YtmblnpgeaihebaaW.PrintLast Go.Proofs.YtmblnpgeaihebaaW.PrintMore
set_option linter.unusedVariables false
set_option linter.unusedSimpArgs false

theorem run_make_rowN {P : Program} (t e : TypeId) (i : TypeInfo) (z : Value) (ht : P.underlying t = some (.slice e)) (hi : P.info? e = some i) (hz : i.zero = some z)
    (kl kc : IntKind) (n c : Nat) (hnc : n ≤ c) (hbytes : i.bytes * c ≤ 281474976710656) (h63 : c ≤ 9223372036854775807) (w : World) :
    (Instr.makeSlice t (.int kl (n : Int)) (.int kc (c : Int))).run P w = .ok (.slice (some ⟨w.heap.size, 0, none⟩) n c) (w.alloc (.cells (madeCells z.cells (c * i.size)) e)) := by
  have hb : (i.bytes : Int) * (c : Int) ≤ 281474976710656 := by
    have h : ((i.bytes * c : Nat) : Int) ≤ 281474976710656 := by omega
    rwa [Int.natCast_mul] at h
  have hr := run_make (P := P) w t e i z ht hi hz kl kc n c (by omega) (by omega) hb (by omega)
  simp only [Int.toNat_natCast] at hr
  exact hr

/-- copy into a row, elements of whatever size. -/
theorem run_copy_sz {P : Program} (w : World) (dT sT ty elem : TypeId) (sz : Nat) (g dLen dCap : Nat) (sp : Option Addr) (sLen sCap : Nat) (cur : Array Value) (t : TypeId) (cs : List Value)
    (hu : P.underlying dT = some (.slice elem)) (hs : (P.info? elem).map (·.size) = some sz)
    (hg : w.heap[g]? = some (.cells cur t (0, 0))) (hn : cs.length = Nat.min sLen dLen * sz)
    (hsrc : 0 < cs.length → ∃ a, sp = some a ∧ ∀ j v, cs[j]? = some v → w.cell? (a.add j) = some v) (hfit : cs.length ≤ cur.size) (h1 : ∀ v ∈ cs, v.oneCell' = true) :
    ∃ w', (Builtin.copy_ #[dT, sT] ty #[.slice (some ⟨g, 0, none⟩) dLen dCap, .slice sp sLen sCap]).run P w = .ok (goInt (Nat.min sLen dLen)) w' ∧ w'.heap[g]? = some (.cells (cs ++ cur.toList.drop cs.length).toArray t (0, 0)) ∧ w.grownBy w' (some g) := by
  have hgl : g < w.heap.size := (Array.getElem?_eq_some_iff.1 hg).1
  refine ⟨w.setRow g (cs ++ cur.toList.drop cs.length).toArray, ?_, setRow_heap w g cur _ t _ hg, ?_⟩
  · have hst := run_storeCells_at P g 0 t cs 0 cur w hg (by simpa using hfit) h1
    simp only [Nat.add_zero, List.take_zero, List.nil_append, Nat.zero_add] at hst
    cases hq : P.info? elem with
    | none => simp [hq] at hs
    | some i =>
      have hi : i.size = sz := by simpa [hq] using hs
      rcases Nat.eq_zero_or_pos cs.length with h0 | h0
      · obtain rfl := List.eq_nil_of_length_eq_zero h0
        have hz : Nat.min sLen dLen * sz = 0 := by simpa using hn.symm
        cases sp with
        | none => simp [Builtin.copy_, run_underlying hu, Builtin.lenOf, Builtin.firstCells, sizeOf, typeInfo, hq, hi, hst]
        | some a =>
          have hl := run_loadCells_list (P := P) w a [] (by simp)
          simp only [List.length_nil] at hl
          simp [Builtin.copy_, run_underlying hu, Builtin.lenOf, Builtin.firstCells, sizeOf, typeInfo, hq, hi, hz, hl, hst]
      · obtain ⟨a, rfl, hc⟩ := hsrc h0
        have hl := run_loadCells_list (P := P) w a cs hc
        rw [hn] at hl
        simp [Builtin.copy_, run_underlying hu, Builtin.lenOf, Builtin.firstCells, sizeOf, typeInfo, hq, hi, hl, hst]
  · have hb := below_setRow (B := w.heap.size) (w0 := w) (w := w) (g := g)
    refine ⟨rfl, rfl, rfl, ?_, fun k hk hne => ?_⟩
    · simp [World.setRow]
    · simp only [World.setRow, Array.getElem?_modify]
      rw [if_neg (by intro e; exact hne (by rw [e]))]

def cells35 (l : List S35) : List Value := l.flatMap fun x => [.int .u64 x.f0, .int .u64 x.f1, .bool x.f2]
theorem cells35_length (l : List S35) : (cells35 l).length = l.length * 3 := by
  induction l with
  | nil => rfl
  | cons x l ih =>
    have : cells35 (x :: l) = [.int .u64 x.f0, .int .u64 x.f1, .bool x.f2] ++ cells35 l := rfl
    rw [this, List.length_append, ih, List.length_cons]
    simp
    omega
theorem cells35_append (a b : List S35) : cells35 (a ++ b) = cells35 a ++ cells35 b := by simp [cells35]
theorem cells35_get : ∀ (l : List S35) (j : Nat) (v : Value), (cells35 l)[j]? = some v → ∃ i r x, j = i * 3 + r ∧ l[i]? = some x ∧ ([.int .u64 x.f0, .int .u64 x.f1, .bool x.f2] : List Value)[r]? = some v
  | [], j, v, h => by simp [cells35] at h
  | x :: l, j, v, h => by
    have e : cells35 (x :: l) = [.int .u64 x.f0, .int .u64 x.f1, .bool x.f2] ++ cells35 l := rfl
    rw [e] at h
    rcases Nat.lt_or_ge j 3 with hj | hj
    · rw [List.getElem?_append_left (by simpa using hj)] at h
      exact ⟨0, j, x, by omega, rfl, h⟩
    · rw [List.getElem?_append_right (by simpa using hj)] at h
      obtain ⟨i, r, y, hi, hy, hv⟩ := cells35_get l _ v h
      simp only [List.length_cons, List.length_nil] at hi
      exact ⟨i + 1, r, y, by omega, by simpa using hy, hv⟩
theorem cells35_one (l : List S35) : ∀ v ∈ cells35 l, v.oneCell' = true := by
  intro v hv
  obtain ⟨x, _, hx⟩ := List.mem_flatMap.1 hv
  simp only [List.mem_cons, List.not_mem_nil, or_false] at hx
  rcases hx with rfl | rfl | rfl <;> rfl
theorem reps35 (w : World) (base : Nat) (ok : Nat → Prop) (l : List S35) : Reps (k35.M w base ok) 3 l (cells35 l) := by
  refine ⟨cells35_length l, ?_⟩
  induction l with
  | nil => intro j p h; simp at h
  | cons x l ih =>
    intro j p h
    have e : cells35 (x :: l) = [.int .u64 x.f0, .int .u64 x.f1, .bool x.f2] ++ cells35 l := rfl
    cases j with
    | zero =>
      obtain rfl : x = p := by simpa using h
      rw [e]
      exact k35_mkM w base ok x
    | succ j =>
      have := ih j p (by simpa using h)
      rw [e, show (j + 1) * 3 = 3 + j * 3 from by omega, ← List.drop_drop]
      exact this
/-- What a reading of entries gives: their cells, one behind the other. -/
theorem cells_of_C {w : World} {A : Option Addr} {n : Nat} {l : List S35} (h : Kd.C k35 w A n l) : 0 < (cells35 l).length → ∃ a, A = some a ∧ ∀ j v, (cells35 l)[j]? = some v → w.cell? (a.add j) = some v := by
  intro h0
  rw [cells35_length] at h0
  obtain ⟨ad, e, hc⟩ := h.2.2 (by have := h.1; omega)
  refine ⟨ad, e, fun j v hj => ?_⟩
  obtain ⟨i, r, x, rfl, hx, hr⟩ := cells35_get l j v hj
  obtain ⟨c, hcl, hK, hcell⟩ := hc i x hx
  obtain rfl := k35_openM (w := w) (base := 0) (ok := fun _ => True) (show k35.M w 0 (fun _ => True) x c from hK)
  exact hcell r v hr
/-- A block that holds the cells of entries is a row of the call's own. -/
theorem R_of_block {w : World} {base g cap : Nat} {l : List S35} (hb : base ≤ g) (hg : w.heap[g]? = some (.cells (cells35 l).toArray 35 (0, 0))) (hc : l.length = cap) (hm : cap ≤ maxLen) :
    Kd.R k35 35 w base (fun _ => True) (.slice (some ⟨g, 0, none⟩) cap cap) l := by
  subst hc
  refine ⟨fun _ _ => trivial, cells35 l, ⟨?_, .inr ⟨g, l.length, (cells35 l).toArray, rfl, hb, hg, Nat.le_refl _, hm, ?_, ?_⟩⟩, reps35 _ _ _ l⟩
  · show _ = _ * 3
    exact cells35_length l
  · show _ = _ * 3
    simp [cells35_length]
  · show List.take (l.length * 3) _ = _
    rw [← cells35_length]
    simp

set_option maxHeartbeats 2000000 in
set_option maxRecDepth 100000 in
theorem lent_calls (A0 : Option Addr) (c0 : Nat) (l0 : List S35) (w : World) (hr0 : Kd.C k35 w A0 l0.length l0) (hc0 : l0.length ≤ c0) (hs : l0.length * 24 ≤ 140737488351232) :
    Calls Try.prog 9 #[.slice A0 l0.length c0] w fun e w' => ∃ g, e = .returned (.slice (some ⟨g, 0, none⟩) l0.length (l0.length + 1)) ∧ Kd.R k35 35 w' w.heap.size (fun _ => True) (.slice (some ⟨g, 0, none⟩) (l0.length + 1) (l0.length + 1)) (l0 ++ [mark35]) ∧ Below w.heap.size w w' := by
  have hu35 := Try.underlying35
  have hmax : (l0.length : Int) ≤ 9223372036854775806 := by omega
  obtain ⟨i010, hi010, hz10, hsz10, hby10⟩ := info_parts info35'
  have hcell := Aside0.mk (cells_of_C hr0)
  have hmk : ∀ u : World, (Instr.makeSlice 22 (.int .i64 ((l0.length : Int) + 1)) (.int .i64 ((l0.length : Int) + 1))).run Try.prog u = .ok (.slice (some ⟨u.heap.size, 0, none⟩) (l0.length + 1) (l0.length + 1)) (u.alloc (.cells (madeCells (Value.agg #[.int .u64 0, .int .u64 0, .bool false]).cells ((l0.length + 1) * 3)) 35)) := fun u => by
    have := run_make_rowN (P := Try.prog) 22 35 i010 _ Try.underlying22 hi010 hz10 .i64 .i64 (l0.length + 1) (l0.length + 1) (Nat.le_refl _) (by rw [hby10]; omega) (by omega) u
    rw [hsz10] at this
    exact this
  have hbel : Below w.heap.size w (w.alloc (.cells (madeCells #[.int .u64 0, .int .u64 0, .bool false] ((l0.length + 1) * 3)) 35)) := (Below.refl _ _).alloc (Nat.le_refl _) _
  have hms : (madeCells #[.int .u64 0, .int .u64 0, .bool false] ((l0.length + 1) * 3)).size = (l0.length + 1) * 3 := by simp [madeCells]
  have hmin : Nat.min l0.length (l0.length + 1) = l0.length := Nat.min_eq_left (by omega)
  obtain ⟨w2, hrun, hblk, hgrow⟩ := run_copy_sz (P := Try.prog) (w.alloc (.cells (madeCells #[.int .u64 0, .int .u64 0, .bool false] ((l0.length + 1) * 3)) 35)) 22 22 3 35 3 w.heap.size (l0.length + 1) (l0.length + 1) A0 l0.length c0 _ 35 (cells35 l0) Try.underlying22
    (by rw [hi010, Option.map_some, hsz10]) (heap_alloc_new w _) (by rw [hmin, cells35_length]) (fun h => by
      obtain ⟨a, e, hc⟩ := hcell.out h
      exact ⟨a, e, fun j v hj => pw_cell_below hbel (hc j v hj)⟩) (by rw [hms, cells35_length]; omega) (cells35_one l0)
  rw [hmin] at hrun
  have hb2 : Below w.heap.size w w2 := pw_below_grown hbel (some w.heap.size) (by simp) hgrow (fun k e => by cases e; exact Nat.le_refl _)
  have hlen : (cells35 l0 ++ (madeCells #[.int .u64 0, .int .u64 0, .bool false] ((l0.length + 1) * 3)).toList.drop (cells35 l0).length).length = l0.length * 3 + 3 := by
    have h1 := cells35_length l0
    have h2 : (madeCells #[.int .u64 0, .int .u64 0, .bool false] ((l0.length + 1) * 3)).toList.length = (l0.length + 1) * 3 := hms
    rw [List.length_append, List.length_drop, h1, h2]
    omega
  have hpre : (cells35 l0 ++ (madeCells #[.int .u64 0, .int .u64 0, .bool false] ((l0.length + 1) * 3)).toList.drop (cells35 l0).length).take (l0.length * 3) = cells35 l0 := by
    rw [← cells35_length, List.take_left]
  generalize cells35 l0 ++ (madeCells #[.int .u64 0, .int .u64 0, .bool false] ((l0.length + 1) * 3)).toList.drop (cells35 l0).length = arr at *
  have hsz2 : w.heap.size < w2.heap.size := (Array.getElem?_eq_some_iff.1 hblk).1
  have hcr : ∀ r, r < 3 → ∃ u, w2.cell? ⟨w.heap.size, l0.length * 3 + r, none⟩ = some u := fun r hr => ⟨arr[l0.length * 3 + r]'(by omega), by
    rw [cell_of_row w2 w.heap.size _ arr.toArray 35 (0, 0) hblk]
    simp⟩
  have hfr : ∀ r, w2.frozen? ⟨w.heap.size, r, none⟩ = false := fun r => by simp [World.frozen?, hblk]
  obtain ⟨u0, hu0⟩ := hcr 0 (by omega)
  rw [Nat.add_zero] at hu0
  obtain ⟨u1, hu1⟩ := hcr 1 (by omega)
  obtain ⟨u2, hu2⟩ := hcr 2 (by omega)
  have hf0 := hfr (l0.length * 3)
  have hf1 := hfr (l0.length * 3 + 1)
  have hf2 := hfr (l0.length * 3 + 2)
  have hcut := cut_to (P := Try.prog) 22 35 .i64 Try.underlying22 hi010 (some ⟨w.heap.size, 0, none⟩) (l0.length + 1) (l0.length + 1) (l0.length : Int) (by omega) (by omega) (Nat.le_refl _)
  rw [Int.toNat_natCast] at hcut
  have HBLK := Aside0.mk hblk
  have HB2 := Aside0.mk hb2
  have HL := Aside0.mk hlen
  have HP := Aside0.mk hpre
  have c3 : decide ((l0.length : Int) < (l0.length : Int) + 1) = true := decide_eq_true (by omega)
  have c4 : decide (l0.length < l0.length + 1) = true := decide_eq_true (by omega)
  clear hr0 hz10 hsz10 hby10 hbel hms hmin hgrow hcr hfr hlen hpre hcell hblk hb2 hsz2 hi010 i010
  go_enter Try.func9, Try.ntmps9
  go_wp2
  go_ret
  refine ⟨w.heap.size, rfl, ?_, below_set (below_set (below_set HB2.out (Nat.le_refl _)) (Nat.le_refl _)) (Nat.le_refl _)⟩
  refine R_of_block (Nat.le_refl _) ?_ (by simp) (by unfold maxLen; omega)
  have hb := HBLK.out
  have hl := HL.out
  have hp := HP.out
  have hfin : (((arr.toArray.setIfInBounds (l0.length * 3) (.int .u64 77)).setIfInBounds (l0.length * 3 + 1) (.int .u64 77)).setIfInBounds (l0.length * 3 + 2) (.bool true)) = (cells35 (l0 ++ [mark35])).toArray := by
    rw [cells35_append, ← hp]
    apply Array.ext'
    simp only [Array.toList_setIfInBounds]
    refine List.ext_getElem? fun j => ?_
    have hc : cells35 [mark35] = [.int .u64 77, .int .u64 77, .bool true] := rfl
    rw [hc]
    rcases Nat.lt_or_ge j (l0.length * 3) with hj | hj
    · rw [List.getElem?_set_ne (by omega), List.getElem?_set_ne (by omega), List.getElem?_set_ne (by omega), List.getElem?_append_left (by rw [List.length_take]; omega), List.getElem?_take, if_pos hj]
    · rw [List.getElem?_append_right (by rw [List.length_take]; omega), List.length_take, show min (l0.length * 3) arr.length = l0.length * 3 from by omega]
      obtain ⟨r, rfl⟩ : ∃ r, j = l0.length * 3 + r := ⟨j - l0.length * 3, by omega⟩
      rw [Nat.add_sub_cancel_left]
      match r with
      | 0 => rw [List.getElem?_set_ne (by omega), List.getElem?_set_ne (by omega), Nat.add_zero, List.getElem?_set_self (by omega)]; rfl
      | 1 => rw [List.getElem?_set_ne (by omega), List.getElem?_set_self (by rw [List.length_set]; omega)]; rfl
      | 2 => rw [List.getElem?_set_self (by rw [List.length_set, List.length_set]; omega)]; rfl
      | r + 3 => rw [List.getElem?_set_ne (by omega), List.getElem?_set_ne (by omega), List.getElem?_set_ne (by omega), List.getElem?_eq_none (by omega), List.getElem?_eq_none (by simp)]
  rw [← hfin]
  simp [World.setCell, Array.getElem?_modify, hb]
end Go.Proofs.Ytmblnpgeaihebaa.G
