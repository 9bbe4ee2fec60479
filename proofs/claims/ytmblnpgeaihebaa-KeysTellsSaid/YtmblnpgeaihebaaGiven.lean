/- Contracts, proved by hand, of the functions of package keys that take function values: 'Rising' and 'Check'. -/
import Derived.Test.YtmblnpgeaihebaaGx0
import Derived.Deep.QuietTactic
import Derived.BigQuiet
import Derived.Deep.RegionHeld3
namespace Go.Proofs.Ytmblnpgeaihebaa.G
open Go.RowKit Go.Proofs.YtmblnpgeaihebaaW.PrintWords Go.Proofs.YtmblnpgeaihebaaW.PrintLast Go.Proofs.YtmblnpgeaihebaaW.PrintMore
set_option linter.unusedVariables false
set_option linter.unusedSimpArgs false

/-- The keys rise up to place k. -/
def risesTo (l : List Int) (k : Nat) : Bool := (List.range k).all fun i => i == 0 || decide (l.getD (i - 1) 0 < l.getD i 0)
theorem risesTo_zero (l : List Int) : risesTo l 0 = true := rfl
theorem risesTo_succ (l : List Int) (k : Nat) : risesTo l (k + 1) = (risesTo l k && (k == 0 || decide (l.getD (k - 1) 0 < l.getD k 0))) := by
  unfold risesTo
  rw [List.range_succ, List.all_append]
  simp
theorem risesTo_le (l : List Int) {j k : Nat} (h : j ≤ k) (hk : risesTo l k = true) : risesTo l j = true := by
  unfold risesTo at *
  rw [List.all_eq_true] at *
  intro i hi
  exact hk i (by simp only [List.mem_range] at *; omega)
theorem risesTo_bad (l : List Int) {k n : Nat} (h : k < n) (h0 : 0 < k) (hb : ¬ l.getD (k - 1) 0 < l.getD k 0) : risesTo l n = false := by
  rw [Bool.eq_false_iff]
  intro ht
  have h1 := risesTo_le l (show k + 1 ≤ n from h) ht
  rw [risesTo_succ, Bool.and_eq_true, Bool.or_eq_true] at h1
  rcases h1.2 with h2 | h2
  · have : k = 0 := by simpa using h2
    omega
  · exact hb (of_decide_eq_true h2)

theorem quiet_left {P : Program} {f : FuncId} {args : Array Value} {w : World} {n : Nat} {v : Value}
    (h : Calls P f args (w.drewN n) fun e w' => e = .returned v ∧ w.drewN n = w') : Calls P f args (w.drewN n) fun e w'' => e = .returned v ∧ ∃ m, w'' = w.drewN m :=
  h.mono fun _ _ ⟨he, hm⟩ => ⟨he, n, hm.symm⟩
theorem drawn0_cell {w w' : World} (h : Drawn0 w w') (a : Addr) : w'.cell? a = w.cell? a := by
  obtain ⟨m, rfl⟩ := h
  rfl
theorem f28_calls (x : Int) (w : World) : Calls Try.prog 28 #[.int .u64 x] w fun e w' => e = .returned (.int .u64 x) ∧ w = w' := by
  go_enter Try.func28, Try.ntmps28
  go_wp2
  go_ret
  exact ⟨rfl, rfl⟩

set_option maxHeartbeats 1000000 in
set_option maxRecDepth 100000 in
theorem f27_calls (A0 : Option Addr) (c0 : Nat) (l0 : List Int) (w : World) (hr0 : Kd.C (Kd.int .u64) w A0 l0.length l0) :
    Calls Try.prog 27 #[.slice A0 l0.length c0, .func (.func 28) #[] #[]] w fun e w' => e = .returned (.bool (risesTo l0 l0.length)) ∧ Drawn0 w w' := by
  have HR0 := Aside0.mk hr0
  clear hr0
  have hmax : (l0.length : Int) ≤ 9223372036854775807 := by have := HR0.out.2.1; omega
  go_enter Try.func27, Try.ntmps27
  go_wp2
  go_loopw [8] (fun v8 wr => ∃ i : Int, 0 ≤ i ∧ i ≤ l0.length ∧ v8 = .int .i64 i ∧ Aside0 (risesTo l0 i.toNat = true) ∧ Drawn0 w wr) (fun v8 _ => l0.length - (intOf v8).toNat)
  case atStart => exact ⟨0, by omega, by omega, rfl, ⟨risesTo_zero _⟩, Drawn0.refl _⟩
  case round =>
    obtain ⟨i, hi0, hi, rfl, HA, HD⟩ := hrel
    by_cases hlt : i < l0.length
    · by_cases hz : i = 0
      · subst hz
        have hd : decide ((0 : Int) > 0) = false := by decide
        go_wp2
        go_quiet (fail)
        go_wp2
        go_roundw
        case rel => exact ⟨1, by omega, by omega, rfl, ⟨rfl⟩, HD.step _⟩
        case measure => simp [intOf]; omega
      · have hk1 : 0 < i := by omega
        have hd : decide (0 < i) = true := decide_eq_true hk1
        have hi1 : (0 : Int) ≤ i - 1 := by omega
        have hi2 : i - 1 < l0.length := by omega
        obtain ⟨ad, e1, hx1⟩ := Kd.at_int HR0.out i hi0 hlt
        obtain ⟨ad', e2, hx2⟩ := Kd.at_int HR0.out (i - 1) (by omega) (by omega)
        cases e1
        cases e2
        replace hx1 := (drawn0_cell HD _).trans hx1
        replace hx2 := (drawn0_cell HD _).trans hx2
        rw [show (i - 1).toNat = i.toNat - 1 from by omega] at hx2
        have HS := Aside0.mk (risesTo_succ l0 i.toNat)
        have e : (i - 1).toNat = i.toNat - 1 := by omega
        have hne : (i.toNat == 0) = false := by rw [beq_eq_false_iff_ne]; omega
        have HN : Aside0 (risesTo l0 (i.toNat + 1) = decide (rd l0 (i - 1) < rd l0 i)) := ⟨by rw [HS.out, HA.out, hne]; simp only [rd, e, Bool.true_and, Bool.false_or]⟩
        clear HS e hne
        have HB : ¬ rd l0 (i - 1) < rd l0 i → Aside0 (risesTo l0 l0.length = false) := fun h => ⟨risesTo_bad l0 (k := i.toNat) (by omega) (by omega) (by
          simp only [rd] at h
          rw [show (i - 1).toNat = i.toNat - 1 from by omega] at h
          exact h)⟩
        generalize rd l0 i = x at *
        generalize rd l0 (i - 1) = y at *
        by_cases hxy : y < x
        · have hd2 : decide (x ≤ y) = false := decide_eq_false (by omega)
          clear HB
          go_wp2
          have hi3 : 1 ≤ i := by omega
          have hw1 : IntKind.i64.wrap (i - 1) = i - 1 := by rw [IntKind.wrap_i64]; omega
          go_quiet ((go_at_call 28; exact quiet_left (f28_calls _ _)))
          clear hw1
          go_wp2
          go_roundw
          case rel => exact ⟨i + 1, by omega, by omega, by go_num, ⟨by rw [show (i + 1).toNat = i.toNat + 1 from by omega, HN.out]; exact decide_eq_true hxy⟩, HD.step _⟩
          case measure => simp [intOf]; omega
        · have hd2 : decide (x ≤ y) = true := decide_eq_true (by omega)
          replace HB := HB hxy
          go_wp2
          have hi3 : 1 ≤ i := by omega
          have hw1 : IntKind.i64.wrap (i - 1) = i - 1 := by rw [IntKind.wrap_i64]; omega
          go_quiet ((go_at_call 28; exact quiet_left (f28_calls _ _)))
          clear hw1
          go_wp2
          go_ret
          exact ⟨by rw [HB.out]; rfl, HD.step _⟩
    · go_wp2
      go_ret
      obtain rfl : i = l0.length := by omega
      exact ⟨by rw [← HA.out]; rfl, HD⟩

def keys_Rising.f (l0 : List Int) : Option Bool := some (risesTo l0 l0.length)
set_option maxRecDepth 100000 in
theorem keys_Rising.calls (A0 : Option Addr) (c0 : Nat) (l0 : List Int) (r : Bool) (w : World) (hr0 : Kd.C (Kd.int .u64) w A0 l0.length l0) (hc0 : l0.length ≤ c0) (h : keys_Rising.f l0 = some r) :
    Calls Try.prog 20 #[.slice A0 l0.length c0] w fun e w' => e = .returned (.bool r) ∧ Drawn0 w w' := by
  obtain rfl := Option.some.inj h
  go_enter Try.func20, Try.ntmps20
  go_wp2_with (go_at_call 27; refine (f27_calls A0 c0 l0 _ hr0).mono ?_; rintro e w' ⟨rfl, hd⟩)
  go_ret
  exact ⟨rfl, hd⟩

theorem f25_calls (x : S35) (w : World) : Calls Try.prog 25 #[.agg #[.int .u64 x.f0, .int .u64 x.f1, .bool x.f2]] w fun e w' => e = .returned (.int .u64 x.f0) ∧ Below w.heap.size w w' := by
  have hu35 := Try.underlying35
  go_enter Try.func25, Try.ntmps25
  go_wp2
  go_ret
  exact ⟨rfl, (Below.refl _ _).alloc (Nat.le_refl _) _⟩
theorem f25_S (S : World → Prop) (hS : ∀ W W', Below W.heap.size W W' → S W → S W') (x : S35) (w : World) (h : S w) :
    Calls Try.prog 25 #[.agg #[.int .u64 x.f0, .int .u64 x.f1, .bool x.f2]] w fun e w' => e = .returned (.int .u64 x.f0) ∧ S w' :=
  (f25_calls x w).mono fun _ _ ⟨he, hb⟩ => ⟨he, hS _ _ hb h⟩

/-- The keys of entries. -/
def keysOf (l : List S35) : List Int := l.map (·.f0)
theorem rd_keysOf (l : List S35) (i : Int) (h : i.toNat < l.length) : rd (keysOf l) i = (rd_T35 l i).f0 := by
  simp [rd, keysOf, rd_T35, List.getD_eq_getElem?_getD, h]

set_option maxHeartbeats 1000000 in
set_option maxRecDepth 100000 in
theorem f24_calls (A0 : Option Addr) (c0 : Nat) (l0 : List S35) (w : World) (hr0 : Kd.C k35 w A0 l0.length l0) :
    Calls Try.prog 24 #[.slice A0 l0.length c0, .func (.func 25) #[] #[]] w fun e w' => e = .returned (.bool (risesTo (keysOf l0) l0.length)) ∧ Below w.heap.size w w' := by
  have HR0 := Aside0.mk hr0
  clear hr0
  have hu35 := Try.underlying35
  have hmax : (l0.length : Int) ≤ 9223372036854775807 := by have := HR0.out.2.1; omega
  go_enter Try.func24, Try.ntmps24
  go_wp2
  go_loopw [8] (fun v8 wr => ∃ i : Int, 0 ≤ i ∧ i ≤ l0.length ∧ v8 = .int .i64 i ∧ Aside0 (risesTo (keysOf l0) i.toNat = true) ∧ Aside0 (Below w.heap.size w wr)) (fun v8 _ => l0.length - (intOf v8).toNat)
  case atStart => exact ⟨0, by omega, by omega, rfl, ⟨risesTo_zero _⟩, ⟨Below.refl _ _⟩⟩
  case round =>
    obtain ⟨i, hi0, hi, rfl, HA, HD⟩ := hrel
    by_cases hlt : i < l0.length
    · by_cases hz : i = 0
      · subst hz
        have hd : decide ((0 : Int) > 0) = false := by decide
        go_wp2
        go_quiet (fail)
        go_wp2
        go_roundw
        case rel => exact ⟨1, by omega, by omega, rfl, ⟨rfl⟩, ⟨pw_below_drewN HD.out _⟩⟩
        case measure => simp [intOf]; omega
      · have hk1 : 0 < i := by omega
        have hd : decide (0 < i) = true := decide_eq_true hk1
        have hi1 : (0 : Int) ≤ i - 1 := by omega
        have hi2 : i - 1 < l0.length := by omega
        obtain ⟨ad, e1, hx1, hy1, hz1⟩ := at_T35 HR0.out i hi0 hlt
        obtain ⟨ad', e2, hx2, hy2, hz2⟩ := at_T35 HR0.out (i - 1) (by omega) (by omega)
        cases e1
        cases e2
        replace hx1 := pw_cell_below HD.out hx1
        replace hy1 := pw_cell_below HD.out hy1
        replace hz1 := pw_cell_below HD.out hz1
        replace hx2 := pw_cell_below HD.out hx2
        replace hy2 := pw_cell_below HD.out hy2
        replace hz2 := pw_cell_below HD.out hz2
        rw [show (i - 1).toNat = i.toNat - 1 from by omega] at hx2 hy2 hz2
        have HN : Aside0 (risesTo (keysOf l0) (i.toNat + 1) = decide ((rd_T35 l0 (i - 1)).f0 < (rd_T35 l0 i).f0)) := ⟨by
          rw [risesTo_succ, HA.out, ← rd_keysOf _ _ (by omega), ← rd_keysOf _ _ (by omega), show (i.toNat == 0) = false from by rw [beq_eq_false_iff_ne]; omega]
          simp only [rd, show (i - 1).toNat = i.toNat - 1 from by omega, Bool.true_and, Bool.false_or]⟩
        have HB : ¬ (rd_T35 l0 (i - 1)).f0 < (rd_T35 l0 i).f0 → Aside0 (risesTo (keysOf l0) l0.length = false) := fun h => ⟨risesTo_bad _ (k := i.toNat) (by omega) (by omega) (by
          rw [← rd_keysOf _ _ (by omega), ← rd_keysOf _ _ (by omega)] at h
          simp only [rd] at h
          rw [show (i - 1).toNat = i.toNat - 1 from by omega] at h
          exact h)⟩
        generalize rd_T35 l0 i = x at *
        generalize rd_T35 l0 (i - 1) = y at *
        by_cases hxy : y.f0 < x.f0
        · have hd2 : decide (x.f0 ≤ y.f0) = false := decide_eq_false (by omega)
          clear HB
          go_wp2
          have hi3 : 1 ≤ i := by omega
          have hw1 : IntKind.i64.wrap (i - 1) = i - 1 := by rw [IntKind.wrap_i64]; omega
          have HS := Aside0.mk (show ∀ W W', Below W.heap.size W W' → (W.cell? (ad.add (i.toNat * 3)) = some (.int .u64 x.f0) ∧ W.cell? ⟨(ad.add (i.toNat * 3)).block, (ad.add (i.toNat * 3)).off + 1, none⟩ = some (.int .u64 x.f1) ∧ W.cell? ⟨(ad.add (i.toNat * 3)).block, (ad.add (i.toNat * 3)).off + 2, none⟩ = some (.bool x.f2) ∧ W.cell? (ad.add ((i.toNat - 1) * 3)) = some (.int .u64 y.f0) ∧ W.cell? ⟨(ad.add ((i.toNat - 1) * 3)).block, (ad.add ((i.toNat - 1) * 3)).off + 1, none⟩ = some (.int .u64 y.f1) ∧ W.cell? ⟨(ad.add ((i.toNat - 1) * 3)).block, (ad.add ((i.toNat - 1) * 3)).off + 2, none⟩ = some (.bool y.f2) ∧ Aside0 (Below w.heap.size w W)) → (W'.cell? (ad.add (i.toNat * 3)) = some (.int .u64 x.f0) ∧ W'.cell? ⟨(ad.add (i.toNat * 3)).block, (ad.add (i.toNat * 3)).off + 1, none⟩ = some (.int .u64 x.f1) ∧ W'.cell? ⟨(ad.add (i.toNat * 3)).block, (ad.add (i.toNat * 3)).off + 2, none⟩ = some (.bool x.f2) ∧ W'.cell? (ad.add ((i.toNat - 1) * 3)) = some (.int .u64 y.f0) ∧ W'.cell? ⟨(ad.add ((i.toNat - 1) * 3)).block, (ad.add ((i.toNat - 1) * 3)).off + 1, none⟩ = some (.int .u64 y.f1) ∧ W'.cell? ⟨(ad.add ((i.toNat - 1) * 3)).block, (ad.add ((i.toNat - 1) * 3)).off + 2, none⟩ = some (.bool y.f2) ∧ Aside0 (Below w.heap.size w W')) from
            fun W W' hb ⟨a, b, c, d, e, f, g⟩ => ⟨pw_cell_below hb a, pw_cell_below hb b, pw_cell_below hb c, pw_cell_below hb d, pw_cell_below hb e, pw_cell_below hb f, ⟨below_step g.out hb⟩⟩)
          have hS0 : (wr.drew.cell? (ad.add (i.toNat * 3)) = some (.int .u64 x.f0) ∧ wr.drew.cell? ⟨(ad.add (i.toNat * 3)).block, (ad.add (i.toNat * 3)).off + 1, none⟩ = some (.int .u64 x.f1) ∧ wr.drew.cell? ⟨(ad.add (i.toNat * 3)).block, (ad.add (i.toNat * 3)).off + 2, none⟩ = some (.bool x.f2) ∧ wr.drew.cell? (ad.add ((i.toNat - 1) * 3)) = some (.int .u64 y.f0) ∧ wr.drew.cell? ⟨(ad.add ((i.toNat - 1) * 3)).block, (ad.add ((i.toNat - 1) * 3)).off + 1, none⟩ = some (.int .u64 y.f1) ∧ wr.drew.cell? ⟨(ad.add ((i.toNat - 1) * 3)).block, (ad.add ((i.toNat - 1) * 3)).off + 2, none⟩ = some (.bool y.f2) ∧ Aside0 (Below w.heap.size w wr.drew)) := ⟨hx1, hy1, hz1, hx2, hy2, hz2, ⟨below_drew1 HD.out⟩⟩
          go_region_held3 (fun W => (W.cell? (ad.add (i.toNat * 3)) = some (.int .u64 x.f0) ∧ W.cell? ⟨(ad.add (i.toNat * 3)).block, (ad.add (i.toNat * 3)).off + 1, none⟩ = some (.int .u64 x.f1) ∧ W.cell? ⟨(ad.add (i.toNat * 3)).block, (ad.add (i.toNat * 3)).off + 2, none⟩ = some (.bool x.f2) ∧ W.cell? (ad.add ((i.toNat - 1) * 3)) = some (.int .u64 y.f0) ∧ W.cell? ⟨(ad.add ((i.toNat - 1) * 3)).block, (ad.add ((i.toNat - 1) * 3)).off + 1, none⟩ = some (.int .u64 y.f1) ∧ W.cell? ⟨(ad.add ((i.toNat - 1) * 3)).block, (ad.add ((i.toNat - 1) * 3)).off + 2, none⟩ = some (.bool y.f2) ∧ Aside0 (Below w.heap.size w W))) (first | exact hS1 | exact hS0) (first | (go_at_call 25; refine (f25_S _ HS.out _ _ (by first | exact hS1 | exact hS0)).mono ?_; rintro e w' ⟨rfl, hS1⟩))
          clear hw1
          go_wp2
          go_roundw
          case rel => exact ⟨i + 1, by omega, by omega, by go_num, ⟨by rw [show (i + 1).toNat = i.toNat + 1 from by omega, HN.out]; exact decide_eq_true hxy⟩, hS1.2.2.2.2.2.2⟩
          case measure => simp [intOf]; omega
        · have hd2 : decide (x.f0 ≤ y.f0) = true := decide_eq_true (by omega)
          replace HB := HB hxy
          go_wp2
          have hi3 : 1 ≤ i := by omega
          have hw1 : IntKind.i64.wrap (i - 1) = i - 1 := by rw [IntKind.wrap_i64]; omega
          have HS := Aside0.mk (show ∀ W W', Below W.heap.size W W' → (W.cell? (ad.add (i.toNat * 3)) = some (.int .u64 x.f0) ∧ W.cell? ⟨(ad.add (i.toNat * 3)).block, (ad.add (i.toNat * 3)).off + 1, none⟩ = some (.int .u64 x.f1) ∧ W.cell? ⟨(ad.add (i.toNat * 3)).block, (ad.add (i.toNat * 3)).off + 2, none⟩ = some (.bool x.f2) ∧ W.cell? (ad.add ((i.toNat - 1) * 3)) = some (.int .u64 y.f0) ∧ W.cell? ⟨(ad.add ((i.toNat - 1) * 3)).block, (ad.add ((i.toNat - 1) * 3)).off + 1, none⟩ = some (.int .u64 y.f1) ∧ W.cell? ⟨(ad.add ((i.toNat - 1) * 3)).block, (ad.add ((i.toNat - 1) * 3)).off + 2, none⟩ = some (.bool y.f2) ∧ Aside0 (Below w.heap.size w W)) → (W'.cell? (ad.add (i.toNat * 3)) = some (.int .u64 x.f0) ∧ W'.cell? ⟨(ad.add (i.toNat * 3)).block, (ad.add (i.toNat * 3)).off + 1, none⟩ = some (.int .u64 x.f1) ∧ W'.cell? ⟨(ad.add (i.toNat * 3)).block, (ad.add (i.toNat * 3)).off + 2, none⟩ = some (.bool x.f2) ∧ W'.cell? (ad.add ((i.toNat - 1) * 3)) = some (.int .u64 y.f0) ∧ W'.cell? ⟨(ad.add ((i.toNat - 1) * 3)).block, (ad.add ((i.toNat - 1) * 3)).off + 1, none⟩ = some (.int .u64 y.f1) ∧ W'.cell? ⟨(ad.add ((i.toNat - 1) * 3)).block, (ad.add ((i.toNat - 1) * 3)).off + 2, none⟩ = some (.bool y.f2) ∧ Aside0 (Below w.heap.size w W')) from
            fun W W' hb ⟨a, b, c, d, e, f, g⟩ => ⟨pw_cell_below hb a, pw_cell_below hb b, pw_cell_below hb c, pw_cell_below hb d, pw_cell_below hb e, pw_cell_below hb f, ⟨below_step g.out hb⟩⟩)
          have hS0 : (wr.drew.cell? (ad.add (i.toNat * 3)) = some (.int .u64 x.f0) ∧ wr.drew.cell? ⟨(ad.add (i.toNat * 3)).block, (ad.add (i.toNat * 3)).off + 1, none⟩ = some (.int .u64 x.f1) ∧ wr.drew.cell? ⟨(ad.add (i.toNat * 3)).block, (ad.add (i.toNat * 3)).off + 2, none⟩ = some (.bool x.f2) ∧ wr.drew.cell? (ad.add ((i.toNat - 1) * 3)) = some (.int .u64 y.f0) ∧ wr.drew.cell? ⟨(ad.add ((i.toNat - 1) * 3)).block, (ad.add ((i.toNat - 1) * 3)).off + 1, none⟩ = some (.int .u64 y.f1) ∧ wr.drew.cell? ⟨(ad.add ((i.toNat - 1) * 3)).block, (ad.add ((i.toNat - 1) * 3)).off + 2, none⟩ = some (.bool y.f2) ∧ Aside0 (Below w.heap.size w wr.drew)) := ⟨hx1, hy1, hz1, hx2, hy2, hz2, ⟨below_drew1 HD.out⟩⟩
          go_region_held3 (fun W => (W.cell? (ad.add (i.toNat * 3)) = some (.int .u64 x.f0) ∧ W.cell? ⟨(ad.add (i.toNat * 3)).block, (ad.add (i.toNat * 3)).off + 1, none⟩ = some (.int .u64 x.f1) ∧ W.cell? ⟨(ad.add (i.toNat * 3)).block, (ad.add (i.toNat * 3)).off + 2, none⟩ = some (.bool x.f2) ∧ W.cell? (ad.add ((i.toNat - 1) * 3)) = some (.int .u64 y.f0) ∧ W.cell? ⟨(ad.add ((i.toNat - 1) * 3)).block, (ad.add ((i.toNat - 1) * 3)).off + 1, none⟩ = some (.int .u64 y.f1) ∧ W.cell? ⟨(ad.add ((i.toNat - 1) * 3)).block, (ad.add ((i.toNat - 1) * 3)).off + 2, none⟩ = some (.bool y.f2) ∧ Aside0 (Below w.heap.size w W))) (first | exact hS1 | exact hS0) (first | (go_at_call 25; refine (f25_S _ HS.out _ _ (by first | exact hS1 | exact hS0)).mono ?_; rintro e w' ⟨rfl, hS1⟩))
          clear hw1
          go_wp2
          go_ret
          exact ⟨by rw [HB.out]; rfl, hS1.2.2.2.2.2.2.out⟩
    · go_wp2
      go_ret
      obtain rfl : i = l0.length := by omega
      exact ⟨by rw [← HA.out]; rfl, HD.out⟩
end Go.Proofs.Ytmblnpgeaihebaa.G
