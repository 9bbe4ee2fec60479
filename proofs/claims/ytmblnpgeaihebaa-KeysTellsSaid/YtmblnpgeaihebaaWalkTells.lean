/- The walk of KeysTells. -/
import Derived.Test.YtmblnpgeaihebaaKinds
import Derived.Test.YtmblnpgeaihebaaPlain4
import Derived.Test.YtmblnpgeaihebaaLent2
import Derived.Test.YtmblnpgeaihebaaWalkChecks
namespace Go.Proofs.Ytmblnpgeaihebaa
open Go.RowKit Go.Proofs.YtmblnpgeaihebaaW.PrintWords Go.Proofs.YtmblnpgeaihebaaW.PrintLast Go.Proofs.YtmblnpgeaihebaaW.PrintMore Go.Proofs.Ytmblnpgeaihebaa.Reading G
set_option linter.unusedVariables false
theorem R_sl {w : World} {base : Nat} {ok : Nat → Prop} {A : Option Addr} {n c : Nat} {xs : List Int} (h : Kd.R (Kd.int .u64) 33 w base ok (.slice A n c) xs) : n = xs.length ∧ xs.length ≤ c ∧ Kd.C (Kd.int .u64) w A xs.length xs := by
  obtain ⟨h1, h2, h3⟩ := Kd.R_reads' h
  exact ⟨h1, by omega, h3⟩
theorem own_blk {w : World} {base : Nat} {ok : Nat → Prop} {g m : Nat} {l : List S35} (h : Kd.R k35 35 w base ok (.slice (some ⟨g, 0, none⟩) m m) l) (hm : 0 < m) : ∃ arr : Array Value, w.heap[g]? = some (.cells arr 35 (0, 0)) ∧ arr.size = m * 3 ∧ base ≤ g ∧ g < w.heap.size := by
  obtain ⟨_, inner, ⟨h1, h2⟩, _⟩ := h
  rcases h2 with h2 | ⟨g', cap, arr, e, hb, hg, h3, h4, h5, h6⟩
  · obtain ⟨e, _⟩ := h2
    cases e
  · injection e with e1 e2 e3
    injection e1 with e1
    injection e1 with e1
    subst e1 e3
    exact ⟨arr, hg, h5, hb, (Array.getElem?_eq_some_iff.1 hg).1⟩
theorem R_other {w w' : World} {base g : Nat} {ok : Nat → Prop} {v : Value} {xs : List Int} (h : Kd.R (Kd.int .u64) 33 w base ok v xs) (hk : KeepBut w w' g none) (hg : g < base) : Kd.R (Kd.int .u64) 33 w' base (fun _ => True) v xs :=
  Kd.R_mono (Kd.R_keep (Kd.R_bound h) hk (fun k hk => by have := hk.2.1; omega)) (fun _ _ => trivial)
theorem blk_size {W : World} {g j : Nat} {arr : Array Value} {t : TypeId} {pr : Nat × Nat} (h : W.heap[g]? = some (.cells arr t pr)) (u : Value) : ∃ arr' : Array Value, (W.setCell ⟨g, j, none⟩ u).heap[g]? = some (.cells arr' t pr) ∧ arr'.size = arr.size := by
  refine ⟨arr.setIfInBounds j u, ?_, by simp⟩
  simp [World.setCell, Array.getElem?_modify, h]
set_option maxHeartbeats 4000000 in
set_option maxRecDepth 100000 in
theorem Walks.KeysTells {w : World} (A0 : Option Addr) (c0 : Nat) (l0 : List S35) (hC0 : Kd.C k35 w A0 l0.length l0) (hl0 : l0.length ≤ c0) (hg0 : (l0.length * 24 ≤ reach ∧ l0.length ≤ maxLen) ∧ ∀ x ∈ l0, (Lit.int .u64 x.f0).wf = true ∧ (Lit.int .u64 x.f1).wf = true ∧ True) :
    Calls Try.prog 4 #[.slice A0 l0.length c0] w fun e w' => e = .returned (.bool true) ∧ Below w.heap.size w w' := by
  have hs : l0.length * 24 ≤ 140737488351232 := hg0.1.1
  have hmax : (l0.length : Int) ≤ 5864062014634 := by omega
  obtain ⟨k, hk⟩ : ∃ k, 2 * l0.length + 11 ≤ k := ⟨_, Nat.le_refl _⟩
  have hS := Aside0.mk (Pure.shown_is k (by omega))
  have hOf := Aside0.mk (Pure.of_f l0 (by omega) k (by omega))
  have hRO := Aside0.mk (Pure.refOf_f l0 (by omega) k (by omega))
  have hkl : (keysOf l0).length = l0.length := by simp [keysOf]
  have hSm := Aside0.mk (Pure.same_f (keysOf l0) (by omega) k (by omega))
  have HC := Aside0.mk hC0
  have HLC := Aside0.mk hl0
  have HSZ := Aside0.mk hs
  generalize keysOf l0 = ks at *
  have HKL := Aside0.mk hkl
  have hn0 : (0 : Int) ≤ (l0.length : Int) := by omega
  clear hC0 hl0 hg0 hs hk hkl
  go_enter Try.func4, Try.ntmps4
  go_wp2_with (first
    | (go_at_call 8; refine (inclinelaw03_shown.calls k true _ hS.out).mono ?_; rintro e w1 ⟨rfl, hb⟩; have hb1 := Aside0.mk hb; clear hb)
    | (go_at_call 9; refine (lent_calls A0 c0 l0 _ (Kd.C_below HC.out hb1.out) HLC.out HSZ.out).mono ?_; rintro e w2 ⟨g, rfl, hR, hb⟩; have hbw2 := Aside0.mk hb; have hb2 := Aside0.mk (below_step hb1.out hb); have hR2 := Aside0.mk hR; clear hb hR)
    | (go_at_call 15; refine (inclineref03_Of.calls k A0 c0 l0 ks _ (Kd.C_below HC.out hb2.out) HLC.out hRO.out).mono ?_; rintro e w3 ⟨vw, rfl, hW, hb⟩; obtain ⟨Aw, cw, rfl⟩ := Kd.R_slice hW; have hW3 := Aside0.mk hW; have hR3 := Aside0.mk (Kd.R_below hR2.out hb); have hb3 := Aside0.mk (below_step hb2.out hb); clear hb hW)
    | (go_at_call 16; refine (keys_Of.calls k _ _ l0 ks _ (own_C hR3.out).2 (Nat.le_succ _) hOf.out).mono ?_; rintro e w4 ⟨va, rfl, hA, hb⟩; obtain ⟨Aa, ca, rfl⟩ := Kd.R_slice hA; have hbk4 := Aside0.mk hb; have hA4 := Aside0.mk hA; have hW4 := Aside0.mk (Kd.R_below hW3.out hb); have hR4 := Aside0.mk (Kd.R_below hR3.out hb); have hb4 := Aside0.mk (below_step hb3.out hb); clear hb hA)
    | (go_at_call 17; refine (inclinelaw03_same.calls k _ _ ks _ _ ks true _ (R_sl hA4.out).2.2 (R_sl hA4.out).2.1 (R_sl hW4.out).2.2 (R_sl hW4.out).2.1 hSm.out).mono ?_; rintro e w' ⟨rfl, ⟨nd, rfl⟩⟩))
  go_loopg [7] l0.length (fun kq v7 w' => ∃ (xs : List Int) (i : Int), v7 = .int .i64 i ∧ 0 ≤ i ∧ Aside0 (xs.length = l0.length) ∧ Aside0 ((kq : Int) + i = (l0.length : Int)) ∧ Aside0 (Kd.R (Kd.int .u64) 33 w' w3.heap.size (fun _ => True) (.slice Aa ks.length ca) xs) ∧ Aside0 (Below w3.heap.size w3 w'))
  case atStart => exact ⟨ks, 0, rfl, by omega, HKL, ⟨by omega⟩, ⟨Kd.R_drewN hA4.out nd⟩, ⟨pw_below_drewN hbk4.out nd⟩⟩
  case round =>
    obtain ⟨xs, i, rfl, hi0, HXL, HKI, HA, HB⟩ := hrel
    have hki := HKI.out
    have hxl := HXL.out
    have hkl := HKL.out
    cases gk with
    | zero =>
      have hin : i = (l0.length : Int) := by omega
      have hlt : decide (i < (ks.length : Int)) = false := decide_eq_false (by omega)
      have hltn : decide (l0.length < ks.length) = false := decide_eq_false (by omega)
      subst hin
      have hsz3 : w3.heap.size ≤ w3.heap.size := Nat.le_refl _
      have hne : ((xs.length : Int) + 2 != (l0.length : Int) + 2) = false := bne_eq_false_iff_eq.mpr (by omega)
      clear hki hxl hkl hbk4 hA4 hW4 hR4 hb4
      go_wp2_with (first
        | ((with_reducible refine gate_dst (N := 35) rfl ?_); refine Kd.R_lit (Kd.int .u64) w3.heap.size 33 ?hg (N := 35) ?hd (xs := ([98, 98] : List Int)) (inner := [.int .u64 98, .int .u64 98]) (ok := fun _ => True) (okp := fun _ => True) ?hr ?hp (fun _ hk => hk) trivial HB.out (below_size HB.out) (by simp) ?_; (case hd => rfl); (case hg => rfl); (case hr => first | (go_simp; done) | (go_simp; rfl)); (case hp => exact Reps.one rfl (Reps.one rfl (Reps.none _ _))); intro vl w5 hol hb5 hgr hnew; obtain ⟨Al, cl, rfl⟩ := Kd.R_slice hol; have HA5 := Aside0.mk (Kd.R_grown HA.out hgr (fun k _ => by simp)); have HL5 := Aside0.mk hol; have HB5 := Aside0.mk hb5; clear hgr hnew hb5 hol)
        | ((with_reducible refine gate_builtin (b := .append) (xs := #[.tmp 34, .tmp 35]) rfl ?_); (try (refine gate_guard (by rfl) ?_; dsimp only)); at_builtin; refine Kd.R_append_rows (Kd.int .u64) (w0 := w3) w3.heap.size rfl (.tmp 34) (.tmp 35) 30 33 (.int .u64 0) 8 rfl Try.underlying30 info33 rfl (by decide) (by omega) _ xs [98, 98] _ _ _ (fun _ => True) (fun _ => False) rfl rfl HA5.out (R_sl HL5.out).2.2 (fun _ _ h => h) (fun _ h => h.elim) (fun _ _ => trivial) HB5.out (below_size HB5.out) (by have := HXL.out; have := HSZ.out; simp only [List.length_cons, List.length_nil]; omega) ?_; intro vm w6 ho hb hg hat; obtain ⟨Am, cm, rfl⟩ := Kd.R_slice ho; have hM6 := Aside0.mk ho; have hB6 := Aside0.mk hb; clear ho hb hg hat)
        | (go_at_call 16; refine (keys_Of.calls k _ _ l0 ks _ (own_C (Kd.R_below hR3.out hB6.out)).2 (Nat.le_succ _) hOf.out).mono ?_; rintro e w7 ⟨vb, rfl, hBb, hb⟩; obtain ⟨Ab, cb, rfl⟩ := Kd.R_slice hBb; have hb7 := Aside0.mk hBb; have hM7 := Aside0.mk (Kd.R_below hM6.out hb); have hB7 := Aside0.mk (below_step hB6.out hb); clear hb hBb)
        | (go_at_call 12; refine (still_true _ _ l0 _ _ _ (own_C (Kd.R_below hR3.out hB7.out)).1 (Nat.le_refl _) (Kd.C_below HC.out (below_step hb3.out hB7.out))).mono ?_; rintro e w8 ⟨rfl, hb⟩; have hb8 := Aside0.mk (Kd.R_below hb7.out hb.below); have hM8 := Aside0.mk (Kd.R_below hM7.out hb.below); have hB8 := Aside0.mk (below_step hB7.out hb.below); clear hb)
        | (go_at_call 17; refine (inclinelaw03_same.calls k _ _ ks _ _ ks true _ (R_sl hb8.out).2.2 (R_sl hb8.out).2.1 (R_sl (Kd.R_below hW3.out hB8.out)).2.2 (R_sl (Kd.R_below hW3.out hB8.out)).2.1 hSm.out).mono ?_; rintro e w' ⟨rfl, ⟨nd2, rfl⟩⟩))
      obtain ⟨arr0, hg0, hs0, hgb0, hgl0⟩ := own_blk hR3.out (by omega)
      have hgb := Aside0.mk (Nat.le_trans (below_size hb1.out) hgb0)
      have hgl := Aside0.mk hgl0
      have hblk := Aside0.mk ((hB8.out.block g hgl0).trans hg0)
      have hgw2 : g < w2.heap.size := by
        obtain ⟨_, _, _, _, h⟩ := own_blk hR2.out (by omega)
        exact h
      have HGW2 := Aside0.mk hgw2
      clear hgw2
      go_loopg [11] l0.length (fun kq v11 w' => ∃ (i : Int), v11 = .int .i64 i ∧ 0 ≤ i ∧ Aside0 ((kq : Int) + i = (l0.length : Int)) ∧ Aside0 (KeepBut w8 w' g none) ∧ Aside0 (Below w.heap.size w w') ∧ Aside0 (∃ arr : Array Value, w'.heap[g]? = some (.cells arr 35 (0, 0)) ∧ arr.size = (l0.length + 1) * 3))
      case atStart => exact ⟨0, rfl, by omega, ⟨by omega⟩, ⟨keep_drewN (KeepBut.refl _ _ _) nd2⟩, ⟨pw_below_drewN (below_step hb3.out hB8.out) nd2⟩, ⟨arr0, hblk.out, hs0⟩⟩
      case round =>
        obtain ⟨i, rfl, hi0, HKI, HK, HBW, hA⟩ := hrel
        have hki := HKI.out
        cases gk with
        | zero =>
          have hin : i = (l0.length : Int) := by omega
          have hlt1 : decide (i < (l0.length : Int)) = false := decide_eq_false (by omega)
          subst hin
          have hWw := Aside0.mk (R_other (Kd.R_below hW3.out hB8.out) HK.out HGW2.out)
          have hbw := Aside0.mk (R_other hb8.out HK.out (Nat.lt_of_lt_of_le hgl.out (below_size hB6.out)))
          have hMw := Aside0.mk (R_other hM8.out HK.out hgl.out)
          have hlen : ((xs ++ [98, 98]).length : Int) = (l0.length : Int) + 2 := by have := HXL.out; simp; omega
          obtain ⟨ad, ea, hx⟩ := Kd.at_int (R_sl hMw.out).2.2 (l0.length : Int) (by omega) (by omega)
          subst ea
          have hrd : rd (xs ++ [98, 98]) (l0.length : Int) = 98 := by
            have := HXL.out
            unfold rd
            rw [Int.toNat_natCast, ← this]
            simp
          rw [hrd, Int.toNat_natCast] at hx
          have q1 : (l0.length : Int) < (xs.length : Int) + 2 := by have := HXL.out; omega
          have q2 : ((l0.length : Int) < (xs.length : Int) + 2) = True := eq_true q1
          have q3 : (l0.length < xs.length + 2) = True := eq_true (by omega)
          clear hlen hrd q1 hki
          go_wp2_with (first
            | (go_at_call 17; refine (inclinelaw03_same.calls k _ _ ks _ _ ks true _ (R_sl hbw.out).2.2 (R_sl hbw.out).2.1 (R_sl hWw.out).2.2 (R_sl hWw.out).2.1 hSm.out).mono ?_; rintro e w' ⟨rfl, ⟨nd3, rfl⟩⟩))
          go_ret
          exact ⟨rfl, pw_below_drewN HBW.out nd3⟩
        | succ k2 =>
          have hlt1 : decide (i < (l0.length : Int)) = true := decide_eq_true (by omega)
          obtain ⟨arr, hg, hsz⟩ := hA.out
          have hcr : ∀ r, r < 3 → ∃ u, (World.cell? wr ⟨g, i.toNat * 3 + r, none⟩) = some u := fun r hr => ⟨arr[i.toNat * 3 + r]'(by omega), by
            rw [cell_of_row _ g _ arr 35 (0, 0) hg]
            simp⟩
          have hfr : ∀ r, World.frozen? wr ⟨g, r, none⟩ = false := fun r => by simp [World.frozen?, hg]
          obtain ⟨u0, hu0⟩ := hcr 0 (by omega)
          rw [Nat.add_zero] at hu0
          obtain ⟨u1, hu1⟩ := hcr 1 (by omega)
          obtain ⟨u2, hu2⟩ := hcr 2 (by omega)
          have hf0 := hfr (i.toNat * 3)
          have hf1 := hfr (i.toNat * 3 + 1)
          have hf2 := hfr (i.toNat * 3 + 2)
          obtain ⟨a1, h1, z1⟩ := blk_size (j := i.toNat * 3) hg (.int .u64 5)
          obtain ⟨a2, h2, z2⟩ := blk_size (j := i.toNat * 3 + 1) h1 (.int .u64 0)
          obtain ⟨a3, h3, z3⟩ := blk_size (j := i.toNat * 3 + 2) h2 (.bool false)
          have H3 := Aside0.mk h3
          have Z3 : Aside0 (a3.size = (l0.length + 1) * 3) := ⟨by omega⟩
          have p0 := eq_true hi0
          have p1 : (i < (l0.length : Int)) = True := eq_true (by omega)
          have p2 : decide (0 ≤ i) = true := decide_eq_true hi0
          have hi1 : IntKind.i64.wrap (i + 1) = i + 1 := by rw [IntKind.wrap_i64]; omega
          clear hcr hfr h1 h2 h3 z1 z2 z3 hsz hg hA hki
          go_wp2
          go_roundg k2
          case measure => omega
          case rel => exact ⟨i + 1, rfl, by omega, ⟨by have := HKI.out; omega⟩, ⟨KeepBut.set_ (KeepBut.set_ (KeepBut.set_ HK.out _ _) _ _) _ _⟩, ⟨below_set (below_set (below_set HBW.out hgb.out) hgb.out) hgb.out⟩, ⟨a3, H3.out, Z3.out⟩⟩
    | succ k1 =>
      have hlt : decide (i < (ks.length : Int)) = true := decide_eq_true (by omega)
      obtain ⟨ga, ca', ea, gb, gl, cl, HG⟩ := Kd.R_form HA.out (by omega)
      injection ea with ea1 ea2 ea3
      subst ea1
      have hx := Kd.R_celln 0 HA.out i hi0 (by omega)
      obtain ⟨hx1, hf1⟩ := hx
      have HP := Kd.R_putg HA.out i 99
      have HPA := Aside0.mk HP
      have GB := Aside0.mk gb
      have hi1 : IntKind.i64.wrap (i + 1) = i + 1 := by rw [IntKind.wrap_i64]; omega
      have p0 := eq_true hi0
      have p1 : (i < (ks.length : Int)) = True := eq_true (by omega)
      have p2 : decide (0 ≤ i) = true := decide_eq_true hi0
      clear HP gb gl HG cl ea2 ea3 hki hxl hkl
      go_wp2
      go_roundg k1
      case measure => omega
      case rel => exact ⟨xs.set i.toNat 99, i + 1, rfl, by omega, ⟨by rw [List.length_set]; exact HXL.out⟩, ⟨by have := HKI.out; omega⟩, ⟨HPA.out.1⟩, ⟨below_set HB.out GB.out⟩⟩
end Go.Proofs.Ytmblnpgeaihebaa
