/- The last of the claim's own texts, in one file: WalkSifts, RowMergeSifts. Conditions: each theorem's own. -/
import Derived.Test.YtojbfjfjhfnopaaZSifts1
import Derived.Test.YtojbfjfjhfnopaaRows
import Derived.Test.YtojbfjfjhfnopaaZBase2
import Derived.WalkKit
import Derived.ProofKit
import Derived.OpenShut
import Derived.ShutString
import Derived.ChangeOld
import Derived.Below
import Derived.SizedLaws
import Derived.JoinedCond
import Derived.Deep.CondSized
section
/- The walk of MergeSifts. -/
namespace Go.Proofs.Ytojbfjfjhfnopaa.G
open Go.RowKit Go.Shelf RangeD Go.Proofs.YtojbfjfjhfnopaaW.PrintWords Go.Proofs.YtojbfjfjhfnopaaW.PrintLast Go.Proofs.YtojbfjfjhfnopaaW.PrintMore
open SeqE MergeL MergeE
set_option linter.unusedVariables false
theorem ownsRow_set {w : World} {base : Nat} {e : TypeId} {size g n cap : Nat} {inner : List Value} (h : w.ownsRow base e size (.slice (some ⟨g, 0, none⟩) n cap) n inner) (j : Nat) (u : Value) : (w.setCell ⟨g, j, none⟩ u).ownsRow base e size (.slice (some ⟨g, 0, none⟩) n cap) n (inner.set j u) := by
  refine ⟨by rw [List.length_set]; exact h.1, ?_⟩
  rcases h.2 with ⟨e, _⟩ | ⟨gg, cap2, cur, e, h1, h2, h3, h4, h5, h6⟩
  · cases e
  · injection e with e _ ec
    injection e with e
    injection e with e
    subst e ec
    refine .inr ⟨g, cap, cur.setIfInBounds j u, rfl, h1, HeapL.setCell_blk h2 u, h3, h4, by simp [h5], ?_⟩
    rw [Array.toList_setIfInBounds, List.take_set, h6]
/-- While what was answered is overwritten, and appended to: W3 is the world behind the copy, W4 behind the answer. -/
structure SI (W3 W4 X : World) (va vw : Value) (n : Nat) (m : List S32) : Prop where
  below : Below W3.heap.size W3 X
  le : W4.heap.size ≤ X.heap.size
  want : X.ownsRow W4.heap.size 32 3 vw m.length (erow S32.f0 S32.f1 S32.f2 m)
  own : ∃ inner, X.ownsRow W3.heap.size 32 3 va n inner
  blk : ∀ k, va.ownBlock = some k → W3.heap.size ≤ k ∧ k < W4.heap.size
theorem SI.drawn {W3 W4 X : World} {va vw : Value} {n : Nat} {m : List S32} (h : SI W3 W4 X va vw n m) (d : Nat) : SI W3 W4 (X.drewN d) va vw n m :=
  ⟨h.below.trans ⟨rfl, rfl, rfl, Nat.le_refl _, fun _ _ => rfl⟩, h.le, ownsRow_keep h.want (fun _ _ => rfl), h.own.imp fun _ h => ownsRow_keep h (fun _ _ => rfl), h.blk⟩
theorem SI.step {W3 W4 X X1 : World} {va vw : Value} {n : Nat} {m : List S32} (h : SI W3 W4 X va vw n m) (hb : Below X.heap.size X X1) : SI W3 W4 X1 va vw n m :=
  ⟨h.below.trans (hb.mono h.below.size), Nat.le_trans h.le hb.size, ownsRow_keep h.want (fun k hk => hb.block k (h.want.lt k hk).2), h.own.imp fun _ hh => ownsRow_keep hh (fun k hk => hb.block k (hh.lt k hk).2), h.blk⟩
theorem SI.set {W3 W4 X : World} {g c n : Nat} {vw : Value} {m : List S32} (h : SI W3 W4 X (.slice (some ⟨g, 0, none⟩) n c) vw n m) (j : Nat) (u : Value) : SI W3 W4 (X.setCell ⟨g, j, none⟩ u) (.slice (some ⟨g, 0, none⟩) n c) vw n m := by
  have hb := h.blk g (by simp [Value.ownBlock])
  have hsz : (X.setCell ⟨g, j, none⟩ u).heap.size = X.heap.size := by simp [World.setCell]
  refine ⟨⟨h.below.os, h.below.tape, h.below.output, by rw [hsz]; exact h.below.size, fun k hk => (Below.heap_setCell X ⟨g, j, none⟩ u k (by show k ≠ g; omega)).trans (h.below.block k hk)⟩, by rw [hsz]; exact h.le, ownsRow_keep h.want (fun k hk => Below.heap_setCell X ⟨g, j, none⟩ u k (by have := (h.want.lt k hk).1; show k ≠ g; omega)), ?_, h.blk⟩
  obtain ⟨inner, hi⟩ := h.own
  exact ⟨_, ownsRow_set hi j u⟩
theorem SI.form {W3 W4 X : World} {va vw : Value} {n : Nat} {m : List S32} (h : SI W3 W4 X va vw n m) (hn : 0 < n) : ∃ g c, va = .slice (some ⟨g, 0, none⟩) n c := by
  obtain ⟨inner, hi⟩ := h.own
  obtain ⟨g, c, e, _⟩ := hi.form hn
  exact ⟨g, c, e⟩
theorem SI.cells {W3 W4 X : World} {g c n : Nat} {vw : Value} {m : List S32} (h : SI W3 W4 X (.slice (some ⟨g, 0, none⟩) n c) vw n m) (j : Nat) (hj : j < n * 3) : (∃ u, X.cell? ⟨g, j, none⟩ = some u) ∧ X.frozen? ⟨g, j, none⟩ = false := by
  obtain ⟨inner, hi⟩ := h.own
  refine ⟨⟨inner[j]'(by rw [hi.1]; exact hj), ?_⟩, ?_⟩
  · rw [World.ownsRow.cellAt hi j hj, List.getElem?_eq_getElem]
  · rcases hi.2 with ⟨e, _⟩ | ⟨gg, cap2, cur, e, _, h2, _⟩
    · cases e
    · injection e with e _ _
      injection e with e
      injection e with e
      subst e
      simp [World.frozen?, h2]
/-- One more is appended. -/
theorem SI.more {W3 W4 X X1 : World} {va vw v8 : Value} {n : Nat} {m : List S32} {o : Obj} {inner news : List Value} (h : SI W3 W4 X va vw n m) (h1 : X1.ownsRow W3.heap.size 32 3 v8 (n + 1) (inner ++ news)) (hg : (X.alloc o).grownBy X1 va.ownBlock) : Below W3.heap.size W3 X1 ∧ W4.heap.size ≤ X1.heap.size ∧ X1.ownsRow W4.heap.size 32 3 vw m.length (erow S32.f0 S32.f1 S32.f2 m) := by
  have hs := hg.size
  rw [World.size_alloc] at hs
  have hk : ∀ k, k < X.heap.size → (∀ j, va.ownBlock = some j → k ≠ j) → X1.heap[k]? = X.heap[k]? := fun k hk hn => (hg.block k (by rw [World.size_alloc]; omega) (fun e => hn k e.symm rfl)).trans (Below.heap_alloc X o k hk)
  refine ⟨h.below.trans ⟨hg.os, hg.tape, hg.output, by omega, fun k hk2 => hk k (Nat.lt_of_lt_of_le hk2 h.below.size) (fun j hj e => by have := h.blk j hj; omega)⟩, by have := h.le; omega, ownsRow_keep h.want (fun k hk2 => hk k (h.want.lt k hk2).2 (fun j hj e => by have := h.blk j hj; have := (h.want.lt k hk2).1; omega))⟩
end Go.Proofs.Ytojbfjfjhfnopaa.G
namespace Go.Proofs.Ytojbfjfjhfnopaa
open Go.RowKit Go.Proofs.YtojbfjfjhfnopaaW.PrintWords Go.Proofs.YtojbfjfjhfnopaaW.PrintLast Go.Proofs.Ytojbfjfjhfnopaa.Reading G MergeL MergeE SeqE
set_option linter.unusedVariables false
set_option linter.unusedSimpArgs false
set_option maxHeartbeats 8000000 in
set_option maxRecDepth 1000000 in
theorem Walks.MergeSifts {w : World} (A0 : Option Addr) (c0 : Nat) (l0 : List S32) (hC0 : Kd.C k32 w A0 l0.length l0) (hl0 : l0.length ≤ c0) (hg0 : (l0.length * 24 ≤ reach ∧ l0.length ≤ maxLen) ∧ ∀ x ∈ l0, (Lit.int .u64 x.f0).wf = true ∧ (Lit.int .u64 x.f1).wf = true ∧ True)
    (A2 : Option Addr) (c2 : Nat) (l2 : List Int) (hC2 : Kd.C (Kd.int .u64) w A2 l2.length l2) (hl2 : l2.length ≤ c2) (hg2 : (l2.length * 8 ≤ reach ∧ l2.length ≤ maxLen) ∧ ∀ x ∈ l2, (Lit.int .u64 x).wf = true)
    (hb : l0.length + 1 + (l2.length + 1) ≤ 1048576) :
    Calls Try.prog 6 #[.slice A0 l0.length c0, .slice A2 l2.length c2] w fun e w' => e = .returned (.bool true) ∧ Below w.heap.size w w' := by
  obtain ⟨g2, o2, hA2, hcc2⟩ : ∃ g o, (0 < l2.length → A2 = some ⟨g, o, none⟩) ∧ ∀ (j : Nat) (x : Int), l2[j]? = some x → w.cell? ⟨g, o + j, none⟩ = some (.int .u64 x) := by
    by_cases h0 : 0 < l2.length
    · obtain ⟨ad, e, hc⟩ := hC2.2.2 h0
      have cells : ∀ (j : Nat) (x : Int), l2[j]? = some x → w.cell? (ad.add j) = some (.int .u64 x) := fun j x hj => by
        obtain ⟨c, _, hK, hcc⟩ := hc j x hj
        have hK2 : c = [.int .u64 x] := hK
        subst hK2
        have this : w.cell? (ad.add (j * 1 + 0)) = some (.int .u64 x) := hcc 0 _ rfl
        rwa [Nat.mul_one, Nat.add_zero] at this
      refine ⟨ad.block, ad.off, fun _ => ?_, fun j x hj => ?_⟩
      · rw [e]
        have hp := addr_plain (cells 0 _ (List.getElem?_eq_getElem h0))
        have e2 : ad.add 0 = ad := by simp [Addr.add]
        rw [← e2, hp]
      · have := cells j x hj
        rw [addr_plain this] at this
        exact this
    · exact ⟨0, 0, fun h => absurd h h0, fun j x hj => absurd (List.getElem?_eq_some_iff.1 hj).1 (by omega)⟩
  have S0 : Hid (SB w (w.alloc (.cells #[.slice A2 l2.length c2] 49)) [(A0, c0, l0)] w.heap.size A2 g2 o2 c2 l2) := Lib.hid
    ⟨St.alloc ⟨Below.refl _ w, okl1 ⟨hC0, hl0⟩⟩ _, ⟨World.alloc_heap_new w _, hA2, fun j x hj => Below.cell1 ((Below.refl _ w).alloc (Nat.le_refl _) _) (hcc2 j x hj), by omega⟩⟩
  have HS : Hid (l0.length ≤ 1048576) := Lib.hid (by omega)
  have HA2 := Lib.hid hA2
  have HL2 : Hid (l2.length ≤ 140737488355328) := Lib.hid (by omega)
  obtain ⟨m, hm⟩ : ∃ m, Sifted.sft (fun k => l2.contains k) l0 = m := ⟨_, rfl⟩
  have HLM : Hid (m.length ≤ 1048576) := Lib.hid (by have : m.length ≤ l0.length := (by rw [← hm]; exact List.length_filter_le _ _); omega)
  have HM : Hid (sift S32.f0 S32.f2 (fun k => l2.contains k) l0 = m) := Lib.hid hm
  obtain ⟨i0, hi0, hz0, hz1, hz2⟩ := info_parts info32e
  clear hC0 hl0 hg0 hC2 hl2 hg2 hb hA2 hcc2 hm
  go_enter Try.func6, Try.ntmps6
  go_upto_region 4 with (go_at_call 10; go_must (refine (inclinelaw13_shown.calls true _ rfl).mono ?_; rintro e W2 ⟨rfl, hb⟩; have S2 := Lib.hid (S0.out.step hb); clear hb))
  go_upto_region 6 with (go_at_call 11; go_must (refine (copied_calls (some ⟨W2.heap.size, 0, none⟩) 1 [l0] _ (lit_rows W2 [(A0, c0, l0)] #[.slice A0 l0.length c0] rfl (okl1 (S2.out.get 0 rfl)) (by simp)) ⟨by simp, fun xs hx => by rw [List.mem_singleton] at hx; subst hx; exact HS.out⟩).mono ?_; rintro e W3 ⟨g, c, rfl, hcap, hlent, hb⟩; have S3 := Lib.hid ((S2.out.alloc _).step hb); have LN := Lib.hid hlent; clear hcap hlent hb))
  obtain ⟨v0, q1, ⟨b, cc, cur, rfl, hcc, hcells, hmark, hcur⟩⟩ := LN.out 0 l0 rfl
  have HOK : Hid (RowLit.ok W3 (some ⟨b, 0, none⟩, cc, l0)) := Lib.hid ⟨C_of_cells hcells (by have := HS.out; show l0.length ≤ _; omega), by show l0.length ≤ cc; omega⟩
  have HCB := Lib.hid (And.intro hcells hcur)
  have HQ1 := Lib.hid q1
  clear hcc hcells hmark hcur
  go_upto_region 7 with (go_at_call 25; go_must (refine (sift_calls (ek := S32.f0) (ev := S32.f1) (eb := S32.f2) (some ⟨b, 0, none⟩) b 0 cc 23 #[.pointer (some ⟨w.heap.size, 0, none⟩)] (fun k => l2.contains k) l0 W3 (fun _ => rfl) HCB.out.1 (fun _ => (Array.getElem?_eq_some_iff.1 HCB.out.2).1) (by have := HS.out; omega) goes23 (fun x _ w1 hb => is2_calls w.heap.size A2 g2 o2 c2 l2 x.f0 w1 (S3.out.bx.below hb) _ rfl)).mono ?_; rw [HM.out]; rintro e W4 ⟨va, rfl, h1, h2⟩; obtain ⟨Aa, ca, rfl⟩ := own_slice h1 rfl; have O4 := Lib.hid h1; have B4 := Lib.hid h2; clear h1 h2))
  have hbx4 : W4.cell? ⟨w.heap.size, 0, none⟩ = some (.slice A2 l2.length c2) := by rw [cell_of_row W4 _ 0 _ _ _ (S3.out.step B4.out).bx.box]; rfl
  go_upto_region 8 with (go_at_call 26; go_must (obtain ⟨g9, o9, h91, h92⟩ := lies_of_C ((S3.out.step B4.out).get 0 rfl : RowLit.ok _ (A0, c0, l0)).1; refine (refSift_calls (ek := S32.f0) (ev := S32.f1) (eb := S32.f2) A0 g9 o9 c0 l0 A2 g2 o2 c2 l2 W4 (fun h => (h91 h).1) h92 (by have := HS.out; omega) HA2.out (S3.out.step B4.out).bx.cells HL2.out).mono ?_; rw [HM.out]; rintro e W5 ⟨vw, rfl, h1, h2⟩; obtain ⟨Aw, cw, rfl⟩ := own_slice h1 rfl; have O5 := Lib.hid h1; have B5 := Lib.hid h2; clear h1 h2 h91 h92))
  have SI5 : Hid (SI W3 W4 W5 (.slice Aa m.length ca) (.slice Aw m.length cw) m.length m) := Lib.hid ⟨B4.out.trans (B5.out.mono B4.out.size), B5.out.size, O5.out, ⟨_, ownsRow_keep O4.out (fun k hk => B5.out.block k (O4.out.lt k hk).2)⟩, fun k hk => O4.out.lt k hk⟩
  have HA5 : Hid (RowLit.ok W5 (Aa, ca, m)) := Lib.hid (by
    have h := own_C (ownsRow_keep O4.out (fun k hk => B5.out.block k (O4.out.lt k hk).2))
    exact ⟨h.1, h.2.1⟩)
  have HW5 : Hid (∀ X, SI W3 W4 X (.slice Aa m.length ca) (.slice Aw m.length cw) m.length m → RowLit.ok X (Aw, cw, m)) := Lib.hid (fun X h => by
    have h := own_C h.want
    exact ⟨h.1, h.2.1⟩)
  clear hbx4 O4 O5 B5
  have tok1 : Hid True := Lib.hid trivial
  go_upto_region 10 with (first
    | (go_at_call 14; have _t := tok1; clear _t tok1; go_must (refine (same_rows _ (Aa, ca, m) (Aw, cw, m) HA5.out (HW5.out _ SI5.out) rfl (by show m.length ≤ _; have := HLM.out; omega)).mono ?_; rintro e W6 ⟨rfl, ⟨nd, hz⟩⟩; have SI6 : Hid (SI W3 W4 W6 (.slice Aa m.length ca) (.slice Aw m.length cw) m.length m) := Lib.hid (by rw [hz]; exact SI5.out.drawn _); clear hz))
    | (go_at_call 15; go_must (refine (asWere_calls g c (some ⟨W6.heap.size, 0, none⟩) 1 [l0] _ (LN.out.below (SI6.out.step ((Below.refl _ W6).alloc (Nat.le_refl _) _)).below) (lit_rows W6 [(A0, c0, l0)] #[.slice A0 l0.length c0] rfl (okl1 ((S3.out.step SI6.out.below).get 0 rfl)) (by simp)) ⟨by simp, fun xs hx => by rw [List.mem_singleton] at hx; subst hx; exact HS.out⟩).mono ?_; rintro e W7 ⟨rfl, ⟨nd, hz⟩⟩; have SI7 : Hid (SI W3 W4 W7 (.slice Aa m.length ca) (.slice Aw m.length cw) m.length m) := Lib.hid (by rw [hz]; exact (SI6.out.step ((Below.refl _ W6).alloc (Nat.le_refl _) _)).drawn _); clear hz)))
  go_wp2_with (fail)
  go_loopg [10] m.length (fun kq v10 w' => ∃ i : Nat, v10 = .int .i64 (i : Int) ∧ Hid (i ≤ m.length ∧ m.length ≤ kq + i) ∧ Hid (SI W3 W4 w' (.slice Aa m.length ca) (.slice Aw m.length cw) m.length m))
  case atStart => exact ⟨0, rfl, Lib.hid ⟨Nat.zero_le _, Nat.le_refl _⟩, SI7⟩
  case round =>
    obtain ⟨i, rfl, HI, SL⟩ := hrel
    by_cases hlt : i < m.length
    · have hd : decide ((i : Int) < (m.length : Int)) = true := decide_eq_true (Int.ofNat_lt.2 hlt)
      have hd2 : decide (i < m.length) = true := decide_eq_true hlt
      have hb1 : (0 : Int) ≤ (i : Int) := Int.natCast_nonneg i
      have hb2 : (i : Int) < (m.length : Int) := Int.ofNat_lt.2 hlt
      obtain ⟨ga, ca2, e⟩ := SL.out.form (by omega)
      injection e with e _ ec
      subst e ec
      obtain ⟨⟨u0, k0⟩, f0⟩ := SL.out.cells (i * 3) (by omega)
      obtain ⟨⟨u1, k1⟩, f1⟩ := SL.out.cells (i * 3 + 1) (by omega)
      obtain ⟨⟨u2, k2⟩, f2⟩ := SL.out.cells (i * 3 + 2) (by omega)
      obtain ⟨i2, hi2⟩ : ∃ i2, i + 1 = i2 := ⟨_, rfl⟩
      have hi3 : (i : Int) + 1 = (i2 : Int) := by rw [← hi2]; rfl
      have HI2 := Lib.hid (loop_nums hi2 hlt HI.out.2)
      have hw2 : IntKind.i64.wrap (i2 : Int) = (i2 : Int) := IntWalk.i64_in _ (by have := HI2.out.1; have := HLM.out; omega)
      clear hlt hi2
      go_wp2_with (fail)
      go_roundg (m.length - i2)
      case measure => exact HI2.out.2.2
      case rel => exact ⟨i2, rfl, Lib.hid ⟨HI2.out.1, HI2.out.2.1⟩, Lib.hid (((SL.out.set (i * 3) (.int .u64 9)).set (i * 3 + 1) (.int .u64 0)).set (i * 3 + 2) (.bool false))⟩
    · have hd : decide ((i : Int) < (m.length : Int)) = false := decide_eq_false (fun h => hlt (Int.ofNat_lt.1 h))
      have hd2 : decide (i < m.length) = false := decide_eq_false hlt
      obtain ⟨inner, hin⟩ := SL.out.own
      have HIN := Lib.hid hin
      obtain ⟨m1, hm1⟩ : ∃ m1, m.length + 1 = m1 := ⟨_, rfl⟩
      have HM1 := Lib.hid hm1
      have hb3 : (0 : Int) ≤ (m.length : Int) := Int.natCast_nonneg _
      have hb4 : (m.length : Int) < (m1 : Int) := by omega
      clear hlt hin hm1
      go_upto_region 15 with (at_builtin; go_must (refine wpList_append_own_at _ rfl (.tmp 49) (.tmp 51) 25 rfl W3.heap.size 32 i0 _ 3 24 Try.underlying25 hi0 hz0 hz1 hz2 rfl (by decide) (.slice Aa m.length ca) m.length inner (by rfl) (HIN.out.alloc _) ⟨wr.heap.size, 0, none⟩ 1 1 [.int .u64 8, .int .u64 0, .bool false] (by rfl) (by rfl) (World.news_of_block (cs := #[.int .u64 8, .int .u64 0, .bool false]) (t := 32) (fr := (0, 0)) (World.alloc_heap_new wr _)) (by intro u hu; simp only [List.mem_cons, List.not_mem_nil, or_false] at hu; rcases hu with hu | hu | hu <;> subst hu <;> rfl) (by have := HLM.out; unfold maxLen; omega) (by have := HLM.out; omega) (by rw [World.size_alloc]; exact Nat.le_succ_of_le SL.out.below.size) ?_; intro v8 w8 ho8 hg8 hn8 hat8; obtain ⟨g8, cg8, e8, _, _⟩ := ho8.form (Nat.succ_pos _); subst e8; have O8 := Lib.hid ho8; have G8 := Lib.hid hg8; rw [HM1.out] at O8 ⊢; clear ho8 hg8 hn8 hat8))
      have SM := Lib.hid (SL.out.more (n := m.length) (by have := O8.out; rw [← HM1.out] at this; exact this) G8.out)
      have h88 : w8.cell? ⟨g8, m.length * 3, none⟩ = some (.int .u64 8) := by
        have hi := HIN.out.1
        have h1 := HM1.out
        rw [World.ownsRow.cellAt O8.out _ (by omega), List.getElem?_append_right (by omega), hi, Nat.sub_self]
        rfl
      have hq8 : w8.cell? ⟨g, 0, none⟩ = some (.slice (some ⟨b, 0, none⟩) l0.length cc) := Below.cell1 SM.out.1 HQ1.out
      have H88 := Lib.hid h88
      have HCB8 : Hid (CellsAt S32.f0 S32.f1 S32.f2 w8 b 0 l0 ∧ b < w8.heap.size) := Lib.hid (by
        have hbb := (Array.getElem?_eq_some_iff.1 HCB.out.2).1
        exact ⟨HCB.out.1.keep _ _ _ (SM.out.1.block b hbb), Nat.lt_of_lt_of_le hbb SM.out.1.size⟩)
      clear h88
      go_upto_region 16 with (go_at_call 25; go_must (refine (sift_calls (ek := S32.f0) (ev := S32.f1) (eb := S32.f2) (some ⟨b, 0, none⟩) b 0 cc 23 #[.pointer (some ⟨w.heap.size, 0, none⟩)] (fun k => l2.contains k) l0 w8 (fun _ => rfl) HCB8.out.1 (fun _ => HCB8.out.2) (by have := HS.out; omega) goes23 (fun x _ w1 hb => is2_calls w.heap.size A2 g2 o2 c2 l2 x.f0 w1 ((S3.out.step SM.out.1).bx.below hb) _ rfl)).mono ?_; rw [HM.out]; rintro e W9 ⟨vb, rfl, h1, h2⟩; obtain ⟨Ab, cb, rfl⟩ := own_slice h1 rfl; have O9 := Lib.hid h1; have B9 := Lib.hid h2; clear h1 h2))
      have R9 : Hid (RowLit.ok W9 (Ab, cb, m) ∧ RowLit.ok W9 (Aw, cw, m)) := Lib.hid (by
        have h := own_C O9.out
        have h2 := own_C (ownsRow_keep SM.out.2.2 (fun k hk => B9.out.block k (SM.out.2.2.lt k hk).2))
        exact ⟨⟨h.1, h.2.1⟩, ⟨h2.1, h2.2.1⟩⟩)
      have tok2 : Hid True := Lib.hid trivial
      go_wp2_with (first
        | (go_at_call 14; have _t := tok2; clear _t tok2; go_must (refine (same_rows _ (Ab, cb, m) (Aw, cw, m) R9.out.1 R9.out.2 rfl (by show m.length ≤ _; have := HLM.out; omega)).mono ?_; rintro e V6 ⟨rfl, ⟨nd, hz⟩⟩; have BV : Hid (Below w8.heap.size w8 V6) := Lib.hid (by rw [hz]; exact B9.out.trans ⟨rfl, rfl, rfl, Nat.le_refl _, fun _ _ => rfl⟩); clear hz))
        | (go_at_call 15; go_must (have b36 : Below W3.heap.size W3 V6 := SM.out.1.trans (BV.out.mono SM.out.1.size); refine (asWere_calls g c (some ⟨V6.heap.size, 0, none⟩) 1 [l0] _ (LN.out.below (b36.trans ((Below.refl _ V6).alloc b36.size _))) (lit_rows V6 [(A0, c0, l0)] #[.slice A0 l0.length c0] rfl (okl1 ((S3.out.step b36).get 0 rfl)) (by simp)) ⟨by simp, fun xs hx => by rw [List.mem_singleton] at hx; subst hx; exact HS.out⟩).mono ?_; rintro e V7 ⟨rfl, ⟨nd, hz⟩⟩; have BV7 : Hid (Below w8.heap.size w8 V7) := Lib.hid (by rw [hz]; exact (BV.out.alloc BV.out.size _).trans ⟨rfl, rfl, rfl, Nat.le_refl _, fun _ _ => rfl⟩); have k8 : V7.cell? ⟨g8, m.length * 3, none⟩ = some (.int .u64 8) := Below.cell1 BV7.out H88.out; clear hz b36)))
      refine bodyPost_ret (results_tmp rfl _ _ _) rfl ?_
      exact ⟨rfl, (S3.out.step (SM.out.1.trans (BV7.out.mono SM.out.1.size))).st.1⟩
end Go.Proofs.Ytojbfjfjhfnopaa
end

section
/- The row of MergeSifts: for every input of bulk at most 1048576 the law answers true, and each argument reads as it did. Out of its walk (Walks.MergeSifts). -/
namespace Go.Proofs.Ytojbfjfjhfnopaa.rowMergeSifts
open Go.ChangeShapes Go.WideShapes Go.ChangeAt Go.RowKit Go.Proofs.Ytojbfjfjhfnopaa.Reading
open Go.ChangeMaps (open_string shut_string)
set_option linter.unusedVariables false
theorem own : ownKnob Try.prog.godebug = none := by kernel_rfl
theorem laidOut : laidOutB Try.prog = true := by kernel_rfl
set_option maxRecDepth 100000 in
theorem contract (H : Type) (enc : TypeId × Value → H) (W : World) (base : Nat) (args : Array Value) (ds gs : List (DataW H)) (before : List MemPlace)
    (hval0 : ∀ (j : Nat) t v, Try.f6.params[j]? = some t → args[j]? = some v → Value.okWide Try.prog W .any base t v)
    (hW : DataW.Whole enc Try.prog Try.f6.params.toList Rows.mergeSiftsSpec.vars false W args.toList ds gs before) (hk0 : Rows.uptoSmall H (ds ++ gs) = true)
    (hsz0 : (DataW.weightsEach Try.prog (Try.f6.params.toList ++ Rows.mergeSiftsSpec.plain.varTypes Try.prog) (ds ++ gs)).all (· ≤ reachBytes) = true) :
    Calls Try.prog 6 args W fun e W' => ∃ v, e = .returned v ∧ Rows.mergeSiftsSpec.post enc Try.prog Try.f6 false true false false W args v W' := by
  have hval := hval0
  have hsz := hsz0
  have hW' := hW
  obtain ⟨p, q, hA0, hV, rfl, hfz, hnd⟩ := hW
  have hA : DataW.TrodAll enc Try.prog W 0 (fun _ => true) true Try.f6.params.toList args.toList ds p := hA0
  rw [Try.params6] at hA hval hsz
  obtain ⟨v0, vs0, d0, ds0, p0, q0, hargs, rfl, rfl, h0, r0⟩ := trodAll_cons hA
  obtain ⟨v1, vs1, d1, ds1, p1, q1, rfl, rfl, rfl, h1, r1⟩ := trodAll_cons r0
  obtain ⟨rfl, rfl, rfl⟩ := trodAll_nil r1
  obtain rfl : args = #[v0, v1] := by cases args; simp_all
  obtain ⟨rfl, rfl⟩ := trodVars_none hV
  have hwt := weights_at hsz
  have hk : Rows.uptoBulkAll (d0 :: d1 :: ([] : List (DataW H))) ≤ 1048576 := by
    have h := of_decide_eq_true hk0
    simpa using h
  have k0 := h0
  have lt0 : ∀ x ∈ p0, x.block < W.heap.size := by obtain ⟨m, hm⟩ := k0; exact DataW.trod_lt m _ _ _ hm
  have wt0 : ∀ n ∈ DataW.weights Try.prog 25 d0, n ≤ reach := fun n hn => hwt n (by simp only [List.cons_append, List.nil_append, List.append_nil, DataW.weightsEach, List.mem_append]; first | exact hn | exact (.inl hn) | exact hn)
  obtain ⟨A0, c0, l0, rfl, hl0, hC0, hg0, hb0⟩ := slice_top (okWide_slice' Try.underlying25 (hval 0 25 v0 rfl rfl)) (open25b enc W 0 (fun _ => true) true) h0 wt0
  have k1 := h1
  have lt1 : ∀ x ∈ p1, x.block < W.heap.size := by obtain ⟨m, hm⟩ := k1; exact DataW.trod_lt m _ _ _ hm
  have wt1 : ∀ n ∈ DataW.weights Try.prog 49 d1, n ≤ reach := fun n hn => hwt n (by simp only [List.cons_append, List.nil_append, List.append_nil, DataW.weightsEach, List.mem_append]; first | exact hn | exact (.inr (.inl hn)) | exact (.inr hn))
  obtain ⟨A1, c1, l1, rfl, hl1, hC1, hg1, hb1⟩ := slice_top (okWide_slice' Try.underlying49 (hval 1 49 v1 rfl rfl)) (open49 enc W 0 (fun _ => true) true) h1 wt1
  simp only [Rows.uptoBulkAll] at hk
  clear hA0 hval0 hsz0 hsz
  refine (Walks.MergeSifts A0 c0 l0 hC0 hl0 hg0 A1 c1 l1 hC1 hl1 hg1 (by omega)).mono fun e W' ⟨he, bel⟩ => ?_
  subst he
  exact ⟨_, rfl, _, _, _, [], _, [], hW', trodAll_mk1 (shut_bool Try.underlying4 _), (trodAll_cons_mk (Below.trod laidOut (by kernel_rfl) (of_decide_eq_true (by kernel_rfl)) k0 bel lt0) (trodAll_cons_mk (Below.trod laidOut (by kernel_rfl) (of_decide_eq_true (by kernel_rfl)) k1 bel lt1) trodAll_mk0)), rfl, bel.frame _, fun h => by cases h⟩
set_option maxRecDepth 100000 in
theorem lifted (os : Os) (started : os.Started) (H : Type) (enc : TypeId × Value → H) (F : Stop.Interp) :
    ReturnsInHanded {} Try.checked os 6 .any ((Rows.OpenSpec.upto Rows.mergeSiftsSpec).pre6 enc Try.prog Try.f6 Rows.mergeSiftsUptoRow.domain false) (((Rows.OpenSpec.upto Rows.mergeSiftsSpec).at F).post enc Try.prog Try.f6 false true false false) := by
  refine returnsInHanded_of_cond_sized (C := Try.checked) (s := (Rows.OpenSpec.upto Rows.mergeSiftsSpec)) (k := Rows.uptoSmall) rfl own started (by kernel_rfl) Try.func6
    (OpenSpec.witness (enc := enc) (C := Try.checked) (s := (Rows.OpenSpec.upto Rows.mergeSiftsSpec)) (k := Rows.uptoSmall) rfl false ⟨#[], #[.slice none 0 0, .slice none 0 0], []⟩ 8 (by kernel_rfl) (by kernel_rfl) (by kernel_rfl) (x := ([.nil, .nil], [], [])) (by kernel_rfl) rfl (by kernel_rfl)) ?_
  intro W base args ds gs before hval hW _ hk hsz _
  exact contract H enc W base args ds gs before hval hW hk hsz
theorem over : Rows.mergeSiftsUptoRow.holds Try.pinned (Rows.OpenSpec.upto Rows.mergeSiftsSpec) :=
  OpenClaim.holds_of_cond 6 Try.f6 rfl rfl rfl rfl rfl rfl rfl ⟨rfl, rfl, rfl, rfl, rfl⟩ rfl rfl rfl rfl rfl (by kernel_rfl) Try.func6 (by kernel_rfl)
    (of_decide_eq_true (by kernel_rfl)) (by unfold Func.isWrapper; first | (rw [if_pos (by decide +kernel)]; kernel_rfl) | (rw [if_neg (by decide +kernel)]; exact ⟨rfl, rfl⟩))
    (fun os started H enc _ F => lifted os started H enc F)
end Go.Proofs.Ytojbfjfjhfnopaa.rowMergeSifts
namespace Go.Proofs.Ytojbfjfjhfnopaa
/-- The row. -/
theorem mergeSifts_holds : Rows.MergeSiftsUptoSaid := rowMergeSifts.over
#print axioms mergeSifts_holds
end Go.Proofs.Ytojbfjfjhfnopaa
end
