/- The walk of CpuRuns. -/
import Derived.Test.YtnghhkageiceaaaDoorExAs
import Derived.Deep.DeepCutAuto
namespace Go.Proofs.YtnghhkageiceaaaDoor
open Go Go.RowKit Go.Lib Go.Proofs.YtnghhkageiceaaaDoor.Pl
set_option linter.unusedVariables false
set_option linter.unusedSimpArgs false
attribute [local go_sem ↓] exec_load_cpu exec_store_cpu run_eql_ins run_neq_ins

theorem dec_is (x : Int) : ∃ (f : Int) (u v : Bool) (a b op c n : Int) (q : Bool), decRes x = ins f u v a b op c n ∧ decOk x = q := by
  unfold decRes
  cases decOk x
  · exact ⟨0, false, false, 0, 0, 0, 0, 0, false, rfl, rfl⟩
  · exact ⟨_, _, _, _, _, _, _, _, true, rfl, rfl⟩
theorem dec_as {x : Int} {f : Int} {u v : Bool} {a b op c n : Int} {q : Bool} (hx : decRes x = ins f u v a b op c n ∧ decOk x = q) (h0 : 0 ≤ x) (h1 : x < 4294967296) (w : World) (hT : Tab w) :
    Calls Tryd.prog 13 #[.int .u32 x] w fun e w' => e = .returned (.tuple #[.agg #[.int .i64 f, .bool u, .bool v, .int .i64 a, .int .i64 b, .int .i64 op, .int .i64 c, .int .i64 n], .bool q]) ∧ Below w.heap.size w w' := by
  have := dec_any x h0 h1 w hT
  rw [hx.1, hx.2] at this
  exact this
theorem rdec_as {x : Int} {f : Int} {u v : Bool} {a b op c n : Int} {q : Bool} (hx : decRes x = ins f u v a b op c n ∧ decOk x = q) (h0 : 0 ≤ x) (h1 : x < 4294967296) (w : World) :
    Calls Tryd.prog 14 #[.int .u32 x] w fun e w' => e = .returned (.tuple #[.agg #[.int .i64 f, .bool u, .bool v, .int .i64 a, .int .i64 b, .int .i64 op, .int .i64 c, .int .i64 n], .bool q]) ∧ Below w.heap.size w w' := by
  have := rdec_any x h0 h1 w
  rw [hx.1, hx.2] at this
  exact this
set_option maxRecDepth 100000 in
set_option maxHeartbeats 2000000 in
theorem runs_some (cs0 : Array Value) (hc0 : CpuOk cs0) (b0 off len cap : Nat) (f0 : Nat → Int) (A2 : Option Addr) (len2 cap2 : Nat) (f2 : Nat → Int) (w : World) (hl : len ≤ 9223372036854775807) (hl2 : len2 ≤ 9223372036854775807) (hbl : b0 < w.heap.size) (hcell : ∀ i, i < len → w.cell? ⟨b0, off + i, none⟩ = some (.int .u32 (f0 i))) (hf : ∀ i, 0 ≤ f0 i ∧ f0 i < 4294967296)
    (h2 : 0 < len2 → ∃ b off, A2 = some ⟨b, off, none⟩ ∧ b < w.heap.size ∧ ∀ i, i < len2 → w.cell? ⟨b, off + i, none⟩ = some (.int .u32 (f2 i))) (hf2 : ∀ i, 0 ≤ f2 i ∧ f2 i < 4294967296) (hT : Tab w) :
    Calls Tryd.prog 8 #[.agg cs0, .slice (some ⟨b0, off, none⟩) len cap, .slice A2 len2 cap2] w fun e w' => e = .returned (.bool true) ∧ Below w.heap.size w w' := by
  have HT : Hid (∀ W, Below w.heap.size w W → Tab W) := fun W hB => hT.below hB hT.lt
  have HCE := Lib.hid hcell
  have HF := Lib.hid hf
  have HBL := Lib.hid hbl
  have H2 := Lib.hid h2
  have HF2 := Lib.hid hf2
  have HC0 := Lib.hid hc0
  clear hcell hf hT hbl h2 hf2 hc0
  go_enter Tryd.func8, Tryd.ntmps8
  go_wp2_with fail
  go_loopw [7] (fun i wr => ∃ (k : Nat) (cs : Array Value), k ≤ len ∧ i = .int .i64 k ∧ Hid (Below w.heap.size w wr) ∧ Hid (CpuOk cs) ∧ Hid (Blk wr w.heap.size cs 25)) (fun i _ => len - (intOf i).toNat)
  case atStart => exact ⟨0, cs0, by omega, rfl, (Below.refl _ _).alloc (Nat.le_refl _) _, HC0, Blk.new w cs0 25⟩
  case round =>
    obtain ⟨k, cs, hk, rfl, HB, HC, H0⟩ := hrel
    by_cases hlt : k < len
    · obtain ⟨hf0, hf1⟩ := HF.out k
      have hck : wr.cell? ⟨b0, off + k, none⟩ = some (.int .u32 (f0 k)) := (HB.out.cell (p := ⟨b0, off + k, none⟩) HBL.out).trans (HCE.out k hlt)
      go_upto_if 30 with fail
      go_cut [8] from 19 to 34 (fun s8 wx => ∃ y : Int, s8 = .int .u32 y ∧ 0 ≤ y ∧ y < 4294967296 ∧ wr = wx)
      case first =>
        by_cases hl3 : k < len2
        · obtain ⟨b2, off2, rfl, hb2, hc2⟩ := H2.out (by omega)
          obtain ⟨hg0, hg1⟩ := HF2.out k
          have hck2 : wr.cell? ⟨b2, off2 + k, none⟩ = some (.int .u32 (f2 k)) := (HB.out.cell (p := ⟨b2, off2 + k, none⟩) hb2).trans (hc2 k hl3)
          clear hc2 hb2
          go_wp2_with fail
          go_meet
          exact ⟨_, rfl, hg0, hg1, rfl⟩
        · go_wp2_with fail
          go_meet
          exact ⟨(k : Int) % 4294967296, rfl, by omega, by omega, rfl⟩
      case rest =>
      obtain ⟨y, rfl, hy0, hy1, rfl⟩ := hcut
      obtain ⟨f, u, v, a, b, op, c, n, q, hd⟩ := dec_is (f0 k)
      have HD := Lib.hid hd
      clear hd
      obtain ⟨X, m, t, hx⟩ := exV_is cs f u v a b op c n y
      have hxo : CpuOk X := by have := exV_ok HC.out f u v a b op c n y hy0 hy1; rw [hx] at this; exact this
      have HXO := Lib.hid hxo
      have HX := Lib.hid hx
      clear hx hxo
      have hni := insEq_self f u v a b op c n
      have hne := fun w => run_neq_cpu HXO.out w
      go_upto_region 8 with (go_at_call 13; (refine (dec_as HD.out hf0 hf1 _ (HT.out _ HB.out)).mono ?_; rintro e w1 ⟨rfl, hb1⟩; have LB := Lib.hid ((HB.out.trans (hb1.mono HB.out.size)).alloc (Nat.le_trans HB.out.size hb1.size) (.cells #[.int .i64 f, .bool u, .bool v, .int .i64 a, .int .i64 b, .int .i64 op, .int .i64 c, .int .i64 n] 33)); have LN := Lib.hid (Blk.new w1 #[.int .i64 f, .bool u, .bool v, .int .i64 a, .int .i64 b, .int .i64 op, .int .i64 c, .int .i64 n] 33); have LH0 := Lib.hid (Blk.old (H0.out.step hb1) (.cells #[.int .i64 f, .bool u, .bool v, .int .i64 a, .int .i64 b, .int .i64 op, .int .i64 c, .int .i64 n] 33)); clear hb1))
      clear HB H0 hck
      obtain ⟨gI9, hg⟩ : ∃ p, w1.heap.size = p := ⟨_, rfl⟩
      rw [hg] at LN ⊢
      clear hg
      generalize w1.alloc (.cells #[.int .i64 f, .bool u, .bool v, .int .i64 a, .int .i64 b, .int .i64 op, .int .i64 c, .int .i64 n] 33) = W1 at LB LN LH0 ⊢
      have HB := LB
      have I9 := LN
      have H0 := LH0
      clear LB LN LH0
      have hck : W1.cell? ⟨b0, off + k, none⟩ = some (.int .u32 (f0 k)) := (HB.out.cell (p := ⟨b0, off + k, none⟩) HBL.out).trans (HCE.out k hlt)
      go_upto_region 9 with (go_at_call 14; (refine (rdec_as HD.out hf0 hf1 _).mono ?_; rintro e w1 ⟨rfl, hb1⟩; have LB := Lib.hid ((HB.out.trans (hb1.mono HB.out.size)).alloc (Nat.le_trans HB.out.size hb1.size) (.cells #[.int .i64 f, .bool u, .bool v, .int .i64 a, .int .i64 b, .int .i64 op, .int .i64 c, .int .i64 n] 33)); have LN := Lib.hid (Blk.new w1 #[.int .i64 f, .bool u, .bool v, .int .i64 a, .int .i64 b, .int .i64 op, .int .i64 c, .int .i64 n] 33); have LH0 := Lib.hid (Blk.old (H0.out.step hb1) (.cells #[.int .i64 f, .bool u, .bool v, .int .i64 a, .int .i64 b, .int .i64 op, .int .i64 c, .int .i64 n] 33)); have LI9 := Lib.hid (Blk.old (I9.out.step hb1) (.cells #[.int .i64 f, .bool u, .bool v, .int .i64 a, .int .i64 b, .int .i64 op, .int .i64 c, .int .i64 n] 33)); clear hb1))
      clear HB H0 I9 hck
      obtain ⟨gI11, hg⟩ : ∃ p, w1.heap.size = p := ⟨_, rfl⟩
      rw [hg] at LN ⊢
      clear hg
      generalize w1.alloc (.cells #[.int .i64 f, .bool u, .bool v, .int .i64 a, .int .i64 b, .int .i64 op, .int .i64 c, .int .i64 n] 33) = W2 at LB LN LH0 LI9 ⊢
      have HB := LB
      have I11 := LN
      have H0 := LH0
      have I9 := LI9
      clear LB LN LH0 LI9
      obtain ⟨i0, i1, i2, i3, i4, i5, i6, i7⟩ := insCells I9.out
      have hld := load_cpu H0.out HC.out.size
      go_upto_region 10 with (go_at_call 18; (refine (exec_as HX.out HC.out hy0 hy1 _ (HT.out _ HB.out)).mono ?_; rintro e w1 ⟨rfl, hb1⟩; have LB := Lib.hid ((HB.out.trans (hb1.mono HB.out.size)).alloc (Nat.le_trans HB.out.size hb1.size) (.cells X 25)); have LN := Lib.hid (Blk.new w1 X 25); have LH0 := Lib.hid (Blk.old (H0.out.step hb1) (.cells X 25)); have LI9 := Lib.hid (Blk.old (I9.out.step hb1) (.cells X 25)); have LI11 := Lib.hid (Blk.old (I11.out.step hb1) (.cells X 25)); have hst := store_new (w := w1) (Z := #[.int .u32 0, .int .u32 0, .int .u32 0, .int .u32 0, .int .u32 0, .int .u32 0, .int .u32 0, .int .u32 0, .int .u32 0, .int .u32 0, .int .u32 0, .int .u32 0, .int .u32 0, .int .u32 0, .int .u32 0, .int .u32 0, .int .u32 0, .bool false, .bool false, .bool false, .bool false, .int .u32 0]) (t := 25) rfl HXO.out.size HXO.out.one; clear hb1))
      clear HB H0 I9 I11 hst hld i0 i1 i2 i3 i4 i5 i6 i7
      obtain ⟨gC13, hg⟩ : ∃ p, w1.heap.size = p := ⟨_, rfl⟩
      rw [hg] at LN ⊢
      clear hg
      generalize w1.alloc (.cells X 25) = W3 at LB LN LH0 LI9 LI11 ⊢
      have HB := LB
      have C13 := LN
      have H0 := LH0
      have I9 := LI9
      have I11 := LI11
      clear LB LN LH0 LI9 LI11
      obtain ⟨i0, i1, i2, i3, i4, i5, i6, i7⟩ := insCells I11.out
      have hld := load_cpu H0.out HC.out.size
      go_upto_region 11 with (go_at_call 19; (refine (rexec_as HX.out HC.out hy0 hy1 _).mono ?_; rintro e w1 ⟨rfl, hb1⟩; have LB := Lib.hid ((HB.out.trans (hb1.mono HB.out.size)).alloc (Nat.le_trans HB.out.size hb1.size) (.cells X 25)); have LN := Lib.hid (Blk.new w1 X 25); have LH0 := Lib.hid (Blk.old (H0.out.step hb1) (.cells X 25)); have LI9 := Lib.hid (Blk.old (I9.out.step hb1) (.cells X 25)); have LI11 := Lib.hid (Blk.old (I11.out.step hb1) (.cells X 25)); have LC13 := Lib.hid (Blk.old (C13.out.step hb1) (.cells X 25)); have hst := store_new (w := w1) (Z := #[.int .u32 0, .int .u32 0, .int .u32 0, .int .u32 0, .int .u32 0, .int .u32 0, .int .u32 0, .int .u32 0, .int .u32 0, .int .u32 0, .int .u32 0, .int .u32 0, .int .u32 0, .int .u32 0, .int .u32 0, .int .u32 0, .int .u32 0, .bool false, .bool false, .bool false, .bool false, .int .u32 0]) (t := 25) rfl HXO.out.size HXO.out.one; clear hb1))
      clear HB H0 I9 I11 C13 hst hld i0 i1 i2 i3 i4 i5 i6 i7
      obtain ⟨gC16, hg⟩ : ∃ p, w1.heap.size = p := ⟨_, rfl⟩
      rw [hg] at LN ⊢
      clear hg
      generalize w1.alloc (.cells X 25) = W4 at LB LN LH0 LI9 LI11 LC13 ⊢
      have HB := LB
      have C16 := LN
      have H0 := LH0
      have I9 := LI9
      have I11 := LI11
      have C13 := LC13
      clear LB LN LH0 LI9 LI11 LC13
      obtain ⟨i0, i1, i2, i3, i4, i5, i6, i7⟩ := insCells I9.out
      obtain ⟨j0, j1, j2, j3, j4, j5, j6, j7⟩ := insCells I11.out
      have hl13 := load_cpu C13.out HXO.out.size
      have hl16 := load_cpu C16.out HXO.out.size
      have hst := store_cpu H0.out HC.out.size HXO.out.size HXO.out.one
      have N0 := Lib.hid (H0.out.setRow X)
      have NB := Lib.hid (belRow HB.out (g := w.heap.size) (Nat.le_refl _) X)
      go_wp2_with fail
      go_roundw
      case rel => exact ⟨k + 1, X, by omega, by go_num, NB, HXO, N0⟩
      case measure => simp [intOf]; omega
    · have : k = len := by omega
      go_wp2_with fail
      refine (shown_any _ (HT.out _ HB.out)).mono ?_
      rintro e w2 ⟨rfl, hb2⟩
      go_wp2_with fail
      go_ret
      exact ⟨rfl, HB.out.trans (hb2.mono HB.out.size)⟩
set_option maxRecDepth 100000 in
set_option maxHeartbeats 1000000 in
theorem runs_nil (cs : Array Value) (hc : CpuOk cs) (A : Option Addr) (cap : Nat) (A2 : Option Addr) (len2 cap2 : Nat) (w : World) (hT : Tab w) :
    Calls Tryd.prog 8 #[.agg cs, .slice A 0 cap, .slice A2 len2 cap2] w fun e w' => e = .returned (.bool true) ∧ Below w.heap.size w w' := by
  have HB : Hid (Below w.heap.size w (w.alloc (.cells cs 25))) := (Below.refl _ _).alloc (Nat.le_refl _) _
  have HT : Hid (∀ W, Below w.heap.size w W → Tab W) := fun W hB => hT.below hB hT.lt
  clear hT
  go_enter Tryd.func8, Tryd.ntmps8
  go_wp2_with fail
  go_loop [7] (fun i => i = .int .i64 0) (fun _ => 0)
  case atStart => rfl
  case round =>
    obtain rfl := hrel
    go_wp2_with fail
    refine (shown_any _ (HT.out _ HB.out)).mono ?_
    rintro e w2 ⟨rfl, hb2⟩
    go_wp2_with fail
    go_ret
    exact ⟨rfl, HB.out.trans (hb2.mono HB.out.size)⟩
def cpuRunsAts : List Gen.AT := [.agg [.int .u32, .int .u32, .int .u32, .int .u32, .int .u32, .int .u32, .int .u32, .int .u32, .int .u32, .int .u32, .int .u32, .int .u32, .int .u32, .int .u32, .int .u32, .int .u32, .int .u32, .bool, .bool, .bool, .bool, .int .u32], .one (.slice 4 [.int .u32]), .one (.slice 4 [.int .u32])]
theorem cpuRuns_args (W : World) (vs : List Value) (h : Gen.ArgsGood W cpuRunsAts vs) (hT : Tab W) :
    Calls Tryd.prog 8 vs.toArray W fun e W' => e = .returned (.bool true) ∧ Below W.heap.size W W' := by
  match vs, h with
  | [v0, v1, v2], h =>
    obtain ⟨hc, h1, h2, _⟩ := h
    obtain ⟨cs, rfl, hg⟩ := hc
    have hc := cpu_inv hg
    obtain ⟨A, len, cap, V, rfl, hle, hm, hrb, hR⟩ := Gen.Good.slice_inv h1
    obtain ⟨A2, len2, cap2, V2, rfl, hle2, hm2, hrb2, hR2⟩ := Gen.Good.slice_inv h2
    obtain ⟨f, hA, hwf, hz⟩ := Gen.rows_int hR
    obtain ⟨f2, hA2, hwf2, hz2⟩ := Gen.rows_int hR2
    unfold maxLen at hm hm2
    by_cases hl : len = 0
    · subst hl; exact runs_nil _ hc A cap A2 len2 cap2 W hT
    · obtain ⟨b, off, rfl, hb, hc'⟩ := hA (by omega)
      refine runs_some _ hc b off len cap f A2 len2 cap2 f2 W (by omega) (by omega) hb (fun i hi => hc' i (by omega)) (fun i => ?_) (fun h => ?_) (fun i => ?_) hT
      · by_cases hi : i < cap
        · have := bounds_u32 (hwf i hi); omega
        · rw [hz i (by omega)]; omega
      · obtain ⟨b2, off2, h3, h4, h5⟩ := hA2 (by omega)
        exact ⟨b2, off2, h3, h4, fun i hi => h5 i (by omega)⟩
      · by_cases hi : i < cap2
        · have := bounds_u32 (hwf2 i hi); omega
        · rw [hz2 i (by omega)]; omega
end Go.Proofs.YtnghhkageiceaaaDoor
