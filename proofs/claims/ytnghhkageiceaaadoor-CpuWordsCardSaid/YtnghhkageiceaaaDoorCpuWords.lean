/- The walk of CpuWords. -/
import Derived.Test.YtnghhkageiceaaaDoorRefF
namespace Go.Proofs.YtnghhkageiceaaaDoor
open Go Go.RowKit Go.Lib Go.Proofs.YtnghhkageiceaaaDoor.Pl
set_option linter.unusedVariables false
set_option linter.unusedSimpArgs false
attribute [local go_sem ↓] exec_load_cpu exec_store_cpu run_eql_ins run_neq_ins
theorem insEq_dec (x : Int) : insEq (decF x) (decF x) (decU x) (decU x) (decV x) (decV x) (decA x) (decA x) (decB x) (decB x) (decO x) (decO x) (decC x) (decC x) (decN x) (decN x) = true := insEq_self _ _ _ _ _ _ _ _
set_option maxRecDepth 100000 in
set_option maxHeartbeats 1000000 in
theorem words_some (b off len cap : Nat) (f : Nat → Int) (w : World) (hl : len ≤ 9223372036854775807) (hbl : b < w.heap.size) (hcell : ∀ i, i < len → w.cell? ⟨b, off + i, none⟩ = some (.int .u32 (f i))) (hf : ∀ i, 0 ≤ f i ∧ f i < 4294967296) (hT : Tab w) :
    Calls Tryd.prog 4 #[.slice (some ⟨b, off, none⟩) len cap] w fun e w' => e = .returned (.bool true) ∧ Below w.heap.size w w' := by
  have HT : Hid (∀ W, Below w.heap.size w W → Tab W) := fun W hB => hT.below hB hT.lt
  have HC := Lib.hid hcell
  have HF := Lib.hid hf
  have HBL := Lib.hid hbl
  clear hcell hf hT hbl
  go_enter Tryd.func4, Tryd.ntmps4
  go_wp2_with fail
  go_loopw [3] (fun i wr => ∃ k : Nat, k ≤ len ∧ i = .int .i64 k ∧ Hid (Below w.heap.size w wr)) (fun i _ => len - (intOf i).toNat)
  case atStart => exact ⟨0, by omega, rfl, Below.refl _ _⟩
  case round =>
    obtain ⟨k, hk, rfl, HB⟩ := hrel
    by_cases hlt : k < len
    · obtain ⟨hf0, hf1⟩ := HF.out k
      have hck : wr.cell? ⟨b, off + k, none⟩ = some (.int .u32 (f k)) := (HB.out.cell (p := ⟨b, off + k, none⟩) HBL.out).trans (HC.out k hlt)
      have hq := insEq_dec (f k)
      have hz := insEq_self 0 false false 0 0 0 0 0
      cases kx : decOk (f k)
      · have KX := Lib.hid kx
        clear kx
        go_wp2_with fail
        refine (dec_not (f k) hf0 hf1 KX.out _ (HT.out _ HB.out)).mono ?_
        rintro e w1 ⟨rfl, hb1⟩
        have HB1 := Lib.hid ((HB.out.trans (hb1.mono HB.out.size)).alloc (Nat.le_trans HB.out.size hb1.size) (.cells #[.int .i64 0, .bool false, .bool false, .int .i64 0, .int .i64 0, .int .i64 0, .int .i64 0, .int .i64 0] 33))
        have HJ1 := Lib.hid (Blk.new w1 #[.int .i64 0, .bool false, .bool false, .int .i64 0, .int .i64 0, .int .i64 0, .int .i64 0, .int .i64 0] 33)
        have hc1 : (w1.alloc (.cells #[.int .i64 0, .bool false, .bool false, .int .i64 0, .int .i64 0, .int .i64 0, .int .i64 0, .int .i64 0] 33)).cell? ⟨b, off + k, none⟩ = some (.int .u32 (f k)) := (HB1.out.cell (p := ⟨b, off + k, none⟩) HBL.out).trans (HC.out k hlt)
        clear hb1 hck
        go_wp2_with fail
        refine (rdec_not (f k) hf0 hf1 KX.out _).mono ?_
        rintro e w2 ⟨rfl, hb2⟩
        have HB2 := Lib.hid ((HB1.out.trans (hb2.mono HB1.out.size)).alloc (Nat.le_trans HB1.out.size hb2.size) (.cells #[.int .i64 0, .bool false, .bool false, .int .i64 0, .int .i64 0, .int .i64 0, .int .i64 0, .int .i64 0] 33))
        have HJ2 := Lib.hid (Blk.old (HJ1.out.step hb2) (.cells #[.int .i64 0, .bool false, .bool false, .int .i64 0, .int .i64 0, .int .i64 0, .int .i64 0, .int .i64 0] 33))
        obtain ⟨j0, j1, j2, j3, j4, j5, j6, j7⟩ := insCells (HJ2.out)
        clear hb2 hc1
        go_wp2_with fail
        go_roundw
        case rel => exact ⟨k + 1, by omega, by go_num, HB2⟩
        case measure => simp [intOf]; omega
      · have KX := Lib.hid kx
        clear kx
        go_wp2_with fail
        refine (dec_yes (f k) hf0 hf1 KX.out _ (HT.out _ HB.out)).mono ?_
        rintro e w1 ⟨rfl, hb1⟩
        have HB1 := Lib.hid ((HB.out.trans (hb1.mono HB.out.size)).alloc (Nat.le_trans HB.out.size hb1.size) (.cells #[.int .i64 (decF (f k)), .bool (decU (f k)), .bool (decV (f k)), .int .i64 (decA (f k)), .int .i64 (decB (f k)), .int .i64 (decO (f k)), .int .i64 (decC (f k)), .int .i64 (decN (f k))] 33))
        have HJ1 := Lib.hid (Blk.new w1 #[.int .i64 (decF (f k)), .bool (decU (f k)), .bool (decV (f k)), .int .i64 (decA (f k)), .int .i64 (decB (f k)), .int .i64 (decO (f k)), .int .i64 (decC (f k)), .int .i64 (decN (f k))] 33)
        have hc1 : (w1.alloc (.cells #[.int .i64 (decF (f k)), .bool (decU (f k)), .bool (decV (f k)), .int .i64 (decA (f k)), .int .i64 (decB (f k)), .int .i64 (decO (f k)), .int .i64 (decC (f k)), .int .i64 (decN (f k))] 33)).cell? ⟨b, off + k, none⟩ = some (.int .u32 (f k)) := (HB1.out.cell (p := ⟨b, off + k, none⟩) HBL.out).trans (HC.out k hlt)
        clear hb1 hck
        go_wp2_with fail
        refine (rdec_yes (f k) hf0 hf1 KX.out _).mono ?_
        rintro e w2 ⟨rfl, hb2⟩
        have HB2 := Lib.hid ((HB1.out.trans (hb2.mono HB1.out.size)).alloc (Nat.le_trans HB1.out.size hb2.size) (.cells #[.int .i64 (decF (f k)), .bool (decU (f k)), .bool (decV (f k)), .int .i64 (decA (f k)), .int .i64 (decB (f k)), .int .i64 (decO (f k)), .int .i64 (decC (f k)), .int .i64 (decN (f k))] 33))
        have HJ2 := Lib.hid (Blk.old (HJ1.out.step hb2) (.cells #[.int .i64 (decF (f k)), .bool (decU (f k)), .bool (decV (f k)), .int .i64 (decA (f k)), .int .i64 (decB (f k)), .int .i64 (decO (f k)), .int .i64 (decC (f k)), .int .i64 (decN (f k))] 33))
        obtain ⟨j0, j1, j2, j3, j4, j5, j6, j7⟩ := insCells (HJ2.out)
        clear hb2 hc1
        go_wp2_with fail
        go_roundw
        case rel => exact ⟨k + 1, by omega, by go_num, HB2⟩
        case measure => simp [intOf]; omega
    · have : k = len := by omega
      go_wp2_with fail
      refine (shown_any _ (HT.out _ HB.out)).mono ?_
      rintro e w2 ⟨rfl, hb2⟩
      go_wp2_with fail
      go_ret
      exact ⟨rfl, HB.out.trans (hb2.mono HB.out.size)⟩
set_option maxRecDepth 100000 in
set_option maxHeartbeats 1000000 in
theorem words_nil (A : Option Addr) (cap : Nat) (w : World) (hT : Tab w) :
    Calls Tryd.prog 4 #[.slice A 0 cap] w fun e w' => e = .returned (.bool true) ∧ Below w.heap.size w w' := by
  go_enter Tryd.func4, Tryd.ntmps4
  go_wp2_with fail
  go_loop [3] (fun i => i = .int .i64 0) (fun _ => 0)
  case atStart => rfl
  case round =>
    obtain rfl := hrel
    go_wp2_with fail
    refine (shown_any _ hT).mono ?_
    rintro e w2 ⟨rfl, hb2⟩
    go_wp2_with fail
    go_ret
    exact ⟨rfl, hb2⟩
def cpuWordsAts : List Gen.AT := [.one (.slice 4 [.int .u32])]
theorem cpuWords_args (W : World) (vs : List Value) (h : Gen.ArgsGood W cpuWordsAts vs) (hT : Tab W) :
    Calls Tryd.prog 4 vs.toArray W fun e W' => e = .returned (.bool true) ∧ Below W.heap.size W W' := by
  match vs, h with
  | [v0], h =>
    obtain ⟨h0, _⟩ := h
    obtain ⟨A, len, cap, V, rfl, hle, hm, _, hR⟩ := Gen.Good.slice_inv h0
    obtain ⟨f, hA, hwf, hz⟩ := Gen.rows_int hR
    unfold maxLen at hm
    by_cases hl : len = 0
    · subst hl; exact words_nil A cap W hT
    · obtain ⟨b, off, rfl, hb, hc⟩ := hA (by omega)
      exact words_some b off len cap f W (by omega) hb (fun i hi => hc i (by omega)) (fun i => by
        by_cases hi : i < cap
        · have := bounds_u32 (hwf i hi); omega
        · rw [hz i (by omega)]; omega) hT
end Go.Proofs.YtnghhkageiceaaaDoor
