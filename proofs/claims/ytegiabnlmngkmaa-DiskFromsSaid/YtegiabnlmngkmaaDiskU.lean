/- One step, by both disks: reads. -/
import Derived.Test.YtegiabnlmngkmaaDiskT
namespace Go.Proofs.Ytegiabnlmngkmaa
open Go Go.RowKit Go.Lib
set_option linter.unusedVariables false
set_option linter.unusedSimpArgs false
attribute [local go_sem ↓] exec_load_step
theorem there_cell {w : World} {g o n : Nat} (h : w.there g o n) (j : Nat) (hj : j < n) : (∃ u, w.cell? ⟨g, o + j, none⟩ = some u) ∧ w.frozen? ⟨g, o + j, none⟩ = false := by
  obtain ⟨h1, h2⟩ := h j hj
  exact ⟨Option.isSome_iff_exists.1 h1, h2⟩
theorem there_set {w : World} {g o n : Nat} (h : w.there g o n) (b j : Nat) (x : Value) : (w.setCell ⟨b, j, none⟩ x).there g o n := World.there_setCells h b j [x]
theorem there_new (w : World) (s : ByteArray) (hs : s.size = 1024) (t : TypeId) : (w.alloc (.cells (strCells s).toArray t (0, 0))).there w.heap.size 0 1024 := fun j hj => by
  refine ⟨?_, ?_⟩
  · rw [Nat.zero_add, cell_of_row _ w.heap.size j _ _ _ (heap_alloc_new w _)]
    simp [strCells_length, hs, hj]
  · unfold World.frozen?; rw [heap_alloc_new]; simp
set_option maxHeartbeats 1000000 in
theorem does_r_yes {w : World} {base d s : Nat} {v : Value} {r : Nat} {vf vw : Value} {N : Nat} {sec : Nat → ByteArray} {ws : List (Nat × ByteArray)} {sec0 : Nat → ByteArray} {hist : List (Nat × ByteArray)}
    (T : Pair w base d s v r vf vw N sec ws sec0 hist) (kind : Int) (hkind : (kind == 1) = false) (n : Nat) (hn : n < N) (HBG : Hid (hist.length ≤ 4096)) (HSE : Hid (sec n = secOf sec0 hist n)) (fill mark : UInt8) (long : Int) :
    Calls Try.prog 16 #[.pointer (some ⟨d, 0, none⟩), .pointer (some ⟨r, 0, none⟩), .agg #[.int .i64 kind, .int .i64 (n : Int), .int .u8 fill.toNat, .int .u8 mark.toNat, .int .i64 long]] w fun e w' => e = .returned (.bool true) ∧ Pair w' base d s v r vf vw N sec ws sec0 hist ∧ Below base w w' := by
  have hbl := T.base_le
  have hA := StepAt.new w #[.int .i64 kind, .int .i64 (n : Int), .int .u8 fill.toNat, .int .u8 mark.toNat, .int .i64 long]
  have T0 := T.below ((Below.refl w.heap.size w).alloc (Nat.le_refl _) (.cells #[.int .i64 kind, .int .i64 (n : Int), .int .u8 fill.toNat, .int .u8 mark.toNat, .int .i64 long] 23))
  have aw := T.away w.heap.size (.inl (Nat.le_refl _))
  have B0 : Below base w (w.alloc (.cells #[.int .i64 kind, .int .i64 (n : Int), .int .u8 fill.toNat, .int .u8 mark.toNat, .int .i64 long] 23)) := (Below.refl base w).alloc hbl _
  have hsz1 := T.D.slen n hn
  have HT0 := Lib.hid T0
  have HB0 := Lib.hid B0
  have HSZ := Lib.hid hsz1
  have hcv := fun (w' : World) (g : Nat) (h : Hid (w'.rangeAt g 0 (strCells (sec n)))) => conv_range w' g 0 1024 1024 (sec n) hsz1 h.out
  have HA := Lib.hid hA
  clear T0 B0 hsz1 aw T hA
  go_enter Try.func16, Try.ntmps16
  go_upto_region 12 with (first | (go_at_call 13; go_must (refine (read_yes HT0.out.D n hn).mono ?_); rintro e w1 ⟨rfl, hw1⟩; have HW1 := Lib.hid hw1; clear hw1))
  have hw1 := HW1.out
  clear HW1
  have bd : Below (w.alloc (.cells #[.int .i64 kind, .int .i64 (n : Int), .int .u8 fill.toNat, .int .u8 mark.toNat, .int .i64 long] 23)).heap.size (w.alloc (.cells #[.int .i64 kind, .int .i64 (n : Int), .int .u8 fill.toNat, .int .u8 mark.toNat, .int .i64 long] 23)) w1 := by rw [hw1]; exact (Below.refl _ _).alloc (Nat.le_refl _) _
  have HR1 : Hid (w1.rangeAt (w.heap.size + 1) 0 (strCells (sec n))) := by
    have := read_range (w.alloc (.cells #[.int .i64 kind, .int .i64 (n : Int), .int .u8 fill.toNat, .int .u8 mark.toNat, .int .i64 long] 23)) (sec n) 63
    rw [World.size_alloc] at this
    rw [hw1]; exact this
  have HTH : Hid (w1.there (w.heap.size + 1) 0 1024) := by
    have := there_new (w.alloc (.cells #[.int .i64 kind, .int .i64 (n : Int), .int .u8 fill.toNat, .int .u8 mark.toNat, .int .i64 long] 23)) (sec n) HSZ.out 63
    rw [World.size_alloc] at this
    rw [hw1]; exact this
  have HT1 := Lib.hid (HT0.out.below bd)
  have HA1 : Hid (StepAt w1 w.heap.size #[.int .i64 kind, .int .i64 (n : Int), .int .u8 fill.toNat, .int .u8 mark.toNat, .int .i64 long]) := HA.out.below bd HA.out.lt
  have HB1 := Lib.hid (HB0.out.trans (bd.mono (by simp; omega)))
  have haw := HT0.out.away (w.heap.size + 1) (.inl (by simp))
  have hc1 := HA1.out.cell 1
  have HAW := Lib.hid haw
  have hcv1 := hcv w1 _ HR1
  clear bd hw1 haw HT0 HB0 HA
  go_upto_region 14 with (first | (go_at_call 27; go_must (refine (rread_yes HT1.out.R n hn HBG.out HT1.out.D.ge).mono ?_); rintro e w2 ⟨rfl, rfl⟩; rw [← HSE.out]))
  have HLOOP : Hid (w1.there (w.heap.size + 1) 0 1024 ∧ StepAt w1 w.heap.size #[.int .i64 kind, .int .i64 (n : Int), .int .u8 fill.toNat, .int .u8 mark.toNat, .int .i64 long] ∧ Pair w1 base d s v r vf vw N sec ws sec0 hist ∧ Below base w w1) := ⟨HTH.out, HA1.out, HT1.out, HB1.out⟩
  clear HTH HA1 HT1 HB1 HR1 hc1 hcv1
  go_wp2_with fail
  go_loopw [17] (fun i wr => ∃ j : Nat, j ≤ 1024 ∧ i = .int .i64 j ∧ Hid (wr.there (w.heap.size + 1) 0 1024 ∧ StepAt wr w.heap.size #[.int .i64 kind, .int .i64 (n : Int), .int .u8 fill.toNat, .int .u8 mark.toNat, .int .i64 long] ∧ Pair wr base d s v r vf vw N sec ws sec0 hist ∧ Below base w wr)) (fun i _ => 1024 - (intOf i).toNat)
  case atStart => exact ⟨0, by omega, rfl, HLOOP.out⟩
  case round =>
    obtain ⟨j, hj, rfl, HX⟩ := hrel
    obtain ⟨TH, SA, TT, BB⟩ := HX.out
    by_cases hlt : j < 1024
    · obtain ⟨⟨u, hcl⟩, hfr⟩ := there_cell TH j hlt
      rw [Nat.zero_add] at hcl hfr
      have hl2 : (j : Int) < 1024 := by omega
      have HTH := Lib.hid (there_set TH (w.heap.size + 1) j (.int .u8 201))
      have HSA := Lib.hid (SA.touch (Touch.set wr ⟨w.heap.size + 1, j, none⟩ (.int .u8 201)) (by simp))
      have HTS := Lib.hid (TT.set (w.heap.size + 1) j (.int .u8 201) HAW.out)
      have HBB := Lib.hid (BB.setCell (p := ⟨w.heap.size + 1, j, none⟩) (show base ≤ w.heap.size + 1 by omega) (.int .u8 201))
      clear TH SA TT BB HX HLOOP
      go_wp2_with fail
      go_roundw
      case rel => exact ⟨j + 1, by omega, by go_num, HTH.out, HSA.out, HTS.out, HBB.out⟩
      case measure => simp [intOf]; omega
    · obtain rfl : j = 1024 := by omega
      have hc1 := SA.cell 1
      have HTT := Lib.hid TT
      have HBB := Lib.hid BB
      clear hj hlt TH SA TT BB HX HLOOP
      go_wp2_with (first | (go_at_call 13; go_must (refine (read_yes HTT.out.D n hn).mono ?_); rintro e w5 ⟨rfl, rfl⟩; have hcv5 := hcv _ _ (read_range wr (sec n) 63)))
      go_ret
      exact ⟨by first | rfl | simp, HTT.out.below ((Below.refl _ _).alloc (Nat.le_refl _) _), HBB.out.alloc (Nat.le_trans hbl HBB.out.size) _⟩
set_option maxHeartbeats 1000000 in
theorem does_r_no {w : World} {base d s : Nat} {v : Value} {r : Nat} {vf vw : Value} {N : Nat} {sec : Nat → ByteArray} {ws : List (Nat × ByteArray)} {sec0 : Nat → ByteArray} {hist : List (Nat × ByteArray)}
    (T : Pair w base d s v r vf vw N sec ws sec0 hist) (kind : Int) (hkind : (kind == 1) = false) (n : Int) (hn0 : -9223372036854775808 ≤ n ∧ n ≤ 9223372036854775807) (hn : ¬ (0 ≤ n ∧ n < N)) (fill mark : UInt8) (long : Int) :
    Calls Try.prog 16 #[.pointer (some ⟨d, 0, none⟩), .pointer (some ⟨r, 0, none⟩), .agg #[.int .i64 kind, .int .i64 n, .int .u8 fill.toNat, .int .u8 mark.toNat, .int .i64 long]] w fun e w' => e = .returned (.bool true) ∧ Pair w' base d s v r vf vw N sec ws sec0 hist ∧ Below base w w' := by
  have hbl := T.base_le
  have hA := StepAt.new w #[.int .i64 kind, .int .i64 n, .int .u8 fill.toNat, .int .u8 mark.toNat, .int .i64 long]
  have T0 := T.below ((Below.refl w.heap.size w).alloc (Nat.le_refl _) (.cells #[.int .i64 kind, .int .i64 n, .int .u8 fill.toNat, .int .u8 mark.toNat, .int .i64 long] 23))
  have aw := T.away w.heap.size (.inl (Nat.le_refl _))
  have B0 : Below base w (w.alloc (.cells #[.int .i64 kind, .int .i64 n, .int .u8 fill.toNat, .int .u8 mark.toNat, .int .i64 long] 23)) := (Below.refl base w).alloc hbl _
  have HT0 := Lib.hid T0
  have HB0 := Lib.hid B0
  have hcn : ∀ w', (convert 30 9 (.slice none 0 0)).run Try.prog w' = .ok (.string ⟨#[]⟩) w' := fun w' => conv_nil w'
  clear T0 B0 aw T hA
  go_enter Try.func16, Try.ntmps16
  go_wp2_with (first | (go_at_call 13; go_must (refine (read_no HT0.out.D n hn0 hn).mono ?_); rintro e w1 ⟨rfl, rfl⟩) | (go_at_call 27; go_must (refine (rread_no HT0.out.R n (by omega) hn0.2).mono ?_); rintro e w2 ⟨rfl, rfl⟩))
  go_loop [17] (fun i => i = .int .i64 0) (fun i => (intOf i).toNat)
  case atStart => rfl
  case round =>
    subst hrel
    go_wp2_with (first | (go_at_call 13; go_must (refine (read_no HT0.out.D n hn0 hn).mono ?_); rintro e w1 ⟨rfl, rfl⟩))
    go_ret
    exact ⟨by first | rfl | simp, HT0.out, HB0.out⟩
end Go.Proofs.Ytegiabnlmngkmaa
