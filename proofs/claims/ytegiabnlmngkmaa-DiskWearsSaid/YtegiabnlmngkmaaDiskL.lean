/- DiskWears. -/
import Derived.Test.YtegiabnlmngkmaaDiskK
import Derived.Test.YtegiabnlmngkmaaDiskH
namespace Go.Proofs.Ytegiabnlmngkmaa
open Go Go.RowKit Go.Lib
set_option linter.unusedVariables false
theorem rem8 (k : Nat) : Int.tmod (k : Int) 8 = ((k % 8 : Nat) : Int) := by
  rw [Int.tmod_eq_emod_of_nonneg (by omega)]; omega
theorem wrap_u8 (k : Nat) : IntKind.u8.wrap (k : Int) = ((UInt8.ofNat k).toNat : Int) := by
  have : (UInt8.ofNat k).toNat = k % 256 := by simp
  rw [this]
  simp [IntKind.wrap, IntKind.signed, IntKind.bits]
theorem write_worn {w : World} {base d s : Nat} {v : Value} {N : Nat} {sec : Nat → ByteArray} {ws : List (Nat × ByteArray)} (D : DiskAt w base d s v N sec ws) (n : Nat) (hn : n < N) (few : ws.length = 4096) (a : Option Addr) (x : Int) (hx : x = (n : Int)) :
    Calls Try.prog 11 #[.pointer (some ⟨d, 0, none⟩), .int .i64 x, .slice a 1024 1024] w fun e w' => e = .returned (.int .i64 33) ∧ w = w' := by
  subst hx
  have ge := D.ge
  refine (write_no D n (by omega) a 1024 1024 (by decide) (fun h => by omega)).mono ?_
  rintro e w' ⟨rfl, rfl⟩
  exact ⟨by rw [if_pos ⟨by omega, by omega⟩, if_pos rfl], rfl⟩
theorem write_bytes_ {w : World} {base d s : Nat} {v : Value} {N : Nat} {sec : Nat → ByteArray} {ws : List (Nat × ByteArray)} (D : DiskAt w base d s v N sec ws) (n : Nat) (hn : n < N) (few : ws.length < 4096) (g : Nat) (l : List UInt8) (hl : l.length = 1024) (hb : BytesAt w g l) (hg : g ∉ drow d s v) (x : Int) (hx : x = (n : Int)) :
    Calls Try.prog 11 #[.pointer (some ⟨d, 0, none⟩), .int .i64 x, .slice (some ⟨g, 0, none⟩) 1024 1024] w fun e w' => e = .returned (.int .i64 0) ∧ ∃ v', DiskAt w' base d s v' N (upd sec n (ofL l)) (ws ++ [(n, sec n)]) ∧ Touch w w' (drow d s v) ∧ (∀ g, v'.ownBlock = some g → v.ownBlock = some g ∨ w.heap.size ≤ g) := by
  subst hx; exact write_bytes D n hn few g l hl hb hg
theorem drow_out {gb d s : Nat} {v v' : Value} {n : Nat} (h : gb ∉ drow d s v) (hv : ∀ g, v'.ownBlock = some g → v.ownBlock = some g ∨ n ≤ g) (hg : gb < n) : gb ∉ drow d s v' := by
  simp only [drow, List.mem_cons, not_or, Option.mem_toList] at h ⊢
  refine ⟨h.1, h.2.1, fun e => ?_⟩
  rcases hv gb e with h1 | h1
  · exact h.2.2 h1
  · omega
def capped (k : Nat) : Nat := if k < 4096 then k else 4096
theorem capped_lt {k : Nat} (h : k < 4096) : capped k = k := if_pos h
theorem capped_succ {k : Nat} (h : k < 4096) : capped (k + 1) = k + 1 := by
  by_cases g : k + 1 < 4096
  · exact if_pos g
  · unfold capped; rw [if_neg g]; omega
theorem capped_ge {k : Nat} (h : ¬ k < 4096) : capped k = 4096 := if_neg h
theorem capped_ge_succ {k : Nat} (h : ¬ k < 4096) : capped (k + 1) = 4096 := if_neg (by omega)
/-- 'Not less', kept from the walk's own normal forms. -/
structure NotLess (a b : Int) : Prop where
  out : ¬ a < b
theorem notLess_rule {a b : Int} (h : NotLess a b) : (a < b) = False := eq_false h.out
attribute [local go_sem] notLess_rule
theorem slice_len {w : World} {base : Nat} {e : TypeId} {size : Nat} {v : Value} {n : Nat} {xs : List Value} (h : w.ownsRow base e size v n xs) : ∃ q c, v = .slice q n c := by
  rcases h.2 with ⟨h1, h2⟩ | ⟨g, cap, cur, h1, _⟩
  · exact ⟨none, 0, by rw [h1, h2]⟩
  · exact ⟨_, _, h1⟩
set_option maxHeartbeats 1000000 in
theorem wears_in (m : Nat) (hm : m ≤ 20) (w : World) : Calls Try.prog 4 #[.int .i64 (m : Int)] w fun e w' => e = .returned (.bool true) ∧ Below w.heap.size w w' := by
  obtain ⟨i0, hi, hz0, hz1, hz2⟩ := info_parts info_u8
  obtain ⟨k0, hk⟩ : ∃ k : Nat, (k : Int) = 1024 := ⟨1024, rfl⟩
  have HK := Lib.hid hk
  clear hk
  have h0 : (0 : Int) ≤ (m : Int) := by omega
  have h1 : (m : Int) ≤ 20 := by omega
  have hwm : IntKind.i64.wrap (4086 + (m : Int)) = 4086 + (m : Int) := IntWalk.i64_in _ (by omega)
  obtain ⟨M, hM⟩ : ∃ M : Nat, M = 4086 + m := ⟨_, rfl⟩
  have HM := Lib.hid hM
  clear hM
  go_enter Try.func4, Try.ntmps4
  go_wp2_with (first | (go_at_call 9; refine (shown_any _).mono ?_; rintro e w0 ⟨rfl, hb0⟩) | (go_at_call 10; refine (new_yes 8 _ (by decide) (by decide)).mono ?_; rintro e w1 ⟨d, s, rfl, D, hb1⟩) | (at_make; refine wpList_make_full _ rfl _ _ 30 rfl w1.heap.size 5 i0 _ 1 Try.underlying30 hi hz0 hz1 .i64 .i64 1024 1024 k0 rfl rfl ?m1 ?m2 ?m3 ?m4 (by simp) ?_))
  case m1 => have := HK.out; omega
  case m2 => have := HK.out; omega
  case m3 => have := HK.out; first | omega | (rw [hz2]; omega)
  case m4 => have := HK.out; unfold maxLen; first | omega | (rw [hz2]; omega)
  intro w2 hown hgrow
  have hblk := made_block (C := madeCells #[Value.int .u8 0] k0) hown (by rw [Nat.mul_one]; exact size_madeCells _ _)
  have hb2 : Below w1.heap.size w1 w2 := (Below.refl w1.heap.size w1).grown hgrow (Nat.le_refl _) (fun _ h => by cases h)
  obtain ⟨l, hl, hl0⟩ : ∃ l : List UInt8, l.length = 1024 ∧ BytesAt w2 w1.heap.size l := ⟨_, by have := HK.out; simp; omega, made_bytes w2 _ _ hblk⟩
  clear hown hgrow hblk hi
  obtain rfl : k0 = 1024 := by have := HK.out; omega
  clear HK
  have D2 := D.below hb2
  have hd1 := D.dlt
  have hs1 := D.slt
  have hng : w1.heap.size ∉ drow d s (.slice none 0 0) := by simp [drow, Value.ownBlock]; omega
  have hB : Below w.heap.size w w2 := hb0.trans ((hb1.mono hb0.size).trans (hb2.mono (Nat.le_trans hb0.size hb1.size)))
  have hgw : w.heap.size ≤ w1.heap.size := by have h1 := hb0.size; have h2 := hb1.size; omega
  have hw0 : w.heap.size ≤ w0.heap.size := hb0.size
  have R0 : ∃ v sec ws l, ws.length = capped 0 ∧ l.length = 1024 ∧ w1.heap.size ∉ drow d s v ∧ BytesAt w2 w1.heap.size l ∧ DiskAt w2 w0.heap.size d s v 8 sec ws ∧ Below w.heap.size w w2 := ⟨_, _, [], l, (show 0 = capped 0 from (capped_lt (by omega)).symm), hl, hng, hl0, D2, hB⟩
  have HR := Lib.hid R0
  clear hl hl0 hng D2 hB hb0 hb1 hb2 D hd1 hs1 R0
  generalize w1.heap.size = gb at *
  go_wp2_with fail
  generalize hC : (4096 : Int) = C at *
  generalize hE : (4086 : Int) = E at *
  have HC := Lib.hid hC
  have HE := Lib.hid hE
  clear hC hE
  go_loopw [7] (fun i wr => ∃ k : Nat, k ≤ M ∧ i = .int .i64 k ∧ Hid (∃ v sec ws l, ws.length = capped k ∧ l.length = 1024 ∧ gb ∉ drow d s v ∧ BytesAt wr gb l ∧ DiskAt wr w0.heap.size d s v 8 sec ws ∧ Below w.heap.size w wr)) (fun i _ => M - (intOf i).toNat)
  case atStart => exact ⟨0, by omega, rfl, HR.out⟩
  case round =>
    obtain ⟨k, hk, rfl, HX⟩ := hrel
    obtain ⟨v, sec, ws, l, hws, hl, hng, hbt, D, hB⟩ := HX.out
    by_cases hlt : k < M
    · have hlt2 : (k : Int) < E + (m : Int) := by have := HM.out; have := HE.out; omega
      obtain ⟨u, hcl⟩ : ∃ u, wr.cell? ⟨gb, 0, none⟩ = some u := ⟨_, hbt.cell (j := 0) (by omega)⟩
      have hfr := hbt.frozen 0
      have HS := Lib.hid (show BytesAt (wr.setCell ⟨gb, 0, none⟩ (.int .u8 (UInt8.ofNat k).toNat)) gb (l.set 0 (UInt8.ofNat k)) from hbt.set 0 (UInt8.ofNat k))
      have hls : (l.set 0 (UInt8.ofNat k)).length = 1024 := by simpa using hl
      have hgd : gb ≠ d ∧ gb ≠ s ∧ (∀ g, v.ownBlock = some g → g ≠ gb) := by
        simp only [drow, List.mem_cons, not_or, Option.mem_toList] at hng
        exact ⟨hng.1, hng.2.1, fun g hg e => hng.2.2 (by rw [hg, e])⟩
      have DD := Lib.hid (D.touch (Touch.set wr ⟨gb, 0, none⟩ (.int .u8 (UInt8.ofNat k).toNat)) (by simpa using fun e => hgd.1 e.symm) (by simpa using fun e => hgd.2.1 e.symm) (by simpa using hgd.2.2))
      have HB := Lib.hid (hB.setCell (p := ⟨gb, 0, none⟩) (show w.heap.size ≤ gb from hgw) (.int .u8 (UInt8.ofNat k).toNat))
      have hkw : IntKind.i64.wrap ((k : Int) + 1) = (k : Int) + 1 := IntWalk.i64_in _ (by have := HM.out; omega)
      have hgl : gb < (wr.setCell ⟨gb, 0, none⟩ (.int .u8 (UInt8.ofNat k).toNat)).heap.size := by rw [World.size_setCell]; exact hbt.lt
      have hk8 : k % 8 < 8 := by omega
      have HWS := Lib.hid hws
      have HLS := Lib.hid hls
      have HX8 := Lib.hid (show (k : Int) % 8 = ((k % 8 : Nat) : Int) by omega)
      have hu8 : (UInt8.ofNat k).toNat = k % 256 := by simp
      rw [hu8, show ((k % 256 : Nat) : Int) = (k : Int) % 256 from by omega] at DD HB HS hgl
      clear hl hbt D hB HX HR hws hls hu8
      by_cases h4 : k < 4096
      · have h4' : (k : Int) < C := by have := HC.out; omega
        have HWL := Lib.hid (show ws.length < 4096 by rw [HWS.out, capped_lt h4]; exact h4)
        have H4 := Lib.hid h4
        clear h4
        go_wp2_with (first | (go_at_call 11; go_must (refine (write_bytes_ DD.out (k % 8) hk8 HWL.out gb _ HLS.out HS.out hng _ HX8.out).mono ?_); rintro e w5 ⟨rfl, v5, D5, T5, hv5⟩; have HY := Lib.hid (drow_out hng hv5 hgl); have H5 := Lib.hid (HS.out.touch T5 hng); have B5 := Lib.hid (HB.out.trans (T5.below HB.out.size (fun g hg => by (simp only [drow, List.mem_cons, Option.mem_toList] at hg; rcases hg with rfl | rfl | hg; exact Nat.le_trans hw0 DD.out.bd; exact Nat.le_trans hw0 DD.out.bs; exact Nat.le_trans hw0 (DD.out.vlt g hg).2)))); have D6 := Lib.hid D5; clear D5 T5 hv5))
        go_roundw
        case rel => exact ⟨k + 1, by omega, by go_num, _, _, _, _, by rw [List.length_append, HWS.out, capped_succ H4.out, capped_lt H4.out]; rfl, HLS.out, HY.out, H5.out, D6.out, B5.out⟩
        case measure => simp [intOf]; omega
      · have h4' : decide ((k : Int) < C) = false := by rw [decide_eq_false_iff_not]; have := HC.out; omega
        have HWL := Lib.hid (show ws.length = 4096 by rw [HWS.out, capped_ge h4])
        have H4 := Lib.hid h4
        clear h4
        go_wp2_with (first | (go_at_call 11; go_must (refine (write_worn DD.out (k % 8) hk8 HWL.out _ _ HX8.out).mono ?_); rintro e w5 ⟨rfl, rfl⟩))
        all_goals
          go_roundw
          case rel => exact ⟨k + 1, by omega, by go_num, _, _, _, _, by rw [HWS.out, capped_ge H4.out, capped_ge_succ H4.out], HLS.out, hng, HS.out, DD.out, HB.out⟩
          case measure => simp [intOf]; omega
    · obtain rfl : k = M := by omega
      have hlt2 : decide ((k : Int) < E + (m : Int)) = false := by rw [decide_eq_false_iff_not]; have := HM.out; have := HE.out; omega
      have D' := Lib.hid D
      have hB' := Lib.hid hB
      clear D hB hbt
      go_wp2_with (first | (go_at_call 14; go_must (refine (writes_any D'.out).mono ?_); rintro e w6 ⟨v6, rfl, ho6, hb6⟩; obtain ⟨q6, c6, rfl⟩ := slice_len ho6))
      all_goals
        go_ret
        refine ⟨?_, hB'.out.trans (hb6.mono hB'.out.size)⟩
        refine congrArg (fun b => Ending.returned (Value.bool b)) (?_ : (_ == _) = true)
        rw [beq_iff_eq]
        have h1 := HC.out
        have h2 := HE.out
        have h3 := HM.out
        by_cases g : k < 4096
        · rw [capped_lt g]; omega
        · rw [capped_ge g]; omega
set_option maxHeartbeats 1000000 in
theorem wears_neg (n : Int) (hn : n < 0) (w : World) : Calls Try.prog 4 #[.int .i64 n] w fun e w' => e = .returned (.bool true) ∧ Below w.heap.size w w' := by
  obtain ⟨i0, hi, hz0, hz1, hz2⟩ := info_parts info_u8
  obtain ⟨k0, hk⟩ : ∃ k : Nat, (k : Int) = 1024 := ⟨1024, rfl⟩
  have HK := Lib.hid hk
  clear hk
  have hwm : IntKind.i64.wrap 4086 = 4086 := IntWalk.i64_in _ (by omega)
  obtain ⟨M, hM⟩ : ∃ M : Nat, M = 4086 + 0 := ⟨_, rfl⟩
  have HM := Lib.hid hM
  clear hM
  go_enter Try.func4, Try.ntmps4
  go_wp2_with (first | (go_at_call 9; refine (shown_any _).mono ?_; rintro e w0 ⟨rfl, hb0⟩) | (go_at_call 10; refine (new_yes 8 _ (by decide) (by decide)).mono ?_; rintro e w1 ⟨d, s, rfl, D, hb1⟩) | (at_make; refine wpList_make_full _ rfl _ _ 30 rfl w1.heap.size 5 i0 _ 1 Try.underlying30 hi hz0 hz1 .i64 .i64 1024 1024 k0 rfl rfl ?m1 ?m2 ?m3 ?m4 (by simp) ?_))
  case m1 => have := HK.out; omega
  case m2 => have := HK.out; omega
  case m3 => have := HK.out; first | omega | (rw [hz2]; omega)
  case m4 => have := HK.out; unfold maxLen; first | omega | (rw [hz2]; omega)
  intro w2 hown hgrow
  have hblk := made_block (C := madeCells #[Value.int .u8 0] k0) hown (by rw [Nat.mul_one]; exact size_madeCells _ _)
  have hb2 : Below w1.heap.size w1 w2 := (Below.refl w1.heap.size w1).grown hgrow (Nat.le_refl _) (fun _ h => by cases h)
  obtain ⟨l, hl, hl0⟩ : ∃ l : List UInt8, l.length = 1024 ∧ BytesAt w2 w1.heap.size l := ⟨_, by have := HK.out; simp; omega, made_bytes w2 _ _ hblk⟩
  clear hown hgrow hblk hi
  obtain rfl : k0 = 1024 := by have := HK.out; omega
  clear HK
  have D2 := D.below hb2
  have hd1 := D.dlt
  have hs1 := D.slt
  have hng : w1.heap.size ∉ drow d s (.slice none 0 0) := by simp [drow, Value.ownBlock]; omega
  have hB : Below w.heap.size w w2 := hb0.trans ((hb1.mono hb0.size).trans (hb2.mono (Nat.le_trans hb0.size hb1.size)))
  have hgw : w.heap.size ≤ w1.heap.size := by have h1 := hb0.size; have h2 := hb1.size; omega
  have hw0 : w.heap.size ≤ w0.heap.size := hb0.size
  have R0 : ∃ v sec ws l, ws.length = capped 0 ∧ l.length = 1024 ∧ w1.heap.size ∉ drow d s v ∧ BytesAt w2 w1.heap.size l ∧ DiskAt w2 w0.heap.size d s v 8 sec ws ∧ Below w.heap.size w w2 := ⟨_, _, [], l, (show 0 = capped 0 from (capped_lt (by omega)).symm), hl, hng, hl0, D2, hB⟩
  have HR := Lib.hid R0
  clear hl hl0 hng D2 hB hb0 hb1 hb2 D hd1 hs1 R0
  generalize w1.heap.size = gb at *
  go_wp2_with fail
  generalize hC : (4096 : Int) = C at *
  generalize hE : (4086 : Int) = E at *
  have HC := Lib.hid hC
  have HE := Lib.hid hE
  clear hC hE
  go_loopw [7] (fun i wr => ∃ k : Nat, k ≤ M ∧ i = .int .i64 k ∧ Hid (∃ v sec ws l, ws.length = capped k ∧ l.length = 1024 ∧ gb ∉ drow d s v ∧ BytesAt wr gb l ∧ DiskAt wr w0.heap.size d s v 8 sec ws ∧ Below w.heap.size w wr)) (fun i _ => M - (intOf i).toNat)
  case atStart => exact ⟨0, by omega, rfl, HR.out⟩
  case round =>
    obtain ⟨k, hk, rfl, HX⟩ := hrel
    obtain ⟨v, sec, ws, l, hws, hl, hng, hbt, D, hB⟩ := HX.out
    by_cases hlt : k < M
    · have hlt2 : (k : Int) < E := by have := HM.out; have := HE.out; omega
      obtain ⟨u, hcl⟩ : ∃ u, wr.cell? ⟨gb, 0, none⟩ = some u := ⟨_, hbt.cell (j := 0) (by omega)⟩
      have hfr := hbt.frozen 0
      have HS := Lib.hid (show BytesAt (wr.setCell ⟨gb, 0, none⟩ (.int .u8 (UInt8.ofNat k).toNat)) gb (l.set 0 (UInt8.ofNat k)) from hbt.set 0 (UInt8.ofNat k))
      have hls : (l.set 0 (UInt8.ofNat k)).length = 1024 := by simpa using hl
      have hgd : gb ≠ d ∧ gb ≠ s ∧ (∀ g, v.ownBlock = some g → g ≠ gb) := by
        simp only [drow, List.mem_cons, not_or, Option.mem_toList] at hng
        exact ⟨hng.1, hng.2.1, fun g hg e => hng.2.2 (by rw [hg, e])⟩
      have DD := Lib.hid (D.touch (Touch.set wr ⟨gb, 0, none⟩ (.int .u8 (UInt8.ofNat k).toNat)) (by simpa using fun e => hgd.1 e.symm) (by simpa using fun e => hgd.2.1 e.symm) (by simpa using hgd.2.2))
      have HB := Lib.hid (hB.setCell (p := ⟨gb, 0, none⟩) (show w.heap.size ≤ gb from hgw) (.int .u8 (UInt8.ofNat k).toNat))
      have hkw : IntKind.i64.wrap ((k : Int) + 1) = (k : Int) + 1 := IntWalk.i64_in _ (by have := HM.out; omega)
      have hgl : gb < (wr.setCell ⟨gb, 0, none⟩ (.int .u8 (UInt8.ofNat k).toNat)).heap.size := by rw [World.size_setCell]; exact hbt.lt
      have hk8 : k % 8 < 8 := by omega
      have HWS := Lib.hid hws
      have HLS := Lib.hid hls
      have HX8 := Lib.hid (show (k : Int) % 8 = ((k % 8 : Nat) : Int) by omega)
      have hu8 : (UInt8.ofNat k).toNat = k % 256 := by simp
      rw [hu8, show ((k % 256 : Nat) : Int) = (k : Int) % 256 from by omega] at DD HB HS hgl
      clear hl hbt D hB HX HR hws hls hu8
      by_cases h4 : k < 4096
      · have h4' : (k : Int) < C := by have := HC.out; omega
        have HWL := Lib.hid (show ws.length < 4096 by rw [HWS.out, capped_lt h4]; exact h4)
        have H4 := Lib.hid h4
        clear h4
        go_wp2_with (first | (go_at_call 11; go_must (refine (write_bytes_ DD.out (k % 8) hk8 HWL.out gb _ HLS.out HS.out hng _ HX8.out).mono ?_); rintro e w5 ⟨rfl, v5, D5, T5, hv5⟩; have HY := Lib.hid (drow_out hng hv5 hgl); have H5 := Lib.hid (HS.out.touch T5 hng); have B5 := Lib.hid (HB.out.trans (T5.below HB.out.size (fun g hg => by (simp only [drow, List.mem_cons, Option.mem_toList] at hg; rcases hg with rfl | rfl | hg; exact Nat.le_trans hw0 DD.out.bd; exact Nat.le_trans hw0 DD.out.bs; exact Nat.le_trans hw0 (DD.out.vlt g hg).2)))); have D6 := Lib.hid D5; clear D5 T5 hv5))
        go_roundw
        case rel => exact ⟨k + 1, by omega, by go_num, _, _, _, _, by rw [List.length_append, HWS.out, capped_succ H4.out, capped_lt H4.out]; rfl, HLS.out, HY.out, H5.out, D6.out, B5.out⟩
        case measure => simp [intOf]; omega
      · have h4' : decide ((k : Int) < C) = false := by rw [decide_eq_false_iff_not]; have := HC.out; omega
        have HWL := Lib.hid (show ws.length = 4096 by rw [HWS.out, capped_ge h4])
        have H4 := Lib.hid h4
        clear h4
        go_wp2_with (first | (go_at_call 11; go_must (refine (write_worn DD.out (k % 8) hk8 HWL.out _ _ HX8.out).mono ?_); rintro e w5 ⟨rfl, rfl⟩))
        all_goals
          go_roundw
          case rel => exact ⟨k + 1, by omega, by go_num, _, _, _, _, by rw [HWS.out, capped_ge H4.out, capped_ge_succ H4.out], HLS.out, hng, HS.out, DD.out, HB.out⟩
          case measure => simp [intOf]; omega
    · obtain rfl : k = M := by omega
      have hlt2 : decide ((k : Int) < E) = false := by rw [decide_eq_false_iff_not]; have := HM.out; have := HE.out; omega
      have D' := Lib.hid D
      have hB' := Lib.hid hB
      clear D hB hbt
      go_wp2_with (first | (go_at_call 14; go_must (refine (writes_any D'.out).mono ?_); rintro e w6 ⟨v6, rfl, ho6, hb6⟩; obtain ⟨q6, c6, rfl⟩ := slice_len ho6))
      all_goals
        go_ret
        refine ⟨?_, hB'.out.trans (hb6.mono hB'.out.size)⟩
        refine congrArg (fun b => Ending.returned (Value.bool b)) (?_ : (_ == _) = true)
        rw [beq_iff_eq]
        have h1 := HC.out
        have h2 := HE.out
        have h3 := HM.out
        by_cases g : k < 4096
        · rw [capped_lt g]; omega
        · rw [capped_ge g]; omega
set_option maxHeartbeats 1000000 in
theorem wears_big (n : Int) (hn0 : 0 ≤ n) (hn : 20 < n) (w : World) : Calls Try.prog 4 #[.int .i64 n] w fun e w' => e = .returned (.bool true) ∧ Below w.heap.size w w' := by
  obtain ⟨i0, hi, hz0, hz1, hz2⟩ := info_parts info_u8
  obtain ⟨k0, hk⟩ : ∃ k : Nat, (k : Int) = 1024 := ⟨1024, rfl⟩
  have HK := Lib.hid hk
  clear hk
  have hwm : IntKind.i64.wrap 4086 = 4086 := IntWalk.i64_in _ (by omega)
  obtain ⟨M, hM⟩ : ∃ M : Nat, M = 4086 + 0 := ⟨_, rfl⟩
  have HM := Lib.hid hM
  clear hM
  go_enter Try.func4, Try.ntmps4
  go_wp2_with (first | (go_at_call 9; refine (shown_any _).mono ?_; rintro e w0 ⟨rfl, hb0⟩) | (go_at_call 10; refine (new_yes 8 _ (by decide) (by decide)).mono ?_; rintro e w1 ⟨d, s, rfl, D, hb1⟩) | (at_make; refine wpList_make_full _ rfl _ _ 30 rfl w1.heap.size 5 i0 _ 1 Try.underlying30 hi hz0 hz1 .i64 .i64 1024 1024 k0 rfl rfl ?m1 ?m2 ?m3 ?m4 (by simp) ?_))
  case m1 => have := HK.out; omega
  case m2 => have := HK.out; omega
  case m3 => have := HK.out; first | omega | (rw [hz2]; omega)
  case m4 => have := HK.out; unfold maxLen; first | omega | (rw [hz2]; omega)
  intro w2 hown hgrow
  have hblk := made_block (C := madeCells #[Value.int .u8 0] k0) hown (by rw [Nat.mul_one]; exact size_madeCells _ _)
  have hb2 : Below w1.heap.size w1 w2 := (Below.refl w1.heap.size w1).grown hgrow (Nat.le_refl _) (fun _ h => by cases h)
  obtain ⟨l, hl, hl0⟩ : ∃ l : List UInt8, l.length = 1024 ∧ BytesAt w2 w1.heap.size l := ⟨_, by have := HK.out; simp; omega, made_bytes w2 _ _ hblk⟩
  clear hown hgrow hblk hi
  obtain rfl : k0 = 1024 := by have := HK.out; omega
  clear HK
  have D2 := D.below hb2
  have hd1 := D.dlt
  have hs1 := D.slt
  have hng : w1.heap.size ∉ drow d s (.slice none 0 0) := by simp [drow, Value.ownBlock]; omega
  have hB : Below w.heap.size w w2 := hb0.trans ((hb1.mono hb0.size).trans (hb2.mono (Nat.le_trans hb0.size hb1.size)))
  have hgw : w.heap.size ≤ w1.heap.size := by have h1 := hb0.size; have h2 := hb1.size; omega
  have hw0 : w.heap.size ≤ w0.heap.size := hb0.size
  have R0 : ∃ v sec ws l, ws.length = capped 0 ∧ l.length = 1024 ∧ w1.heap.size ∉ drow d s v ∧ BytesAt w2 w1.heap.size l ∧ DiskAt w2 w0.heap.size d s v 8 sec ws ∧ Below w.heap.size w w2 := ⟨_, _, [], l, (show 0 = capped 0 from (capped_lt (by omega)).symm), hl, hng, hl0, D2, hB⟩
  have HR := Lib.hid R0
  clear hl hl0 hng D2 hB hb0 hb1 hb2 D hd1 hs1 R0
  generalize w1.heap.size = gb at *
  go_wp2_with fail
  generalize hC : (4096 : Int) = C at *
  generalize hE : (4086 : Int) = E at *
  have HC := Lib.hid hC
  have HE := Lib.hid hE
  clear hC hE
  go_loopw [7] (fun i wr => ∃ k : Nat, k ≤ M ∧ i = .int .i64 k ∧ Hid (∃ v sec ws l, ws.length = capped k ∧ l.length = 1024 ∧ gb ∉ drow d s v ∧ BytesAt wr gb l ∧ DiskAt wr w0.heap.size d s v 8 sec ws ∧ Below w.heap.size w wr)) (fun i _ => M - (intOf i).toNat)
  case atStart => exact ⟨0, by omega, rfl, HR.out⟩
  case round =>
    obtain ⟨k, hk, rfl, HX⟩ := hrel
    obtain ⟨v, sec, ws, l, hws, hl, hng, hbt, D, hB⟩ := HX.out
    by_cases hlt : k < M
    · have hlt2 : (k : Int) < E := by have := HM.out; have := HE.out; omega
      obtain ⟨u, hcl⟩ : ∃ u, wr.cell? ⟨gb, 0, none⟩ = some u := ⟨_, hbt.cell (j := 0) (by omega)⟩
      have hfr := hbt.frozen 0
      have HS := Lib.hid (show BytesAt (wr.setCell ⟨gb, 0, none⟩ (.int .u8 (UInt8.ofNat k).toNat)) gb (l.set 0 (UInt8.ofNat k)) from hbt.set 0 (UInt8.ofNat k))
      have hls : (l.set 0 (UInt8.ofNat k)).length = 1024 := by simpa using hl
      have hgd : gb ≠ d ∧ gb ≠ s ∧ (∀ g, v.ownBlock = some g → g ≠ gb) := by
        simp only [drow, List.mem_cons, not_or, Option.mem_toList] at hng
        exact ⟨hng.1, hng.2.1, fun g hg e => hng.2.2 (by rw [hg, e])⟩
      have DD := Lib.hid (D.touch (Touch.set wr ⟨gb, 0, none⟩ (.int .u8 (UInt8.ofNat k).toNat)) (by simpa using fun e => hgd.1 e.symm) (by simpa using fun e => hgd.2.1 e.symm) (by simpa using hgd.2.2))
      have HB := Lib.hid (hB.setCell (p := ⟨gb, 0, none⟩) (show w.heap.size ≤ gb from hgw) (.int .u8 (UInt8.ofNat k).toNat))
      have hkw : IntKind.i64.wrap ((k : Int) + 1) = (k : Int) + 1 := IntWalk.i64_in _ (by have := HM.out; omega)
      have hgl : gb < (wr.setCell ⟨gb, 0, none⟩ (.int .u8 (UInt8.ofNat k).toNat)).heap.size := by rw [World.size_setCell]; exact hbt.lt
      have hk8 : k % 8 < 8 := by omega
      have HWS := Lib.hid hws
      have HLS := Lib.hid hls
      have HX8 := Lib.hid (show (k : Int) % 8 = ((k % 8 : Nat) : Int) by omega)
      have hu8 : (UInt8.ofNat k).toNat = k % 256 := by simp
      rw [hu8, show ((k % 256 : Nat) : Int) = (k : Int) % 256 from by omega] at DD HB HS hgl
      clear hl hbt D hB HX HR hws hls hu8
      by_cases h4 : k < 4096
      · have h4' : (k : Int) < C := by have := HC.out; omega
        have HWL := Lib.hid (show ws.length < 4096 by rw [HWS.out, capped_lt h4]; exact h4)
        have H4 := Lib.hid h4
        clear h4
        go_wp2_with (first | (go_at_call 11; go_must (refine (write_bytes_ DD.out (k % 8) hk8 HWL.out gb _ HLS.out HS.out hng _ HX8.out).mono ?_); rintro e w5 ⟨rfl, v5, D5, T5, hv5⟩; have HY := Lib.hid (drow_out hng hv5 hgl); have H5 := Lib.hid (HS.out.touch T5 hng); have B5 := Lib.hid (HB.out.trans (T5.below HB.out.size (fun g hg => by (simp only [drow, List.mem_cons, Option.mem_toList] at hg; rcases hg with rfl | rfl | hg; exact Nat.le_trans hw0 DD.out.bd; exact Nat.le_trans hw0 DD.out.bs; exact Nat.le_trans hw0 (DD.out.vlt g hg).2)))); have D6 := Lib.hid D5; clear D5 T5 hv5))
        go_roundw
        case rel => exact ⟨k + 1, by omega, by go_num, _, _, _, _, by rw [List.length_append, HWS.out, capped_succ H4.out, capped_lt H4.out]; rfl, HLS.out, HY.out, H5.out, D6.out, B5.out⟩
        case measure => simp [intOf]; omega
      · have h4' : decide ((k : Int) < C) = false := by rw [decide_eq_false_iff_not]; have := HC.out; omega
        have HWL := Lib.hid (show ws.length = 4096 by rw [HWS.out, capped_ge h4])
        have H4 := Lib.hid h4
        clear h4
        go_wp2_with (first | (go_at_call 11; go_must (refine (write_worn DD.out (k % 8) hk8 HWL.out _ _ HX8.out).mono ?_); rintro e w5 ⟨rfl, rfl⟩))
        all_goals
          go_roundw
          case rel => exact ⟨k + 1, by omega, by go_num, _, _, _, _, by rw [HWS.out, capped_ge H4.out, capped_ge_succ H4.out], HLS.out, hng, HS.out, DD.out, HB.out⟩
          case measure => simp [intOf]; omega
    · obtain rfl : k = M := by omega
      have hlt2 : decide ((k : Int) < E) = false := by rw [decide_eq_false_iff_not]; have := HM.out; have := HE.out; omega
      have D' := Lib.hid D
      have hB' := Lib.hid hB
      clear D hB hbt
      go_wp2_with (first | (go_at_call 14; go_must (refine (writes_any D'.out).mono ?_); rintro e w6 ⟨v6, rfl, ho6, hb6⟩; obtain ⟨q6, c6, rfl⟩ := slice_len ho6))
      all_goals
        go_ret
        refine ⟨?_, hB'.out.trans (hb6.mono hB'.out.size)⟩
        refine congrArg (fun b => Ending.returned (Value.bool b)) (?_ : (_ == _) = true)
        rw [beq_iff_eq]
        have h1 := HC.out
        have h2 := HE.out
        have h3 := HM.out
        by_cases g : k < 4096
        · rw [capped_lt g]; omega
        · rw [capped_ge g]; omega
def diskWearsAts : List Gen.AT := [.one (.int .i64)]
theorem diskWears_args (W : World) (vs : List Value) (h : Gen.ArgsGood W diskWearsAts vs) :
    Calls Try.prog 4 vs.toArray W fun e W' => e = .returned (.bool true) ∧ Below W.heap.size W W' := by
  match vs, h with
  | [v0], h =>
    obtain ⟨h0, _⟩ := h
    obtain ⟨n, rfl, wn⟩ := h0.int_inv
    by_cases n0 : 0 ≤ n
    · by_cases n1 : n ≤ 20
      · obtain ⟨m, rfl⟩ := Int.eq_ofNat_of_zero_le n0
        exact wears_in m (by omega) W
      · exact wears_big n n0 (by omega) W
    · exact wears_neg n (by omega) W
end Go.Proofs.Ytegiabnlmngkmaa
