/- DiskFroms. -/
import Derived.Test.YtegiabnlmngkmaaDiskAC
import Derived.Test.YtegiabnlmngkmaaGen
namespace Go.Proofs.Ytegiabnlmngkmaa
open Go Go.RowKit Go.Lib
set_option linter.unusedVariables false
set_option linter.unusedSimpArgs false
theorem there_set2 {w : World} {g o n : Nat} (h : w.there g o n) (b j : Nat) (x : Value) : (w.setCell ⟨b, j, none⟩ x).there g o n := World.there_setCells h b j [x]
theorem there_cell2 {w : World} {g o n : Nat} (h : w.there g o n) (j : Nat) (hj : j < n) : (∃ u, w.cell? ⟨g, o + j, none⟩ = some u) ∧ w.frozen? ⟨g, o + j, none⟩ = false := by
  obtain ⟨h1, h2⟩ := h j hj
  exact ⟨Option.isSome_iff_exists.1 h1, h2⟩
theorem list_of (f : Nat → Int) (len : Nat) (hf : ∀ i, i < len → (Lit.int .u8 (f i)).wf = true) : ∃ l : List UInt8, l.length = len ∧ ∀ i (h : i < l.length), (f i) = (l[i]'h).toNat := by
  refine ⟨(List.range len).map fun i => UInt8.ofNat (f i).toNat, by simp, fun i h => ?_⟩
  have hi : i < len := by simpa using h
  obtain ⟨b, hb⟩ := u8_of (hf i hi)
  simp [hb]
theorem rfrom_bs {w : World} {A : Option Addr} {l : List UInt8} (h : Bs w A l) (N M cap : Nat) (hM : M = N * 1024) (hl : l.length = N * 1024) (h8 : 8 ≤ N) (h9 : N ≤ 1024) (hcap : M ≤ cap) :
    Calls Try.prog 22 #[.slice A M cap] w fun e w' => ∃ r, e = .returned (.tuple #[.pointer (some ⟨r, 0, none⟩), .int .i64 0]) ∧ Below w.heap.size w w' := by
  obtain ⟨b, off, rfl, hr⟩ := h (by omega)
  exact rfrom_yes b off l N M cap hM hl h8 h9 hcap w hr
set_option maxHeartbeats 1000000 in
theorem froms_neg_ok (A : Option Addr) (M cap : Nat) (lb : List UInt8) (HLI : Hid (lb.length = M)) (HIC : Hid (M ≤ cap)) (hMn : M ≤ 1000000000000000) (n : Int) (hn : n < 0) (N : Nat) (HOK : Hid (M = N * 1024 ∧ 8 ≤ N ∧ N ≤ 1024)) (w : World) (hS : Bs w A lb) :
    Calls Try.prog 6 #[.slice A M cap, .int .i64 n] w fun e w' => e = .returned (.bool true) ∧ Below w.heap.size w w' := by
  have HIM := Lib.hid hMn
  have HS := Lib.hid hS
  clear hS
  go_enter Try.func6, Try.ntmps6
  go_upto_region 9 with (first | (go_at_call 9; refine (shown_any _).mono ?_; rintro e w1 ⟨rfl, hb1⟩))
  have HBS := Lib.hid (HS.out.below hb1)
  have HBX := Lib.hid hb1
  clear hb1 HS
  have hcv := HBS.out.conv cap
  have hcb := conv_bytes_of w1 (ofL lb)
  rw [ofL_size] at hcb
  rw [HLI.out] at hcv hcb
  have HBW := Lib.hid (bytes_world_below w1 (ofL lb))
  have HRG := Lib.hid (bytes_world_range w1 lb)
  have hth0 := bytes_world_there w1 lb
  rw [HLI.out] at hth0
  have HTH := Lib.hid hth0
  have hsz2 := bytesWorld_size w1 5 (ofL lb)
  have HSZ2 := Lib.hid hsz2
  have HBW2 := Lib.hid (HBX.out.trans (HBW.out.mono HBX.out.size))
  have HBS2 := Lib.hid (HBS.out.below HBW.out)
  have HGC := Lib.hid (grownCap_ge w1 M 0 5)
  have hosz : (ofL lb).size = M := by rw [ofL_size]; exact HLI.out
  clear hsz2 hth0
  go_upto_region 11 with fail
  generalize bytesWorld w1 5 (ofL lb) = wY at *
  generalize grownCap w1 M 0 5 = cM at *
  clear hcv hcb
  go_upto_region 12 with (first | (go_at_call 21; go_must (refine (from_yes w1.heap.size lb N M cM HOK.out.1 (HLI.out.trans HOK.out.1) HOK.out.2.1 HOK.out.2.2 HGC.out wY HRG.out).mono ?_); rintro e w3 ⟨d, s, rfl, D, hb3⟩))
  have HD3 := Lib.hid D
  have HB3 := Lib.hid hb3
  have HBS3 := Lib.hid (HBS2.out.below hb3)
  have HTH3 := Lib.hid ((Touch.of_below hb3 []).there HTH.out (by simp))
  clear D hb3
  go_upto_region 13 with (first | (go_at_call 22; go_must (refine (rfrom_bs HBS3.out N M cap HOK.out.1 (HLI.out.trans HOK.out.1) HOK.out.2.1 HOK.out.2.2 HIC.out).mono ?_); rintro e w4 ⟨r, rfl, hb4⟩))
  have HX4 : Hid (w4.there w1.heap.size 0 M ∧ DiskAt w4 wY.heap.size d s (.slice none 0 0) N (fsec lb N) [] ∧ Below w.heap.size w w4) := ⟨(Touch.of_below hb4 []).there HTH3.out (by simp), HD3.out.below hb4, (HBW2.out.trans (HB3.out.mono HBW2.out.size)).trans (hb4.mono (Nat.le_trans HBW2.out.size HB3.out.size))⟩
  have hg2 : w1.heap.size ≠ d ∧ w1.heap.size ≠ s := by
    have h1 := HD3.out.bd
    have h2 := HD3.out.bs
    have h3 := HSZ2.out
    omega
  have HG2 := Lib.hid hg2
  clear hb4 hg2 HD3 HB3 HBS3 HTH3
  have hgw : w.heap.size ≤ w1.heap.size := HBX.out.size
  clear HBW HRG HTH HSZ2 HBW2 HBS2 HGC HBS
  go_wp2_with fail
  go_loopw [14] (fun i wq => ∃ j : Nat, j ≤ M ∧ i = .int .i64 j ∧ Hid (wq.there w1.heap.size 0 M ∧ DiskAt wq wY.heap.size d s (.slice none 0 0) N (fsec lb N) [] ∧ Below w.heap.size w wq)) (fun i _ => M - (intOf i).toNat)
  case atStart => exact ⟨0, by omega, rfl, HX4.out⟩
  case round =>
    obtain ⟨j, hj, rfl, HQ⟩ := hrel
    by_cases hjl : j < M
    · obtain ⟨⟨u, hcl⟩, hfr⟩ := there_cell2 HQ.out.1 j hjl
      rw [Nat.zero_add] at hcl hfr
      have hj2 : (j : Int) < (M : Int) := by omega
      have hkw : IntKind.i64.wrap ((j : Int) + 1) = (j : Int) + 1 := IntWalk.i64_in _ (by have := HIM.out; omega)
      have HTS := Lib.hid (there_set2 HQ.out.1 w1.heap.size j (.int .u8 77))
      have HDS := Lib.hid (HQ.out.2.1.touch (Touch.set wr ⟨w1.heap.size, j, none⟩ (.int .u8 77)) (by simpa using fun e => HG2.out.1 e.symm) (by simpa using fun e => HG2.out.2 e.symm) (by simp [Value.ownBlock]))
      have HBB := Lib.hid (HQ.out.2.2.setCell (p := ⟨w1.heap.size, j, none⟩) hgw (.int .u8 77))
      clear HQ HX4
      go_wp2_with fail
      go_roundw
      case rel => exact ⟨j + 1, by omega, by go_num, HTS.out, HDS.out, HBB.out⟩
      case measure => simp [intOf]; omega
    · obtain rfl : j = M := by omega
      have HDe := Lib.hid HQ.out.2.1
      have HBe := Lib.hid HQ.out.2.2
      have himg : imgL (fsec lb N) N = lb := imgL_secL lb N (HLI.out.trans HOK.out.1) _ (fun i hi => by unfold fsec; rw [if_pos hi])
      have HIG := Lib.hid himg
      have hq : (j : Int) / 1024 = (N : Int) := by have := HOK.out.1; omega
      clear hj hjl HQ HX4 himg
      go_wp2_with (first | (go_at_call 20; go_must (refine (image_any HDe.out).mono ?_); rintro e w8 ⟨v8, rfl, row8, hb8⟩; have hcv8 := row8.conv; rw [HIG.out] at hcv8; have HD8 := Lib.hid (HDe.out.below hb8)) | (go_at_call 19; go_must (refine (sectors_any HD8.out).mono ?_); rintro e w' ⟨rfl, rfl⟩) | (go_at_call 14; go_must (refine (writes_any HD8.out).mono ?_); rintro e w9 ⟨v9, rfl, ho9, hb9⟩; obtain ⟨q9, c9, rfl⟩ := own_slice ho9))
      go_ret
      exact ⟨by first | rfl | simp, (HBe.out.trans (hb8.mono HBe.out.size)).trans (hb9.mono (Nat.le_trans HBe.out.size hb8.size))⟩
set_option maxHeartbeats 1000000 in
theorem froms_neg_no (A : Option Addr) (M cap : Nat) (lb : List UInt8) (HLI : Hid (lb.length = M)) (HIC : Hid (M ≤ cap)) (hMn : M ≤ 1000000000000000) (n : Int) (hn : n < 0) (HNO : Hid (¬ ((8 ≤ M / 1024 ∧ M / 1024 ≤ 1024) ∧ M % 1024 = 0))) (w : World) (hS : Bs w A lb) :
    Calls Try.prog 6 #[.slice A M cap, .int .i64 n] w fun e w' => e = .returned (.bool true) ∧ Below w.heap.size w w' := by
  have HIM := Lib.hid hMn
  have HS := Lib.hid hS
  clear hS
  go_enter Try.func6, Try.ntmps6
  go_upto_region 9 with (first | (go_at_call 9; refine (shown_any _).mono ?_; rintro e w1 ⟨rfl, hb1⟩))
  have HBS := Lib.hid (HS.out.below hb1)
  have HBX := Lib.hid hb1
  clear hb1 HS
  have hcv := HBS.out.conv cap
  have hcb := conv_bytes_of w1 (ofL lb)
  rw [ofL_size] at hcb
  rw [HLI.out] at hcv hcb
  have HBW := Lib.hid (bytes_world_below w1 (ofL lb))
  have HRG := Lib.hid (bytes_world_range w1 lb)
  have hth0 := bytes_world_there w1 lb
  rw [HLI.out] at hth0
  have HTH := Lib.hid hth0
  have hsz2 := bytesWorld_size w1 5 (ofL lb)
  have HSZ2 := Lib.hid hsz2
  have HBW2 := Lib.hid (HBX.out.trans (HBW.out.mono HBX.out.size))
  have HBS2 := Lib.hid (HBS.out.below HBW.out)
  have HGC := Lib.hid (grownCap_ge w1 M 0 5)
  have hosz : (ofL lb).size = M := by rw [ofL_size]; exact HLI.out
  clear hsz2 hth0
  go_upto_region 11 with fail
  generalize bytesWorld w1 5 (ofL lb) = wY at *
  generalize grownCap w1 M 0 5 = cM at *
  clear hcv hcb
  go_upto_region 13 with (first | (go_at_call 21; go_must (refine (from_no (some ⟨w1.heap.size, 0, none⟩) M cM HIM.out HNO.out wY).mono ?_); rintro e w3 ⟨rfl, hb3⟩) | (go_at_call 22; go_must (refine (rfrom_no A M cap HIM.out HNO.out _).mono ?_); rintro e w4 ⟨rfl, rfl⟩))
  have HX4 : Hid (w3.there w1.heap.size 0 M ∧ Below w.heap.size w w3) := ⟨(Touch.of_below hb3 []).there HTH.out (by simp), HBW2.out.trans (hb3.mono HBW2.out.size)⟩
  clear hb3
  have hgw : w.heap.size ≤ w1.heap.size := HBX.out.size
  clear HBW HRG HTH HSZ2 HBW2 HBS2 HGC HBS
  go_wp2_with fail
  go_loopw [14] (fun i wq => ∃ j : Nat, j ≤ M ∧ i = .int .i64 j ∧ Hid (wq.there w1.heap.size 0 M ∧ Below w.heap.size w wq)) (fun i _ => M - (intOf i).toNat)
  case atStart => exact ⟨0, by omega, rfl, HX4.out⟩
  case round =>
    obtain ⟨j, hj, rfl, HQ⟩ := hrel
    by_cases hjl : j < M
    · obtain ⟨⟨u, hcl⟩, hfr⟩ := there_cell2 HQ.out.1 j hjl
      rw [Nat.zero_add] at hcl hfr
      have hj2 : (j : Int) < (M : Int) := by omega
      have hkw : IntKind.i64.wrap ((j : Int) + 1) = (j : Int) + 1 := IntWalk.i64_in _ (by have := HIM.out; omega)
      have HTS := Lib.hid (there_set2 HQ.out.1 w1.heap.size j (.int .u8 77))
      have HBB := Lib.hid (HQ.out.2.setCell (p := ⟨w1.heap.size, j, none⟩) hgw (.int .u8 77))
      clear HQ HX4
      go_wp2_with fail
      go_roundw
      case rel => exact ⟨j + 1, by omega, by go_num, HTS.out, HBB.out⟩
      case measure => simp [intOf]; omega
    · obtain rfl : j = M := by omega
      have HBe := Lib.hid HQ.out.2
      clear hj hjl HQ HX4
      go_wp2_with fail
      go_ret
      exact ⟨by first | rfl | simp, HBe.out⟩
set_option maxHeartbeats 1000000 in
theorem froms_big_ok (A : Option Addr) (M cap : Nat) (lb : List UInt8) (HLI : Hid (lb.length = M)) (HIC : Hid (M ≤ cap)) (hMn : M ≤ 1000000000000000) (n : Int) (hn0 : 0 ≤ n) (HN9 : Hid (9000 < n)) (N : Nat) (HOK : Hid (M = N * 1024 ∧ 8 ≤ N ∧ N ≤ 1024)) (w : World) (hS : Bs w A lb) :
    Calls Try.prog 6 #[.slice A M cap, .int .i64 n] w fun e w' => e = .returned (.bool true) ∧ Below w.heap.size w w' := by
  have HIM := Lib.hid hMn
  have HS := Lib.hid hS
  clear hS
  go_enter Try.func6, Try.ntmps6
  generalize hC : (9000 : Int) = C at *
  have HC := Lib.hid hC
  clear hC
  have hnC : decide (n ≤ C) = false := by rw [decide_eq_false_iff_not]; have := HC.out; have := HN9.out; omega
  go_upto_region 9 with (first | (go_at_call 9; refine (shown_any _).mono ?_; rintro e w1 ⟨rfl, hb1⟩))
  have HBS := Lib.hid (HS.out.below hb1)
  have HBX := Lib.hid hb1
  clear hb1 HS
  have hcv := HBS.out.conv cap
  have hcb := conv_bytes_of w1 (ofL lb)
  rw [ofL_size] at hcb
  rw [HLI.out] at hcv hcb
  have HBW := Lib.hid (bytes_world_below w1 (ofL lb))
  have HRG := Lib.hid (bytes_world_range w1 lb)
  have hth0 := bytes_world_there w1 lb
  rw [HLI.out] at hth0
  have HTH := Lib.hid hth0
  have hsz2 := bytesWorld_size w1 5 (ofL lb)
  have HSZ2 := Lib.hid hsz2
  have HBW2 := Lib.hid (HBX.out.trans (HBW.out.mono HBX.out.size))
  have HBS2 := Lib.hid (HBS.out.below HBW.out)
  have HGC := Lib.hid (grownCap_ge w1 M 0 5)
  have hosz : (ofL lb).size = M := by rw [ofL_size]; exact HLI.out
  clear hsz2 hth0
  go_upto_region 11 with fail
  generalize bytesWorld w1 5 (ofL lb) = wY at *
  generalize grownCap w1 M 0 5 = cM at *
  clear hcv hcb
  go_upto_region 12 with (first | (go_at_call 21; go_must (refine (from_yes w1.heap.size lb N M cM HOK.out.1 (HLI.out.trans HOK.out.1) HOK.out.2.1 HOK.out.2.2 HGC.out wY HRG.out).mono ?_); rintro e w3 ⟨d, s, rfl, D, hb3⟩))
  have HD3 := Lib.hid D
  have HB3 := Lib.hid hb3
  have HBS3 := Lib.hid (HBS2.out.below hb3)
  have HTH3 := Lib.hid ((Touch.of_below hb3 []).there HTH.out (by simp))
  clear D hb3
  go_upto_region 13 with (first | (go_at_call 22; go_must (refine (rfrom_bs HBS3.out N M cap HOK.out.1 (HLI.out.trans HOK.out.1) HOK.out.2.1 HOK.out.2.2 HIC.out).mono ?_); rintro e w4 ⟨r, rfl, hb4⟩))
  have HX4 : Hid (w4.there w1.heap.size 0 M ∧ DiskAt w4 wY.heap.size d s (.slice none 0 0) N (fsec lb N) [] ∧ Below w.heap.size w w4) := ⟨(Touch.of_below hb4 []).there HTH3.out (by simp), HD3.out.below hb4, (HBW2.out.trans (HB3.out.mono HBW2.out.size)).trans (hb4.mono (Nat.le_trans HBW2.out.size HB3.out.size))⟩
  have hg2 : w1.heap.size ≠ d ∧ w1.heap.size ≠ s := by
    have h1 := HD3.out.bd
    have h2 := HD3.out.bs
    have h3 := HSZ2.out
    omega
  have HG2 := Lib.hid hg2
  clear hb4 hg2 HD3 HB3 HBS3 HTH3
  have hgw : w.heap.size ≤ w1.heap.size := HBX.out.size
  clear HBW HRG HTH HSZ2 HBW2 HBS2 HGC HBS
  go_wp2_with fail
  go_loopw [14] (fun i wq => ∃ j : Nat, j ≤ M ∧ i = .int .i64 j ∧ Hid (wq.there w1.heap.size 0 M ∧ DiskAt wq wY.heap.size d s (.slice none 0 0) N (fsec lb N) [] ∧ Below w.heap.size w wq)) (fun i _ => M - (intOf i).toNat)
  case atStart => exact ⟨0, by omega, rfl, HX4.out⟩
  case round =>
    obtain ⟨j, hj, rfl, HQ⟩ := hrel
    by_cases hjl : j < M
    · obtain ⟨⟨u, hcl⟩, hfr⟩ := there_cell2 HQ.out.1 j hjl
      rw [Nat.zero_add] at hcl hfr
      have hj2 : (j : Int) < (M : Int) := by omega
      have hkw : IntKind.i64.wrap ((j : Int) + 1) = (j : Int) + 1 := IntWalk.i64_in _ (by have := HIM.out; omega)
      have HTS := Lib.hid (there_set2 HQ.out.1 w1.heap.size j (.int .u8 77))
      have HDS := Lib.hid (HQ.out.2.1.touch (Touch.set wr ⟨w1.heap.size, j, none⟩ (.int .u8 77)) (by simpa using fun e => HG2.out.1 e.symm) (by simpa using fun e => HG2.out.2 e.symm) (by simp [Value.ownBlock]))
      have HBB := Lib.hid (HQ.out.2.2.setCell (p := ⟨w1.heap.size, j, none⟩) hgw (.int .u8 77))
      clear HQ HX4
      go_wp2_with fail
      go_roundw
      case rel => exact ⟨j + 1, by omega, by go_num, HTS.out, HDS.out, HBB.out⟩
      case measure => simp [intOf]; omega
    · obtain rfl : j = M := by omega
      have HDe := Lib.hid HQ.out.2.1
      have HBe := Lib.hid HQ.out.2.2
      have himg : imgL (fsec lb N) N = lb := imgL_secL lb N (HLI.out.trans HOK.out.1) _ (fun i hi => by unfold fsec; rw [if_pos hi])
      have HIG := Lib.hid himg
      have hq : (j : Int) / 1024 = (N : Int) := by have := HOK.out.1; omega
      clear hj hjl HQ HX4 himg
      go_wp2_with (first | (go_at_call 20; go_must (refine (image_any HDe.out).mono ?_); rintro e w8 ⟨v8, rfl, row8, hb8⟩; have hcv8 := row8.conv; rw [HIG.out] at hcv8; have HD8 := Lib.hid (HDe.out.below hb8)) | (go_at_call 19; go_must (refine (sectors_any HD8.out).mono ?_); rintro e w' ⟨rfl, rfl⟩) | (go_at_call 14; go_must (refine (writes_any HD8.out).mono ?_); rintro e w9 ⟨v9, rfl, ho9, hb9⟩; obtain ⟨q9, c9, rfl⟩ := own_slice ho9))
      go_ret
      exact ⟨by first | rfl | simp, (HBe.out.trans (hb8.mono HBe.out.size)).trans (hb9.mono (Nat.le_trans HBe.out.size hb8.size))⟩
set_option maxHeartbeats 1000000 in
theorem froms_big_no (A : Option Addr) (M cap : Nat) (lb : List UInt8) (HLI : Hid (lb.length = M)) (HIC : Hid (M ≤ cap)) (hMn : M ≤ 1000000000000000) (n : Int) (hn0 : 0 ≤ n) (HN9 : Hid (9000 < n)) (HNO : Hid (¬ ((8 ≤ M / 1024 ∧ M / 1024 ≤ 1024) ∧ M % 1024 = 0))) (w : World) (hS : Bs w A lb) :
    Calls Try.prog 6 #[.slice A M cap, .int .i64 n] w fun e w' => e = .returned (.bool true) ∧ Below w.heap.size w w' := by
  have HIM := Lib.hid hMn
  have HS := Lib.hid hS
  clear hS
  go_enter Try.func6, Try.ntmps6
  generalize hC : (9000 : Int) = C at *
  have HC := Lib.hid hC
  clear hC
  have hnC : decide (n ≤ C) = false := by rw [decide_eq_false_iff_not]; have := HC.out; have := HN9.out; omega
  go_upto_region 9 with (first | (go_at_call 9; refine (shown_any _).mono ?_; rintro e w1 ⟨rfl, hb1⟩))
  have HBS := Lib.hid (HS.out.below hb1)
  have HBX := Lib.hid hb1
  clear hb1 HS
  have hcv := HBS.out.conv cap
  have hcb := conv_bytes_of w1 (ofL lb)
  rw [ofL_size] at hcb
  rw [HLI.out] at hcv hcb
  have HBW := Lib.hid (bytes_world_below w1 (ofL lb))
  have HRG := Lib.hid (bytes_world_range w1 lb)
  have hth0 := bytes_world_there w1 lb
  rw [HLI.out] at hth0
  have HTH := Lib.hid hth0
  have hsz2 := bytesWorld_size w1 5 (ofL lb)
  have HSZ2 := Lib.hid hsz2
  have HBW2 := Lib.hid (HBX.out.trans (HBW.out.mono HBX.out.size))
  have HBS2 := Lib.hid (HBS.out.below HBW.out)
  have HGC := Lib.hid (grownCap_ge w1 M 0 5)
  have hosz : (ofL lb).size = M := by rw [ofL_size]; exact HLI.out
  clear hsz2 hth0
  go_upto_region 11 with fail
  generalize bytesWorld w1 5 (ofL lb) = wY at *
  generalize grownCap w1 M 0 5 = cM at *
  clear hcv hcb
  go_upto_region 13 with (first | (go_at_call 21; go_must (refine (from_no (some ⟨w1.heap.size, 0, none⟩) M cM HIM.out HNO.out wY).mono ?_); rintro e w3 ⟨rfl, hb3⟩) | (go_at_call 22; go_must (refine (rfrom_no A M cap HIM.out HNO.out _).mono ?_); rintro e w4 ⟨rfl, rfl⟩))
  have HX4 : Hid (w3.there w1.heap.size 0 M ∧ Below w.heap.size w w3) := ⟨(Touch.of_below hb3 []).there HTH.out (by simp), HBW2.out.trans (hb3.mono HBW2.out.size)⟩
  clear hb3
  have hgw : w.heap.size ≤ w1.heap.size := HBX.out.size
  clear HBW HRG HTH HSZ2 HBW2 HBS2 HGC HBS
  go_wp2_with fail
  go_loopw [14] (fun i wq => ∃ j : Nat, j ≤ M ∧ i = .int .i64 j ∧ Hid (wq.there w1.heap.size 0 M ∧ Below w.heap.size w wq)) (fun i _ => M - (intOf i).toNat)
  case atStart => exact ⟨0, by omega, rfl, HX4.out⟩
  case round =>
    obtain ⟨j, hj, rfl, HQ⟩ := hrel
    by_cases hjl : j < M
    · obtain ⟨⟨u, hcl⟩, hfr⟩ := there_cell2 HQ.out.1 j hjl
      rw [Nat.zero_add] at hcl hfr
      have hj2 : (j : Int) < (M : Int) := by omega
      have hkw : IntKind.i64.wrap ((j : Int) + 1) = (j : Int) + 1 := IntWalk.i64_in _ (by have := HIM.out; omega)
      have HTS := Lib.hid (there_set2 HQ.out.1 w1.heap.size j (.int .u8 77))
      have HBB := Lib.hid (HQ.out.2.setCell (p := ⟨w1.heap.size, j, none⟩) hgw (.int .u8 77))
      clear HQ HX4
      go_wp2_with fail
      go_roundw
      case rel => exact ⟨j + 1, by omega, by go_num, HTS.out, HBB.out⟩
      case measure => simp [intOf]; omega
    · obtain rfl : j = M := by omega
      have HBe := Lib.hid HQ.out.2
      clear hj hjl HQ HX4
      go_wp2_with fail
      go_ret
      exact ⟨by first | rfl | simp, HBe.out⟩
set_option maxHeartbeats 1000000 in
theorem froms_inp_ok (b off : Nat) (len cap : Nat) (lb : List UInt8) (HLB : Hid (lb.length = len)) (hlen0 : 0 < len) (hln : len ≤ 1000000000000000) (M : Nat) (HM9 : Hid (M ≤ 9000)) (N : Nat) (HOK : Hid (M = N * 1024 ∧ 8 ≤ N ∧ N ≤ 1024)) (w : World) (hr : w.rangeAt b off (strCells (ofL lb))) :
    Calls Try.prog 6 #[.slice (some ⟨b, off, none⟩) len cap, .int .i64 (M : Int)] w fun e w' => e = .returned (.bool true) ∧ Below w.heap.size w w' := by
  obtain ⟨i0, hi, hz0, hz1, hz2⟩ := info_parts info_u8
  have hMn : M ≤ 1000000000000000 := by have := HM9.out; omega
  have HIM := Lib.hid hMn
  have HIC : Hid (M ≤ M) := Nat.le_refl _
  have HR := Lib.hid hr
  have HL0 := Lib.hid hlen0
  have hlp : (0 : Int) < (len : Int) := by omega
  have hlz : ((len : Int) == 0) = false := by simp; omega
  clear hr hlen0
  go_enter Try.func6, Try.ntmps6
  generalize hC : (9000 : Int) = C at *
  have HC := Lib.hid hC
  clear hC
  have hnC : decide ((M : Int) ≤ C) = true := by rw [decide_eq_true_iff]; have := HC.out; have := HM9.out; omega
  have hM0 : (0 : Int) ≤ (M : Int) := by omega
  go_wp2_with (first | (go_at_call 9; refine (shown_any _).mono ?_; rintro e w1 ⟨rfl, hb1⟩) | (at_make; go_must (refine wpList_make_full _ rfl _ _ 30 rfl w1.heap.size 5 i0 _ 1 Try.underlying30 hi hz0 hz1 .i64 .i64 (M : Int) (M : Int) M rfl rfl rfl rfl ?m3 ?m4 (by simp) ?_)))
  case m3 => first | omega | (rw [hz2]; omega) | (have := HM9.out; rw [hz2]; omega) | (have := HM9.out; omega)
  case m4 => have := HM9.out; unfold maxLen; first | omega | (rw [hz2]; omega)
  intro w2 hown hgrow
  have hblk := made_block (C := madeCells #[Value.int .u8 0] M) hown (by rw [Nat.mul_one]; exact size_madeCells _ _)
  have hb2 : Below w1.heap.size w1 w2 := (Below.refl w1.heap.size w1).grown hgrow (Nat.le_refl _) (fun _ h => by cases h)
  have hb0 := made_bytes w2 _ _ hblk
  have HX0 : Hid (∃ li : List UInt8, li.length = M ∧ BytesAt w2 w1.heap.size li ∧ Below w.heap.size w w2) := ⟨_, by simp, hb0, hb1.trans (hb2.mono hb1.size)⟩
  have hgw1 := hb1.size
  clear hown hgrow hblk hb2 hb0 hb1 hi
  go_wp2_with fail
  go_loopw [7] (fun i wr => ∃ j : Nat, j ≤ M ∧ i = .int .i64 j ∧ Hid (∃ li : List UInt8, li.length = M ∧ BytesAt wr w1.heap.size li ∧ Below w.heap.size w wr)) (fun i _ => M - (intOf i).toNat)
  case atStart => exact ⟨0, by omega, rfl, HX0.out⟩
  case round =>
    obtain ⟨j, hj, rfl, HX⟩ := hrel
    obtain ⟨li, hli, hbt, hB⟩ := HX.out
    clear HX HX0
    by_cases hjl : j < M
    · obtain ⟨u, hcl⟩ : ∃ u, wr.cell? ⟨w1.heap.size, j, none⟩ = some u := ⟨_, hbt.cell (j := j) (by omega)⟩
      have hfr := hbt.frozen j
      have hj2 : (j : Int) < (M : Int) := by omega
      have hjl2 : j % len < len := Nat.mod_lt _ HL0.out
      have hjb : j % len < lb.length := by have := HLB.out; omega
      have hcb : wr.cell? ⟨b, off + j % len, none⟩ = some (.int .u8 ((lb[j % len]'hjb).toNat : Int)) := by
        have h1 := (Touch.of_below hB []).range HR.out (by simp)
        exact h1 (j % len) _ (by rw [strCells_ofL, List.getElem?_map, List.getElem?_eq_getElem hjb]; rfl)
      have HS := Lib.hid (hbt.set j (lb[j % len]'hjb))
      have HBB := Lib.hid (hB.setCell (p := ⟨w1.heap.size, j, none⟩) hgw1 (.int .u8 ((lb[j % len]'hjb).toNat : Int)))
      have HLI := Lib.hid hli
      have hjm : (j : Int) % (len : Int) = ((j % len : Nat) : Int) := (Int.natCast_emod j len).symm
      have hjm0 : (0 : Int) ≤ ((j % len : Nat) : Int) := by omega
      have hjm1 : ((j % len : Nat) : Int) < (len : Int) := by omega
      generalize (lb[j % len]'hjb) = bx at *
      generalize j % len = jm at *
      clear hbt hB hli hjb hjl2
      go_wp2_with fail
      go_roundw
      case rel => exact ⟨j + 1, by omega, by go_num, _, by rw [List.length_set]; exact HLI.out, HS.out, HBB.out⟩
      case measure => simp [intOf]; omega
    · have hjM : M = j := by omega
      subst hjM
      clear hj hjl
      obtain ⟨wX, rfl⟩ : ∃ wX : World, wX = wr := ⟨_, rfl⟩
      have HLI := Lib.hid hli
      have HBS : Hid (Bs wX (some ⟨w1.heap.size, 0, none⟩) li) := fun _ => ⟨_, 0, rfl, hbt.range⟩
      have HBX := Lib.hid hB
      clear hli hbt hB
      have hcv := HBS.out.conv M
      have hcb := conv_bytes_of wX (ofL li)
      rw [ofL_size] at hcb
      rw [HLI.out] at hcv hcb
      have HBW := Lib.hid (bytes_world_below wX (ofL li))
      have HRG := Lib.hid (bytes_world_range wX li)
      have hth0 := bytes_world_there wX li
      rw [HLI.out] at hth0
      have HTH := Lib.hid hth0
      have hsz2 := bytesWorld_size wX 5 (ofL li)
      have HSZ2 := Lib.hid hsz2
      have HBW2 := Lib.hid (HBX.out.trans (HBW.out.mono HBX.out.size))
      have HBS2 := Lib.hid (HBS.out.below HBW.out)
      have HGC := Lib.hid (grownCap_ge wX M 0 5)
      have hosz : (ofL li).size = M := by rw [ofL_size]; exact HLI.out
      clear hsz2 hth0
      go_upto_region 11 with fail
      generalize bytesWorld wX 5 (ofL li) = wY at *
      generalize grownCap wX M 0 5 = cM at *
      clear hcv hcb
      go_upto_region 12 with (first | (go_at_call 21; go_must (refine (from_yes wX.heap.size li N M cM HOK.out.1 (HLI.out.trans HOK.out.1) HOK.out.2.1 HOK.out.2.2 HGC.out wY HRG.out).mono ?_); rintro e w3 ⟨d, s, rfl, D, hb3⟩))
      have HD3 := Lib.hid D
      have HB3 := Lib.hid hb3
      have HBS3 := Lib.hid (HBS2.out.below hb3)
      have HTH3 := Lib.hid ((Touch.of_below hb3 []).there HTH.out (by simp))
      clear D hb3
      go_upto_region 13 with (first | (go_at_call 22; go_must (refine (rfrom_bs HBS3.out N M M HOK.out.1 (HLI.out.trans HOK.out.1) HOK.out.2.1 HOK.out.2.2 HIC.out).mono ?_); rintro e w4 ⟨r, rfl, hb4⟩))
      have HX4 : Hid (w4.there wX.heap.size 0 M ∧ DiskAt w4 wY.heap.size d s (.slice none 0 0) N (fsec li N) [] ∧ Below w.heap.size w w4) := ⟨(Touch.of_below hb4 []).there HTH3.out (by simp), HD3.out.below hb4, (HBW2.out.trans (HB3.out.mono HBW2.out.size)).trans (hb4.mono (Nat.le_trans HBW2.out.size HB3.out.size))⟩
      have hg2 : wX.heap.size ≠ d ∧ wX.heap.size ≠ s := by
        have h1 := HD3.out.bd
        have h2 := HD3.out.bs
        have h3 := HSZ2.out
        omega
      have HG2 := Lib.hid hg2
      clear hb4 hg2 HD3 HB3 HBS3 HTH3
      have hgw : w.heap.size ≤ wX.heap.size := HBX.out.size
      clear HBW HRG HTH HSZ2 HBW2 HBS2 HGC HBS
      go_wp2_with fail
      go_loopw [14] (fun i wq => ∃ j : Nat, j ≤ M ∧ i = .int .i64 j ∧ Hid (wq.there wX.heap.size 0 M ∧ DiskAt wq wY.heap.size d s (.slice none 0 0) N (fsec li N) [] ∧ Below w.heap.size w wq)) (fun i _ => M - (intOf i).toNat)
      case atStart => exact ⟨0, by omega, rfl, HX4.out⟩
      case round =>
        obtain ⟨j, hj, rfl, HQ⟩ := hrel
        by_cases hjl : j < M
        · obtain ⟨⟨u, hcl⟩, hfr⟩ := there_cell2 HQ.out.1 j hjl
          rw [Nat.zero_add] at hcl hfr
          have hj2 : (j : Int) < (M : Int) := by omega
          have hkw : IntKind.i64.wrap ((j : Int) + 1) = (j : Int) + 1 := IntWalk.i64_in _ (by have := HIM.out; omega)
          have HTS := Lib.hid (there_set2 HQ.out.1 wX.heap.size j (.int .u8 77))
          have HDS := Lib.hid (HQ.out.2.1.touch (Touch.set wr ⟨wX.heap.size, j, none⟩ (.int .u8 77)) (by simpa using fun e => HG2.out.1 e.symm) (by simpa using fun e => HG2.out.2 e.symm) (by simp [Value.ownBlock]))
          have HBB := Lib.hid (HQ.out.2.2.setCell (p := ⟨wX.heap.size, j, none⟩) hgw (.int .u8 77))
          clear HQ HX4
          go_wp2_with fail
          go_roundw
          case rel => exact ⟨j + 1, by omega, by go_num, HTS.out, HDS.out, HBB.out⟩
          case measure => simp [intOf]; omega
        · obtain rfl : j = M := by omega
          have HDe := Lib.hid HQ.out.2.1
          have HBe := Lib.hid HQ.out.2.2
          have himg : imgL (fsec li N) N = li := imgL_secL li N (HLI.out.trans HOK.out.1) _ (fun i hi => by unfold fsec; rw [if_pos hi])
          have HIG := Lib.hid himg
          have hq : (j : Int) / 1024 = (N : Int) := by have := HOK.out.1; omega
          clear hj hjl HQ HX4 himg
          go_wp2_with (first | (go_at_call 20; go_must (refine (image_any HDe.out).mono ?_); rintro e w8 ⟨v8, rfl, row8, hb8⟩; have hcv8 := row8.conv; rw [HIG.out] at hcv8; have HD8 := Lib.hid (HDe.out.below hb8)) | (go_at_call 19; go_must (refine (sectors_any HD8.out).mono ?_); rintro e w' ⟨rfl, rfl⟩) | (go_at_call 14; go_must (refine (writes_any HD8.out).mono ?_); rintro e w9 ⟨v9, rfl, ho9, hb9⟩; obtain ⟨q9, c9, rfl⟩ := own_slice ho9))
          go_ret
          exact ⟨by first | rfl | simp, (HBe.out.trans (hb8.mono HBe.out.size)).trans (hb9.mono (Nat.le_trans HBe.out.size hb8.size))⟩
set_option maxHeartbeats 1000000 in
theorem froms_inp_no (b off : Nat) (len cap : Nat) (lb : List UInt8) (HLB : Hid (lb.length = len)) (hlen0 : 0 < len) (hln : len ≤ 1000000000000000) (M : Nat) (HM9 : Hid (M ≤ 9000)) (HNO : Hid (¬ ((8 ≤ M / 1024 ∧ M / 1024 ≤ 1024) ∧ M % 1024 = 0))) (w : World) (hr : w.rangeAt b off (strCells (ofL lb))) :
    Calls Try.prog 6 #[.slice (some ⟨b, off, none⟩) len cap, .int .i64 (M : Int)] w fun e w' => e = .returned (.bool true) ∧ Below w.heap.size w w' := by
  obtain ⟨i0, hi, hz0, hz1, hz2⟩ := info_parts info_u8
  have hMn : M ≤ 1000000000000000 := by have := HM9.out; omega
  have HIM := Lib.hid hMn
  have HIC : Hid (M ≤ M) := Nat.le_refl _
  have HR := Lib.hid hr
  have HL0 := Lib.hid hlen0
  have hlp : (0 : Int) < (len : Int) := by omega
  have hlz : ((len : Int) == 0) = false := by simp; omega
  clear hr hlen0
  go_enter Try.func6, Try.ntmps6
  generalize hC : (9000 : Int) = C at *
  have HC := Lib.hid hC
  clear hC
  have hnC : decide ((M : Int) ≤ C) = true := by rw [decide_eq_true_iff]; have := HC.out; have := HM9.out; omega
  have hM0 : (0 : Int) ≤ (M : Int) := by omega
  go_wp2_with (first | (go_at_call 9; refine (shown_any _).mono ?_; rintro e w1 ⟨rfl, hb1⟩) | (at_make; go_must (refine wpList_make_full _ rfl _ _ 30 rfl w1.heap.size 5 i0 _ 1 Try.underlying30 hi hz0 hz1 .i64 .i64 (M : Int) (M : Int) M rfl rfl rfl rfl ?m3 ?m4 (by simp) ?_)))
  case m3 => first | omega | (rw [hz2]; omega) | (have := HM9.out; rw [hz2]; omega) | (have := HM9.out; omega)
  case m4 => have := HM9.out; unfold maxLen; first | omega | (rw [hz2]; omega)
  intro w2 hown hgrow
  have hblk := made_block (C := madeCells #[Value.int .u8 0] M) hown (by rw [Nat.mul_one]; exact size_madeCells _ _)
  have hb2 : Below w1.heap.size w1 w2 := (Below.refl w1.heap.size w1).grown hgrow (Nat.le_refl _) (fun _ h => by cases h)
  have hb0 := made_bytes w2 _ _ hblk
  have HX0 : Hid (∃ li : List UInt8, li.length = M ∧ BytesAt w2 w1.heap.size li ∧ Below w.heap.size w w2) := ⟨_, by simp, hb0, hb1.trans (hb2.mono hb1.size)⟩
  have hgw1 := hb1.size
  clear hown hgrow hblk hb2 hb0 hb1 hi
  go_wp2_with fail
  go_loopw [7] (fun i wr => ∃ j : Nat, j ≤ M ∧ i = .int .i64 j ∧ Hid (∃ li : List UInt8, li.length = M ∧ BytesAt wr w1.heap.size li ∧ Below w.heap.size w wr)) (fun i _ => M - (intOf i).toNat)
  case atStart => exact ⟨0, by omega, rfl, HX0.out⟩
  case round =>
    obtain ⟨j, hj, rfl, HX⟩ := hrel
    obtain ⟨li, hli, hbt, hB⟩ := HX.out
    clear HX HX0
    by_cases hjl : j < M
    · obtain ⟨u, hcl⟩ : ∃ u, wr.cell? ⟨w1.heap.size, j, none⟩ = some u := ⟨_, hbt.cell (j := j) (by omega)⟩
      have hfr := hbt.frozen j
      have hj2 : (j : Int) < (M : Int) := by omega
      have hjl2 : j % len < len := Nat.mod_lt _ HL0.out
      have hjb : j % len < lb.length := by have := HLB.out; omega
      have hcb : wr.cell? ⟨b, off + j % len, none⟩ = some (.int .u8 ((lb[j % len]'hjb).toNat : Int)) := by
        have h1 := (Touch.of_below hB []).range HR.out (by simp)
        exact h1 (j % len) _ (by rw [strCells_ofL, List.getElem?_map, List.getElem?_eq_getElem hjb]; rfl)
      have HS := Lib.hid (hbt.set j (lb[j % len]'hjb))
      have HBB := Lib.hid (hB.setCell (p := ⟨w1.heap.size, j, none⟩) hgw1 (.int .u8 ((lb[j % len]'hjb).toNat : Int)))
      have HLI := Lib.hid hli
      have hjm : (j : Int) % (len : Int) = ((j % len : Nat) : Int) := (Int.natCast_emod j len).symm
      have hjm0 : (0 : Int) ≤ ((j % len : Nat) : Int) := by omega
      have hjm1 : ((j % len : Nat) : Int) < (len : Int) := by omega
      generalize (lb[j % len]'hjb) = bx at *
      generalize j % len = jm at *
      clear hbt hB hli hjb hjl2
      go_wp2_with fail
      go_roundw
      case rel => exact ⟨j + 1, by omega, by go_num, _, by rw [List.length_set]; exact HLI.out, HS.out, HBB.out⟩
      case measure => simp [intOf]; omega
    · have hjM : M = j := by omega
      subst hjM
      clear hj hjl
      obtain ⟨wX, rfl⟩ : ∃ wX : World, wX = wr := ⟨_, rfl⟩
      have HLI := Lib.hid hli
      have HBS : Hid (Bs wX (some ⟨w1.heap.size, 0, none⟩) li) := fun _ => ⟨_, 0, rfl, hbt.range⟩
      have HBX := Lib.hid hB
      clear hli hbt hB
      have hcv := HBS.out.conv M
      have hcb := conv_bytes_of wX (ofL li)
      rw [ofL_size] at hcb
      rw [HLI.out] at hcv hcb
      have HBW := Lib.hid (bytes_world_below wX (ofL li))
      have HRG := Lib.hid (bytes_world_range wX li)
      have hth0 := bytes_world_there wX li
      rw [HLI.out] at hth0
      have HTH := Lib.hid hth0
      have hsz2 := bytesWorld_size wX 5 (ofL li)
      have HSZ2 := Lib.hid hsz2
      have HBW2 := Lib.hid (HBX.out.trans (HBW.out.mono HBX.out.size))
      have HBS2 := Lib.hid (HBS.out.below HBW.out)
      have HGC := Lib.hid (grownCap_ge wX M 0 5)
      have hosz : (ofL li).size = M := by rw [ofL_size]; exact HLI.out
      clear hsz2 hth0
      go_upto_region 11 with fail
      generalize bytesWorld wX 5 (ofL li) = wY at *
      generalize grownCap wX M 0 5 = cM at *
      clear hcv hcb
      go_upto_region 13 with (first | (go_at_call 21; go_must (refine (from_no (some ⟨wX.heap.size, 0, none⟩) M cM HIM.out HNO.out wY).mono ?_); rintro e w3 ⟨rfl, hb3⟩) | (go_at_call 22; go_must (refine (rfrom_no (some ⟨w1.heap.size, 0, none⟩) M M HIM.out HNO.out _).mono ?_); rintro e w4 ⟨rfl, rfl⟩))
      have HX4 : Hid (w3.there wX.heap.size 0 M ∧ Below w.heap.size w w3) := ⟨(Touch.of_below hb3 []).there HTH.out (by simp), HBW2.out.trans (hb3.mono HBW2.out.size)⟩
      clear hb3
      have hgw : w.heap.size ≤ wX.heap.size := HBX.out.size
      clear HBW HRG HTH HSZ2 HBW2 HBS2 HGC HBS
      go_wp2_with fail
      go_loopw [14] (fun i wq => ∃ j : Nat, j ≤ M ∧ i = .int .i64 j ∧ Hid (wq.there wX.heap.size 0 M ∧ Below w.heap.size w wq)) (fun i _ => M - (intOf i).toNat)
      case atStart => exact ⟨0, by omega, rfl, HX4.out⟩
      case round =>
        obtain ⟨j, hj, rfl, HQ⟩ := hrel
        by_cases hjl : j < M
        · obtain ⟨⟨u, hcl⟩, hfr⟩ := there_cell2 HQ.out.1 j hjl
          rw [Nat.zero_add] at hcl hfr
          have hj2 : (j : Int) < (M : Int) := by omega
          have hkw : IntKind.i64.wrap ((j : Int) + 1) = (j : Int) + 1 := IntWalk.i64_in _ (by have := HIM.out; omega)
          have HTS := Lib.hid (there_set2 HQ.out.1 wX.heap.size j (.int .u8 77))
          have HBB := Lib.hid (HQ.out.2.setCell (p := ⟨wX.heap.size, j, none⟩) hgw (.int .u8 77))
          clear HQ HX4
          go_wp2_with fail
          go_roundw
          case rel => exact ⟨j + 1, by omega, by go_num, HTS.out, HBB.out⟩
          case measure => simp [intOf]; omega
        · obtain rfl : j = M := by omega
          have HBe := Lib.hid HQ.out.2
          clear hj hjl HQ HX4
          go_wp2_with fail
          go_ret
          exact ⟨by first | rfl | simp, HBe.out⟩
set_option maxHeartbeats 1000000 in
theorem froms_inz_ok (A : Option Addr) (cap : Nat) (M : Nat) (HM9 : Hid (M ≤ 9000)) (N : Nat) (HOK : Hid (M = N * 1024 ∧ 8 ≤ N ∧ N ≤ 1024)) (w : World)  :
    Calls Try.prog 6 #[.slice A 0 cap, .int .i64 (M : Int)] w fun e w' => e = .returned (.bool true) ∧ Below w.heap.size w w' := by
  obtain ⟨i0, hi, hz0, hz1, hz2⟩ := info_parts info_u8
  have hMn : M ≤ 1000000000000000 := by have := HM9.out; omega
  have HIM := Lib.hid hMn
  have HIC : Hid (M ≤ M) := Nat.le_refl _
  go_enter Try.func6, Try.ntmps6
  generalize hC : (9000 : Int) = C at *
  have HC := Lib.hid hC
  clear hC
  have hnC : decide ((M : Int) ≤ C) = true := by rw [decide_eq_true_iff]; have := HC.out; have := HM9.out; omega
  have hM0 : (0 : Int) ≤ (M : Int) := by omega
  go_wp2_with (first | (go_at_call 9; refine (shown_any _).mono ?_; rintro e w1 ⟨rfl, hb1⟩) | (at_make; go_must (refine wpList_make_full _ rfl _ _ 30 rfl w1.heap.size 5 i0 _ 1 Try.underlying30 hi hz0 hz1 .i64 .i64 (M : Int) (M : Int) M rfl rfl rfl rfl ?m3 ?m4 (by simp) ?_)))
  case m3 => first | omega | (rw [hz2]; omega) | (have := HM9.out; rw [hz2]; omega) | (have := HM9.out; omega)
  case m4 => have := HM9.out; unfold maxLen; first | omega | (rw [hz2]; omega)
  intro w2 hown hgrow
  have hblk := made_block (C := madeCells #[Value.int .u8 0] M) hown (by rw [Nat.mul_one]; exact size_madeCells _ _)
  have hb2 : Below w1.heap.size w1 w2 := (Below.refl w1.heap.size w1).grown hgrow (Nat.le_refl _) (fun _ h => by cases h)
  have hb0 := made_bytes w2 _ _ hblk
  have HX0 : Hid (∃ li : List UInt8, li.length = M ∧ BytesAt w2 w1.heap.size li ∧ Below w.heap.size w w2) := ⟨_, by simp, hb0, hb1.trans (hb2.mono hb1.size)⟩
  have hgw1 := hb1.size
  clear hown hgrow hblk hb2 hb0 hb1 hi
  go_wp2_with fail
  go_loopw [7] (fun i wr => ∃ j : Nat, j ≤ M ∧ i = .int .i64 j ∧ Hid (∃ li : List UInt8, li.length = M ∧ BytesAt wr w1.heap.size li ∧ Below w.heap.size w wr)) (fun i _ => M - (intOf i).toNat)
  case atStart => exact ⟨0, by omega, rfl, HX0.out⟩
  case round =>
    obtain ⟨j, hj, rfl, HX⟩ := hrel
    obtain ⟨li, hli, hbt, hB⟩ := HX.out
    clear HX HX0
    by_cases hjl : j < M
    · have hj2 : (j : Int) < (M : Int) := by omega
      clear hj hjl
      obtain ⟨wX, rfl⟩ : ∃ wX : World, wX = wr := ⟨_, rfl⟩
      have HLI := Lib.hid hli
      have HBS : Hid (Bs wX (some ⟨w1.heap.size, 0, none⟩) li) := fun _ => ⟨_, 0, rfl, hbt.range⟩
      have HBX := Lib.hid hB
      clear hli hbt hB
      have hcv := HBS.out.conv M
      have hcb := conv_bytes_of wX (ofL li)
      rw [ofL_size] at hcb
      rw [HLI.out] at hcv hcb
      have HBW := Lib.hid (bytes_world_below wX (ofL li))
      have HRG := Lib.hid (bytes_world_range wX li)
      have hth0 := bytes_world_there wX li
      rw [HLI.out] at hth0
      have HTH := Lib.hid hth0
      have hsz2 := bytesWorld_size wX 5 (ofL li)
      have HSZ2 := Lib.hid hsz2
      have HBW2 := Lib.hid (HBX.out.trans (HBW.out.mono HBX.out.size))
      have HBS2 := Lib.hid (HBS.out.below HBW.out)
      have HGC := Lib.hid (grownCap_ge wX M 0 5)
      have hosz : (ofL li).size = M := by rw [ofL_size]; exact HLI.out
      clear hsz2 hth0
      go_upto_region 11 with fail
      generalize bytesWorld wX 5 (ofL li) = wY at *
      generalize grownCap wX M 0 5 = cM at *
      clear hcv hcb
      go_upto_region 12 with (first | (go_at_call 21; go_must (refine (from_yes wX.heap.size li N M cM HOK.out.1 (HLI.out.trans HOK.out.1) HOK.out.2.1 HOK.out.2.2 HGC.out wY HRG.out).mono ?_); rintro e w3 ⟨d, s, rfl, D, hb3⟩))
      have HD3 := Lib.hid D
      have HB3 := Lib.hid hb3
      have HBS3 := Lib.hid (HBS2.out.below hb3)
      have HTH3 := Lib.hid ((Touch.of_below hb3 []).there HTH.out (by simp))
      clear D hb3
      go_upto_region 13 with (first | (go_at_call 22; go_must (refine (rfrom_bs HBS3.out N M M HOK.out.1 (HLI.out.trans HOK.out.1) HOK.out.2.1 HOK.out.2.2 HIC.out).mono ?_); rintro e w4 ⟨r, rfl, hb4⟩))
      have HX4 : Hid (w4.there wX.heap.size 0 M ∧ DiskAt w4 wY.heap.size d s (.slice none 0 0) N (fsec li N) [] ∧ Below w.heap.size w w4) := ⟨(Touch.of_below hb4 []).there HTH3.out (by simp), HD3.out.below hb4, (HBW2.out.trans (HB3.out.mono HBW2.out.size)).trans (hb4.mono (Nat.le_trans HBW2.out.size HB3.out.size))⟩
      have hg2 : wX.heap.size ≠ d ∧ wX.heap.size ≠ s := by
        have h1 := HD3.out.bd
        have h2 := HD3.out.bs
        have h3 := HSZ2.out
        omega
      have HG2 := Lib.hid hg2
      clear hb4 hg2 HD3 HB3 HBS3 HTH3
      have hgw : w.heap.size ≤ wX.heap.size := HBX.out.size
      clear HBW HRG HTH HSZ2 HBW2 HBS2 HGC HBS
      go_wp2_with fail
      go_loopw [14] (fun i wq => ∃ j : Nat, j ≤ M ∧ i = .int .i64 j ∧ Hid (wq.there wX.heap.size 0 M ∧ DiskAt wq wY.heap.size d s (.slice none 0 0) N (fsec li N) [] ∧ Below w.heap.size w wq)) (fun i _ => M - (intOf i).toNat)
      case atStart => exact ⟨0, by omega, rfl, HX4.out⟩
      case round =>
        obtain ⟨j, hj, rfl, HQ⟩ := hrel
        by_cases hjl : j < M
        · obtain ⟨⟨u, hcl⟩, hfr⟩ := there_cell2 HQ.out.1 j hjl
          rw [Nat.zero_add] at hcl hfr
          have hj2 : (j : Int) < (M : Int) := by omega
          have hkw : IntKind.i64.wrap ((j : Int) + 1) = (j : Int) + 1 := IntWalk.i64_in _ (by have := HIM.out; omega)
          have HTS := Lib.hid (there_set2 HQ.out.1 wX.heap.size j (.int .u8 77))
          have HDS := Lib.hid (HQ.out.2.1.touch (Touch.set wr ⟨wX.heap.size, j, none⟩ (.int .u8 77)) (by simpa using fun e => HG2.out.1 e.symm) (by simpa using fun e => HG2.out.2 e.symm) (by simp [Value.ownBlock]))
          have HBB := Lib.hid (HQ.out.2.2.setCell (p := ⟨wX.heap.size, j, none⟩) hgw (.int .u8 77))
          clear HQ HX4
          go_wp2_with fail
          go_roundw
          case rel => exact ⟨j + 1, by omega, by go_num, HTS.out, HDS.out, HBB.out⟩
          case measure => simp [intOf]; omega
        · obtain rfl : j = M := by omega
          have HDe := Lib.hid HQ.out.2.1
          have HBe := Lib.hid HQ.out.2.2
          have himg : imgL (fsec li N) N = li := imgL_secL li N (HLI.out.trans HOK.out.1) _ (fun i hi => by unfold fsec; rw [if_pos hi])
          have HIG := Lib.hid himg
          have hq : (j : Int) / 1024 = (N : Int) := by have := HOK.out.1; omega
          clear hj hjl HQ HX4 himg
          go_wp2_with (first | (go_at_call 20; go_must (refine (image_any HDe.out).mono ?_); rintro e w8 ⟨v8, rfl, row8, hb8⟩; have hcv8 := row8.conv; rw [HIG.out] at hcv8; have HD8 := Lib.hid (HDe.out.below hb8)) | (go_at_call 19; go_must (refine (sectors_any HD8.out).mono ?_); rintro e w' ⟨rfl, rfl⟩) | (go_at_call 14; go_must (refine (writes_any HD8.out).mono ?_); rintro e w9 ⟨v9, rfl, ho9, hb9⟩; obtain ⟨q9, c9, rfl⟩ := own_slice ho9))
          go_ret
          exact ⟨by first | rfl | simp, (HBe.out.trans (hb8.mono HBe.out.size)).trans (hb9.mono (Nat.le_trans HBe.out.size hb8.size))⟩
    · have hjM : M = j := by omega
      subst hjM
      clear hj hjl
      obtain ⟨wX, rfl⟩ : ∃ wX : World, wX = wr := ⟨_, rfl⟩
      have HLI := Lib.hid hli
      have HBS : Hid (Bs wX (some ⟨w1.heap.size, 0, none⟩) li) := fun _ => ⟨_, 0, rfl, hbt.range⟩
      have HBX := Lib.hid hB
      clear hli hbt hB
      have hcv := HBS.out.conv M
      have hcb := conv_bytes_of wX (ofL li)
      rw [ofL_size] at hcb
      rw [HLI.out] at hcv hcb
      have HBW := Lib.hid (bytes_world_below wX (ofL li))
      have HRG := Lib.hid (bytes_world_range wX li)
      have hth0 := bytes_world_there wX li
      rw [HLI.out] at hth0
      have HTH := Lib.hid hth0
      have hsz2 := bytesWorld_size wX 5 (ofL li)
      have HSZ2 := Lib.hid hsz2
      have HBW2 := Lib.hid (HBX.out.trans (HBW.out.mono HBX.out.size))
      have HBS2 := Lib.hid (HBS.out.below HBW.out)
      have HGC := Lib.hid (grownCap_ge wX M 0 5)
      have hosz : (ofL li).size = M := by rw [ofL_size]; exact HLI.out
      clear hsz2 hth0
      go_upto_region 11 with fail
      generalize bytesWorld wX 5 (ofL li) = wY at *
      generalize grownCap wX M 0 5 = cM at *
      clear hcv hcb
      go_upto_region 12 with (first | (go_at_call 21; go_must (refine (from_yes wX.heap.size li N M cM HOK.out.1 (HLI.out.trans HOK.out.1) HOK.out.2.1 HOK.out.2.2 HGC.out wY HRG.out).mono ?_); rintro e w3 ⟨d, s, rfl, D, hb3⟩))
      have HD3 := Lib.hid D
      have HB3 := Lib.hid hb3
      have HBS3 := Lib.hid (HBS2.out.below hb3)
      have HTH3 := Lib.hid ((Touch.of_below hb3 []).there HTH.out (by simp))
      clear D hb3
      go_upto_region 13 with (first | (go_at_call 22; go_must (refine (rfrom_bs HBS3.out N M M HOK.out.1 (HLI.out.trans HOK.out.1) HOK.out.2.1 HOK.out.2.2 HIC.out).mono ?_); rintro e w4 ⟨r, rfl, hb4⟩))
      have HX4 : Hid (w4.there wX.heap.size 0 M ∧ DiskAt w4 wY.heap.size d s (.slice none 0 0) N (fsec li N) [] ∧ Below w.heap.size w w4) := ⟨(Touch.of_below hb4 []).there HTH3.out (by simp), HD3.out.below hb4, (HBW2.out.trans (HB3.out.mono HBW2.out.size)).trans (hb4.mono (Nat.le_trans HBW2.out.size HB3.out.size))⟩
      have hg2 : wX.heap.size ≠ d ∧ wX.heap.size ≠ s := by
        have h1 := HD3.out.bd
        have h2 := HD3.out.bs
        have h3 := HSZ2.out
        omega
      have HG2 := Lib.hid hg2
      clear hb4 hg2 HD3 HB3 HBS3 HTH3
      have hgw : w.heap.size ≤ wX.heap.size := HBX.out.size
      clear HBW HRG HTH HSZ2 HBW2 HBS2 HGC HBS
      go_wp2_with fail
      go_loopw [14] (fun i wq => ∃ j : Nat, j ≤ M ∧ i = .int .i64 j ∧ Hid (wq.there wX.heap.size 0 M ∧ DiskAt wq wY.heap.size d s (.slice none 0 0) N (fsec li N) [] ∧ Below w.heap.size w wq)) (fun i _ => M - (intOf i).toNat)
      case atStart => exact ⟨0, by omega, rfl, HX4.out⟩
      case round =>
        obtain ⟨j, hj, rfl, HQ⟩ := hrel
        by_cases hjl : j < M
        · obtain ⟨⟨u, hcl⟩, hfr⟩ := there_cell2 HQ.out.1 j hjl
          rw [Nat.zero_add] at hcl hfr
          have hj2 : (j : Int) < (M : Int) := by omega
          have hkw : IntKind.i64.wrap ((j : Int) + 1) = (j : Int) + 1 := IntWalk.i64_in _ (by have := HIM.out; omega)
          have HTS := Lib.hid (there_set2 HQ.out.1 wX.heap.size j (.int .u8 77))
          have HDS := Lib.hid (HQ.out.2.1.touch (Touch.set wr ⟨wX.heap.size, j, none⟩ (.int .u8 77)) (by simpa using fun e => HG2.out.1 e.symm) (by simpa using fun e => HG2.out.2 e.symm) (by simp [Value.ownBlock]))
          have HBB := Lib.hid (HQ.out.2.2.setCell (p := ⟨wX.heap.size, j, none⟩) hgw (.int .u8 77))
          clear HQ HX4
          go_wp2_with fail
          go_roundw
          case rel => exact ⟨j + 1, by omega, by go_num, HTS.out, HDS.out, HBB.out⟩
          case measure => simp [intOf]; omega
        · obtain rfl : j = M := by omega
          have HDe := Lib.hid HQ.out.2.1
          have HBe := Lib.hid HQ.out.2.2
          have himg : imgL (fsec li N) N = li := imgL_secL li N (HLI.out.trans HOK.out.1) _ (fun i hi => by unfold fsec; rw [if_pos hi])
          have HIG := Lib.hid himg
          have hq : (j : Int) / 1024 = (N : Int) := by have := HOK.out.1; omega
          clear hj hjl HQ HX4 himg
          go_wp2_with (first | (go_at_call 20; go_must (refine (image_any HDe.out).mono ?_); rintro e w8 ⟨v8, rfl, row8, hb8⟩; have hcv8 := row8.conv; rw [HIG.out] at hcv8; have HD8 := Lib.hid (HDe.out.below hb8)) | (go_at_call 19; go_must (refine (sectors_any HD8.out).mono ?_); rintro e w' ⟨rfl, rfl⟩) | (go_at_call 14; go_must (refine (writes_any HD8.out).mono ?_); rintro e w9 ⟨v9, rfl, ho9, hb9⟩; obtain ⟨q9, c9, rfl⟩ := own_slice ho9))
          go_ret
          exact ⟨by first | rfl | simp, (HBe.out.trans (hb8.mono HBe.out.size)).trans (hb9.mono (Nat.le_trans HBe.out.size hb8.size))⟩
set_option maxHeartbeats 1000000 in
theorem froms_inz_no (A : Option Addr) (cap : Nat) (M : Nat) (HM9 : Hid (M ≤ 9000)) (HNO : Hid (¬ ((8 ≤ M / 1024 ∧ M / 1024 ≤ 1024) ∧ M % 1024 = 0))) (w : World)  :
    Calls Try.prog 6 #[.slice A 0 cap, .int .i64 (M : Int)] w fun e w' => e = .returned (.bool true) ∧ Below w.heap.size w w' := by
  obtain ⟨i0, hi, hz0, hz1, hz2⟩ := info_parts info_u8
  have hMn : M ≤ 1000000000000000 := by have := HM9.out; omega
  have HIM := Lib.hid hMn
  have HIC : Hid (M ≤ M) := Nat.le_refl _
  go_enter Try.func6, Try.ntmps6
  generalize hC : (9000 : Int) = C at *
  have HC := Lib.hid hC
  clear hC
  have hnC : decide ((M : Int) ≤ C) = true := by rw [decide_eq_true_iff]; have := HC.out; have := HM9.out; omega
  have hM0 : (0 : Int) ≤ (M : Int) := by omega
  go_wp2_with (first | (go_at_call 9; refine (shown_any _).mono ?_; rintro e w1 ⟨rfl, hb1⟩) | (at_make; go_must (refine wpList_make_full _ rfl _ _ 30 rfl w1.heap.size 5 i0 _ 1 Try.underlying30 hi hz0 hz1 .i64 .i64 (M : Int) (M : Int) M rfl rfl rfl rfl ?m3 ?m4 (by simp) ?_)))
  case m3 => first | omega | (rw [hz2]; omega) | (have := HM9.out; rw [hz2]; omega) | (have := HM9.out; omega)
  case m4 => have := HM9.out; unfold maxLen; first | omega | (rw [hz2]; omega)
  intro w2 hown hgrow
  have hblk := made_block (C := madeCells #[Value.int .u8 0] M) hown (by rw [Nat.mul_one]; exact size_madeCells _ _)
  have hb2 : Below w1.heap.size w1 w2 := (Below.refl w1.heap.size w1).grown hgrow (Nat.le_refl _) (fun _ h => by cases h)
  have hb0 := made_bytes w2 _ _ hblk
  have HX0 : Hid (∃ li : List UInt8, li.length = M ∧ BytesAt w2 w1.heap.size li ∧ Below w.heap.size w w2) := ⟨_, by simp, hb0, hb1.trans (hb2.mono hb1.size)⟩
  have hgw1 := hb1.size
  clear hown hgrow hblk hb2 hb0 hb1 hi
  go_wp2_with fail
  go_loopw [7] (fun i wr => ∃ j : Nat, j ≤ M ∧ i = .int .i64 j ∧ Hid (∃ li : List UInt8, li.length = M ∧ BytesAt wr w1.heap.size li ∧ Below w.heap.size w wr)) (fun i _ => M - (intOf i).toNat)
  case atStart => exact ⟨0, by omega, rfl, HX0.out⟩
  case round =>
    obtain ⟨j, hj, rfl, HX⟩ := hrel
    obtain ⟨li, hli, hbt, hB⟩ := HX.out
    clear HX HX0
    by_cases hjl : j < M
    · have hj2 : (j : Int) < (M : Int) := by omega
      clear hj hjl
      obtain ⟨wX, rfl⟩ : ∃ wX : World, wX = wr := ⟨_, rfl⟩
      have HLI := Lib.hid hli
      have HBS : Hid (Bs wX (some ⟨w1.heap.size, 0, none⟩) li) := fun _ => ⟨_, 0, rfl, hbt.range⟩
      have HBX := Lib.hid hB
      clear hli hbt hB
      have hcv := HBS.out.conv M
      have hcb := conv_bytes_of wX (ofL li)
      rw [ofL_size] at hcb
      rw [HLI.out] at hcv hcb
      have HBW := Lib.hid (bytes_world_below wX (ofL li))
      have HRG := Lib.hid (bytes_world_range wX li)
      have hth0 := bytes_world_there wX li
      rw [HLI.out] at hth0
      have HTH := Lib.hid hth0
      have hsz2 := bytesWorld_size wX 5 (ofL li)
      have HSZ2 := Lib.hid hsz2
      have HBW2 := Lib.hid (HBX.out.trans (HBW.out.mono HBX.out.size))
      have HBS2 := Lib.hid (HBS.out.below HBW.out)
      have HGC := Lib.hid (grownCap_ge wX M 0 5)
      have hosz : (ofL li).size = M := by rw [ofL_size]; exact HLI.out
      clear hsz2 hth0
      go_upto_region 11 with fail
      generalize bytesWorld wX 5 (ofL li) = wY at *
      generalize grownCap wX M 0 5 = cM at *
      clear hcv hcb
      go_upto_region 13 with (first | (go_at_call 21; go_must (refine (from_no (some ⟨wX.heap.size, 0, none⟩) M cM HIM.out HNO.out wY).mono ?_); rintro e w3 ⟨rfl, hb3⟩) | (go_at_call 22; go_must (refine (rfrom_no (some ⟨w1.heap.size, 0, none⟩) M M HIM.out HNO.out _).mono ?_); rintro e w4 ⟨rfl, rfl⟩))
      have HX4 : Hid (w3.there wX.heap.size 0 M ∧ Below w.heap.size w w3) := ⟨(Touch.of_below hb3 []).there HTH.out (by simp), HBW2.out.trans (hb3.mono HBW2.out.size)⟩
      clear hb3
      have hgw : w.heap.size ≤ wX.heap.size := HBX.out.size
      clear HBW HRG HTH HSZ2 HBW2 HBS2 HGC HBS
      go_wp2_with fail
      go_loopw [14] (fun i wq => ∃ j : Nat, j ≤ M ∧ i = .int .i64 j ∧ Hid (wq.there wX.heap.size 0 M ∧ Below w.heap.size w wq)) (fun i _ => M - (intOf i).toNat)
      case atStart => exact ⟨0, by omega, rfl, HX4.out⟩
      case round =>
        obtain ⟨j, hj, rfl, HQ⟩ := hrel
        by_cases hjl : j < M
        · obtain ⟨⟨u, hcl⟩, hfr⟩ := there_cell2 HQ.out.1 j hjl
          rw [Nat.zero_add] at hcl hfr
          have hj2 : (j : Int) < (M : Int) := by omega
          have hkw : IntKind.i64.wrap ((j : Int) + 1) = (j : Int) + 1 := IntWalk.i64_in _ (by have := HIM.out; omega)
          have HTS := Lib.hid (there_set2 HQ.out.1 wX.heap.size j (.int .u8 77))
          have HBB := Lib.hid (HQ.out.2.setCell (p := ⟨wX.heap.size, j, none⟩) hgw (.int .u8 77))
          clear HQ HX4
          go_wp2_with fail
          go_roundw
          case rel => exact ⟨j + 1, by omega, by go_num, HTS.out, HBB.out⟩
          case measure => simp [intOf]; omega
        · obtain rfl : j = M := by omega
          have HBe := Lib.hid HQ.out.2
          clear hj hjl HQ HX4
          go_wp2_with fail
          go_ret
          exact ⟨by first | rfl | simp, HBe.out⟩
    · have hjM : M = j := by omega
      subst hjM
      clear hj hjl
      obtain ⟨wX, rfl⟩ : ∃ wX : World, wX = wr := ⟨_, rfl⟩
      have HLI := Lib.hid hli
      have HBS : Hid (Bs wX (some ⟨w1.heap.size, 0, none⟩) li) := fun _ => ⟨_, 0, rfl, hbt.range⟩
      have HBX := Lib.hid hB
      clear hli hbt hB
      have hcv := HBS.out.conv M
      have hcb := conv_bytes_of wX (ofL li)
      rw [ofL_size] at hcb
      rw [HLI.out] at hcv hcb
      have HBW := Lib.hid (bytes_world_below wX (ofL li))
      have HRG := Lib.hid (bytes_world_range wX li)
      have hth0 := bytes_world_there wX li
      rw [HLI.out] at hth0
      have HTH := Lib.hid hth0
      have hsz2 := bytesWorld_size wX 5 (ofL li)
      have HSZ2 := Lib.hid hsz2
      have HBW2 := Lib.hid (HBX.out.trans (HBW.out.mono HBX.out.size))
      have HBS2 := Lib.hid (HBS.out.below HBW.out)
      have HGC := Lib.hid (grownCap_ge wX M 0 5)
      have hosz : (ofL li).size = M := by rw [ofL_size]; exact HLI.out
      clear hsz2 hth0
      go_upto_region 11 with fail
      generalize bytesWorld wX 5 (ofL li) = wY at *
      generalize grownCap wX M 0 5 = cM at *
      clear hcv hcb
      go_upto_region 13 with (first | (go_at_call 21; go_must (refine (from_no (some ⟨wX.heap.size, 0, none⟩) M cM HIM.out HNO.out wY).mono ?_); rintro e w3 ⟨rfl, hb3⟩) | (go_at_call 22; go_must (refine (rfrom_no (some ⟨w1.heap.size, 0, none⟩) M M HIM.out HNO.out _).mono ?_); rintro e w4 ⟨rfl, rfl⟩))
      have HX4 : Hid (w3.there wX.heap.size 0 M ∧ Below w.heap.size w w3) := ⟨(Touch.of_below hb3 []).there HTH.out (by simp), HBW2.out.trans (hb3.mono HBW2.out.size)⟩
      clear hb3
      have hgw : w.heap.size ≤ wX.heap.size := HBX.out.size
      clear HBW HRG HTH HSZ2 HBW2 HBS2 HGC HBS
      go_wp2_with fail
      go_loopw [14] (fun i wq => ∃ j : Nat, j ≤ M ∧ i = .int .i64 j ∧ Hid (wq.there wX.heap.size 0 M ∧ Below w.heap.size w wq)) (fun i _ => M - (intOf i).toNat)
      case atStart => exact ⟨0, by omega, rfl, HX4.out⟩
      case round =>
        obtain ⟨j, hj, rfl, HQ⟩ := hrel
        by_cases hjl : j < M
        · obtain ⟨⟨u, hcl⟩, hfr⟩ := there_cell2 HQ.out.1 j hjl
          rw [Nat.zero_add] at hcl hfr
          have hj2 : (j : Int) < (M : Int) := by omega
          have hkw : IntKind.i64.wrap ((j : Int) + 1) = (j : Int) + 1 := IntWalk.i64_in _ (by have := HIM.out; omega)
          have HTS := Lib.hid (there_set2 HQ.out.1 wX.heap.size j (.int .u8 77))
          have HBB := Lib.hid (HQ.out.2.setCell (p := ⟨wX.heap.size, j, none⟩) hgw (.int .u8 77))
          clear HQ HX4
          go_wp2_with fail
          go_roundw
          case rel => exact ⟨j + 1, by omega, by go_num, HTS.out, HBB.out⟩
          case measure => simp [intOf]; omega
        · obtain rfl : j = M := by omega
          have HBe := Lib.hid HQ.out.2
          clear hj hjl HQ HX4
          go_wp2_with fail
          go_ret
          exact ⟨by first | rfl | simp, HBe.out⟩
def diskFromsAts : List Gen.AT := [.one (.slice 1 [.int .u8]), .one (.int .i64)]
theorem diskFroms_args (W : World) (vs : List Value) (h : Gen.ArgsGood W diskFromsAts vs) :
    Calls Try.prog 6 vs.toArray W fun e W' => e = .returned (.bool true) ∧ Below W.heap.size W W' := by
  match vs, h with
  | [v0, v1], h =>
    obtain ⟨h0, h1, _⟩ := h
    obtain ⟨A, len, cap, V, rfl, hl, hm, hb, hr⟩ := h0.slice_inv
    obtain ⟨n, rfl, wn⟩ := h1.int_inv
    have hlen : len ≤ 1000000000000000 := by unfold maxLen at hm; unfold reachBytes at hb; omega
    obtain ⟨f, hf1, hf2, _⟩ := Gen.rows_int hr
    obtain ⟨lb, hlb, hlf⟩ := list_of f len (fun i hi => hf2 i (by omega))
    have hrange : 0 < len → ∃ b off, A = some ⟨b, off, none⟩ ∧ W.rangeAt b off (strCells (ofL lb)) := fun h0 => by
      obtain ⟨b, off, hA, _, hc⟩ := hf1 (by omega)
      refine ⟨b, off, hA, fun j v hj => ?_⟩
      have hjl : j < lb.length := by have := (List.getElem?_eq_some_iff.1 hj).1; rw [strCells_length, ofL_size] at this; exact this
      rw [strCells_ofL, List.getElem?_map, List.getElem?_eq_getElem hjl] at hj
      simp only [Option.map_some, Option.some.injEq] at hj
      rw [hc j (by omega), ← hj, hlf j hjl]
    have hbs : Bs W A lb := fun h0 => hrange (by omega)
    have key : ∀ M : Nat, (∃ N, M = N * 1024 ∧ 8 ≤ N ∧ N ≤ 1024) ∨ ¬ ((8 ≤ M / 1024 ∧ M / 1024 ≤ 1024) ∧ M % 1024 = 0) := fun M => by
      by_cases h : (8 ≤ M / 1024 ∧ M / 1024 ≤ 1024) ∧ M % 1024 = 0
      · exact .inl ⟨M / 1024, by omega, h.1.1, h.1.2⟩
      · exact .inr h
    by_cases n0 : 0 ≤ n
    · by_cases n9 : n ≤ 9000
      · obtain ⟨M, rfl⟩ := Int.eq_ofNat_of_zero_le n0
        have hM9 : M ≤ 9000 := by omega
        by_cases hp : 0 < len
        · obtain ⟨b, off, rfl, hrg⟩ := hrange hp
          rcases key M with ⟨N, hN⟩ | hno
          · exact froms_inp_ok b off len cap lb hlb hp hlen M hM9 N hN W hrg
          · exact froms_inp_no b off len cap lb hlb hp hlen M hM9 hno W hrg
        · obtain rfl : len = 0 := by omega
          rcases key M with ⟨N, hN⟩ | hno
          · exact froms_inz_ok A cap M hM9 N hN W
          · exact froms_inz_no A cap M hM9 hno W
      · rcases key len with ⟨N, hN⟩ | hno
        · exact froms_big_ok A len cap lb hlb hl hlen n n0 (by show _ < _; omega) N hN W hbs
        · exact froms_big_no A len cap lb hlb hl hlen n n0 (by show _ < _; omega) hno W hbs
    · rcases key len with ⟨N, hN⟩ | hno
      · exact froms_neg_ok A len cap lb hlb hl hlen n (by omega) N hN W hbs
      · exact froms_neg_no A len cap lb hlb hl hlen n (by omega) hno W hbs
end Go.Proofs.Ytegiabnlmngkmaa
