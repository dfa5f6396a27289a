/- The walk of WordBytes. -/
import Derived.Test.YtefaennifhmadaaWordF
import Derived.Test.YtefaennifhmadaaGen
import Derived.Laws.CopyOwn
namespace Go.Proofs.Ytefaennifhmadaa
open Go.RowKit Pl
set_option linter.unusedVariables false

set_option maxHeartbeats 1000000 in
theorem bytes_yes (A : Option Addr) (n c : Nat) (f : Nat → Int) (m : Nat) (x : Int) (w : World) (hcap : n ≤ c) (hreach : n ≤ 140737488351232) (hf : ∀ i, 0 ≤ f i ∧ f i ≤ 255) (hr : RdI .u8 w A n f) (hm : m + 4 ≤ n) (hx : 0 ≤ x) (hx' : x < 4294967296) (hok : getOk n (m : Int) = true) :
    Calls Try.prog 7 #[.slice A n c, .int .i64 m, .int .u32 x] w fun e w' => e = .returned (.bool true) ∧ Below w.heap.size w w' := by
  obtain ⟨i0, hi, hz0, hz1, hz2⟩ := info_parts info_u8
  have hn : n ≤ 9223372036854775807 := by omega
  have HF := Lib.hid hf; clear hf
  have HR := Lib.hid hr; clear hr
  go_enter Try.func7, Try.ntmps7
  go_wp2_with (first | (go_at_call 10; refine (shown_any _).mono ?_; rintro e w' ⟨rfl, rfl⟩) | (go_at_call 29; refine (get_any A n c f m _ hn hcap HF.out HR.out).mono ?_; rintro e w' ⟨rfl, rfl⟩) | (go_at_call 30; refine (rget_any A n c f m _ hn HF.out HR.out).mono ?_; rintro e w' ⟨rfl, rfl⟩) | (at_make; refine wpList_make_full _ rfl _ _ 22 rfl w.heap.size 5 i0 (.int .u8 0) 1 Try.underlying22 hi hz0 hz1 .i64 .i64 ((n : Int) + 8) ((n : Int) + 8) (n + 8) rfl rfl ?m1 ?m2 ?m3 ?m4 (Nat.le_refl _) ?_))
  case m1 => omega
  case m2 => omega
  case m3 => rw [hz2]; omega
  case m4 => unfold maxLen; omega
  intro w1 hown hgrow
  have hg := made_own hown
  have hb1 := (Below.refl w.heap.size w).grown hgrow (Nat.le_refl _) (fun _ h => by cases h)
  have hlt1 : w.heap.size < w1.heap.size := by
    rcases Nat.lt_or_ge w.heap.size w1.heap.size with h | h
    · exact h
    · rw [Array.getElem?_eq_none h] at hg; cases hg
  clear hown hgrow
  have HG := Lib.hid hg; clear hg
  have HB := Lib.hid hb1; clear hb1
  have hsz1 : (Try.prog.info? 5).map (·.size) = some 1 := by kernel_rfl
  go_wp2_with (refine wpList_copy_splice rfl (.tmp 34) (.tmp 35) 22 22 rfl 5 Try.underlying22 hsz1 (some ⟨w.heap.size, 0, none⟩) A (n + 8) (n + 8) n c rfl rfl w.heap.size 0 _ 5 HG.out ((List.range n).map fun i => Value.int .u8 (f i)) ?k1 ?k2 ?k3 ?k4 w.heap.size w HB.out (Nat.le_refl _) ?_)
  case k1 => simp
  case k2 =>
    intro hpos
    obtain ⟨b, off, hA, hlt, hc⟩ := HR.out (by simpa using hpos)
    refine ⟨⟨b, off, none⟩, hA, fun j v hj => ?_⟩
    have hjn : j < n := by
      rcases Nat.lt_or_ge j n with h | h
      · exact h
      · rw [List.getElem?_eq_none (by simpa using h)] at hj; cases hj
    rw [Addr.add_mid]
    rw [HB.out.cell (p := ⟨b, off + j, none⟩) hlt, hc j hjn]
    have e : j = v := by simpa [hjn] using hj
    rw [e]
  case k3 => simp [size_madeCells]
  case k4 => intro v hv; simp at hv; obtain ⟨i, _, rfl⟩ := hv; rfl
  intro w2 hw2 hb2
  have hO : OwnI .u8 w2 w.heap.size (n + 8) 5 (padded f n) := splice_padded hw2.out (by simp [size_madeCells]) (fun i hi => by
    have := made_u8 (n + 8) i hi
    simpa [Value.cells] using this)
  clear hw2
  have HO := Lib.hid hO; clear hO
  have HB2 := Lib.hid hb2; clear hb2
  clear HG HB hlt1
  go_wp2_with fail
  refine (put_any w.heap.size 0 n (n + 8) (n + 8) 5 _ m x _ hn hx hx' HO.out (by omega)).mono ?_
  rintro e w3 ⟨rfl, hw3⟩
  have hO3 := putW_own (off := 0) (n := n) HO.out (m : Int) x hx hx'
  have hb3 := putW_below (w := w2) (B := w.heap.size) (g := w.heap.size) (off := 0) (n := n) (Nat.le_refl _) (m : Int) x
  rw [hw3] at hO3 hb3
  clear hw3
  have hb3' := HB2.out.trans hb3
  clear hb3 HB2 HO
  have HO3 := Lib.hid hO3; clear hO3
  have HB3 := Lib.hid hb3'; clear hb3'
  go_wp2_with fail
  refine (word_any x hx hx' _).mono ?_
  rintro e w4 ⟨g4, cap4, rfl, hg4, hc4, hrd4, hb4⟩
  have hlt4 : w.heap.size < w3.heap.size := HO3.out.lt
  have HO4 := Lib.hid (HO3.out.below hb4 hlt4)
  have HB4 := Lib.hid (HB3.out.trans (hb4.mono (Nat.le_of_lt hlt4)))
  have HR4 := Lib.hid hrd4
  clear hb4 hrd4 HO3 HB3
  go_wp2_with fail
  go_loop [15] (fun i => ∃ j : Nat, j ≤ n + 8 ∧ i = .int .i64 j) (fun i => n + 8 - (intOf i).toNat)
  case atStart => exact ⟨0, by omega, rfl⟩
  case round =>
    obtain ⟨j, hj, rfl⟩ := hrel
    by_cases hlt : j < n + 8
    · have hcl := HO4.out.cell hlt
      have hcb : j < n → ∃ b off, A = some ⟨b, off, none⟩ ∧ w4.cell? ⟨b, off + j, none⟩ = some (.int .u8 (f j)) := fun hjn => by
        obtain ⟨b, off, hA, hlt, hc⟩ := HR.out (by omega)
        exact ⟨b, off, hA, (HB4.out.cell (p := ⟨b, off + j, none⟩) hlt).trans (hc j hjn)⟩
      have hc4 : m ≤ j → j < m + 4 → w4.cell? ⟨g4, j - m, none⟩ = some (.int .u8 (wbyte x (j - m))) := fun h1 h2 => by
        obtain ⟨b, off, hA, _, hc⟩ := HR4.out (by omega)
        injection hA with hA; injection hA with hA1 hA2
        subst hA1 hA2
        have := hc (j - m) (by omega)
        rw [Nat.zero_add] at this
        exact this
      have HCL := Lib.hid hcl; clear hcl
      have HCB := Lib.hid hcb; clear hcb
      have HC4 := Lib.hid hc4; clear hc4
      by_cases h1 : j < n
      · obtain ⟨b, off, rfl, hb⟩ := HCB.out h1
        by_cases h2 : m ≤ j
        · by_cases h3 : j < m + 4
          · have hc4 := HC4.out h2 h3
            have hcl := HCL.out
            rw [if_pos ⟨hok, by simp; omega, by simp; omega⟩] at hcl
            simp only [Int.toNat_natCast, Nat.zero_add] at hcl
            go_wp2_with fail
            go_round
            case rel => exact ⟨j + 1, by omega, by go_num⟩
            case measure => simp [intOf]; omega
          · have hcl := HCL.out
            rw [if_neg (by simp; omega)] at hcl
            unfold padded at hcl; rw [if_pos h1] at hcl
            have h4 : ¬ (j : Int) - m < 4 := by omega
            go_wp2_with fail
            go_round
            case rel => exact ⟨j + 1, by omega, by go_num⟩
            case measure => simp [intOf]; omega
        · have hcl := HCL.out
          rw [if_neg (by simp; omega)] at hcl
          unfold padded at hcl; rw [if_pos h1] at hcl
          go_wp2_with fail
          go_round
          case rel => exact ⟨j + 1, by omega, by go_num⟩
          case measure => simp [intOf]; omega
      · have hcl := HCL.out
        rw [if_neg (by simp; omega)] at hcl
        unfold padded at hcl; rw [if_neg h1] at hcl
        have h4 : ¬ (j : Int) - m < 4 := by omega
        go_wp2_with fail
        go_round
        case rel => exact ⟨j + 1, by omega, by go_num⟩
        case measure => simp [intOf]; omega
    · obtain rfl : j = n + 8 := by omega
      go_wp2_with fail
      go_ret
      exact ⟨rfl, HB4.out⟩
set_option maxHeartbeats 1000000 in
theorem bytes_no (A : Option Addr) (n c : Nat) (f : Nat → Int) (k x : Int) (w : World) (hcap : n ≤ c) (hreach : n ≤ 140737488351232) (hf : ∀ i, 0 ≤ f i ∧ f i ≤ 255) (hr : RdI .u8 w A n f) (hk : -9223372036854775808 ≤ k ∧ k ≤ 9223372036854775807) (hx : 0 ≤ x) (hx' : x < 4294967296) (hok : getOk n k = false) :
    Calls Try.prog 7 #[.slice A n c, .int .i64 k, .int .u32 x] w fun e w' => e = .returned (.bool true) ∧ Below w.heap.size w w' := by
  obtain ⟨i0, hi, hz0, hz1, hz2⟩ := info_parts info_u8
  have hn : n ≤ 9223372036854775807 := by omega
  have HF := Lib.hid hf; clear hf
  have HR := Lib.hid hr; clear hr
  go_enter Try.func7, Try.ntmps7
  go_wp2_with (first | (go_at_call 10; refine (shown_any _).mono ?_; rintro e w' ⟨rfl, rfl⟩) | (go_at_call 29; refine (get_any A n c f k _ hn hcap HF.out HR.out).mono ?_; rintro e w' ⟨rfl, rfl⟩) | (go_at_call 30; refine (rget_any A n c f k _ hn HF.out HR.out).mono ?_; rintro e w' ⟨rfl, rfl⟩) | (at_make; refine wpList_make_full _ rfl _ _ 22 rfl w.heap.size 5 i0 (.int .u8 0) 1 Try.underlying22 hi hz0 hz1 .i64 .i64 ((n : Int) + 8) ((n : Int) + 8) (n + 8) rfl rfl ?m1 ?m2 ?m3 ?m4 (Nat.le_refl _) ?_))
  case m1 => omega
  case m2 => omega
  case m3 => rw [hz2]; omega
  case m4 => unfold maxLen; omega
  intro w1 hown hgrow
  have hg := made_own hown
  have hb1 := (Below.refl w.heap.size w).grown hgrow (Nat.le_refl _) (fun _ h => by cases h)
  have hlt1 : w.heap.size < w1.heap.size := by
    rcases Nat.lt_or_ge w.heap.size w1.heap.size with h | h
    · exact h
    · rw [Array.getElem?_eq_none h] at hg; cases hg
  clear hown hgrow
  have HG := Lib.hid hg; clear hg
  have HB := Lib.hid hb1; clear hb1
  have hsz1 : (Try.prog.info? 5).map (·.size) = some 1 := by kernel_rfl
  go_wp2_with (refine wpList_copy_splice rfl (.tmp 34) (.tmp 35) 22 22 rfl 5 Try.underlying22 hsz1 (some ⟨w.heap.size, 0, none⟩) A (n + 8) (n + 8) n c rfl rfl w.heap.size 0 _ 5 HG.out ((List.range n).map fun i => Value.int .u8 (f i)) ?k1 ?k2 ?k3 ?k4 w.heap.size w HB.out (Nat.le_refl _) ?_)
  case k1 => simp
  case k2 =>
    intro hpos
    obtain ⟨b, off, hA, hlt, hc⟩ := HR.out (by simpa using hpos)
    refine ⟨⟨b, off, none⟩, hA, fun j v hj => ?_⟩
    have hjn : j < n := by
      rcases Nat.lt_or_ge j n with h | h
      · exact h
      · rw [List.getElem?_eq_none (by simpa using h)] at hj; cases hj
    rw [Addr.add_mid]
    rw [HB.out.cell (p := ⟨b, off + j, none⟩) hlt, hc j hjn]
    have e : j = v := by simpa [hjn] using hj
    rw [e]
  case k3 => simp [size_madeCells]
  case k4 => intro v hv; simp at hv; obtain ⟨i, _, rfl⟩ := hv; rfl
  intro w2 hw2 hb2
  have hO : OwnI .u8 w2 w.heap.size (n + 8) 5 (padded f n) := splice_padded hw2.out (by simp [size_madeCells]) (fun i hi => by
    have := made_u8 (n + 8) i hi
    simpa [Value.cells] using this)
  clear hw2
  have HO := Lib.hid hO; clear hO
  have HB2 := Lib.hid hb2; clear hb2
  clear HG HB hlt1
  go_wp2_with fail
  refine (put_any w.heap.size 0 n (n + 8) (n + 8) 5 _ k x _ hn hx hx' HO.out (by omega)).mono ?_
  rintro e w3 ⟨rfl, hw3⟩
  have hO3 := putW_own (off := 0) (n := n) HO.out k x hx hx'
  have hb3 := putW_below (w := w2) (B := w.heap.size) (g := w.heap.size) (off := 0) (n := n) (Nat.le_refl _) k x
  rw [hw3] at hO3 hb3
  clear hw3
  have hb3' := HB2.out.trans hb3
  clear hb3 HB2 HO
  have HO3 := Lib.hid hO3; clear hO3
  have HB3 := Lib.hid hb3'; clear hb3'
  go_wp2_with fail
  refine (word_any x hx hx' _).mono ?_
  rintro e w4 ⟨g4, cap4, rfl, hg4, hc4, hrd4, hb4⟩
  have hlt4 : w.heap.size < w3.heap.size := HO3.out.lt
  have HO4 := Lib.hid (HO3.out.below hb4 hlt4)
  have HB4 := Lib.hid (HB3.out.trans (hb4.mono (Nat.le_of_lt hlt4)))
  have HR4 := Lib.hid hrd4
  clear hb4 hrd4 HO3 HB3
  go_wp2_with fail
  go_loop [15] (fun i => ∃ j : Nat, j ≤ n + 8 ∧ i = .int .i64 j) (fun i => n + 8 - (intOf i).toNat)
  case atStart => exact ⟨0, by omega, rfl⟩
  case round =>
    obtain ⟨j, hj, rfl⟩ := hrel
    by_cases hlt : j < n + 8
    · have hcl := HO4.out.cell hlt
      have hcb : j < n → ∃ b off, A = some ⟨b, off, none⟩ ∧ w4.cell? ⟨b, off + j, none⟩ = some (.int .u8 (f j)) := fun hjn => by
        obtain ⟨b, off, hA, hlt, hc⟩ := HR.out (by omega)
        exact ⟨b, off, hA, (HB4.out.cell (p := ⟨b, off + j, none⟩) hlt).trans (hc j hjn)⟩
      rw [if_neg (by rw [hok]; simp)] at hcl
      have HCL := Lib.hid hcl; clear hcl
      have HCB := Lib.hid hcb; clear hcb
      by_cases h1 : j < n
      · obtain ⟨b, off, rfl, hb⟩ := HCB.out h1
        have hcl := HCL.out
        unfold padded at hcl; rw [if_pos h1] at hcl
        go_wp2_with fail
        go_round
        case rel => exact ⟨j + 1, by omega, by go_num⟩
        case measure => simp [intOf]; omega
      · have hcl := HCL.out
        unfold padded at hcl; rw [if_neg h1] at hcl
        go_wp2_with fail
        go_round
        case rel => exact ⟨j + 1, by omega, by go_num⟩
        case measure => simp [intOf]; omega
    · obtain rfl : j = n + 8 := by omega
      go_wp2_with fail
      go_ret
      exact ⟨rfl, HB4.out⟩
theorem bytes_any (A : Option Addr) (n c : Nat) (f : Nat → Int) (k x : Int) (w : World) (hcap : n ≤ c) (hreach : n ≤ 140737488351232) (hf : ∀ i, 0 ≤ f i ∧ f i ≤ 255) (hr : RdI .u8 w A n f) (hk : -9223372036854775808 ≤ k ∧ k ≤ 9223372036854775807) (hx : 0 ≤ x) (hx' : x < 4294967296) :
    Calls Try.prog 7 #[.slice A n c, .int .i64 k, .int .u32 x] w fun e w' => e = .returned (.bool true) ∧ Below w.heap.size w w' := by
  by_cases h : 0 ≤ k ∧ k + 4 ≤ n
  · obtain ⟨m, rfl⟩ := Int.eq_ofNat_of_zero_le h.1
    exact bytes_yes A n c f m x w hcap hreach hf hr (by omega) hx hx' (getOk_yes h.1 h.2)
  · exact bytes_no A n c f k x w hcap hreach hf hr hk hx hx' (getOk_no (by omega))
def wordBytesAts : List Gen.AT := [.one (.slice 1 [.int .u8]), .one (.int .i64), .one (.int .u32)]
theorem wordBytes_args (W : World) (vs : List Value) (h : Gen.ArgsGood W wordBytesAts vs) :
    Calls Try.prog 7 vs.toArray W fun e W' => e = .returned (.bool true) ∧ Below W.heap.size W W' := by
  match vs, h with
  | [v0, v1, v2], h =>
    obtain ⟨h0, h1, h2, _⟩ := h
    obtain ⟨A, n, c, V, rfl, hl, _, hb, hr⟩ := h0.slice_inv
    obtain ⟨k, rfl, wk⟩ := h1.int_inv
    obtain ⟨x, rfl, wx⟩ := h2.int_inv
    obtain ⟨f, hf1, hf2, hf3⟩ := Gen.rows_int hr
    have bk := bounds_i64 wk
    have bx := bounds_u32 wx
    unfold reachBytes at hb
    refine bytes_any A n c f k x W hl (by omega) (fun i => ?_) (fun hn => ?_) (by omega) (by omega) (by omega)
    · rcases Nat.lt_or_ge i c with g | g
      · exact bounds_u8 (hf2 i g)
      · rw [hf3 i g]; omega
    · obtain ⟨b, off, hA, hlt, hc⟩ := hf1 (by omega)
      exact ⟨b, off, hA, hlt, fun i hi => hc i (by omega)⟩
end Go.Proofs.Ytefaennifhmadaa
