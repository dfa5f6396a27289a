/- The document's bus: its small functions. -/
import Derived.Test.YtmamocdkmmkkjaaRBusB
import Derived.Test.YtmamocdkmmkkjaaRBusP
import Derived.BigRegion
namespace Go.Proofs.Ytmamocdkmmkkjaa
open Go Go.RowKit Go.Lib Go.Proofs.Ytmamocdkmmkkjaa.Pl
set_option linter.unusedVariables false
set_option linter.unusedSimpArgs false
theorem rret {k : IntKind} {a b : Int} (h : a = b) : Ending.returned (.int k a) = .returned (.int k b) := by rw [h]
theorem rinside_any (a : Int) (w : World) : Calls Try.prog 51 #[.int .u32 a] w fun e w' => e = .returned (.bool (decide (a < 1048576))) ∧ w = w' := by
  go_enter Try.func51, Try.ntmps51
  go_wp2_with fail
  go_ret
  exact ⟨rfl, rfl⟩
section
variable {w : World} {base : Nat} {v : RV} {x : BS} {sec0 : Nat → ByteArray} {hist : List (Nat × ByteArray)}
theorem rbyte_at (B : RBusAt w base v x sec0 hist) (q j : Nat) (hq : q < 262144) (hj : j < 4) (a : Int) (ha : a = 4 * q + j) :
    Calls Try.prog 52 #[.pointer (some ⟨v.b, 0, none⟩), .int .u32 a] w fun e w' => e = .returned (.int .u8 (x.M (4 * q + j))) ∧ w = w' := by
  obtain ⟨c0, -⟩ := B.cells
  have cw := B.word q hq
  obtain ⟨h0, h1, m0, m1, m2, m3⟩ := getV_byte x.M B.mb (4 * q)
  have e1 : a / 4 = (q : Int) := by omega
  have a0 : 0 ≤ a := by omega
  have a1 : a < 1048576 := by omega
  have q1 : (q : Int) < 262144 := by omega
  generalize getV x.M (4 * q) = W at cw h0 h1 m0 m1 m2 m3
  have hh : j = 0 ∨ j = 1 ∨ j = 2 ∨ j = 3 := by omega
  rcases hh with rfl | rfl | rfl | rfl
  · have e2 : a % 4 = 0 := by omega
    have HM := Lib.hid m0
    clear m0 m1 m2 m3 ha
    go_enter Try.func52, Try.ntmps52
    go_wp2_with fail
    go_ret
    exact ⟨rret (by have := HM.out; first | omega | (simp only [Nat.add_zero]; omega)), rfl⟩
  · have e2 : a % 4 = 1 := by omega
    have HM := Lib.hid m1
    clear m0 m1 m2 m3 ha
    go_enter Try.func52, Try.ntmps52
    go_wp2_with fail
    go_ret
    exact ⟨rret (by have := HM.out; first | omega | (simp only [Nat.add_zero]; omega)), rfl⟩
  · have e2 : a % 4 = 2 := by omega
    have HM := Lib.hid m2
    clear m0 m1 m2 m3 ha
    go_enter Try.func52, Try.ntmps52
    go_wp2_with fail
    go_ret
    exact ⟨rret (by have := HM.out; first | omega | (simp only [Nat.add_zero]; omega)), rfl⟩
  · have e2 : a % 4 = 3 := by omega
    have HM := Lib.hid m3
    clear m0 m1 m2 m3 ha
    go_enter Try.func52, Try.ntmps52
    go_wp2_with fail
    go_ret
    exact ⟨rret (by have := HM.out; first | omega | (simp only [Nat.add_zero]; omega)), rfl⟩
theorem rlay_at (B : RBusAt w base v x sec0 hist) (q j : Nat) (hq : q < 262144) (hj : j < 4) (a : Int) (ha : a = 4 * q + j) (c : Int) (y0 : 0 ≤ c) (y1 : c ≤ 255) :
    Calls Try.prog 53 #[.pointer (some ⟨v.b, 0, none⟩), .int .u32 a, .int .u8 c] w fun e w' => e = .returned (.tuple #[]) ∧ RBusAt w' base v { x with M := setB x.M (4 * q + j) c } sec0 hist ∧ RMoves w w' v v := by
  obtain ⟨c0, -⟩ := B.cells
  have cw := B.word q hq
  have fw := B.mem.frozen q
  obtain ⟨h0, h1, m0, m1, m2, m3⟩ := getV_byte x.M B.mb (4 * q)
  have hset := setB_word x.M B.mb q j hj c
  have hbd : ∀ i, 0 ≤ setB x.M (4 * q + j) c i ∧ setB x.M (4 * q + j) c i ≤ 255 := fun i => by unfold setB; split; exact ⟨y0, y1⟩; exact B.mb i
  have HB := Lib.hid B
  have HS := Lib.hid hset
  have HD := Lib.hid hbd
  have e1 : a / 4 = (q : Int) := by omega
  have a0 : 0 ≤ a := by omega
  have a1 : a < 1048576 := by omega
  have q1 : (q : Int) < 262144 := by omega
  obtain ⟨W, hW⟩ : ∃ W, getV x.M (4 * q) = W := ⟨_, rfl⟩
  rw [hW] at cw h0 h1 m0 m1 m2 m3
  have HW := Lib.hid hW
  clear B hset hbd hW
  have hh : j = 0 ∨ j = 1 ∨ j = 2 ∨ j = 3 := by omega
  rcases hh with rfl | rfl | rfl | rfl
  · have e2 : a % 4 = 0 := by omega
    have HM := Lib.hid m0
    have hl := lay_0 W c h0 h1 y0 y1
    clear m0 m1 m2 m3 ha
    go_enter Try.func53, Try.ntmps53
    go_wp2_with fail
    go_region
    go_wp2_with fail
    go_end0
    obtain ⟨b1, b2⟩ := HB.out.setWord q (W - W % 256 + c) HD.out (fun i _ => by
      rw [HS.out i]
      by_cases hi : i = q
      · have hm := HM.out
        rw [if_pos hi, if_pos hi, HW.out, show 4 * q + 0 = 4 * q from rfl, ← hm]
        omega
      · rw [if_neg hi, if_neg hi])
    exact ⟨rfl, b1.below ((Below.refl _ _).drew), b2.trans (RMoves.of_below _ ((Below.refl _ _).drew))⟩
  · have e2 : a % 4 = 1 := by omega
    have HM := Lib.hid m1
    have hl := lay_8 W c h0 h1 y0 y1
    clear m0 m1 m2 m3 ha
    go_enter Try.func53, Try.ntmps53
    go_wp2_with fail
    go_region
    go_wp2_with fail
    go_end0
    obtain ⟨b1, b2⟩ := HB.out.setWord q (W - W / 256 % 256 * 256 + c * 256) HD.out (fun i _ => by
      rw [HS.out i]
      by_cases hi : i = q
      · rw [if_pos hi, if_pos hi, HW.out, ← HM.out]
        rw [show (256 : Int) ^ 1 = 256 from by decide]
      · rw [if_neg hi, if_neg hi])
    exact ⟨rfl, b1.below ((Below.refl _ _).drew), b2.trans (RMoves.of_below _ ((Below.refl _ _).drew))⟩
  · have e2 : a % 4 = 2 := by omega
    have HM := Lib.hid m2
    have hl := lay_16 W c h0 h1 y0 y1
    clear m0 m1 m2 m3 ha
    go_enter Try.func53, Try.ntmps53
    go_wp2_with fail
    go_region
    go_wp2_with fail
    go_end0
    obtain ⟨b1, b2⟩ := HB.out.setWord q (W - W / 65536 % 256 * 65536 + c * 65536) HD.out (fun i _ => by
      rw [HS.out i]
      by_cases hi : i = q
      · rw [if_pos hi, if_pos hi, HW.out, ← HM.out]
        rw [show (256 : Int) ^ 2 = 65536 from by decide]
      · rw [if_neg hi, if_neg hi])
    exact ⟨rfl, b1.below ((Below.refl _ _).drew), b2.trans (RMoves.of_below _ ((Below.refl _ _).drew))⟩
  · have e2 : a % 4 = 3 := by omega
    have HM := Lib.hid m3
    have hl := lay_24 W c h0 h1 y0 y1
    clear m0 m1 m2 m3 ha
    go_enter Try.func53, Try.ntmps53
    go_wp2_with fail
    go_region
    go_wp2_with fail
    go_end0
    obtain ⟨b1, b2⟩ := HB.out.setWord q (W - W / 16777216 % 256 * 16777216 + c * 16777216) HD.out (fun i _ => by
      rw [HS.out i]
      by_cases hi : i = q
      · rw [if_pos hi, if_pos hi, HW.out, ← HM.out]
        rw [show (256 : Int) ^ 3 = 16777216 from by decide]
      · rw [if_neg hi, if_neg hi])
    exact ⟨rfl, b1.below ((Below.refl _ _).drew), b2.trans (RMoves.of_below _ ((Below.refl _ _).drew))⟩
theorem RBusAt.drew (B : RBusAt w base v x sec0 hist) : RBusAt w.drew base v x sec0 hist := B.below ((Below.refl _ _).drew)
theorem rword_yes (B : RBusAt w base v x sec0 hist) (a : Int) (h0 : 0 ≤ a) (h1 : a < 1048576) (h4 : a % 4 = 0) :
    Calls Try.prog 39 #[.pointer (some ⟨v.b, 0, none⟩), .int .u32 a] w fun e w' => e = .returned (.tuple #[.int .u32 (getV x.M a.toNat), .bool true]) ∧ w = w' := by
  obtain ⟨c0, -⟩ := B.cells
  obtain ⟨q, hq⟩ : ∃ q : Nat, a = ((4 * q : Nat) : Int) := ⟨(a / 4).toNat, by omega⟩
  have cw := B.word q (by omega)
  have e1 : a / 4 = (q : Int) := by omega
  have q1 : (q : Int) < 262144 := by omega
  have q2 : a.toNat = 4 * q := by omega
  rw [q2]
  have t1 : decide (a < 1048576) = true := decide_eq_true h1
  clear q2 hq
  go_enter Try.func39, Try.ntmps39
  go_wp2_with (go_at_call 51; refine (rinside_any _ _).mono ?_; rintro e w1 ⟨rfl, rfl⟩)
  go_ret2
  exact ⟨rfl, rfl⟩
theorem rword_no (B : RBusAt w base v x sec0 hist) (a : Int) (h0 : 0 ≤ a) (h1 : a < 4294967296) (h4 : ¬ (a < 1048576 ∧ a % 4 = 0)) :
    Calls Try.prog 39 #[.pointer (some ⟨v.b, 0, none⟩), .int .u32 a] w fun e w' => e = .returned (.tuple #[.int .u32 0, .bool false]) ∧ w = w' := by
  by_cases hh : a < 1048576
  · have t1 : decide (a < 1048576) = true := decide_eq_true hh
    have t2 : (a % 4 != 0) = true := by have : ¬ a % 4 = 0 := fun h => h4 ⟨hh, h⟩; simpa using this
    clear h4
    go_enter Try.func39, Try.ntmps39
    go_wp2_with (go_at_call 51; refine (rinside_any _ _).mono ?_; rintro e w1 ⟨rfl, rfl⟩)
    go_ret2
    exact ⟨rfl, rfl⟩
  · have t1 : decide (a < 1048576) = false := decide_eq_false hh
    clear h4
    go_enter Try.func39, Try.ntmps39
    go_wp2_with (go_at_call 51; refine (rinside_any _ _).mono ?_; rintro e w1 ⟨rfl, rfl⟩)
    go_ret2
    exact ⟨rfl, rfl⟩
theorem getV_laid4 (M : Nat → Int) (q : Nat) (y : Int) (y0 : 0 ≤ y) (y1 : y < 4294967296) (i : Nat) : getV (laid4 M (4 * q) y) (4 * i) = if i = q then y else getV M (4 * i) := by
  unfold getV laid4
  by_cases hi : i = q
  · subst hi
    rw [if_pos rfl, if_pos (by omega), if_pos (by omega), if_pos (by omega), if_pos (by omega), show 4 * i - 4 * i = 0 from by omega, show 4 * i + 1 - 4 * i = 1 from by omega, show 4 * i + 2 - 4 * i = 2 from by omega, show 4 * i + 3 - 4 * i = 3 from by omega]
    have w0 : wbyte y 0 = y % 256 := rfl
    have w1 : wbyte y 1 = y / 256 % 256 := rfl
    have w2 : wbyte y 2 = y / 65536 % 256 := rfl
    have w3 : wbyte y 3 = y / 16777216 % 256 := rfl
    rw [w0, w1, w2, w3]
    omega
  · rw [if_neg hi, if_neg (by omega), if_neg (by omega), if_neg (by omega), if_neg (by omega)]
theorem RBusAt.poke (B : RBusAt w base v x sec0 hist) (q : Nat) (y : Int) (y0 : 0 ≤ y) (y1 : y < 4294967296) : RBusAt (w.setCell ⟨v.m, q, none⟩ (.int .u32 y)) base v { x with M := laid4 x.M (4 * q) y } sec0 hist ∧ RMoves w (w.setCell ⟨v.m, q, none⟩ (.int .u32 y)) v v :=
  B.setWord q y (laid4_bd B.mb (4 * q) y) (fun i _ => getV_laid4 x.M q y y0 y1 i)
theorem rpoke_yes (B : RBusAt w base v x sec0 hist) (a y : Int) (h0 : 0 ≤ a) (h1 : a < 1048576) (h4 : a % 4 = 0) (y0 : 0 ≤ y) (y1 : y < 4294967296) :
    Calls Try.prog 40 #[.pointer (some ⟨v.b, 0, none⟩), .int .u32 a, .int .u32 y] w fun e w' => e = .returned (.bool true) ∧ RBusAt w' base v { x with M := laid4 x.M a.toNat y } sec0 hist ∧ RMoves w w' v v := by
  obtain ⟨c0, -⟩ := B.cells
  obtain ⟨q, hq⟩ : ∃ q : Nat, a = ((4 * q : Nat) : Int) := ⟨(a / 4).toNat, by omega⟩
  have cw := B.word q (by omega)
  have fw := B.mem.frozen q
  have e1 : a / 4 = (q : Int) := by omega
  have q1 : (q : Int) < 262144 := by omega
  have q2 : a.toNat = 4 * q := by omega
  rw [q2]
  have HB := Lib.hid (B.poke q y y0 y1)
  have t1 : decide (a < 1048576) = true := decide_eq_true h1
  clear q2 hq B
  go_enter Try.func40, Try.ntmps40
  go_wp2_with (go_at_call 51; refine (rinside_any _ _).mono ?_; rintro e w1 ⟨rfl, rfl⟩)
  go_ret
  exact ⟨rfl, HB.out⟩
theorem rpoke_no (B : RBusAt w base v x sec0 hist) (a y : Int) (h0 : 0 ≤ a) (h1 : a < 4294967296) (h4 : ¬ (a < 1048576 ∧ a % 4 = 0)) :
    Calls Try.prog 40 #[.pointer (some ⟨v.b, 0, none⟩), .int .u32 a, .int .u32 y] w fun e w' => e = .returned (.bool false) ∧ w = w' := by
  by_cases hh : a < 1048576
  · have t1 : decide (a < 1048576) = true := decide_eq_true hh
    have t2 : (a % 4 != 0) = true := by have : ¬ a % 4 = 0 := fun h => h4 ⟨hh, h⟩; simpa using this
    clear h4
    go_enter Try.func40, Try.ntmps40
    go_wp2_with (go_at_call 51; refine (rinside_any _ _).mono ?_; rintro e w1 ⟨rfl, rfl⟩)
    go_ret
    exact ⟨rfl, rfl⟩
  · have t1 : decide (a < 1048576) = false := decide_eq_false hh
    clear h4
    go_enter Try.func40, Try.ntmps40
    go_wp2_with (go_at_call 51; refine (rinside_any _ _).mono ?_; rintro e w1 ⟨rfl, rfl⟩)
    go_ret
    exact ⟨rfl, rfl⟩
theorem rtick_any (B : RBusAt w base v x sec0 hist) (n : Int) (h0 : 0 ≤ n) (h1 : n < 4294967296) :
    Calls Try.prog 36 #[.pointer (some ⟨v.b, 0, none⟩), .int .u32 n] w fun e w' => e = .returned (.tuple #[]) ∧ RBusAt w' base v { x with tk := (x.tk + n) % 4294967296 } sec0 hist ∧ RMoves w w' v v := by
  obtain ⟨-, -, -, -, c4, -⟩ := B.cells
  have f4 := B.row.frozen 4
  obtain ⟨b0, b1⟩ := B.tkb
  have HB := Lib.hid (B.own (x' := { x with tk := (x.tk + n) % 4294967296 }) 4 (.int .u32 ((x.tk + n) % 4294967296)) rfl rfl B.ql (by simp only; omega) B.seb B.adb B.flb)
  clear B
  go_enter Try.func36, Try.ntmps36
  go_wp2_with fail
  go_end0
  exact ⟨rfl, HB.out⟩
theorem rwaiting_any (B : RBusAt w base v x sec0 hist) :
    Calls Try.prog 37 #[.pointer (some ⟨v.b, 0, none⟩)] w fun e w' => e = .returned (.int .i64 (x.q.length : Int)) ∧ w = w' := by
  obtain ⟨-, -, c2, -⟩ := B.cells
  have hs : (ofBs x.q).size = x.q.length := ofBs_size _
  have HS := Lib.hid hs
  clear hs
  go_enter Try.func37, Try.ntmps37
  go_wp2_with fail
  go_ret
  exact ⟨rfl, rfl⟩
theorem rout_any (B : RBusAt w base v x sec0 hist) :
    Calls Try.prog 38 #[.pointer (some ⟨v.b, 0, none⟩)] w fun e w' => e = .returned (.string (ofBs x.o)) ∧ w = w' := by
  obtain ⟨-, -, -, c3, -⟩ := B.cells
  have hcv : (convert 44 9 v.vo).run Try.prog w = .ok (.string (ofBs x.o)) w := by
    rcases B.out.2 with ⟨h1, h2⟩ | ⟨g, cap, cur, h1, h2, h3, h4, h5, h6, h7⟩
    · have : x.o = [] := List.eq_nil_of_length_eq_zero h2
      rw [h1, this]
      exact bconv_zero w none 0
    · rw [h1]
      refine bconv_range w g 0 x.o.length cap (ofBs x.o) (ofBs_size _) (fun j u hj => ?_)
      rw [Nat.zero_add, cell_of_row w g j cur _ (0, 0) h3]
      rw [ofBs_cells, ← h7, Nat.mul_one, List.getElem?_take] at hj
      split at hj
      · rw [← hj, Array.getElem?_toList]
      · cases hj
  obtain ⟨oa, oc, hv⟩ : ∃ a c, v.vo = .slice a x.o.length c := by
    rcases B.out.2 with ⟨h1, h2⟩ | ⟨g, cap, cur, h1, _⟩
    · exact ⟨none, 0, by rw [h1, h2]⟩
    · exact ⟨_, _, h1⟩
  rw [hv] at c3 hcv
  clear hv B
  go_enter Try.func38, Try.ntmps38
  go_wp2_with fail
  go_ret
  exact ⟨rfl, rfl⟩
theorem ofBs_append (a : List UInt8) (s : ByteArray) : ofBs a ++ s = ofBs (a ++ s.data.toList) := by
  refine WideShapes.bytes_inj ?_
  unfold ofBs
  simp
theorem rfeed_yes (B : RBusAt w base v x sec0 hist) (s : ByteArray) (h : x.q.length + s.size ≤ 65536) :
    Calls Try.prog 35 #[.pointer (some ⟨v.b, 0, none⟩), .string s] w fun e w' => e = .returned (.int .i64 0) ∧ RBusAt w' base v { x with q := x.q ++ s.data.toList } sec0 hist ∧ RMoves w w' v v := by
  obtain ⟨-, -, c2, -⟩ := B.cells
  have f2 := B.row.frozen 2
  have hs : (ofBs x.q).size = x.q.length := ofBs_size _
  have hsl : s.data.toList.length = s.size := by rw [Array.length_toList]; rfl
  have HB := Lib.hid (B.own (x' := { x with q := x.q ++ s.data.toList }) 2 (.string (ofBs x.q ++ s)) (by rw [ofBs_append]; rfl) rfl (by simp only [List.length_append]; omega) B.tkb B.seb B.adb B.flb)
  generalize ofBs x.q = S at c2 hs HB
  have t1 : decide ((65536 : Int) - (S.size : Int) < (s.size : Int)) = false := decide_eq_false (by omega)
  have t2 : ¬ ((65536 : Int) - (S.size : Int) < (s.size : Int)) := by omega
  have b1 : S.size ≤ 65536 := by omega
  have b2 : s.size ≤ 65536 := by omega
  clear B hs
  go_enter Try.func35, Try.ntmps35
  go_wp2_with fail
  go_ret
  exact ⟨rfl, HB.out⟩
theorem rfeed_no (B : RBusAt w base v x sec0 hist) (s : ByteArray) (h : 65536 < x.q.length + s.size) (hz : s.size ≤ 140737488351232) :
    Calls Try.prog 35 #[.pointer (some ⟨v.b, 0, none⟩), .string s] w fun e w' => e = .returned (.int .i64 40) ∧ w = w' := by
  obtain ⟨-, -, c2, -⟩ := B.cells
  have hs : (ofBs x.q).size = x.q.length := ofBs_size _
  have hq := B.ql
  generalize ofBs x.q = S at c2 hs
  have t1 : decide ((65536 : Int) - (S.size : Int) < (s.size : Int)) = true := decide_eq_true (by omega)
  have t2 : ((65536 : Int) - (S.size : Int) < (s.size : Int)) := by omega
  have b1 : S.size ≤ 65536 := by omega
  clear B hs hq
  go_enter Try.func35, Try.ntmps35
  go_wp2_with fail
  go_ret
  exact ⟨rfl, rfl⟩
end
end Go.Proofs.Ytmamocdkmmkkjaa
