/- The walk of MachVector. -/
import Derived.Test.YtgcknekhimpfkaaDoorMachV
import Derived.Test.YtgcknekhimpfkaaDoorGen
import Derived.Test.YtgcknekhimpfkaaDoorCpuTab
namespace Go.Proofs.YtgcknekhimpfkaaDoor
open Go Go.RowKit Go.Lib Go.Proofs.YtgcknekhimpfkaaDoor.Pl
set_option linter.unusedVariables false
set_option linter.unusedSimpArgs false
attribute [local go_sem ↓] exec_load_cpu exec_store_cpu exec_load_end exec_store_end
theorem u32i : ∃ i : TypeInfo, Tryd.prog.info? 22 = some i ∧ i.zero = some (.int .u32 0) ∧ i.size = 1 ∧ i.bytes = 4 := by
  have h : (Tryd.prog.info? 22).map (fun i => (i.zero, i.size, i.bytes)) = some (some (.int .u32 0), 1, 4) := by kernel_rfl
  obtain ⟨i, hi, hz⟩ := Option.map_eq_some_iff.1 h
  simp only [Prod.mk.injEq] at hz
  exact ⟨i, hi, hz.1, hz.2.1, hz.2.2⟩
theorem madeU (n i : Nat) (hi : i < n) : (madeCells #[Value.int .u32 0] n)[i]? = some (.int .u32 0) := by
  have h := toList_madeCells_one (Value.int .u32 0) n
  rw [← Array.getElem?_toList, h, List.getElem?_replicate, if_pos hi]
theorem own_mono {w : World} {base base' : Nat} {e : TypeId} {size : Nat} {v : Value} {n : Nat} {xs : List Value} (h : w.ownsRow base e size v n xs) (hb : base' ≤ base) : w.ownsRow base' e size v n xs := by
  refine ⟨h.1, ?_⟩
  rcases h.2 with hv | ⟨g, cap, cur, rfl, h1, h2, h3⟩
  · exact .inl hv
  · exact .inr ⟨g, cap, cur, rfl, Nat.le_trans hb h1, h2, h3⟩
theorem DiskAt.lower {w : World} {base base' d s : Nat} {v : Value} {N : Nat} {sec : Nat → ByteArray} {ws : List (Nat × ByteArray)} (D : DiskAt w base d s v N sec ws) (hb : base' ≤ base) : DiskAt w base' d s v N sec ws :=
  { D with
    writes := own_mono D.writes hb
    bd := Nat.le_trans hb D.bd
    bs := Nat.le_trans hb D.bs }
theorem mvec_no (n a z : Int) (h : ¬ (1 ≤ n ∧ n ≤ 65535 ∧ 64 ≤ a ∧ a ≤ 4000 ∧ a % 4 = 0 ∧ z ≠ 0)) (n0 : -9223372036854775808 ≤ n ∧ n ≤ 9223372036854775807) (a0 : -9223372036854775808 ≤ a ∧ a ≤ 9223372036854775807) (w : World) (hT : Tab w) :
    Calls Tryd.prog 3 #[.int .i64 n, .int .i64 a, .int .u32 z] w fun e w' => e = .returned (.bool true) ∧ Below w.heap.size w w' := by
  have HT := Lib.hid hT
  clear hT
  have HH := Lib.hid h
  clear h
  by_cases h1 : n < 1
  · have t1 : decide (n < 1) = true := decide_eq_true h1
    go_enter Tryd.func3, Tryd.ntmps3
    go_wp2_with (go_at_call 8; refine (mshown_any _ HT.out).mono ?_; rintro e w1 ⟨rfl, hb1⟩; have HB1 := Lib.hid hb1; clear hb1)
    go_ret
    exact ⟨rfl, HB1.out⟩
  have t1 : decide (n < 1) = false := decide_eq_false h1
  by_cases h2 : 65535 < n
  · have t2 : decide (65535 < n) = true := decide_eq_true h2
    go_enter Tryd.func3, Tryd.ntmps3
    go_wp2_with (go_at_call 8; refine (mshown_any _ HT.out).mono ?_; rintro e w1 ⟨rfl, hb1⟩; have HB1 := Lib.hid hb1; clear hb1)
    go_ret
    exact ⟨rfl, HB1.out⟩
  have t2 : decide (65535 < n) = false := decide_eq_false h2
  by_cases h3 : a < 64
  · have t3 : decide (a < 64) = true := decide_eq_true h3
    go_enter Tryd.func3, Tryd.ntmps3
    go_wp2_with (go_at_call 8; refine (mshown_any _ HT.out).mono ?_; rintro e w1 ⟨rfl, hb1⟩; have HB1 := Lib.hid hb1; clear hb1)
    go_ret
    exact ⟨rfl, HB1.out⟩
  have t3 : decide (a < 64) = false := decide_eq_false h3
  by_cases h4 : 4000 < a
  · have t4 : decide (4000 < a) = true := decide_eq_true h4
    go_enter Tryd.func3, Tryd.ntmps3
    go_wp2_with (go_at_call 8; refine (mshown_any _ HT.out).mono ?_; rintro e w1 ⟨rfl, hb1⟩; have HB1 := Lib.hid hb1; clear hb1)
    go_ret
    exact ⟨rfl, HB1.out⟩
  have t4 : decide (4000 < a) = false := decide_eq_false h4
  obtain ⟨b, rfl⟩ := Int.eq_ofNat_of_zero_le (show 0 ≤ a by omega)
  by_cases h5 : b % 4 = 0
  · have t5 : ((b : Int) % 4 != 0) = false := by simp; omega
    have t6 : (z == 0) = true := by
      have := HH.out
      simp; omega
    go_enter Tryd.func3, Tryd.ntmps3
    go_wp2_with (go_at_call 8; refine (mshown_any _ HT.out).mono ?_; rintro e w1 ⟨rfl, hb1⟩; have HB1 := Lib.hid hb1; clear hb1)
    go_ret
    exact ⟨rfl, HB1.out⟩
  · have t5 : ((b : Int) % 4 != 0) = true := by simp; omega
    go_enter Tryd.func3, Tryd.ntmps3
    go_wp2_with (go_at_call 8; refine (mshown_any _ HT.out).mono ?_; rintro e w1 ⟨rfl, hb1⟩; have HB1 := Lib.hid hb1; clear hb1)
    go_ret
    exact ⟨rfl, HB1.out⟩
set_option maxRecDepth 100000 in
set_option maxHeartbeats 1000000 in
theorem mvec_yes (n z : Int) (q : Nat) (q0 : 16 ≤ q) (q1 : q ≤ 1000) (h0 : 0 < n) (h1 : n ≤ 65535) (z0 : 0 ≤ z) (z1 : z < 4294967296) (hz : z ≠ 0) (w : World) (hT : Tab w) :
    Calls Tryd.prog 3 #[.int .i64 n, .int .i64 ((4 * q : Nat) : Int), .int .u32 z] w fun e w' => e = .returned (.bool true) ∧ Below w.heap.size w w' := by
  have HT := Lib.hid hT
  obtain ⟨i0, hi, hz0, hz1, hz2⟩ := u32i
  have hrun := vec_run q n z q0 q1 h0 h1 z0 z1 hz
  have htold := vec_told q n z h0 h1 q1
  generalize hX : ({ vecX q n z with M := laid4 (laid4 (vecX q n z).M 20 n) 24 ((4 * q : Nat) : Int) } : BS) = X at hrun
  have ht20 : getV X.M 20 = n := by rw [← hX]; exact htold.1
  have ht24 : getV X.M 24 = ((4 * q : Nat) : Int) := by rw [← hX]; exact htold.2
  have HRUN := Lib.hid hrun
  have H20 := Lib.hid ht20
  have H24 := Lib.hid ht24
  have tz : (z == 0) = false := by simpa using hz
  have HZZ := Lib.hid hz
  clear hrun htold hX ht20 ht24 hT hz
  obtain ⟨p, hp⟩ : ∃ p, 4 * q = p := ⟨_, rfl⟩
  rw [hp] at HRUN H24 ⊢
  have hp0 : 64 ≤ p := by omega
  have hp1 : p ≤ 4000 := by omega
  have hp4 : ((p : Int) % 4 != 0) = false := by simp; omega
  have hpq : (p : Int) / 4 = (q : Int) := by omega
  have HP := Lib.hid hp
  clear hp
  have hn4 : n % 4294967296 = n := by omega
  have hs4 : (1074724864 + n) % 4294967296 = 1074724864 + n := by omega
  have t1 : decide (n < 1) = false := decide_eq_false (by omega)
  have t2 : decide (65535 < n) = false := decide_eq_false (by omega)
  have t3 : decide ((p : Int) < 64) = false := decide_eq_false (by omega)
  have t4 : decide (4000 < (p : Int)) = false := decide_eq_false (by omega)
  have hpm : (p : Int) % 4294967296 = (p : Int) := by omega
  have BB := Lib.hid (show 16 ≤ q ∧ q ≤ 1000 ∧ 0 < n ∧ n ≤ 65535 ∧ 0 ≤ z ∧ z < 4294967296 ∧ 64 ≤ p ∧ p ≤ 4000 ∧ (p : Int) % 4 = 0 from ⟨q0, q1, h0, h1, z0, z1, hp0, hp1, by have := HP.out; omega⟩)
  have hq1010 : (q : Int) < 1010 := by omega
  clear q0 q1 h0 h1 z0 z1 hp0 hp1
  go_enter Tryd.func3, Tryd.ntmps3
  go_upto_region 4 with (go_at_call 8; refine (mshown_any _ HT.out).mono ?_; rintro e w1 ⟨rfl, hb1⟩; have HB1 := Lib.hid hb1; clear hb1)
  go_wp2_with (at_make; refine wpList_make_full _ rfl _ _ 24 rfl w.heap.size 22 i0 _ 1 Tryd.underlying24 hi hz0 hz1 .i64 .i64 1010 1010 1010 rfl rfl rfl rfl ?m1 ?m2 HB1.out.size ?_)
  case m1 => rw [hz2]; decide
  case m2 => unfold maxLen; decide
  intro w2 hown hgrow
  have hblk := made_own hown
  have hO : OwnI .u32 w2 w1.heap.size 1010 22 (fun _ => 0) := ⟨_, hblk, by rw [Array.toArray_toList, size_madeCells], fun i hi => by rw [Array.toArray_toList]; have h9 := madeU 1010 i hi; exact h9⟩
  have hb2 : Below w1.heap.size w1 w2 := (Below.refl w1.heap.size w1).grown hgrow (Nat.le_refl _) (fun _ h => by cases h)
  have hbw : Below w.heap.size w w2 := HB1.out.trans (hb2.mono HB1.out.size)
  have hgw := HB1.out.size
  clear hown hgrow hblk hi hz0 hz1 hz2 hb2
  generalize w1.heap.size = g at hO hgw ⊢
  have cq := hO.cell (i := q) (by have := BB.out; omega)
  have fq := hO.frozen q
  have hO2 := Lib.hid (hO.set q (1074724864 + n))
  have HBW := Lib.hid hbw
  clear hO hbw HB1
  go_upto_region 6 with fail
  clear cq fq
  have hbw2 : Below w.heap.size w (w2.setCell ⟨g, q, none⟩ (.int .u32 (1074724864 + n))) := HBW.out.setCell hgw _
  generalize w2.setCell ⟨g, q, none⟩ (.int .u32 (1074724864 + n)) = w3 at hO2 hbw2 ⊢
  have c4 := hO2.out.cell (i := 4) (by omega)
  have f4 := hO2.out.frozen 4
  have hO3 : Hid (OwnI .u32 (w3.setCell ⟨g, 4, none⟩ (.int .u32 z)) g 1010 22 (vecF q n z)) := Lib.hid ((hO2.out.set 4 z).congr fun i _ => rfl)
  have hbw3 : Below w.heap.size w (w3.setCell ⟨g, 4, none⟩ (.int .u32 z)) := hbw2.setCell hgw _
  have HBW3 := Lib.hid hbw3
  clear hbw2 hbw3 hO2 HBW
  go_upto_region 7 with fail
  clear c4 f4
  generalize w3.setCell ⟨g, 4, none⟩ (.int .u32 z) = w4 at hO3 HBW3 ⊢
  go_upto_region 8 with (go_at_call 9; refine (new_yes 8 _ (by decide) (by decide)).mono ?_; rintro e w5 ⟨d, s, rfl, D, hb5⟩; have HNW := Lib.hid (One.new (w0 := w) (A := some ⟨g, 0, none⟩) (c := 1010) (n := 1010) (ent := (p : Int)) (by omega) (show mgood 1010 p from ⟨by decide, BB.out.2.2.2.2.2.2.2.2, by have := BB.out; omega⟩) (vecF_bd q n z BB.out.2.2.1 BB.out.2.2.2.1 BB.out.2.2.2.2.1 BB.out.2.2.2.2.2.1) ((hO3.out.below hb5 hO3.out.lt).rd (Nat.le_refl _)) (D.lower HBW3.out.size) (HBW3.out.trans (hb5.mono HBW3.out.size))); clear D hb5)
  clear hO3 HBW3
  go_upto_region 9 with (go_at_call 10; refine HNW.out.mono ?_; rintro e w6 ⟨m, v, rfl, O, -⟩; have O1 := Lib.hid (show One w w6 m v (vecX q n z) ⟨mcpu0 p, -1, false, 0⟩ from O); clear O)
  clear HNW
  go_upto_region 12 with (go_at_call 11; refine (O1.out.run HT.out 1 1 rfl (show (0 : Int) ≤ 0 by decide) (show (0 : Int) ≤ 9000000000000000000 by decide) HRUN.out (dI := 1) rfl).mono ?_; rintro e w7 ⟨rfl, v3, O, -⟩; have hn := new_end w7 1 0 0 1 #[.int .i64 0, .int .i64 0, .int .u32 0, .int .i64 0] rfl; have O2 := Lib.hid (O.step ((Below.refl _ _).alloc (Nat.le_refl _) (.cells (endA 1 0 0 1) 35))); have KZ := Lib.hid (Blk.new w7 (endA 1 0 0 1) 35); clear O)
  clear hn
  have hcs : CpuOk ((mcpu0 (p : Int)).setIfInBounds 21 (.int .u32 z)) := O2.out.mach.ok
  have hc21 : ((mcpu0 (p : Int)).setIfInBounds 21 (.int .u32 z))[21]? = some (.int .u32 z) := rfl
  generalize hC : (mcpu0 (p : Int)).setIfInBounds 21 (.int .u32 z) = C at hcs hc21 O2 HRUN
  have HCS := Lib.hid hcs
  have H21 := Lib.hid hc21
  clear hcs hc21 hC HRUN
  go_upto_region 13 with (first | (go_at_call 12; refine O2.out.cpu.mono ?_; rintro e w8 ⟨rfl, O, hb8⟩; have hs5 := store_new (w := w8) (Z := #[.int .u32 0, .int .u32 0, .int .u32 0, .int .u32 0, .int .u32 0, .int .u32 0, .int .u32 0, .int .u32 0, .int .u32 0, .int .u32 0, .int .u32 0, .int .u32 0, .int .u32 0, .int .u32 0, .int .u32 0, .int .u32 0, .int .u32 0, .bool false, .bool false, .bool false, .bool false, .int .u32 0]) (cs := C) (t := 39) rfl HCS.out.size HCS.out.one; have k1 := (KZ.out.step hb8).old (.cells C 39); have k2 := Blk.new w8 C 39; have e0 := k1.cell 0; have e3 := k1.cell 3; have g21 := (k2.cell 21).trans H21.out; simp only [endA, List.getElem?_toArray, List.getElem?_cons_zero, List.getElem?_cons_succ] at e0 e3; have O3 := Lib.hid (O.step ((Below.refl _ _).alloc (Nat.le_refl _) (.cells C 39))); clear O hb8 k1 k2))
  have hx0 := mWord_any O3.out.mach 20 (by decide) (by decide) (by decide)
  have hx1 := mWord_any O3.out.mach 24 (by decide) (by decide) (by decide)
  rw [show getV X.M (20 : Int).toNat = n from H20.out] at hx0
  rw [show getV X.M (24 : Int).toNat = (p : Int) from H24.out] at hx1
  have HX0 := Lib.hid hx0
  have HX1 := Lib.hid hx1
  clear hx0 hx1
  go_upto_region 14 with ((go_at_call 13; (with_reducible refine HX0.out.mono ?_); rintro e w9 ⟨rfl, rfl⟩))
  go_upto_region 15 with ((go_at_call 13; (with_reducible refine HX1.out.mono ?_); rintro e w9 ⟨rfl, rfl⟩))
  go_wp2_with fail
  go_ret
  exact ⟨rfl, O3.out.below⟩
def machVectorAts : List Gen.AT := [.one (.int .i64), .one (.int .i64), .one (.int .u32)]
theorem machVector_args (W : World) (vs : List Value) (h : Gen.ArgsGood W machVectorAts vs) (hT : Tab W) :
    Calls Tryd.prog 3 vs.toArray W fun e W' => e = .returned (.bool true) ∧ Below W.heap.size W W' := by
  match vs, h with
  | [v0, v1, v2], h =>
    obtain ⟨h0, h1, h2, _⟩ := h
    obtain ⟨n, rfl, wn⟩ := h0.int_inv
    obtain ⟨a, rfl, wa⟩ := h1.int_inv
    obtain ⟨z, rfl, wz⟩ := h2.int_inv
    have bn := bounds_i64 wn
    have ba := bounds_i64 wa
    have bz := bounds_u32 wz
    by_cases hc : 1 ≤ n ∧ n ≤ 65535 ∧ 64 ≤ a ∧ a ≤ 4000 ∧ a % 4 = 0 ∧ z ≠ 0
    · obtain ⟨q, hq⟩ : ∃ q : Nat, a = ((4 * q : Nat) : Int) := ⟨(a / 4).toNat, by omega⟩
      subst hq
      exact mvec_yes n z q (by omega) (by omega) (by omega) (by omega) (by omega) (by omega) hc.2.2.2.2.2 W hT
    · exact mvec_no n a z hc (by omega) (by omega) W hT
end Go.Proofs.YtgcknekhimpfkaaDoor
