/- The document's bus: Do. -/
import Derived.Test.YtgcknekhimpfkaaGreatDoorRBusJ
namespace Go.Proofs.YtgcknekhimpfkaaGreatDoor
open Go Go.RowKit Go.Lib Go.Proofs.YtgcknekhimpfkaaGreatDoor.Pl
set_option linter.unusedVariables false
set_option linter.unusedSimpArgs false
section
variable {w w' : World} {base : Nat} {v : RV} {x : BS} {sec0 : Nat → ByteArray} {hist : List (Nat × ByteArray)}
def RDid (w w' : World) (base : Nat) (v : RV) (x : BS) (sec0 : Nat → ByteArray) (k a y : Int) (e : Ending) : Prop :=
 e = .returned (.tuple #[.int .u32 (x.act k a y).1, .int .i64 (x.act k a y).2.1]) ∧ ∃ v' hist', RBusAt w' base v' (x.act k a y).2.2 sec0 hist' ∧ RMoves w w' v v'
theorem RDid.mk {k a y l h : Int} {x' : BS} {e : Ending} {v' : RV} {hist' : List (Nat × ByteArray)} (hx : x.act k a y = (l, h, x')) (he : e = .returned (.tuple #[.int .u32 l, .int .i64 h])) (B : RBusAt w' base v' x' sec0 hist') (m : RMoves w w' v v') : RDid w w' base v x sec0 k a y e := by
 unfold RDid
 rw [hx]
 exact ⟨he, v', hist', B, m⟩
def RDoes (w : World) (base : Nat) (v : RV) (x : BS) (sec0 : Nat → ByteArray) (k a y : Int) : Prop :=
 Calls Tryz.prog 66 #[.pointer (some ⟨v.b, 0, none⟩), .agg #[.int .i64 k, .int .u32 a, .int .u32 y]] w fun e w' => RDid w w' base v x sec0 k a y e
theorem box_below (w : World) (X : Array Value) (t : TypeId) : Below w.heap.size w (w.alloc (.cells X t)) := (Below.refl _ _).alloc (Nat.le_refl _) _
set_option maxRecDepth 100000 in
theorem rdo_none (B : RBusAt w base v x sec0 hist) (a y : Int) (a0 : 0 ≤ a) (a1 : a < 4294967296) (y0 : 0 ≤ y) (y1 : y < 4294967296) : RDoes w base v x sec0 0 a y := by
 have hx : x.act 0 a y = (0, 0, x) := by
  unfold BS.act
  rw [if_pos rfl]
 have HX := hid hx
 have BB := hid (B.below (box_below w #[.int .i64 0, .int .u32 a, .int .u32 y] 96))
 have BM := hid (show RMoves w (w.alloc (.cells #[.int .i64 0, .int .u32 a, .int .u32 y] 96)) v v from RMoves.of_below v (box_below _ _ _))
 unfold RDoes
 clear hx B
 go_enter Tryz.func66, Tryz.ntmps66
 go_wp2_with (go_at_call 45; refine (rinside_any _ _).mono ?_; rintro e w1 ⟨rfl, rfl⟩)
 go_ret2
 exact RDid.mk HX.out rfl BB.out BM.out
set_option maxRecDepth 100000 in
theorem rdo_lb_out (B : RBusAt w base v x sec0 hist) (a y : Int) (a0 : 0 ≤ a) (a1 : a < 4294967296) (y0 : 0 ≤ y) (y1 : y < 4294967296) (hin : ¬ a < 1048576) : RDoes w base v x sec0 2 a y := by
 have hx : x.act 2 a y = (0, 1, x) := by
  unfold BS.act
  rw [if_neg (by decide), if_neg (by simp [hin]), if_neg (by simp), if_neg (by simp), if_neg (by simp), if_neg (by simp), if_neg (by simp)]
 have HX := hid hx
 have BB := hid (B.below (box_below w #[.int .i64 2, .int .u32 a, .int .u32 y] 96))
 have BM := hid (show RMoves w (w.alloc (.cells #[.int .i64 2, .int .u32 a, .int .u32 y] 96)) v v from RMoves.of_below v (box_below _ _ _))
 have t1 : decide (a < 1048576) = false := decide_eq_false hin
 unfold RDoes
 clear hx B
 go_enter Tryz.func66, Tryz.ntmps66
 go_wp2_with (go_at_call 45; refine (rinside_any _ _).mono ?_; rintro e w1 ⟨rfl, rfl⟩)
 go_ret2
 exact RDid.mk HX.out rfl BB.out BM.out
set_option maxRecDepth 100000 in
theorem rdo_sb_out (B : RBusAt w base v x sec0 hist) (a y : Int) (a0 : 0 ≤ a) (a1 : a < 4294967296) (y0 : 0 ≤ y) (y1 : y < 4294967296) (hin : ¬ a < 1048576) : RDoes w base v x sec0 4 a y := by
 have hx : x.act 4 a y = (0, 1, x) := by
  unfold BS.act
  rw [if_neg (by decide), if_neg (by simp), if_neg (by simp [hin]), if_neg (by simp), if_neg (by simp), if_neg (by simp), if_neg (by simp)]
 have HX := hid hx
 have BB := hid (B.below (box_below w #[.int .i64 4, .int .u32 a, .int .u32 y] 96))
 have BM := hid (show RMoves w (w.alloc (.cells #[.int .i64 4, .int .u32 a, .int .u32 y] 96)) v v from RMoves.of_below v (box_below _ _ _))
 have t1 : decide (a < 1048576) = false := decide_eq_false hin
 unfold RDoes
 clear hx B
 go_enter Tryz.func66, Tryz.ntmps66
 go_wp2_with (go_at_call 45; refine (rinside_any _ _).mono ?_; rintro e w1 ⟨rfl, rfl⟩)
 go_ret2
 exact RDid.mk HX.out rfl BB.out BM.out
set_option maxRecDepth 100000 in
theorem rdo_lb (B : RBusAt w base v x sec0 hist) (a y : Int) (a0 : 0 ≤ a) (a1 : a < 4294967296) (y0 : 0 ≤ y) (y1 : y < 4294967296) (hin : a < 1048576) : RDoes w base v x sec0 2 a y := by
 have hx : x.act 2 a y = (x.M a.toNat, 0, x) := by
  unfold BS.act
  rw [if_neg (by decide), if_pos ⟨rfl, hin⟩]
 have HX := hid hx
 have BB := hid (B.below (box_below w #[.int .i64 2, .int .u32 a, .int .u32 y] 96))
 have BM := hid (show RMoves w (w.alloc (.cells #[.int .i64 2, .int .u32 a, .int .u32 y] 96)) v v from RMoves.of_below v (box_below _ _ _))
 have t1 : decide (a < 1048576) = true := decide_eq_true hin
 obtain ⟨p, rfl⟩ := Int.eq_ofNat_of_zero_le a0
 have hm := B.mb p
 have HC := hid (rbyte_any BB.out p (by omega))
 have hxp : x.M (p : Int).toNat = x.M p := rfl
 generalize x.M p = z at HC hm hxp
 have hz := hm.1
 have hz2 := hm.2
 have hzz : z % 4294967296 = z := by omega
 have HZ := hid hxp
 clear hxp hm
 unfold RDoes
 clear hx B
 go_enter Tryz.func66, Tryz.ntmps66
 go_wp2_with (first | (go_at_call 45; refine (rinside_any _ _).mono ?_; rintro e w1 ⟨rfl, rfl⟩) | (go_at_call 88; refine HC.out.mono ?_; rintro e w1 ⟨rfl, rfl⟩))
 go_ret2
 exact RDid.mk HX.out (congrArg (fun z => Ending.returned (.tuple #[.int .u32 z, .int .i64 0])) HZ.out.symm) BB.out BM.out
set_option maxRecDepth 100000 in
theorem rdo_sb (B : RBusAt w base v x sec0 hist) (a y : Int) (a0 : 0 ≤ a) (a1 : a < 4294967296) (y0 : 0 ≤ y) (y1 : y < 4294967296) (hin : a < 1048576) : RDoes w base v x sec0 4 a y := by
 have hx : x.act 4 a y = (0, 0, { x with M := setB x.M a.toNat (y % 256) }) := by
  unfold BS.act
  rw [if_neg (by decide), if_neg (by simp), if_pos ⟨rfl, hin⟩]
 have HX := hid hx
 have BB := hid (B.below (box_below w #[.int .i64 4, .int .u32 a, .int .u32 y] 96))
 have BM := hid (show RMoves w (w.alloc (.cells #[.int .i64 4, .int .u32 a, .int .u32 y] 96)) v v from RMoves.of_below v (box_below _ _ _))
 have t1 : decide (a < 1048576) = true := decide_eq_true hin
 obtain ⟨p, rfl⟩ := Int.eq_ofNat_of_zero_le a0
 have HC := hid (rlay_any BB.out p (by omega) (y % 256) (by omega) (by omega))
 unfold RDoes
 clear hx B
 go_enter Tryz.func66, Tryz.ntmps66
 go_wp2_with (first | (go_at_call 45; refine (rinside_any _ _).mono ?_; rintro e w1 ⟨rfl, rfl⟩) | (go_at_call 89; refine HC.out.mono ?_; rintro e w1 ⟨rfl, b1, m1⟩; have B1 := hid b1; have M1 := hid m1; clear b1 m1))
 go_ret2
 exact RDid.mk HX.out rfl B1.out (BM.out.trans M1.out)
set_option maxRecDepth 100000 in
theorem rdo_lw (B : RBusAt w base v x sec0 hist) (a y : Int) (a0 : 0 ≤ a) (a1 : a < 4294967296) (y0 : 0 ≤ y) (y1 : y < 4294967296) (hin : a < 1048576) (h4 : a % 4 = 0) : RDoes w base v x sec0 1 a y := by
 have hx : x.act 1 a y = (getV x.M a.toNat, 0, x) := by
  unfold BS.act
  rw [if_neg (by decide), if_neg (by simp), if_neg (by simp), if_pos ⟨rfl, hin⟩, if_pos h4]
 have HX := hid hx
 have BB := hid (B.below (box_below w #[.int .i64 1, .int .u32 a, .int .u32 y] 96))
 have BM := hid (show RMoves w (w.alloc (.cells #[.int .i64 1, .int .u32 a, .int .u32 y] 96)) v v from RMoves.of_below v (box_below _ _ _))
 have t1 : decide (a < 1048576) = true := decide_eq_true hin
 obtain ⟨q, hq⟩ : ∃ q : Nat, a = ((4 * q : Nat) : Int) := ⟨(a / 4).toNat, by omega⟩
 obtain ⟨c0, -⟩ := BB.out.cells
 have cw := BB.out.word q (by omega)
 have fw := BB.out.mem.frozen q
 have e1 : a / 4 = (q : Int) := by omega
 have q1 : (q : Int) < 262144 := by omega
 have q2 : a.toNat = 4 * q := by omega
 have hlt := B.row.lt
 have t2 : (a % 4 == 0) = true := by simpa using h4
 clear hq
 have HZ := hid q2
 clear q2
 unfold RDoes
 clear hx B
 go_enter Tryz.func66, Tryz.ntmps66
 go_wp2_with (go_at_call 45; refine (rinside_any _ _).mono ?_; rintro e w1 ⟨rfl, rfl⟩)
 go_quiet (fail)
 go_wp2_with fail
 go_ret2
 exact RDid.mk HX.out (congrArg (fun z => Ending.returned (.tuple #[.int .u32 (getV x.M z), .int .i64 0])) HZ.out.symm) (BB.out.drewN nq) (BM.out.trans (RMoves.of_below v ⟨rfl, rfl, rfl, Nat.le_refl _, fun _ _ => rfl⟩))
set_option maxRecDepth 100000 in
theorem rdo_lw_odd (B : RBusAt w base v x sec0 hist) (a y : Int) (a0 : 0 ≤ a) (a1 : a < 4294967296) (y0 : 0 ≤ y) (y1 : y < 4294967296) (hin : a < 1048576) (h4 : ¬ a % 4 = 0) : RDoes w base v x sec0 1 a y := by
 have hx : x.act 1 a y = (0, 1, x) := by
  unfold BS.act
  rw [if_neg (by decide), if_neg (by simp), if_neg (by simp), if_pos ⟨rfl, hin⟩, if_neg h4]
 have HX := hid hx
 have BB := hid (B.below (box_below w #[.int .i64 1, .int .u32 a, .int .u32 y] 96))
 have BM := hid (show RMoves w (w.alloc (.cells #[.int .i64 1, .int .u32 a, .int .u32 y] 96)) v v from RMoves.of_below v (box_below _ _ _))
 have t1 : decide (a < 1048576) = true := decide_eq_true hin
 have t2 : (a % 4 == 0) = false := by simpa using h4
 unfold RDoes
 clear hx B
 go_enter Tryz.func66, Tryz.ntmps66
 go_wp2_with (go_at_call 45; refine (rinside_any _ _).mono ?_; rintro e w1 ⟨rfl, rfl⟩)
 go_ret2
 exact RDid.mk HX.out rfl BB.out BM.out
set_option maxRecDepth 100000 in
theorem rdo_lw_out (B : RBusAt w base v x sec0 hist) (a y : Int) (a0 : 0 ≤ a) (a1 : a < 4294967296) (y0 : 0 ≤ y) (y1 : y < 4294967296) (hin : ¬ a < 1048576) {l h : Int} {x' : BS} (hl : x.load a = (l, h, x')) : RDoes w base v x sec0 1 a y := by
 have hx : x.act 1 a y = (l, h, x') := by
  unfold BS.act
  rw [if_neg (by decide), if_neg (by simp), if_neg (by simp), if_neg (by simp [hin]), if_neg (by simp), if_pos rfl, hl]
 have HX := hid hx
 have BB := hid (B.below (box_below w #[.int .i64 1, .int .u32 a, .int .u32 y] 96))
 have BM := hid (show RMoves w (w.alloc (.cells #[.int .i64 1, .int .u32 a, .int .u32 y] 96)) v v from RMoves.of_below v (box_below _ _ _))
 have t1 : decide (a < 1048576) = false := decide_eq_false hin
 have hc := rload_any BB.out a
 unfold RLoads at hc
 rw [hl] at hc
 have HC := hid hc
 clear hc hl
 unfold RDoes
 clear hx B
 go_enter Tryz.func66, Tryz.ntmps66
 go_wp2_with (first | (go_at_call 45; refine (rinside_any _ _).mono ?_; rintro e w1 ⟨rfl, rfl⟩) | (go_at_call 90; refine HC.out.mono ?_; rintro e w1 ⟨rfl, b1, m1⟩; have B1 := hid b1; have M1 := hid m1; clear b1 m1))
 go_ret2
 exact RDid.mk HX.out rfl B1.out (BM.out.trans M1.out)
set_option maxRecDepth 100000 in
theorem rdo_sw (B : RBusAt w base v x sec0 hist) (a y : Int) (a0 : 0 ≤ a) (a1 : a < 4294967296) (y0 : 0 ≤ y) (y1 : y < 4294967296) (hin : a < 1048576) (h4 : a % 4 = 0) : RDoes w base v x sec0 3 a y := by
 have hx : x.act 3 a y = (0, 0, { x with M := laid4 x.M a.toNat y }) := by
  unfold BS.act
  rw [if_neg (by decide), if_neg (by simp), if_neg (by simp), if_neg (by simp), if_pos ⟨rfl, hin⟩, if_pos h4]
 have HX := hid hx
 have BB := hid (B.below (box_below w #[.int .i64 3, .int .u32 a, .int .u32 y] 96))
 have BM := hid (show RMoves w (w.alloc (.cells #[.int .i64 3, .int .u32 a, .int .u32 y] 96)) v v from RMoves.of_below v (box_below _ _ _))
 have t1 : decide (a < 1048576) = true := decide_eq_true hin
 obtain ⟨q, hq⟩ : ∃ q : Nat, a = ((4 * q : Nat) : Int) := ⟨(a / 4).toNat, by omega⟩
 obtain ⟨c0, -⟩ := BB.out.cells
 have cw := BB.out.word q (by omega)
 have fw := BB.out.mem.frozen q
 have e1 : a / 4 = (q : Int) := by omega
 have q1 : (q : Int) < 262144 := by omega
 have q2 : a.toNat = 4 * q := by omega
 have hlt := B.row.lt
 have t2 : (a % 4 == 0) = true := by simpa using h4
 clear hq
 rw [q2] at HX
 clear q2
 have HP := hid (BB.out.poke q y y0 y1)
 unfold RDoes
 clear hx B
 go_enter Tryz.func66, Tryz.ntmps66
 go_wp2_with (go_at_call 45; refine (rinside_any _ _).mono ?_; rintro e w1 ⟨rfl, rfl⟩)
 go_region
 go_wp2_with fail
 go_ret2
 exact RDid.mk HX.out rfl (HP.out.1.drew) ((BM.out.trans HP.out.2).trans (RMoves.of_below v ((Below.refl _ _).drew)))
set_option maxRecDepth 100000 in
theorem rdo_sw_odd (B : RBusAt w base v x sec0 hist) (a y : Int) (a0 : 0 ≤ a) (a1 : a < 4294967296) (y0 : 0 ≤ y) (y1 : y < 4294967296) (hin : a < 1048576) (h4 : ¬ a % 4 = 0) : RDoes w base v x sec0 3 a y := by
 have hx : x.act 3 a y = (0, 1, x) := by
  unfold BS.act
  rw [if_neg (by decide), if_neg (by simp), if_neg (by simp), if_neg (by simp), if_pos ⟨rfl, hin⟩, if_neg h4]
 have HX := hid hx
 have BB := hid (B.below (box_below w #[.int .i64 3, .int .u32 a, .int .u32 y] 96))
 have BM := hid (show RMoves w (w.alloc (.cells #[.int .i64 3, .int .u32 a, .int .u32 y] 96)) v v from RMoves.of_below v (box_below _ _ _))
 have t1 : decide (a < 1048576) = true := decide_eq_true hin
 have t2 : (a % 4 == 0) = false := by simpa using h4
 unfold RDoes
 clear hx B
 go_enter Tryz.func66, Tryz.ntmps66
 go_wp2_with (go_at_call 45; refine (rinside_any _ _).mono ?_; rintro e w1 ⟨rfl, rfl⟩)
 go_ret2
 exact RDid.mk HX.out rfl BB.out BM.out
set_option maxRecDepth 100000 in
theorem rdo_sw_out (B : RBusAt w base v x sec0 hist) (a y : Int) (a0 : 0 ≤ a) (a1 : a < 4294967296) (y0 : 0 ≤ y) (y1 : y < 4294967296) (hin : ¬ a < 1048576) : RDoes w base v x sec0 3 a y := by
 have hx : x.act 3 a y = x.store a y := by
  unfold BS.act
  rw [if_neg (by decide), if_neg (by simp), if_neg (by simp), if_neg (by simp), if_neg (by simp [hin]), if_neg (by simp), if_pos rfl]
 have HX := hid hx
 have BB := hid (B.below (box_below w #[.int .i64 3, .int .u32 a, .int .u32 y] 96))
 have BM := hid (show RMoves w (w.alloc (.cells #[.int .i64 3, .int .u32 a, .int .u32 y] 96)) v v from RMoves.of_below v (box_below _ _ _))
 have t1 : decide (a < 1048576) = false := decide_eq_false hin
 have hc := rstore_any BB.out a y y0 y1
 unfold RStores at hc
 have HC := hid hc
 have HE := hid (show (x.store a y).1 = 0 from by unfold BS.store; split; rfl; split; rfl; split; rfl; split <;> rfl)
 clear hc
 unfold RDoes
 clear hx B
 go_enter Tryz.func66, Tryz.ntmps66
 go_wp2_with (first | (go_at_call 45; refine (rinside_any _ _).mono ?_; rintro e w1 ⟨rfl, rfl⟩) | (go_at_call 91; refine HC.out.mono ?_; rintro e w1 ⟨rfl, hv1⟩; have V1 := hid hv1; clear hv1))
 go_ret2
 obtain ⟨v1, h1, b1, m1⟩ := V1.out
 exact RDid.mk (l := 0) (h := (x.store a y).2.1) (x' := (x.store a y).2.2) (by rw [HX.out]; exact Prod.ext HE.out rfl) rfl b1 (BM.out.trans m1)
theorem rdo_other (B : RBusAt w base v x sec0 hist) (k a y : Int) (hk : ¬ (k = 0 ∨ k = 1 ∨ k = 2 ∨ k = 3 ∨ k = 4)) : RDoes w base v x sec0 k a y := by
 have hx : x.act k a y = (0, 1, x) := by
  unfold BS.act
  rw [if_neg (by omega), if_neg (by omega), if_neg (by omega), if_neg (by omega), if_neg (by omega), if_neg (by omega), if_neg (by omega)]
 have HX := hid hx
 have t0 : (k == 0) = false := by simp; omega
 have t1 : (k == 1) = false := by simp; omega
 have t2 : (k == 2) = false := by simp; omega
 have t3 : (k == 3) = false := by simp; omega
 have t4 : (k == 4) = false := by simp; omega
 have BB := hid (B.below (box_below w #[.int .i64 k, .int .u32 a, .int .u32 y] 96))
 have BM := hid (show RMoves w (w.alloc (.cells #[.int .i64 k, .int .u32 a, .int .u32 y] 96)) v v from RMoves.of_below v (box_below _ _ _))
 unfold RDoes
 clear hx B hk
 go_enter Tryz.func66, Tryz.ntmps66
 go_wp2_with (go_at_call 45; refine (rinside_any _ _).mono ?_; rintro e w1 ⟨rfl, rfl⟩)
 go_ret2
 exact RDid.mk HX.out rfl BB.out BM.out
theorem rdo_any (B : RBusAt w base v x sec0 hist) (k a y : Int) (a0 : 0 ≤ a) (a1 : a < 4294967296) (y0 : 0 ≤ y) (y1 : y < 4294967296) : RDoes w base v x sec0 k a y := by
 by_cases h0 : k = 0
 ·subst h0; exact rdo_none B a y a0 a1 y0 y1
 by_cases h1 : k = 1
 ·subst h1
  by_cases hin : a < 1048576
  ·by_cases h4 : a % 4 = 0
   ·exact rdo_lw B a y a0 a1 y0 y1 hin h4
   ·exact rdo_lw_odd B a y a0 a1 y0 y1 hin h4
  ·exact rdo_lw_out B a y a0 a1 y0 y1 hin rfl
 by_cases h2 : k = 2
 ·subst h2
  by_cases hin : a < 1048576
  ·exact rdo_lb B a y a0 a1 y0 y1 hin
  ·exact rdo_lb_out B a y a0 a1 y0 y1 hin
 by_cases h3 : k = 3
 ·subst h3
  by_cases hin : a < 1048576
  ·by_cases h4 : a % 4 = 0
   ·exact rdo_sw B a y a0 a1 y0 y1 hin h4
   ·exact rdo_sw_odd B a y a0 a1 y0 y1 hin h4
  ·exact rdo_sw_out B a y a0 a1 y0 y1 hin
 by_cases h4 : k = 4
 ·subst h4
  by_cases hin : a < 1048576
  ·exact rdo_sb B a y a0 a1 y0 y1 hin
  ·exact rdo_sb_out B a y a0 a1 y0 y1 hin
 exact rdo_other B k a y (by omega)
end
end Go.Proofs.YtgcknekhimpfkaaGreatDoor
