/- Both buses, made: carrellaw04.pair. -/
import Derived.Test.YtmamocdkmmkkjaaRBusN
import Derived.Deep.CutBlock
namespace Go.Proofs.Ytmamocdkmmkkjaa
open Go Go.RowKit Go.Lib Go.Proofs.Ytmamocdkmmkkjaa.Pl
set_option linter.unusedVariables false
set_option linter.unusedSimpArgs false
def bs0 (f : Nat → Int) (n N : Nat) : BS := ⟨wordsM f n, [], [], 0, 0, 0, 0, N, fun _ => nought, []⟩
section
variable {w0 w w' : World} {b1 b2 : Nat} {v : BV} {u : RV} {x z : BS} {sec0 : Nat → ByteArray} {hist : List (Nat × ByteArray)}
theorem Both.far (T : Both w0 w b1 b2 v u x z sec0 hist) (g j : Nat) (y : Value) (h1 : g ∉ brow v) (h2 : g ∉ rbrow u) (hg : w0.heap.size ≤ g) : Both w0 (w.setCell ⟨g, j, none⟩ y) b1 b2 v u x z sec0 hist :=
  ⟨T.p.touch (Touch.set w ⟨g, j, none⟩ y) (fun k hk hm => h1 ((show k = g by simpa using hm) ▸ hk)), T.r.touch (Touch.set w ⟨g, j, none⟩ y) (fun k hk hm => h2 ((show k = g by simpa using hm) ▸ hk)), T.below.setCell hg y, T.l1, T.l2, T.ap⟩
end
/-- What was lent, its first k words spoilt. -/
structure LentO (w0 wr : World) (g n k : Nat) (f : Nat → Int) : Prop where
  o : ∃ L, OwnI .u32 wr g (n + 3) 22 L ∧ ∀ i, k ≤ i → i < n → L i = f i
  lo : w0.heap.size ≤ g
  below : Below w0.heap.size w0 wr
theorem LentO.set {w0 wr : World} {g n k : Nat} {f : Nat → Int} (L : LentO w0 wr g n k f) (y : Int) : LentO w0 (wr.setCell ⟨g, k, none⟩ (.int .u32 y)) g n (k + 1) f := by
  obtain ⟨l, h1, h2⟩ := L.o
  exact ⟨⟨_, h1.set k y, fun i hi hn => by rw [if_neg (by omega)]; exact h2 i (by omega) hn⟩, L.lo, L.below.setCell L.lo _⟩
theorem LentO.drewN {w0 wr : World} {g n k : Nat} {f : Nat → Int} (L : LentO w0 wr g n k f) (m : Nat) : LentO w0 (wr.drewN m) g n k f := by
  obtain ⟨l, h1, h2⟩ := L.o
  exact ⟨⟨l, h1, h2⟩, L.lo, L.below.trans ⟨rfl, rfl, rfl, Nat.le_refl _, fun _ _ => rfl⟩⟩
theorem LentO.cell {w0 wr : World} {g n k : Nat} {f : Nat → Int} (L : LentO w0 wr g n k f) (hk : k < n) : wr.cell? ⟨g, k, none⟩ = some (.int .u32 (f k)) ∧ wr.frozen? ⟨g, k, none⟩ = false := by
  obtain ⟨l, h1, h2⟩ := L.o
  exact ⟨by rw [h1.cell (by omega), h2 k (Nat.le_refl _) hk], h1.frozen k⟩
/-- Both buses, and what was lent. -/
structure PairS (w0 wr : World) (b1 b2 : Nat) (v : BV) (u : RV) (X : BS) (g n k : Nat) (f : Nat → Int) : Prop where
  l : LentO w0 wr g n k f
  t : Both w0 wr b1 b2 v u X X (fun _ => nought) []
  fa : g ∉ brow v
  fb : g ∉ rbrow u
theorem PairS.set {w0 wr : World} {b1 b2 : Nat} {v : BV} {u : RV} {X : BS} {g n k : Nat} {f : Nat → Int} (P : PairS w0 wr b1 b2 v u X g n k f) (y : Int) : PairS w0 (wr.setCell ⟨g, k, none⟩ (.int .u32 y)) b1 b2 v u X g n (k + 1) f :=
  ⟨P.l.set y, P.t.far g k _ P.fa P.fb P.l.lo, P.fa, P.fb⟩
theorem PairS.drewN {w0 wr : World} {b1 b2 : Nat} {v : BV} {u : RV} {X : BS} {g n k : Nat} {f : Nat → Int} (P : PairS w0 wr b1 b2 v u X g n k f) (m : Nat) : PairS w0 (wr.drewN m) b1 b2 v u X g n k f :=
  ⟨P.l.drewN m, P.t.step ⟨rfl, rfl, rfl, Nat.le_refl _, fun _ _ => rfl⟩, P.fa, P.fb⟩
theorem pair_size (A : Option Addr) (n c : Nat) (sec : Int) (w : World) (h : ¬ (8 ≤ sec ∧ sec ≤ 1024)) :
    Calls Try.prog 21 #[.slice A n c, .int .i64 sec] w fun e w' => e = .returned (.tuple #[.pointer none, .pointer none, .bool true]) ∧ w = w' := by
  have HN := Lib.hid h
  clear h
  go_enter Try.func21, Try.ntmps21
  go_wp2_with (first | (go_at_call 8; refine (new_no sec _ HN.out).mono ?_; rintro e w1 ⟨rfl, rfl⟩) | (go_at_call 32; refine (rnew_no sec _ HN.out).mono ?_; rintro e w1 ⟨rfl, rfl⟩))
  exact bodyPost_ret (v := .tuple #[.pointer none, .pointer none, .bool true]) (by simp [results, Try.results21, go_sem]) rfl ⟨rfl, rfl⟩
set_option maxRecDepth 100000 in
set_option maxHeartbeats 4000000 in
theorem pair_yes (A : Option Addr) (n c N : Nat) (f : Nat → Int) (w : World) (h8 : 8 ≤ N) (h9 : N ≤ 1024) (hn : n ≤ 262144) (hf : ∀ i, 0 ≤ f i ∧ f i < 4294967296) (hr : RdI .u32 w A n f) :
    Calls Try.prog 21 #[.slice A n c, .int .i64 (N : Int)] w fun e w' => ∃ v u b1 b2, e = .returned (.tuple #[.pointer (some ⟨v.b, 0, none⟩), .pointer (some ⟨u.b, 0, none⟩), .bool true]) ∧ Both w w' b1 b2 v u (bs0 f n N) (bs0 f n N) (fun _ => nought) [] := by
  have HR := Lib.hid hr
  have HF := Lib.hid hf
  have hlt : 0 < n → ∃ b off, A = some ⟨b, off, none⟩ := fun h => by obtain ⟨b, off, h1, _⟩ := hr h; exact ⟨b, off, h1⟩
  have HLT := Lib.hid hlt
  clear hr hf hlt
  have hmk : ∀ W : World, (Instr.makeSlice 23 (.int .i64 (n : Int)) (.int .i64 ((n : Int) + 3))).run Try.prog W = .ok (.slice (some ⟨W.heap.size, 0, none⟩) n (n + 3)) (W.alloc (.cells (madeCells #[.int .u32 0] (n + 3)) 22)) := fun W => mk_lent n (by omega) W
  have nb : (n : Int) ≤ 35184372089000 := by omega
  go_enter Try.func21, Try.ntmps21
  go_upto_region 5 with (first | (go_at_call 8; refine (new_yes (N : Int) _ (by omega) (by omega)).mono ?_; rintro e w1 ⟨d, s, rfl, D, hb1⟩; have HD := Lib.hid D; have HB1 := Lib.hid hb1; clear D hb1) | (go_at_call 32; refine (rnew_yes N _ h8 h9).mono ?_; rintro e w2 ⟨r, vf, rfl, R, hb2⟩; have HRF := Lib.hid R; have HB2 := Lib.hid hb2; clear R hb2))
  go_upto_region 6 with fail
  clear hmk
  have hO : OwnI .u32 (w2.alloc (.cells (madeCells #[.int .u32 0] (n + 3)) 22)) w2.heap.size (n + 3) 22 (fun _ => 0) := ⟨_, heap_alloc_new w2 _, size_madeCells _ _, fun i hi => made_u32 (n + 3) i hi⟩
  have hal : Below w2.heap.size w2 (w2.alloc (.cells (madeCells #[.int .u32 0] (n + 3)) 22)) := (Below.refl _ _).alloc (Nat.le_refl _) _
  have HW2 := Lib.hid (HB1.out.trans (HB2.out.mono HB1.out.size))
  have HW3 := Lib.hid (HW2.out.trans (hal.mono HW2.out.size))
  obtain ⟨vl, w4, hcp, hO4, T4⟩ := lent_copy w _ w2.heap.size n c A f HR.out HW3.out hO 3
  have hb4 : Below w2.heap.size w2 w4 := hal.trans (T4.below hal.size (fun k hk => by rw [show k = w2.heap.size from by simpa using hk]; exact Nat.le_refl _))
  have HO4 := Lib.hid hO4
  have HB4 := Lib.hid hb4
  have hg2 : w2.heap.size < w4.heap.size := hO4.lt
  clear hO hal hO4 hb4 T4
  go_upto_region 7 with fail
  clear hcp
  have HW4 := Lib.hid (HW2.out.trans (HB4.out.mono HW2.out.size))
  have hrd : RdI .u32 w4 (some ⟨w2.heap.size, 0, none⟩) n f := fun _ => ⟨w2.heap.size, 0, rfl, hg2, fun i hi => by rw [Nat.zero_add, HO4.out.cell (by omega), if_pos hi]⟩
  have hrw : RdI .u32 w4 A n f := fun hn0 => by
    obtain ⟨b, off, h1, h2, h3⟩ := HR.out hn0
    exact ⟨b, off, h1, Nat.lt_of_lt_of_le h2 HW4.out.size, fun i hi => (HW4.out.cell (p := ⟨b, off + i, none⟩) h2).trans (h3 i hi)⟩
  have HRD := Lib.hid hrd
  have HRW := Lib.hid hrw
  clear hrd hrw
  have hdl := HD.out.dlt
  have hsl := HD.out.slt
  have hs12 := HB2.out.size
  have hs24 := HB4.out.size
  have hs01 := HB1.out.size
  have HD4 := Lib.hid ((HD.out.below HB2.out).below HB4.out)
  have HR4 := Lib.hid (HRF.out.below HB4.out)
  have hrl := rrow_lt' HRF.out
  go_upto_region 8 with (go_at_call 9; refine (bnew_yes (some ⟨w2.heap.size, 0, none⟩) n (n + 3) f _ w.heap.size d s _ N _ _ hn HF.out HRD.out HD4.out).mono ?_; rintro e w5 ⟨b, m, rfl, B, hb5, hbb, hbm⟩; have HBU := Lib.hid B; have HB5 := Lib.hid hb5; clear B hb5)
  have hrw5 : RdI .u32 w5 A n f := fun hn0 => by
    obtain ⟨b, off, h1, h2, h3⟩ := HRW.out hn0
    exact ⟨b, off, h1, Nat.lt_of_lt_of_le h2 HB5.out.size, fun i hi => (HB5.out.cell (p := ⟨b, off + i, none⟩) h2).trans (h3 i hi)⟩
  have HRW5 := Lib.hid hrw5
  have HR5 := Lib.hid (HR4.out.below HB5.out)
  clear hrw5
  go_upto_region 9 with (go_at_call 33; refine (rbnew_at A n c f _ w1.heap.size r vf N _ hn HF.out HRW5.out HR5.out ⟨h8, h9⟩ (fun _ => nought_size)).mono ?_; rintro e w6 ⟨u, rfl, RB, hb6, hru⟩; have HRB := Lib.hid RB; have HB6 := Lib.hid hb6; have HRU := Lib.hid hru; clear RB hb6 hru)
  obtain ⟨v, hv⟩ : ∃ v : BV, (⟨b, m, d, s, .slice none 0 0, .slice none 0 0, .slice none 0 0⟩ : BV) = v := ⟨_, rfl⟩
  have hrow : brow v = [b, m, d, s] := by rw [← hv]; rfl
  have hvb : v.b = b := by rw [← hv]
  have hblt := fun g hg => (HBU.out.lt g hg).2
  rw [hv] at HBU hblt
  have hP := Lib.hid (show PairS w w6 w.heap.size w1.heap.size v u (bs0 f n N) w2.heap.size n 0 f from by
    have hs56 := HB6.out.size
    have hs45 := HB5.out.size
    have hgg : w2.heap.size ∉ brow v := by rw [hrow]; simp; omega
    have hgu : w2.heap.size ∉ rbrow u := fun h => by
      rcases HRU.out _ h with h1 | h1
      · have := (hrl _ h1).2; omega
      · omega
    refine ⟨⟨⟨_, (HO4.out.below HB5.out hg2).below HB6.out (by omega), fun i _ hi => if_pos hi⟩, HW2.out.size, HW4.out.trans ((HB5.out.trans (HB6.out.mono HB5.out.size)).mono HW4.out.size)⟩, ⟨HBU.out.below HB6.out, HRB.out, HW4.out.trans ((HB5.out.trans (HB6.out.mono HB5.out.size)).mono HW4.out.size), Nat.le_refl _, hs01, fun k hk hm => ?_⟩, hgg, hgu⟩
    rcases HRU.out _ hm with h1 | h1
    · have h2 := hrl _ h1
      rw [hrow] at hk
      simp at hk
      omega
    · have := hblt k hk; omega)
  have hrdk := Lib.hid HR.out
  have HVB := Lib.hid hvb
  have hbk := bdisk_any hP.out.t.p
  rw [hvb] at hbk
  have HBD := Lib.hid hbk
  clear hbk hvb hv
  clear HBU HRB HRU HR5 HRW5 HR4 HD4 HRD HRW HO4 hblt HB6 HB5 HB4 HW3 HD HRF hrl hrow hdl hsl
  have hg1 := hP.out.l.lo
  generalize w2.heap.size = g at hP hg1 hbb hbm hg2 ⊢
  go_upto_block 0 with (go_at_call 25; refine HBD.out.mono ?_; rintro e w7 ⟨rfl, rfl⟩)
  go_wp2_with fail
  go_loopw [16] (fun i wr => ∃ k : Nat, k ≤ n ∧ i = .int .i64 k ∧ Hid (PairS w wr w.heap.size w1.heap.size v u (bs0 f n N) g n k f)) (fun i _ => n - (intOf i).toNat)
  case atStart => exact ⟨0, Nat.zero_le _, rfl, hP⟩
  case round =>
    obtain ⟨k, hk, rfl, HX⟩ := hrel
    by_cases hlt : k < n
    · have hlt' : (k : Int) < (n : Int) := by omega
      obtain ⟨hc1, -⟩ := HX.out.l.cell hlt
      obtain ⟨bA, off, hA, hbA, hcA⟩ := HR.out (by omega)
      have hc2 : wr.cell? ⟨bA, off + k, none⟩ = some (.int .u32 (f k)) := (HX.out.l.below.cell (p := ⟨bA, off + k, none⟩) hbA).trans (hcA k hlt)
      subst hA
      have HY := Lib.hid (fun nq => HX.out.drewN nq)
      clear hcA HX
      go_wp2_with fail
      go_quiet (fail)
      have HZ := Lib.hid (HY.out nq)
      clear HY hc1 hc2
      generalize wr.drewN nq = wz at HZ ⊢
      obtain ⟨-, hfz⟩ := HZ.out.l.cell hlt
      obtain ⟨hcz, -⟩ := HZ.out.l.cell hlt
      have HZ2 := Lib.hid (HZ.out.set 77)
      clear HZ
      go_wp2_with fail
      go_roundw
      case rel => exact ⟨k + 1, by omega, by go_num, HZ2⟩
      case measure => simp [intOf]; omega
    · obtain rfl : k = n := by omega
      go_wp2_with fail
      exact bodyPost_ret (v := .tuple #[.pointer (some ⟨b, 0, none⟩), .pointer (some ⟨u.b, 0, none⟩), .bool true]) (by simp [results, Try.results21, go_sem]) rfl ⟨v, u, _, _, by rw [HVB.out], HX.out.t⟩
set_option maxRecDepth 100000 in
set_option maxHeartbeats 4000000 in
theorem pair_big (A : Option Addr) (n c N : Nat) (f : Nat → Int) (w : World) (h8 : 8 ≤ N) (h9 : N ≤ 1024) (hn : 262144 < n ∧ n ≤ 35184372089000) (hf : ∀ i, 0 ≤ f i ∧ f i < 4294967296) (hr : RdI .u32 w A n f) :
    Calls Try.prog 21 #[.slice A n c, .int .i64 (N : Int)] w fun e w' => e = .returned (.tuple #[.pointer none, .pointer none, .bool true]) ∧ Below w.heap.size w w' := by
  have HR := Lib.hid hr
  have HF := Lib.hid hf
  have hlt : 0 < n → ∃ b off, A = some ⟨b, off, none⟩ := fun h => by obtain ⟨b, off, h1, _⟩ := hr h; exact ⟨b, off, h1⟩
  have HLT := Lib.hid hlt
  clear hr hf hlt
  have hmk : ∀ W : World, (Instr.makeSlice 23 (.int .i64 (n : Int)) (.int .i64 ((n : Int) + 3))).run Try.prog W = .ok (.slice (some ⟨W.heap.size, 0, none⟩) n (n + 3)) (W.alloc (.cells (madeCells #[.int .u32 0] (n + 3)) 22)) := fun W => mk_lent n (by omega) W
  have nb : (n : Int) ≤ 35184372089000 := by omega
  go_enter Try.func21, Try.ntmps21
  go_upto_region 5 with (first | (go_at_call 8; refine (new_yes (N : Int) _ (by omega) (by omega)).mono ?_; rintro e w1 ⟨d, s, rfl, D, hb1⟩; have HD := Lib.hid D; have HB1 := Lib.hid hb1; clear D hb1) | (go_at_call 32; refine (rnew_yes N _ h8 h9).mono ?_; rintro e w2 ⟨r, vf, rfl, R, hb2⟩; have HRF := Lib.hid R; have HB2 := Lib.hid hb2; clear R hb2))
  go_upto_region 6 with fail
  clear hmk
  have hO : OwnI .u32 (w2.alloc (.cells (madeCells #[.int .u32 0] (n + 3)) 22)) w2.heap.size (n + 3) 22 (fun _ => 0) := ⟨_, heap_alloc_new w2 _, size_madeCells _ _, fun i hi => made_u32 (n + 3) i hi⟩
  have hal : Below w2.heap.size w2 (w2.alloc (.cells (madeCells #[.int .u32 0] (n + 3)) 22)) := (Below.refl _ _).alloc (Nat.le_refl _) _
  have HW2 := Lib.hid (HB1.out.trans (HB2.out.mono HB1.out.size))
  have HW3 := Lib.hid (HW2.out.trans (hal.mono HW2.out.size))
  obtain ⟨vl, w4, hcp, hO4, T4⟩ := lent_copy w _ w2.heap.size n c A f HR.out HW3.out hO 3
  have hb4 : Below w2.heap.size w2 w4 := hal.trans (T4.below hal.size (fun k hk => by rw [show k = w2.heap.size from by simpa using hk]; exact Nat.le_refl _))
  have HO4 := Lib.hid hO4
  have HB4 := Lib.hid hb4
  have hg2 : w2.heap.size < w4.heap.size := hO4.lt
  clear hO hal hO4 hb4 T4
  go_upto_region 7 with fail
  clear hcp
  have HW4 := Lib.hid (HW2.out.trans (HB4.out.mono HW2.out.size))
  have hrd : RdI .u32 w4 (some ⟨w2.heap.size, 0, none⟩) n f := fun _ => ⟨w2.heap.size, 0, rfl, hg2, fun i hi => by rw [Nat.zero_add, HO4.out.cell (by omega), if_pos hi]⟩
  have hrw : RdI .u32 w4 A n f := fun hn0 => by
    obtain ⟨b, off, h1, h2, h3⟩ := HR.out hn0
    exact ⟨b, off, h1, Nat.lt_of_lt_of_le h2 HW4.out.size, fun i hi => (HW4.out.cell (p := ⟨b, off + i, none⟩) h2).trans (h3 i hi)⟩
  have HRD := Lib.hid hrd
  have HRW := Lib.hid hrw
  clear hrd hrw
  have hn1 := hn.1
  have hn1' : (262144 : Int) < (n : Int) := by omega
  go_upto_region 8 with (go_at_call 9; refine (bnew_big _ n _ _ _ hn1').mono ?_; rintro e w5 ⟨rfl, rfl⟩)
  go_upto_region 9 with (go_at_call 33; refine (rbnew_big _ n _ _ _ hn1').mono ?_; rintro e w6 ⟨rfl, rfl⟩)
  have hP := Lib.hid (show LentO w w4 w2.heap.size n 0 f from ⟨⟨_, HO4.out, fun i _ hi => if_pos hi⟩, HW2.out.size, HW4.out⟩)
  clear HRD HRW HO4 HB4 HW3 HD HRF
  have hg1 := hP.out.lo
  generalize w2.heap.size = g at hP hg1 hg2 ⊢
  go_upto_block 0 with fail
  go_wp2_with fail
  go_loopw [16] (fun i wr => ∃ k : Nat, k ≤ n ∧ i = .int .i64 k ∧ Hid (LentO w wr g n k f)) (fun i _ => n - (intOf i).toNat)
  case atStart => exact ⟨0, Nat.zero_le _, rfl, hP⟩
  case round =>
    obtain ⟨k, hk, rfl, HX⟩ := hrel
    by_cases hlt : k < n
    · have hlt' : (k : Int) < (n : Int) := by omega
      obtain ⟨hc1, -⟩ := HX.out.cell hlt
      obtain ⟨bA, off, hA, hbA, hcA⟩ := HR.out (by omega)
      have hc2 : wr.cell? ⟨bA, off + k, none⟩ = some (.int .u32 (f k)) := (HX.out.below.cell (p := ⟨bA, off + k, none⟩) hbA).trans (hcA k hlt)
      subst hA
      have HY := Lib.hid (fun nq => HX.out.drewN nq)
      clear hcA HX
      go_wp2_with fail
      go_quiet (fail)
      have HZ := Lib.hid (HY.out nq)
      clear HY hc1 hc2
      generalize wr.drewN nq = wz at HZ ⊢
      obtain ⟨-, hfz⟩ := HZ.out.cell hlt
      obtain ⟨hcz, -⟩ := HZ.out.cell hlt
      have HZ2 := Lib.hid (HZ.out.set 77)
      clear HZ
      go_wp2_with fail
      go_roundw
      case rel => exact ⟨k + 1, by omega, by go_num, HZ2⟩
      case measure => simp [intOf]; omega
    · obtain rfl : k = n := by omega
      go_wp2_with fail
      exact bodyPost_ret (v := .tuple #[.pointer none, .pointer none, .bool true]) (by simp [results, Try.results21, go_sem]) rfl ⟨rfl, HX.out.below⟩
end Go.Proofs.Ytmamocdkmmkkjaa
