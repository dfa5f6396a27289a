/- The document's bus: a device's word, loaded. -/
import Derived.Test.YtmamocdkmmkkjaaRBusC
namespace Go.Proofs.Ytmamocdkmmkkjaa
open Go Go.RowKit Go.Lib Go.Proofs.Ytmamocdkmmkkjaa.Pl
set_option linter.unusedVariables false
set_option linter.unusedSimpArgs false
theorem rsectors_any {w : World} {base r : Nat} {vf vw : Value} {N : Nat} {sec0 : Nat → ByteArray} {hist : List (Nat × ByteArray)} (R : RefAt w base r vf vw N sec0 hist) :
    Calls Try.prog 23 #[.pointer (some ⟨r, 0, none⟩)] w fun e w' => e = .returned (.int .i64 (N : Int)) ∧ w = w' := by
  have c0 := R.c0
  obtain ⟨q, c, hv⟩ := R.fform
  rw [hv] at c0
  clear hv R
  go_enter Try.func23, Try.ntmps23
  go_wp2_with fail
  go_ret
  exact ⟨rfl, rfl⟩
theorem full_toList {s : ByteArray} (h : 0 < s.size) : s.toList.isEmpty = false := by
  cases he : s.toList with
  | nil => have := (toList_nil (s := s)).1 he; omega
  | cons a b => rfl
theorem ofBs_nil : ofBs [] = ⟨#[]⟩ := rfl
theorem ofBs_tail (c : UInt8) (r : List UInt8) : (ofBs (c :: r)).extract 1 (ofBs (c :: r)).size = ofBs r := by
  refine WideShapes.bytes_inj ?_
  rw [ByteArray.data_extract]
  unfold ofBs
  simp [ByteArray.size]
section
variable {w : World} {base : Nat} {v : RV} {x : BS} {sec0 : Nat → ByteArray} {hist : List (Nat × ByteArray)}
/-- What loading a device's word comes to. -/
def RLoads (w : World) (base : Nat) (v : RV) (x : BS) (sec0 : Nat → ByteArray) (hist : List (Nat × ByteArray)) (a : Int) : Prop :=
  Calls Try.prog 54 #[.pointer (some ⟨v.b, 0, none⟩), .int .u32 a] w fun e w' => e = .returned (.tuple #[.int .u32 (x.load a).1, .int .i64 (x.load a).2.1]) ∧ RBusAt w' base v (x.load a).2.2 sec0 hist ∧ RMoves w w' v v
theorem rload_timer (B : RBusAt w base v x sec0 hist) : RLoads w base v x sec0 hist 4294967232 := by
  obtain ⟨c0, c1, c2, c3, c4, c5, c6, c7⟩ := B.cells
  have HB := Lib.hid B
  clear B c0 c1 c2 c3 c5 c6 c7
  unfold RLoads
  go_enter Try.func54, Try.ntmps54
  go_wp2_with fail
  go_ret2
  exact ⟨rfl, HB.out, RMoves.refl _ _⟩
theorem rload_sector (B : RBusAt w base v x sec0 hist) : RLoads w base v x sec0 hist 4294967244 := by
  obtain ⟨c0, c1, c2, c3, c4, c5, c6, c7⟩ := B.cells
  have HB := Lib.hid B
  clear B c0 c1 c2 c3 c4 c6 c7
  unfold RLoads
  go_enter Try.func54, Try.ntmps54
  go_wp2_with fail
  go_ret2
  exact ⟨rfl, HB.out, RMoves.refl _ _⟩
theorem rload_address (B : RBusAt w base v x sec0 hist) : RLoads w base v x sec0 hist 4294967248 := by
  obtain ⟨c0, c1, c2, c3, c4, c5, c6, c7⟩ := B.cells
  have HB := Lib.hid B
  clear B c0 c1 c2 c3 c4 c5 c7
  unfold RLoads
  go_enter Try.func54, Try.ntmps54
  go_wp2_with fail
  go_ret2
  exact ⟨rfl, HB.out, RMoves.refl _ _⟩
theorem rload_command (B : RBusAt w base v x sec0 hist) : RLoads w base v x sec0 hist 4294967252 := by
  obtain ⟨c0, c1, c2, c3, c4, c5, c6, c7⟩ := B.cells
  have HB := Lib.hid B
  clear B c0 c1 c2 c3 c4 c5 c6
  unfold RLoads
  go_enter Try.func54, Try.ntmps54
  go_wp2_with fail
  go_ret2
  exact ⟨rfl, HB.out, RMoves.refl _ _⟩
theorem rload_sectors (B : RBusAt w base v x sec0 hist) : RLoads w base v x sec0 hist 4294967256 := by
  obtain ⟨-, c1, -⟩ := B.cells
  have HB := Lib.hid B
  obtain ⟨n0, n1⟩ := B.nb
  have m0 : (0 : Int) ≤ (x.N : Int) := by omega
  have m1 : (x.N : Int) ≤ 1024 := by omega
  clear B
  unfold RLoads
  go_enter Try.func54, Try.ntmps54
  go_wp2_with (go_at_call 23; refine (rsectors_any HB.out.disk).mono ?_; rintro e w1 ⟨rfl, rfl⟩)
  go_ret2
  exact ⟨rfl, HB.out, RMoves.refl _ _⟩
theorem rload_status (B : RBusAt w base v x sec0 hist) : RLoads w base v x sec0 hist 4294967240 := by
  obtain ⟨-, -, c2, -⟩ := B.cells
  have HB := Lib.hid B
  unfold RLoads
  cases hq : x.q with
  | nil =>
    have hl : x.load 4294967240 = (2, 0, x) := by unfold BS.load; simp [hq]
    rw [hl]
    rw [hq, ofBs_nil] at c2
    clear B hq hl
    go_enter Try.func54, Try.ntmps54
    go_wp2_with fail
    go_ret2
    exact ⟨rfl, HB.out, RMoves.refl _ _⟩
  | cons c r =>
    have hl : x.load 4294967240 = (3, 0, x) := by unfold BS.load; simp [hq]
    rw [hl]
    rw [hq] at c2
    have hs : (ofBs (c :: r)).size = r.length + 1 := by rw [ofBs_size]; rfl
    generalize ofBs (c :: r) = S at c2 hs
    have hS : S.toList.isEmpty = false := full_toList (by omega)
    clear B hq hl hs
    go_enter Try.func54, Try.ntmps54
    go_wp2_with fail
    go_ret2
    exact ⟨rfl, HB.out, RMoves.refl _ _⟩
theorem rload_data (B : RBusAt w base v x sec0 hist) : RLoads w base v x sec0 hist 4294967236 := by
  obtain ⟨-, -, c2, -⟩ := B.cells
  have f2 := B.row.frozen 2
  have HB := Lib.hid B
  unfold RLoads
  cases hq : x.q with
  | nil =>
    have hl : x.load 4294967236 = (0, 2, x) := by unfold BS.load; simp [hq]
    rw [hl]
    rw [hq, ofBs_nil] at c2
    clear B hq hl
    go_enter Try.func54, Try.ntmps54
    go_wp2_with fail
    go_ret2
    exact ⟨rfl, HB.out, RMoves.refl _ _⟩
  | cons c r =>
    have hl : x.load 4294967236 = ((c.toNat : Int), 0, { x with q := r }) := by unfold BS.load; simp [hq]
    rw [hl]
    have hlen := B.ql
    rw [hq] at c2 hlen
    simp only [List.length_cons] at hlen
    have HS := Lib.hid (B.own (x' := { x with q := r }) 2 (.string (ofBs r)) rfl rfl (by simp only; omega) B.tkb B.seb B.adb B.flb)
    have hs : (ofBs (c :: r)).size = r.length + 1 := by rw [ofBs_size]; rfl
    have htl := ofBs_tail c r
    have hg : ∀ h : 0 < (ofBs (c :: r)).size, ((ofBs (c :: r))[0]'h) = c := fun h => rfl
    generalize ofBs (c :: r) = S at c2 hs htl hg
    generalize ofBs r = S2 at HS htl
    have hS : S.toList.isEmpty = false := full_toList (by omega)
    have hz : (1 : Int) ≤ (S.size : Int) := by omega
    have hz1 : 0 < S.size := by omega
    have hg0 := hg hz1
    have hcm : (c.toNat : Int) % 4294967296 = (c.toNat : Int) := by have := c.toNat_lt; omega
    rw [hs] at htl
    clear B hq hl hg
    go_enter Try.func54, Try.ntmps54
    go_wp2_with fail
    go_ret2
    exact ⟨rfl, HS.out⟩
theorem rload_none (B : RBusAt w base v x sec0 hist) (a : Int) (h : ¬ (a = 4294967232 ∨ a = 4294967236 ∨ a = 4294967240 ∨ a = 4294967244 ∨ a = 4294967248 ∨ a = 4294967252 ∨ a = 4294967256)) : RLoads w base v x sec0 hist a := by
  have HB := Lib.hid B
  unfold RLoads
  have hl : x.load a = (0, 1, x) := by
    unfold BS.load
    rw [if_neg (by omega), if_neg (by omega), if_neg (by omega), if_neg (by omega), if_neg (by omega), if_neg (by omega), if_neg (by omega)]
  rw [hl]
  have t1 : (a == 4294967232) = false := by simp; omega
  have t2 : (a == 4294967236) = false := by simp; omega
  have t3 : (a == 4294967240) = false := by simp; omega
  have t4 : (a == 4294967244) = false := by simp; omega
  have t5 : (a == 4294967248) = false := by simp; omega
  have t6 : (a == 4294967252) = false := by simp; omega
  have t7 : (a == 4294967256) = false := by simp; omega
  clear B hl h
  go_enter Try.func54, Try.ntmps54
  go_wp2_with fail
  go_ret2
  exact ⟨rfl, HB.out, RMoves.refl _ _⟩
theorem rload_any (B : RBusAt w base v x sec0 hist) (a : Int) : RLoads w base v x sec0 hist a := by
  by_cases h1 : a = 4294967232
  · rw [h1]; exact rload_timer B
  by_cases h2 : a = 4294967236
  · rw [h2]; exact rload_data B
  by_cases h3 : a = 4294967240
  · rw [h3]; exact rload_status B
  by_cases h4 : a = 4294967244
  · rw [h4]; exact rload_sector B
  by_cases h5 : a = 4294967248
  · rw [h5]; exact rload_address B
  by_cases h6 : a = 4294967252
  · rw [h6]; exact rload_command B
  by_cases h7 : a = 4294967256
  · rw [h7]; exact rload_sectors B
  exact rload_none B a (by omega)
end
end Go.Proofs.Ytmamocdkmmkkjaa
