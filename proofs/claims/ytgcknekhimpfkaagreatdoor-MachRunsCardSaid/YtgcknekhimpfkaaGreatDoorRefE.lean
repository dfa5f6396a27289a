/- The document's: the instruction that a word is. -/
import Derived.Test.YtgcknekhimpfkaaGreatDoorQY
import Derived.Test.YtgcknekhimpfkaaGreatDoorQJ
namespace Go.Proofs.YtgcknekhimpfkaaGreatDoor
open Go Go.RowKit Go.Lib Go.Proofs.YtgcknekhimpfkaaGreatDoor.Pl
set_option maxHeartbeats 1000000
set_option linter.unusedVariables false
set_option linter.unusedSimpArgs false
theorem belW {B : Nat} {a W w1 : World} (h : Below W.heap.size W w1) (hB : B ≤ W.heap.size) (g : Below B a W) : Below B a w1 := g.trans (h.mono hB)
theorem belG {B g : Nat} {a w : World} (h : Below B a w) (hg : B ≤ g) (o : Nat) (v : Value) : Below B a (w.setCell ⟨g, o, none⟩ v) := h.setCell hg v
theorem belAl {B : Nat} {a w : World} (h : Below B a w) (hB : B ≤ w.heap.size) (o : Obj) : Below B a (w.alloc o) := h.alloc hB o
theorem cellDrew (w : World) (n : Nat) (p : Addr) : (w.drewN n).cell? p = w.cell? p := rfl
theorem sz_drewN (w : World) (n : Nat) : (w.drewN n).heap.size = w.heap.size := rfl
theorem sz_set (w : World) (a : Addr) (v : Value) : (w.setCell a v).heap.size = w.heap.size := by simp [World.setCell]
theorem rdec_0a (x : Int) (h0 : 0 ≤ x) (h1 : x < 4294967296) (hf : x / 1073741824 % 4 = 0) (hr : rightB 0 (decU x) (decV x) (decA x) (x / 1048576 % 16) (x / 65536 % 16) (x % 16) 0 = false) (w : World) :
 Calls Tryz.prog 65 #[.int .u32 x] w fun e w' => e = .returned (.tuple #[noIns, .bool false]) ∧ Below w.heap.size w w' := by
 have hu : (x / 536870912 % 2 == 1) = decU x := beq_dec _ _
 have hv : (x / 268435456 % 2 == 1) = decV x := beq_dec _ _
 have ha : x / 16777216 % 16 = decA x := rfl
 have HR := hid hr
 go_enter Tryz.func65, Tryz.ntmps65
 go_wp2_with (first | (go_at_call 84; refine (field_any _ _ _ h0 h1 (by omega) (by omega) (by omega) (by omega) _).mono ?_; rintro e w' ⟨rfl, m, rfl⟩) | (go_at_call 86; refine (rright_any _ _ _ _ _ _ _ _ _).mono ?_; rintro e w1 ⟨rfl, hb1⟩; have hs1 := hb1.size; obtain ⟨hi, hj⟩ := bcell hb1; simp only [World.size_alloc, sz_set, sz_drewN] at hi hj hs1))
 refine bodyPost_ret (v := .tuple #[noIns, .bool false]) ?_ rfl ⟨rfl, ?_⟩
 ·clear HR
  have c0 : w1.cell? ⟨w.heap.size, 0, none⟩ = some (.int .i64 0) := by rw [hi _ _ (by omega)]; simp [go_sem, cellDrew]
  have c1 : w1.cell? ⟨w.heap.size, 1, none⟩ = some (.bool false) := by rw [hi _ _ (by omega)]; simp [go_sem, cellDrew]
  have c2 : w1.cell? ⟨w.heap.size, 2, none⟩ = some (.bool false) := by rw [hi _ _ (by omega)]; simp [go_sem, cellDrew]
  have c3 : w1.cell? ⟨w.heap.size, 3, none⟩ = some (.int .i64 0) := by rw [hi _ _ (by omega)]; simp [go_sem, cellDrew]
  have c4 : w1.cell? ⟨w.heap.size, 4, none⟩ = some (.int .i64 0) := by rw [hi _ _ (by omega)]; simp [go_sem, cellDrew]
  have c5 : w1.cell? ⟨w.heap.size, 5, none⟩ = some (.int .i64 0) := by rw [hi _ _ (by omega)]; simp [go_sem, cellDrew]
  have c6 : w1.cell? ⟨w.heap.size, 6, none⟩ = some (.int .i64 0) := by rw [hi _ _ (by omega)]; simp [go_sem, cellDrew]
  have c7 : w1.cell? ⟨w.heap.size, 7, none⟩ = some (.int .i64 0) := by rw [hi _ _ (by omega)]; simp [go_sem, cellDrew]
  clear hi hj hb1 hs1
  simp [results, Tryz.results65, go_sem, ins, noIns, *]
 ·iterate 8 refine belSet ?_ _ _
  exact belW hb1 (by simp only [World.size_alloc, sz_set, sz_drewN]; omega) (by (iterate 3 (refine belG (belN ?_ _) (by omega) _ _)); refine belAl ?_ (by simp only [World.size_alloc, sz_drewN]; omega) _; refine belN ?_ _; exact (Below.refl _ _).alloc (Nat.le_refl _) _)
theorem rdec_0b (x : Int) (h0 : 0 ≤ x) (h1 : x < 4294967296) (hf : x / 1073741824 % 4 = 0) (hr : rightB 0 (decU x) (decV x) (decA x) (x / 1048576 % 16) (x / 65536 % 16) (x % 16) 0 = true) (hw : (encW 0 (decU x) (decV x) (decA x) (x / 1048576 % 16) (x / 65536 % 16) (x % 16) 0 != x) = true) (w : World) :
 Calls Tryz.prog 65 #[.int .u32 x] w fun e w' => e = .returned (.tuple #[noIns, .bool false]) ∧ Below w.heap.size w w' := by
 have hu : (x / 536870912 % 2 == 1) = decU x := beq_dec _ _
 have hv : (x / 268435456 % 2 == 1) = decV x := beq_dec _ _
 have ha : x / 16777216 % 16 = decA x := rfl
 have HR := hid hr
 go_enter Tryz.func65, Tryz.ntmps65
 go_wp2_with (first | (go_at_call 84; refine (field_any _ _ _ h0 h1 (by omega) (by omega) (by omega) (by omega) _).mono ?_; rintro e w' ⟨rfl, m, rfl⟩) | (go_at_call 86; refine (rright_any _ _ _ _ _ _ _ _ _).mono ?_; rintro e w1 ⟨rfl, hb1⟩; have hs1 := hb1.size; obtain ⟨hi, hj⟩ := bcell hb1; simp only [World.size_alloc, sz_set, sz_drewN] at hi hj hs1) | (go_at_call 87; refine (rlaid_any HR.out _).mono ?_; rintro e w2 ⟨rfl, hb2⟩; have hz : w.heap.size < w1.heap.size := (by omega); have hz1 : w.heap.size + 1 < w1.heap.size := (by omega); have hs2 := hb2.size; obtain ⟨hi2, hj2⟩ := bcell hb2))
 refine bodyPost_ret (v := .tuple #[noIns, .bool false]) ?_ rfl ⟨rfl, ?_⟩
 ·clear HR
  have c0 : w2.cell? ⟨w.heap.size, 0, none⟩ = some (.int .i64 0) := by rw [hi2 _ _ (by omega), hi _ _ (by omega)]; simp [go_sem, cellDrew]
  have c1 : w2.cell? ⟨w.heap.size, 1, none⟩ = some (.bool false) := by rw [hi2 _ _ (by omega), hi _ _ (by omega)]; simp [go_sem, cellDrew]
  have c2 : w2.cell? ⟨w.heap.size, 2, none⟩ = some (.bool false) := by rw [hi2 _ _ (by omega), hi _ _ (by omega)]; simp [go_sem, cellDrew]
  have c3 : w2.cell? ⟨w.heap.size, 3, none⟩ = some (.int .i64 0) := by rw [hi2 _ _ (by omega), hi _ _ (by omega)]; simp [go_sem, cellDrew]
  have c4 : w2.cell? ⟨w.heap.size, 4, none⟩ = some (.int .i64 0) := by rw [hi2 _ _ (by omega), hi _ _ (by omega)]; simp [go_sem, cellDrew]
  have c5 : w2.cell? ⟨w.heap.size, 5, none⟩ = some (.int .i64 0) := by rw [hi2 _ _ (by omega), hi _ _ (by omega)]; simp [go_sem, cellDrew]
  have c6 : w2.cell? ⟨w.heap.size, 6, none⟩ = some (.int .i64 0) := by rw [hi2 _ _ (by omega), hi _ _ (by omega)]; simp [go_sem, cellDrew]
  have c7 : w2.cell? ⟨w.heap.size, 7, none⟩ = some (.int .i64 0) := by rw [hi2 _ _ (by omega), hi _ _ (by omega)]; simp [go_sem, cellDrew]
  clear hi hj hi2 hj2 hb2 hs2 hb1 hs1
  simp [results, Tryz.results65, go_sem, ins, noIns, *]
 ·iterate 8 refine belSet ?_ _ _
  exact (belW hb1 (by simp only [World.size_alloc, sz_set, sz_drewN]; omega) (by (iterate 3 (refine belG (belN ?_ _) (by omega) _ _)); refine belAl ?_ (by simp only [World.size_alloc, sz_drewN]; omega) _; refine belN ?_ _; exact (Below.refl _ _).alloc (Nat.le_refl _) _)).trans (hb2.mono (by omega))
theorem rdec_0c (x : Int) (h0 : 0 ≤ x) (h1 : x < 4294967296) (hf : x / 1073741824 % 4 = 0) (hr : rightB 0 (decU x) (decV x) (decA x) (x / 1048576 % 16) (x / 65536 % 16) (x % 16) 0 = true) (hw : (encW 0 (decU x) (decV x) (decA x) (x / 1048576 % 16) (x / 65536 % 16) (x % 16) 0 != x) = false) (w : World) :
 Calls Tryz.prog 65 #[.int .u32 x] w fun e w' => e = .returned (.tuple #[(ins 0 (decU x) (decV x) (decA x) (x / 1048576 % 16) (x / 65536 % 16) (x % 16) 0), .bool true]) ∧ Below w.heap.size w w' := by
 have hu : (x / 536870912 % 2 == 1) = decU x := beq_dec _ _
 have hv : (x / 268435456 % 2 == 1) = decV x := beq_dec _ _
 have ha : x / 16777216 % 16 = decA x := rfl
 have HR := hid hr
 go_enter Tryz.func65, Tryz.ntmps65
 go_wp2_with (first | (go_at_call 84; refine (field_any _ _ _ h0 h1 (by omega) (by omega) (by omega) (by omega) _).mono ?_; rintro e w' ⟨rfl, m, rfl⟩) | (go_at_call 86; refine (rright_any _ _ _ _ _ _ _ _ _).mono ?_; rintro e w1 ⟨rfl, hb1⟩; have hs1 := hb1.size; obtain ⟨hi, hj⟩ := bcell hb1; simp only [World.size_alloc, sz_set, sz_drewN] at hi hj hs1) | (go_at_call 87; refine (rlaid_any HR.out _).mono ?_; rintro e w2 ⟨rfl, hb2⟩; have hz : w.heap.size < w1.heap.size := (by omega); have hz1 : w.heap.size + 1 < w1.heap.size := (by omega); have hs2 := hb2.size; obtain ⟨hi2, hj2⟩ := bcell hb2))
 refine bodyPost_ret (v := .tuple #[(ins 0 (decU x) (decV x) (decA x) (x / 1048576 % 16) (x / 65536 % 16) (x % 16) 0), .bool true]) ?_ rfl ⟨rfl, ?_⟩
 ·clear HR
  have c0 : w2.cell? ⟨w.heap.size, 0, none⟩ = some (.int .i64 0) := by rw [hi2 _ _ (by omega), hi _ _ (by omega)]; simp [go_sem, cellDrew]
  have c1 : w2.cell? ⟨w.heap.size, 1, none⟩ = some (.bool false) := by rw [hi2 _ _ (by omega), hi _ _ (by omega)]; simp [go_sem, cellDrew]
  have c2 : w2.cell? ⟨w.heap.size, 2, none⟩ = some (.bool false) := by rw [hi2 _ _ (by omega), hi _ _ (by omega)]; simp [go_sem, cellDrew]
  have c3 : w2.cell? ⟨w.heap.size, 3, none⟩ = some (.int .i64 0) := by rw [hi2 _ _ (by omega), hi _ _ (by omega)]; simp [go_sem, cellDrew]
  have c4 : w2.cell? ⟨w.heap.size, 4, none⟩ = some (.int .i64 0) := by rw [hi2 _ _ (by omega), hi _ _ (by omega)]; simp [go_sem, cellDrew]
  have c5 : w2.cell? ⟨w.heap.size, 5, none⟩ = some (.int .i64 0) := by rw [hi2 _ _ (by omega), hi _ _ (by omega)]; simp [go_sem, cellDrew]
  have c6 : w2.cell? ⟨w.heap.size, 6, none⟩ = some (.int .i64 0) := by rw [hi2 _ _ (by omega), hi _ _ (by omega)]; simp [go_sem, cellDrew]
  have c7 : w2.cell? ⟨w.heap.size, 7, none⟩ = some (.int .i64 0) := by rw [hi2 _ _ (by omega), hi _ _ (by omega)]; simp [go_sem, cellDrew]
  clear hi hj hi2 hj2 hb2 hs2 hb1 hs1
  simp [results, Tryz.results65, go_sem, ins, noIns, *]
 ·iterate 8 refine belSet ?_ _ _
  exact (belW hb1 (by simp only [World.size_alloc, sz_set, sz_drewN]; omega) (by (iterate 3 (refine belG (belN ?_ _) (by omega) _ _)); refine belAl ?_ (by simp only [World.size_alloc, sz_drewN]; omega) _; refine belN ?_ _; exact (Below.refl _ _).alloc (Nat.le_refl _) _)).trans (hb2.mono (by omega))
theorem rdec_1a (x : Int) (h0 : 0 ≤ x) (h1 : x < 4294967296) (hf : x / 1073741824 % 4 = 1) (hr : rightB 1 (decU x) (decV x) (decA x) (x / 1048576 % 16) (x / 65536 % 16) 0 (x % 65536) = false) (w : World) :
 Calls Tryz.prog 65 #[.int .u32 x] w fun e w' => e = .returned (.tuple #[noIns, .bool false]) ∧ Below w.heap.size w w' := by
 have hu : (x / 536870912 % 2 == 1) = decU x := beq_dec _ _
 have hv : (x / 268435456 % 2 == 1) = decV x := beq_dec _ _
 have ha : x / 16777216 % 16 = decA x := rfl
 have HR := hid hr
 go_enter Tryz.func65, Tryz.ntmps65
 go_wp2_with (first | (go_at_call 84; refine (field_any _ _ _ h0 h1 (by omega) (by omega) (by omega) (by omega) _).mono ?_; rintro e w' ⟨rfl, m, rfl⟩) | (go_at_call 86; refine (rright_any _ _ _ _ _ _ _ _ _).mono ?_; rintro e w1 ⟨rfl, hb1⟩; have hs1 := hb1.size; obtain ⟨hi, hj⟩ := bcell hb1; simp only [World.size_alloc, sz_set, sz_drewN] at hi hj hs1))
 refine bodyPost_ret (v := .tuple #[noIns, .bool false]) ?_ rfl ⟨rfl, ?_⟩
 ·clear HR
  have c0 : w1.cell? ⟨w.heap.size, 0, none⟩ = some (.int .i64 0) := by rw [hi _ _ (by omega)]; simp [go_sem, cellDrew]
  have c1 : w1.cell? ⟨w.heap.size, 1, none⟩ = some (.bool false) := by rw [hi _ _ (by omega)]; simp [go_sem, cellDrew]
  have c2 : w1.cell? ⟨w.heap.size, 2, none⟩ = some (.bool false) := by rw [hi _ _ (by omega)]; simp [go_sem, cellDrew]
  have c3 : w1.cell? ⟨w.heap.size, 3, none⟩ = some (.int .i64 0) := by rw [hi _ _ (by omega)]; simp [go_sem, cellDrew]
  have c4 : w1.cell? ⟨w.heap.size, 4, none⟩ = some (.int .i64 0) := by rw [hi _ _ (by omega)]; simp [go_sem, cellDrew]
  have c5 : w1.cell? ⟨w.heap.size, 5, none⟩ = some (.int .i64 0) := by rw [hi _ _ (by omega)]; simp [go_sem, cellDrew]
  have c6 : w1.cell? ⟨w.heap.size, 6, none⟩ = some (.int .i64 0) := by rw [hi _ _ (by omega)]; simp [go_sem, cellDrew]
  have c7 : w1.cell? ⟨w.heap.size, 7, none⟩ = some (.int .i64 0) := by rw [hi _ _ (by omega)]; simp [go_sem, cellDrew]
  clear hi hj hb1 hs1
  simp [results, Tryz.results65, go_sem, ins, noIns, *]
 ·iterate 8 refine belSet ?_ _ _
  exact belW hb1 (by simp only [World.size_alloc, sz_set, sz_drewN]; omega) (by (iterate 3 (refine belG (belN ?_ _) (by omega) _ _)); refine belAl ?_ (by simp only [World.size_alloc, sz_drewN]; omega) _; refine belN ?_ _; exact (Below.refl _ _).alloc (Nat.le_refl _) _)
theorem rdec_1b (x : Int) (h0 : 0 ≤ x) (h1 : x < 4294967296) (hf : x / 1073741824 % 4 = 1) (hr : rightB 1 (decU x) (decV x) (decA x) (x / 1048576 % 16) (x / 65536 % 16) 0 (x % 65536) = true) (hw : (encW 1 (decU x) (decV x) (decA x) (x / 1048576 % 16) (x / 65536 % 16) 0 (x % 65536) != x) = true) (w : World) :
 Calls Tryz.prog 65 #[.int .u32 x] w fun e w' => e = .returned (.tuple #[noIns, .bool false]) ∧ Below w.heap.size w w' := by
 have hu : (x / 536870912 % 2 == 1) = decU x := beq_dec _ _
 have hv : (x / 268435456 % 2 == 1) = decV x := beq_dec _ _
 have ha : x / 16777216 % 16 = decA x := rfl
 have HR := hid hr
 go_enter Tryz.func65, Tryz.ntmps65
 go_wp2_with (first | (go_at_call 84; refine (field_any _ _ _ h0 h1 (by omega) (by omega) (by omega) (by omega) _).mono ?_; rintro e w' ⟨rfl, m, rfl⟩) | (go_at_call 86; refine (rright_any _ _ _ _ _ _ _ _ _).mono ?_; rintro e w1 ⟨rfl, hb1⟩; have hs1 := hb1.size; obtain ⟨hi, hj⟩ := bcell hb1; simp only [World.size_alloc, sz_set, sz_drewN] at hi hj hs1) | (go_at_call 87; refine (rlaid_any HR.out _).mono ?_; rintro e w2 ⟨rfl, hb2⟩; have hz : w.heap.size < w1.heap.size := (by omega); have hz1 : w.heap.size + 1 < w1.heap.size := (by omega); have hs2 := hb2.size; obtain ⟨hi2, hj2⟩ := bcell hb2))
 refine bodyPost_ret (v := .tuple #[noIns, .bool false]) ?_ rfl ⟨rfl, ?_⟩
 ·clear HR
  have c0 : w2.cell? ⟨w.heap.size, 0, none⟩ = some (.int .i64 0) := by rw [hi2 _ _ (by omega), hi _ _ (by omega)]; simp [go_sem, cellDrew]
  have c1 : w2.cell? ⟨w.heap.size, 1, none⟩ = some (.bool false) := by rw [hi2 _ _ (by omega), hi _ _ (by omega)]; simp [go_sem, cellDrew]
  have c2 : w2.cell? ⟨w.heap.size, 2, none⟩ = some (.bool false) := by rw [hi2 _ _ (by omega), hi _ _ (by omega)]; simp [go_sem, cellDrew]
  have c3 : w2.cell? ⟨w.heap.size, 3, none⟩ = some (.int .i64 0) := by rw [hi2 _ _ (by omega), hi _ _ (by omega)]; simp [go_sem, cellDrew]
  have c4 : w2.cell? ⟨w.heap.size, 4, none⟩ = some (.int .i64 0) := by rw [hi2 _ _ (by omega), hi _ _ (by omega)]; simp [go_sem, cellDrew]
  have c5 : w2.cell? ⟨w.heap.size, 5, none⟩ = some (.int .i64 0) := by rw [hi2 _ _ (by omega), hi _ _ (by omega)]; simp [go_sem, cellDrew]
  have c6 : w2.cell? ⟨w.heap.size, 6, none⟩ = some (.int .i64 0) := by rw [hi2 _ _ (by omega), hi _ _ (by omega)]; simp [go_sem, cellDrew]
  have c7 : w2.cell? ⟨w.heap.size, 7, none⟩ = some (.int .i64 0) := by rw [hi2 _ _ (by omega), hi _ _ (by omega)]; simp [go_sem, cellDrew]
  clear hi hj hi2 hj2 hb2 hs2 hb1 hs1
  simp [results, Tryz.results65, go_sem, ins, noIns, *]
 ·iterate 8 refine belSet ?_ _ _
  exact (belW hb1 (by simp only [World.size_alloc, sz_set, sz_drewN]; omega) (by (iterate 3 (refine belG (belN ?_ _) (by omega) _ _)); refine belAl ?_ (by simp only [World.size_alloc, sz_drewN]; omega) _; refine belN ?_ _; exact (Below.refl _ _).alloc (Nat.le_refl _) _)).trans (hb2.mono (by omega))
theorem rdec_1c (x : Int) (h0 : 0 ≤ x) (h1 : x < 4294967296) (hf : x / 1073741824 % 4 = 1) (hr : rightB 1 (decU x) (decV x) (decA x) (x / 1048576 % 16) (x / 65536 % 16) 0 (x % 65536) = true) (hw : (encW 1 (decU x) (decV x) (decA x) (x / 1048576 % 16) (x / 65536 % 16) 0 (x % 65536) != x) = false) (w : World) :
 Calls Tryz.prog 65 #[.int .u32 x] w fun e w' => e = .returned (.tuple #[(ins 1 (decU x) (decV x) (decA x) (x / 1048576 % 16) (x / 65536 % 16) 0 (x % 65536)), .bool true]) ∧ Below w.heap.size w w' := by
 have hu : (x / 536870912 % 2 == 1) = decU x := beq_dec _ _
 have hv : (x / 268435456 % 2 == 1) = decV x := beq_dec _ _
 have ha : x / 16777216 % 16 = decA x := rfl
 have HR := hid hr
 go_enter Tryz.func65, Tryz.ntmps65
 go_wp2_with (first | (go_at_call 84; refine (field_any _ _ _ h0 h1 (by omega) (by omega) (by omega) (by omega) _).mono ?_; rintro e w' ⟨rfl, m, rfl⟩) | (go_at_call 86; refine (rright_any _ _ _ _ _ _ _ _ _).mono ?_; rintro e w1 ⟨rfl, hb1⟩; have hs1 := hb1.size; obtain ⟨hi, hj⟩ := bcell hb1; simp only [World.size_alloc, sz_set, sz_drewN] at hi hj hs1) | (go_at_call 87; refine (rlaid_any HR.out _).mono ?_; rintro e w2 ⟨rfl, hb2⟩; have hz : w.heap.size < w1.heap.size := (by omega); have hz1 : w.heap.size + 1 < w1.heap.size := (by omega); have hs2 := hb2.size; obtain ⟨hi2, hj2⟩ := bcell hb2))
 refine bodyPost_ret (v := .tuple #[(ins 1 (decU x) (decV x) (decA x) (x / 1048576 % 16) (x / 65536 % 16) 0 (x % 65536)), .bool true]) ?_ rfl ⟨rfl, ?_⟩
 ·clear HR
  have c0 : w2.cell? ⟨w.heap.size, 0, none⟩ = some (.int .i64 0) := by rw [hi2 _ _ (by omega), hi _ _ (by omega)]; simp [go_sem, cellDrew]
  have c1 : w2.cell? ⟨w.heap.size, 1, none⟩ = some (.bool false) := by rw [hi2 _ _ (by omega), hi _ _ (by omega)]; simp [go_sem, cellDrew]
  have c2 : w2.cell? ⟨w.heap.size, 2, none⟩ = some (.bool false) := by rw [hi2 _ _ (by omega), hi _ _ (by omega)]; simp [go_sem, cellDrew]
  have c3 : w2.cell? ⟨w.heap.size, 3, none⟩ = some (.int .i64 0) := by rw [hi2 _ _ (by omega), hi _ _ (by omega)]; simp [go_sem, cellDrew]
  have c4 : w2.cell? ⟨w.heap.size, 4, none⟩ = some (.int .i64 0) := by rw [hi2 _ _ (by omega), hi _ _ (by omega)]; simp [go_sem, cellDrew]
  have c5 : w2.cell? ⟨w.heap.size, 5, none⟩ = some (.int .i64 0) := by rw [hi2 _ _ (by omega), hi _ _ (by omega)]; simp [go_sem, cellDrew]
  have c6 : w2.cell? ⟨w.heap.size, 6, none⟩ = some (.int .i64 0) := by rw [hi2 _ _ (by omega), hi _ _ (by omega)]; simp [go_sem, cellDrew]
  have c7 : w2.cell? ⟨w.heap.size, 7, none⟩ = some (.int .i64 0) := by rw [hi2 _ _ (by omega), hi _ _ (by omega)]; simp [go_sem, cellDrew]
  clear hi hj hi2 hj2 hb2 hs2 hb1 hs1
  simp [results, Tryz.results65, go_sem, ins, noIns, *]
 ·iterate 8 refine belSet ?_ _ _
  exact (belW hb1 (by simp only [World.size_alloc, sz_set, sz_drewN]; omega) (by (iterate 3 (refine belG (belN ?_ _) (by omega) _ _)); refine belAl ?_ (by simp only [World.size_alloc, sz_drewN]; omega) _; refine belN ?_ _; exact (Below.refl _ _).alloc (Nat.le_refl _) _)).trans (hb2.mono (by omega))
theorem rdec_2a (x : Int) (h0 : 0 ≤ x) (h1 : x < 4294967296) (hf : x / 1073741824 % 4 = 2) (hr : rightB 2 (decU x) (decV x) (decA x) (x / 1048576 % 16) 0 0 (sextV x 20) = false) (w : World) :
 Calls Tryz.prog 65 #[.int .u32 x] w fun e w' => e = .returned (.tuple #[noIns, .bool false]) ∧ Below w.heap.size w w' := by
 have hu : (x / 536870912 % 2 == 1) = decU x := beq_dec _ _
 have hv : (x / 268435456 % 2 == 1) = decV x := beq_dec _ _
 have ha : x / 16777216 % 16 = decA x := rfl
 have HR := hid hr
 go_enter Tryz.func65, Tryz.ntmps65
 go_wp2_with (first | (go_at_call 84; refine (field_any _ _ _ h0 h1 (by omega) (by omega) (by omega) (by omega) _).mono ?_; rintro e w' ⟨rfl, m, rfl⟩) | (go_at_call 85; refine (rsext_20 x h0 _).mono ?_; rintro e w' ⟨rfl, rfl⟩) | (go_at_call 86; refine (rright_any _ _ _ _ _ _ _ _ _).mono ?_; rintro e w1 ⟨rfl, hb1⟩; have hs1 := hb1.size; obtain ⟨hi, hj⟩ := bcell hb1; simp only [World.size_alloc, sz_set, sz_drewN] at hi hj hs1))
 refine bodyPost_ret (v := .tuple #[noIns, .bool false]) ?_ rfl ⟨rfl, ?_⟩
 ·clear HR
  have c0 : w1.cell? ⟨w.heap.size, 0, none⟩ = some (.int .i64 0) := by rw [hi _ _ (by omega)]; simp [go_sem, cellDrew]
  have c1 : w1.cell? ⟨w.heap.size, 1, none⟩ = some (.bool false) := by rw [hi _ _ (by omega)]; simp [go_sem, cellDrew]
  have c2 : w1.cell? ⟨w.heap.size, 2, none⟩ = some (.bool false) := by rw [hi _ _ (by omega)]; simp [go_sem, cellDrew]
  have c3 : w1.cell? ⟨w.heap.size, 3, none⟩ = some (.int .i64 0) := by rw [hi _ _ (by omega)]; simp [go_sem, cellDrew]
  have c4 : w1.cell? ⟨w.heap.size, 4, none⟩ = some (.int .i64 0) := by rw [hi _ _ (by omega)]; simp [go_sem, cellDrew]
  have c5 : w1.cell? ⟨w.heap.size, 5, none⟩ = some (.int .i64 0) := by rw [hi _ _ (by omega)]; simp [go_sem, cellDrew]
  have c6 : w1.cell? ⟨w.heap.size, 6, none⟩ = some (.int .i64 0) := by rw [hi _ _ (by omega)]; simp [go_sem, cellDrew]
  have c7 : w1.cell? ⟨w.heap.size, 7, none⟩ = some (.int .i64 0) := by rw [hi _ _ (by omega)]; simp [go_sem, cellDrew]
  clear hi hj hb1 hs1
  simp [results, Tryz.results65, go_sem, ins, noIns, *]
 ·iterate 8 refine belSet ?_ _ _
  exact belW hb1 (by simp only [World.size_alloc, sz_set, sz_drewN]; omega) (by (iterate 2 (refine belG (belN ?_ _) (by omega) _ _)); refine belAl ?_ (by simp only [World.size_alloc, sz_drewN]; omega) _; refine belN ?_ _; exact (Below.refl _ _).alloc (Nat.le_refl _) _)
theorem rdec_2b (x : Int) (h0 : 0 ≤ x) (h1 : x < 4294967296) (hf : x / 1073741824 % 4 = 2) (hr : rightB 2 (decU x) (decV x) (decA x) (x / 1048576 % 16) 0 0 (sextV x 20) = true) (hw : (encW 2 (decU x) (decV x) (decA x) (x / 1048576 % 16) 0 0 (sextV x 20) != x) = true) (w : World) :
 Calls Tryz.prog 65 #[.int .u32 x] w fun e w' => e = .returned (.tuple #[noIns, .bool false]) ∧ Below w.heap.size w w' := by
 have hu : (x / 536870912 % 2 == 1) = decU x := beq_dec _ _
 have hv : (x / 268435456 % 2 == 1) = decV x := beq_dec _ _
 have ha : x / 16777216 % 16 = decA x := rfl
 have HR := hid hr
 go_enter Tryz.func65, Tryz.ntmps65
 go_wp2_with (first | (go_at_call 84; refine (field_any _ _ _ h0 h1 (by omega) (by omega) (by omega) (by omega) _).mono ?_; rintro e w' ⟨rfl, m, rfl⟩) | (go_at_call 85; refine (rsext_20 x h0 _).mono ?_; rintro e w' ⟨rfl, rfl⟩) | (go_at_call 86; refine (rright_any _ _ _ _ _ _ _ _ _).mono ?_; rintro e w1 ⟨rfl, hb1⟩; have hs1 := hb1.size; obtain ⟨hi, hj⟩ := bcell hb1; simp only [World.size_alloc, sz_set, sz_drewN] at hi hj hs1) | (go_at_call 87; refine (rlaid_any HR.out _).mono ?_; rintro e w2 ⟨rfl, hb2⟩; have hz : w.heap.size < w1.heap.size := (by omega); have hz1 : w.heap.size + 1 < w1.heap.size := (by omega); have hs2 := hb2.size; obtain ⟨hi2, hj2⟩ := bcell hb2))
 refine bodyPost_ret (v := .tuple #[noIns, .bool false]) ?_ rfl ⟨rfl, ?_⟩
 ·clear HR
  have c0 : w2.cell? ⟨w.heap.size, 0, none⟩ = some (.int .i64 0) := by rw [hi2 _ _ (by omega), hi _ _ (by omega)]; simp [go_sem, cellDrew]
  have c1 : w2.cell? ⟨w.heap.size, 1, none⟩ = some (.bool false) := by rw [hi2 _ _ (by omega), hi _ _ (by omega)]; simp [go_sem, cellDrew]
  have c2 : w2.cell? ⟨w.heap.size, 2, none⟩ = some (.bool false) := by rw [hi2 _ _ (by omega), hi _ _ (by omega)]; simp [go_sem, cellDrew]
  have c3 : w2.cell? ⟨w.heap.size, 3, none⟩ = some (.int .i64 0) := by rw [hi2 _ _ (by omega), hi _ _ (by omega)]; simp [go_sem, cellDrew]
  have c4 : w2.cell? ⟨w.heap.size, 4, none⟩ = some (.int .i64 0) := by rw [hi2 _ _ (by omega), hi _ _ (by omega)]; simp [go_sem, cellDrew]
  have c5 : w2.cell? ⟨w.heap.size, 5, none⟩ = some (.int .i64 0) := by rw [hi2 _ _ (by omega), hi _ _ (by omega)]; simp [go_sem, cellDrew]
  have c6 : w2.cell? ⟨w.heap.size, 6, none⟩ = some (.int .i64 0) := by rw [hi2 _ _ (by omega), hi _ _ (by omega)]; simp [go_sem, cellDrew]
  have c7 : w2.cell? ⟨w.heap.size, 7, none⟩ = some (.int .i64 0) := by rw [hi2 _ _ (by omega), hi _ _ (by omega)]; simp [go_sem, cellDrew]
  clear hi hj hi2 hj2 hb2 hs2 hb1 hs1
  simp [results, Tryz.results65, go_sem, ins, noIns, *]
 ·iterate 8 refine belSet ?_ _ _
  exact (belW hb1 (by simp only [World.size_alloc, sz_set, sz_drewN]; omega) (by (iterate 2 (refine belG (belN ?_ _) (by omega) _ _)); refine belAl ?_ (by simp only [World.size_alloc, sz_drewN]; omega) _; refine belN ?_ _; exact (Below.refl _ _).alloc (Nat.le_refl _) _)).trans (hb2.mono (by omega))
theorem rdec_2c (x : Int) (h0 : 0 ≤ x) (h1 : x < 4294967296) (hf : x / 1073741824 % 4 = 2) (hr : rightB 2 (decU x) (decV x) (decA x) (x / 1048576 % 16) 0 0 (sextV x 20) = true) (hw : (encW 2 (decU x) (decV x) (decA x) (x / 1048576 % 16) 0 0 (sextV x 20) != x) = false) (w : World) :
 Calls Tryz.prog 65 #[.int .u32 x] w fun e w' => e = .returned (.tuple #[(ins 2 (decU x) (decV x) (decA x) (x / 1048576 % 16) 0 0 (sextV x 20)), .bool true]) ∧ Below w.heap.size w w' := by
 have hu : (x / 536870912 % 2 == 1) = decU x := beq_dec _ _
 have hv : (x / 268435456 % 2 == 1) = decV x := beq_dec _ _
 have ha : x / 16777216 % 16 = decA x := rfl
 have HR := hid hr
 go_enter Tryz.func65, Tryz.ntmps65
 go_wp2_with (first | (go_at_call 84; refine (field_any _ _ _ h0 h1 (by omega) (by omega) (by omega) (by omega) _).mono ?_; rintro e w' ⟨rfl, m, rfl⟩) | (go_at_call 85; refine (rsext_20 x h0 _).mono ?_; rintro e w' ⟨rfl, rfl⟩) | (go_at_call 86; refine (rright_any _ _ _ _ _ _ _ _ _).mono ?_; rintro e w1 ⟨rfl, hb1⟩; have hs1 := hb1.size; obtain ⟨hi, hj⟩ := bcell hb1; simp only [World.size_alloc, sz_set, sz_drewN] at hi hj hs1) | (go_at_call 87; refine (rlaid_any HR.out _).mono ?_; rintro e w2 ⟨rfl, hb2⟩; have hz : w.heap.size < w1.heap.size := (by omega); have hz1 : w.heap.size + 1 < w1.heap.size := (by omega); have hs2 := hb2.size; obtain ⟨hi2, hj2⟩ := bcell hb2))
 refine bodyPost_ret (v := .tuple #[(ins 2 (decU x) (decV x) (decA x) (x / 1048576 % 16) 0 0 (sextV x 20)), .bool true]) ?_ rfl ⟨rfl, ?_⟩
 ·clear HR
  have c0 : w2.cell? ⟨w.heap.size, 0, none⟩ = some (.int .i64 0) := by rw [hi2 _ _ (by omega), hi _ _ (by omega)]; simp [go_sem, cellDrew]
  have c1 : w2.cell? ⟨w.heap.size, 1, none⟩ = some (.bool false) := by rw [hi2 _ _ (by omega), hi _ _ (by omega)]; simp [go_sem, cellDrew]
  have c2 : w2.cell? ⟨w.heap.size, 2, none⟩ = some (.bool false) := by rw [hi2 _ _ (by omega), hi _ _ (by omega)]; simp [go_sem, cellDrew]
  have c3 : w2.cell? ⟨w.heap.size, 3, none⟩ = some (.int .i64 0) := by rw [hi2 _ _ (by omega), hi _ _ (by omega)]; simp [go_sem, cellDrew]
  have c4 : w2.cell? ⟨w.heap.size, 4, none⟩ = some (.int .i64 0) := by rw [hi2 _ _ (by omega), hi _ _ (by omega)]; simp [go_sem, cellDrew]
  have c5 : w2.cell? ⟨w.heap.size, 5, none⟩ = some (.int .i64 0) := by rw [hi2 _ _ (by omega), hi _ _ (by omega)]; simp [go_sem, cellDrew]
  have c6 : w2.cell? ⟨w.heap.size, 6, none⟩ = some (.int .i64 0) := by rw [hi2 _ _ (by omega), hi _ _ (by omega)]; simp [go_sem, cellDrew]
  have c7 : w2.cell? ⟨w.heap.size, 7, none⟩ = some (.int .i64 0) := by rw [hi2 _ _ (by omega), hi _ _ (by omega)]; simp [go_sem, cellDrew]
  clear hi hj hi2 hj2 hb2 hs2 hb1 hs1
  simp [results, Tryz.results65, go_sem, ins, noIns, *]
 ·iterate 8 refine belSet ?_ _ _
  exact (belW hb1 (by simp only [World.size_alloc, sz_set, sz_drewN]; omega) (by (iterate 2 (refine belG (belN ?_ _) (by omega) _ _)); refine belAl ?_ (by simp only [World.size_alloc, sz_drewN]; omega) _; refine belN ?_ _; exact (Below.refl _ _).alloc (Nat.le_refl _) _)).trans (hb2.mono (by omega))
theorem rdec_3ua (x : Int) (h0 : 0 ≤ x) (h1 : x < 4294967296) (hf : x / 1073741824 % 4 = 3) (hU : decU x = true) (hr : rightB 3 true (decV x) (decA x) 0 0 0 (sextV x 24) = false) (w : World) :
 Calls Tryz.prog 65 #[.int .u32 x] w fun e w' => e = .returned (.tuple #[noIns, .bool false]) ∧ Below w.heap.size w w' := by
 have hu : (x / 536870912 % 2 == 1) = decU x := beq_dec _ _
 have hv : (x / 268435456 % 2 == 1) = decV x := beq_dec _ _
 have ha : x / 16777216 % 16 = decA x := rfl
 have HR := hid hr
 go_enter Tryz.func65, Tryz.ntmps65
 go_wp2_with (first | (go_at_call 84; refine (field_any _ _ _ h0 h1 (by omega) (by omega) (by omega) (by omega) _).mono ?_; rintro e w' ⟨rfl, m, rfl⟩) | (go_at_call 85; refine (rsext_24 x h0 _).mono ?_; rintro e w' ⟨rfl, rfl⟩) | (go_at_call 86; refine (rright_any _ _ _ _ _ _ _ _ _).mono ?_; rintro e w1 ⟨rfl, hb1⟩; have hs1 := hb1.size; obtain ⟨hi, hj⟩ := bcell hb1; simp only [World.size_alloc, sz_set, sz_drewN] at hi hj hs1))
 refine bodyPost_ret (v := .tuple #[noIns, .bool false]) ?_ rfl ⟨rfl, ?_⟩
 ·clear HR
  have c0 : w1.cell? ⟨w.heap.size, 0, none⟩ = some (.int .i64 0) := by rw [hi _ _ (by omega)]; simp [go_sem, cellDrew]
  have c1 : w1.cell? ⟨w.heap.size, 1, none⟩ = some (.bool false) := by rw [hi _ _ (by omega)]; simp [go_sem, cellDrew]
  have c2 : w1.cell? ⟨w.heap.size, 2, none⟩ = some (.bool false) := by rw [hi _ _ (by omega)]; simp [go_sem, cellDrew]
  have c3 : w1.cell? ⟨w.heap.size, 3, none⟩ = some (.int .i64 0) := by rw [hi _ _ (by omega)]; simp [go_sem, cellDrew]
  have c4 : w1.cell? ⟨w.heap.size, 4, none⟩ = some (.int .i64 0) := by rw [hi _ _ (by omega)]; simp [go_sem, cellDrew]
  have c5 : w1.cell? ⟨w.heap.size, 5, none⟩ = some (.int .i64 0) := by rw [hi _ _ (by omega)]; simp [go_sem, cellDrew]
  have c6 : w1.cell? ⟨w.heap.size, 6, none⟩ = some (.int .i64 0) := by rw [hi _ _ (by omega)]; simp [go_sem, cellDrew]
  have c7 : w1.cell? ⟨w.heap.size, 7, none⟩ = some (.int .i64 0) := by rw [hi _ _ (by omega)]; simp [go_sem, cellDrew]
  clear hi hj hb1 hs1
  simp [results, Tryz.results65, go_sem, ins, noIns, *]
 ·iterate 8 refine belSet ?_ _ _
  exact belW hb1 (by simp only [World.size_alloc, sz_set, sz_drewN]; omega) (by (iterate 1 (refine belG (belN ?_ _) (by omega) _ _)); refine belAl ?_ (by simp only [World.size_alloc, sz_drewN]; omega) _; refine belN ?_ _; exact (Below.refl _ _).alloc (Nat.le_refl _) _)
theorem rdec_3ub (x : Int) (h0 : 0 ≤ x) (h1 : x < 4294967296) (hf : x / 1073741824 % 4 = 3) (hU : decU x = true) (hr : rightB 3 true (decV x) (decA x) 0 0 0 (sextV x 24) = true) (hw : (encW 3 true (decV x) (decA x) 0 0 0 (sextV x 24) != x) = true) (w : World) :
 Calls Tryz.prog 65 #[.int .u32 x] w fun e w' => e = .returned (.tuple #[noIns, .bool false]) ∧ Below w.heap.size w w' := by
 have hu : (x / 536870912 % 2 == 1) = decU x := beq_dec _ _
 have hv : (x / 268435456 % 2 == 1) = decV x := beq_dec _ _
 have ha : x / 16777216 % 16 = decA x := rfl
 have HR := hid hr
 go_enter Tryz.func65, Tryz.ntmps65
 go_wp2_with (first | (go_at_call 84; refine (field_any _ _ _ h0 h1 (by omega) (by omega) (by omega) (by omega) _).mono ?_; rintro e w' ⟨rfl, m, rfl⟩) | (go_at_call 85; refine (rsext_24 x h0 _).mono ?_; rintro e w' ⟨rfl, rfl⟩) | (go_at_call 86; refine (rright_any _ _ _ _ _ _ _ _ _).mono ?_; rintro e w1 ⟨rfl, hb1⟩; have hs1 := hb1.size; obtain ⟨hi, hj⟩ := bcell hb1; simp only [World.size_alloc, sz_set, sz_drewN] at hi hj hs1) | (go_at_call 87; refine (rlaid_any HR.out _).mono ?_; rintro e w2 ⟨rfl, hb2⟩; have hz : w.heap.size < w1.heap.size := (by omega); have hz1 : w.heap.size + 1 < w1.heap.size := (by omega); have hs2 := hb2.size; obtain ⟨hi2, hj2⟩ := bcell hb2))
 refine bodyPost_ret (v := .tuple #[noIns, .bool false]) ?_ rfl ⟨rfl, ?_⟩
 ·clear HR
  have c0 : w2.cell? ⟨w.heap.size, 0, none⟩ = some (.int .i64 0) := by rw [hi2 _ _ (by omega), hi _ _ (by omega)]; simp [go_sem, cellDrew]
  have c1 : w2.cell? ⟨w.heap.size, 1, none⟩ = some (.bool false) := by rw [hi2 _ _ (by omega), hi _ _ (by omega)]; simp [go_sem, cellDrew]
  have c2 : w2.cell? ⟨w.heap.size, 2, none⟩ = some (.bool false) := by rw [hi2 _ _ (by omega), hi _ _ (by omega)]; simp [go_sem, cellDrew]
  have c3 : w2.cell? ⟨w.heap.size, 3, none⟩ = some (.int .i64 0) := by rw [hi2 _ _ (by omega), hi _ _ (by omega)]; simp [go_sem, cellDrew]
  have c4 : w2.cell? ⟨w.heap.size, 4, none⟩ = some (.int .i64 0) := by rw [hi2 _ _ (by omega), hi _ _ (by omega)]; simp [go_sem, cellDrew]
  have c5 : w2.cell? ⟨w.heap.size, 5, none⟩ = some (.int .i64 0) := by rw [hi2 _ _ (by omega), hi _ _ (by omega)]; simp [go_sem, cellDrew]
  have c6 : w2.cell? ⟨w.heap.size, 6, none⟩ = some (.int .i64 0) := by rw [hi2 _ _ (by omega), hi _ _ (by omega)]; simp [go_sem, cellDrew]
  have c7 : w2.cell? ⟨w.heap.size, 7, none⟩ = some (.int .i64 0) := by rw [hi2 _ _ (by omega), hi _ _ (by omega)]; simp [go_sem, cellDrew]
  clear hi hj hi2 hj2 hb2 hs2 hb1 hs1
  simp [results, Tryz.results65, go_sem, ins, noIns, *]
 ·iterate 8 refine belSet ?_ _ _
  exact (belW hb1 (by simp only [World.size_alloc, sz_set, sz_drewN]; omega) (by (iterate 1 (refine belG (belN ?_ _) (by omega) _ _)); refine belAl ?_ (by simp only [World.size_alloc, sz_drewN]; omega) _; refine belN ?_ _; exact (Below.refl _ _).alloc (Nat.le_refl _) _)).trans (hb2.mono (by omega))
theorem rdec_3uc (x : Int) (h0 : 0 ≤ x) (h1 : x < 4294967296) (hf : x / 1073741824 % 4 = 3) (hU : decU x = true) (hr : rightB 3 true (decV x) (decA x) 0 0 0 (sextV x 24) = true) (hw : (encW 3 true (decV x) (decA x) 0 0 0 (sextV x 24) != x) = false) (w : World) :
 Calls Tryz.prog 65 #[.int .u32 x] w fun e w' => e = .returned (.tuple #[(ins 3 true (decV x) (decA x) 0 0 0 (sextV x 24)), .bool true]) ∧ Below w.heap.size w w' := by
 have hu : (x / 536870912 % 2 == 1) = decU x := beq_dec _ _
 have hv : (x / 268435456 % 2 == 1) = decV x := beq_dec _ _
 have ha : x / 16777216 % 16 = decA x := rfl
 have HR := hid hr
 go_enter Tryz.func65, Tryz.ntmps65
 go_wp2_with (first | (go_at_call 84; refine (field_any _ _ _ h0 h1 (by omega) (by omega) (by omega) (by omega) _).mono ?_; rintro e w' ⟨rfl, m, rfl⟩) | (go_at_call 85; refine (rsext_24 x h0 _).mono ?_; rintro e w' ⟨rfl, rfl⟩) | (go_at_call 86; refine (rright_any _ _ _ _ _ _ _ _ _).mono ?_; rintro e w1 ⟨rfl, hb1⟩; have hs1 := hb1.size; obtain ⟨hi, hj⟩ := bcell hb1; simp only [World.size_alloc, sz_set, sz_drewN] at hi hj hs1) | (go_at_call 87; refine (rlaid_any HR.out _).mono ?_; rintro e w2 ⟨rfl, hb2⟩; have hz : w.heap.size < w1.heap.size := (by omega); have hz1 : w.heap.size + 1 < w1.heap.size := (by omega); have hs2 := hb2.size; obtain ⟨hi2, hj2⟩ := bcell hb2))
 refine bodyPost_ret (v := .tuple #[(ins 3 true (decV x) (decA x) 0 0 0 (sextV x 24)), .bool true]) ?_ rfl ⟨rfl, ?_⟩
 ·clear HR
  have c0 : w2.cell? ⟨w.heap.size, 0, none⟩ = some (.int .i64 0) := by rw [hi2 _ _ (by omega), hi _ _ (by omega)]; simp [go_sem, cellDrew]
  have c1 : w2.cell? ⟨w.heap.size, 1, none⟩ = some (.bool false) := by rw [hi2 _ _ (by omega), hi _ _ (by omega)]; simp [go_sem, cellDrew]
  have c2 : w2.cell? ⟨w.heap.size, 2, none⟩ = some (.bool false) := by rw [hi2 _ _ (by omega), hi _ _ (by omega)]; simp [go_sem, cellDrew]
  have c3 : w2.cell? ⟨w.heap.size, 3, none⟩ = some (.int .i64 0) := by rw [hi2 _ _ (by omega), hi _ _ (by omega)]; simp [go_sem, cellDrew]
  have c4 : w2.cell? ⟨w.heap.size, 4, none⟩ = some (.int .i64 0) := by rw [hi2 _ _ (by omega), hi _ _ (by omega)]; simp [go_sem, cellDrew]
  have c5 : w2.cell? ⟨w.heap.size, 5, none⟩ = some (.int .i64 0) := by rw [hi2 _ _ (by omega), hi _ _ (by omega)]; simp [go_sem, cellDrew]
  have c6 : w2.cell? ⟨w.heap.size, 6, none⟩ = some (.int .i64 0) := by rw [hi2 _ _ (by omega), hi _ _ (by omega)]; simp [go_sem, cellDrew]
  have c7 : w2.cell? ⟨w.heap.size, 7, none⟩ = some (.int .i64 0) := by rw [hi2 _ _ (by omega), hi _ _ (by omega)]; simp [go_sem, cellDrew]
  clear hi hj hi2 hj2 hb2 hs2 hb1 hs1
  simp [results, Tryz.results65, go_sem, ins, noIns, *]
 ·iterate 8 refine belSet ?_ _ _
  exact (belW hb1 (by simp only [World.size_alloc, sz_set, sz_drewN]; omega) (by (iterate 1 (refine belG (belN ?_ _) (by omega) _ _)); refine belAl ?_ (by simp only [World.size_alloc, sz_drewN]; omega) _; refine belN ?_ _; exact (Below.refl _ _).alloc (Nat.le_refl _) _)).trans (hb2.mono (by omega))
theorem rdec_3na (x : Int) (h0 : 0 ≤ x) (h1 : x < 4294967296) (hf : x / 1073741824 % 4 = 3) (hU : decU x = false) (hr : rightB 3 false (decV x) (decA x) 0 0 (x % 16) 0 = false) (w : World) :
 Calls Tryz.prog 65 #[.int .u32 x] w fun e w' => e = .returned (.tuple #[noIns, .bool false]) ∧ Below w.heap.size w w' := by
 have hu : (x / 536870912 % 2 == 1) = decU x := beq_dec _ _
 have hv : (x / 268435456 % 2 == 1) = decV x := beq_dec _ _
 have ha : x / 16777216 % 16 = decA x := rfl
 have HR := hid hr
 go_enter Tryz.func65, Tryz.ntmps65
 go_wp2_with (first | (go_at_call 84; refine (field_any _ _ _ h0 h1 (by omega) (by omega) (by omega) (by omega) _).mono ?_; rintro e w' ⟨rfl, m, rfl⟩) | (go_at_call 86; refine (rright_any _ _ _ _ _ _ _ _ _).mono ?_; rintro e w1 ⟨rfl, hb1⟩; have hs1 := hb1.size; obtain ⟨hi, hj⟩ := bcell hb1; simp only [World.size_alloc, sz_set, sz_drewN] at hi hj hs1))
 refine bodyPost_ret (v := .tuple #[noIns, .bool false]) ?_ rfl ⟨rfl, ?_⟩
 ·clear HR
  have c0 : w1.cell? ⟨w.heap.size, 0, none⟩ = some (.int .i64 0) := by rw [hi _ _ (by omega)]; simp [go_sem, cellDrew]
  have c1 : w1.cell? ⟨w.heap.size, 1, none⟩ = some (.bool false) := by rw [hi _ _ (by omega)]; simp [go_sem, cellDrew]
  have c2 : w1.cell? ⟨w.heap.size, 2, none⟩ = some (.bool false) := by rw [hi _ _ (by omega)]; simp [go_sem, cellDrew]
  have c3 : w1.cell? ⟨w.heap.size, 3, none⟩ = some (.int .i64 0) := by rw [hi _ _ (by omega)]; simp [go_sem, cellDrew]
  have c4 : w1.cell? ⟨w.heap.size, 4, none⟩ = some (.int .i64 0) := by rw [hi _ _ (by omega)]; simp [go_sem, cellDrew]
  have c5 : w1.cell? ⟨w.heap.size, 5, none⟩ = some (.int .i64 0) := by rw [hi _ _ (by omega)]; simp [go_sem, cellDrew]
  have c6 : w1.cell? ⟨w.heap.size, 6, none⟩ = some (.int .i64 0) := by rw [hi _ _ (by omega)]; simp [go_sem, cellDrew]
  have c7 : w1.cell? ⟨w.heap.size, 7, none⟩ = some (.int .i64 0) := by rw [hi _ _ (by omega)]; simp [go_sem, cellDrew]
  clear hi hj hb1 hs1
  simp [results, Tryz.results65, go_sem, ins, noIns, *]
 ·iterate 8 refine belSet ?_ _ _
  exact belW hb1 (by simp only [World.size_alloc, sz_set, sz_drewN]; omega) (by (iterate 1 (refine belG (belN ?_ _) (by omega) _ _)); refine belAl ?_ (by simp only [World.size_alloc, sz_drewN]; omega) _; refine belN ?_ _; exact (Below.refl _ _).alloc (Nat.le_refl _) _)
theorem rdec_3nb (x : Int) (h0 : 0 ≤ x) (h1 : x < 4294967296) (hf : x / 1073741824 % 4 = 3) (hU : decU x = false) (hr : rightB 3 false (decV x) (decA x) 0 0 (x % 16) 0 = true) (hw : (encW 3 false (decV x) (decA x) 0 0 (x % 16) 0 != x) = true) (w : World) :
 Calls Tryz.prog 65 #[.int .u32 x] w fun e w' => e = .returned (.tuple #[noIns, .bool false]) ∧ Below w.heap.size w w' := by
 have hu : (x / 536870912 % 2 == 1) = decU x := beq_dec _ _
 have hv : (x / 268435456 % 2 == 1) = decV x := beq_dec _ _
 have ha : x / 16777216 % 16 = decA x := rfl
 have HR := hid hr
 go_enter Tryz.func65, Tryz.ntmps65
 go_wp2_with (first | (go_at_call 84; refine (field_any _ _ _ h0 h1 (by omega) (by omega) (by omega) (by omega) _).mono ?_; rintro e w' ⟨rfl, m, rfl⟩) | (go_at_call 86; refine (rright_any _ _ _ _ _ _ _ _ _).mono ?_; rintro e w1 ⟨rfl, hb1⟩; have hs1 := hb1.size; obtain ⟨hi, hj⟩ := bcell hb1; simp only [World.size_alloc, sz_set, sz_drewN] at hi hj hs1) | (go_at_call 87; refine (rlaid_any HR.out _).mono ?_; rintro e w2 ⟨rfl, hb2⟩; have hz : w.heap.size < w1.heap.size := (by omega); have hz1 : w.heap.size + 1 < w1.heap.size := (by omega); have hs2 := hb2.size; obtain ⟨hi2, hj2⟩ := bcell hb2))
 refine bodyPost_ret (v := .tuple #[noIns, .bool false]) ?_ rfl ⟨rfl, ?_⟩
 ·clear HR
  have c0 : w2.cell? ⟨w.heap.size, 0, none⟩ = some (.int .i64 0) := by rw [hi2 _ _ (by omega), hi _ _ (by omega)]; simp [go_sem, cellDrew]
  have c1 : w2.cell? ⟨w.heap.size, 1, none⟩ = some (.bool false) := by rw [hi2 _ _ (by omega), hi _ _ (by omega)]; simp [go_sem, cellDrew]
  have c2 : w2.cell? ⟨w.heap.size, 2, none⟩ = some (.bool false) := by rw [hi2 _ _ (by omega), hi _ _ (by omega)]; simp [go_sem, cellDrew]
  have c3 : w2.cell? ⟨w.heap.size, 3, none⟩ = some (.int .i64 0) := by rw [hi2 _ _ (by omega), hi _ _ (by omega)]; simp [go_sem, cellDrew]
  have c4 : w2.cell? ⟨w.heap.size, 4, none⟩ = some (.int .i64 0) := by rw [hi2 _ _ (by omega), hi _ _ (by omega)]; simp [go_sem, cellDrew]
  have c5 : w2.cell? ⟨w.heap.size, 5, none⟩ = some (.int .i64 0) := by rw [hi2 _ _ (by omega), hi _ _ (by omega)]; simp [go_sem, cellDrew]
  have c6 : w2.cell? ⟨w.heap.size, 6, none⟩ = some (.int .i64 0) := by rw [hi2 _ _ (by omega), hi _ _ (by omega)]; simp [go_sem, cellDrew]
  have c7 : w2.cell? ⟨w.heap.size, 7, none⟩ = some (.int .i64 0) := by rw [hi2 _ _ (by omega), hi _ _ (by omega)]; simp [go_sem, cellDrew]
  clear hi hj hi2 hj2 hb2 hs2 hb1 hs1
  simp [results, Tryz.results65, go_sem, ins, noIns, *]
 ·iterate 8 refine belSet ?_ _ _
  exact (belW hb1 (by simp only [World.size_alloc, sz_set, sz_drewN]; omega) (by (iterate 1 (refine belG (belN ?_ _) (by omega) _ _)); refine belAl ?_ (by simp only [World.size_alloc, sz_drewN]; omega) _; refine belN ?_ _; exact (Below.refl _ _).alloc (Nat.le_refl _) _)).trans (hb2.mono (by omega))
theorem rdec_3nc (x : Int) (h0 : 0 ≤ x) (h1 : x < 4294967296) (hf : x / 1073741824 % 4 = 3) (hU : decU x = false) (hr : rightB 3 false (decV x) (decA x) 0 0 (x % 16) 0 = true) (hw : (encW 3 false (decV x) (decA x) 0 0 (x % 16) 0 != x) = false) (w : World) :
 Calls Tryz.prog 65 #[.int .u32 x] w fun e w' => e = .returned (.tuple #[(ins 3 false (decV x) (decA x) 0 0 (x % 16) 0), .bool true]) ∧ Below w.heap.size w w' := by
 have hu : (x / 536870912 % 2 == 1) = decU x := beq_dec _ _
 have hv : (x / 268435456 % 2 == 1) = decV x := beq_dec _ _
 have ha : x / 16777216 % 16 = decA x := rfl
 have HR := hid hr
 go_enter Tryz.func65, Tryz.ntmps65
 go_wp2_with (first | (go_at_call 84; refine (field_any _ _ _ h0 h1 (by omega) (by omega) (by omega) (by omega) _).mono ?_; rintro e w' ⟨rfl, m, rfl⟩) | (go_at_call 86; refine (rright_any _ _ _ _ _ _ _ _ _).mono ?_; rintro e w1 ⟨rfl, hb1⟩; have hs1 := hb1.size; obtain ⟨hi, hj⟩ := bcell hb1; simp only [World.size_alloc, sz_set, sz_drewN] at hi hj hs1) | (go_at_call 87; refine (rlaid_any HR.out _).mono ?_; rintro e w2 ⟨rfl, hb2⟩; have hz : w.heap.size < w1.heap.size := (by omega); have hz1 : w.heap.size + 1 < w1.heap.size := (by omega); have hs2 := hb2.size; obtain ⟨hi2, hj2⟩ := bcell hb2))
 refine bodyPost_ret (v := .tuple #[(ins 3 false (decV x) (decA x) 0 0 (x % 16) 0), .bool true]) ?_ rfl ⟨rfl, ?_⟩
 ·clear HR
  have c0 : w2.cell? ⟨w.heap.size, 0, none⟩ = some (.int .i64 0) := by rw [hi2 _ _ (by omega), hi _ _ (by omega)]; simp [go_sem, cellDrew]
  have c1 : w2.cell? ⟨w.heap.size, 1, none⟩ = some (.bool false) := by rw [hi2 _ _ (by omega), hi _ _ (by omega)]; simp [go_sem, cellDrew]
  have c2 : w2.cell? ⟨w.heap.size, 2, none⟩ = some (.bool false) := by rw [hi2 _ _ (by omega), hi _ _ (by omega)]; simp [go_sem, cellDrew]
  have c3 : w2.cell? ⟨w.heap.size, 3, none⟩ = some (.int .i64 0) := by rw [hi2 _ _ (by omega), hi _ _ (by omega)]; simp [go_sem, cellDrew]
  have c4 : w2.cell? ⟨w.heap.size, 4, none⟩ = some (.int .i64 0) := by rw [hi2 _ _ (by omega), hi _ _ (by omega)]; simp [go_sem, cellDrew]
  have c5 : w2.cell? ⟨w.heap.size, 5, none⟩ = some (.int .i64 0) := by rw [hi2 _ _ (by omega), hi _ _ (by omega)]; simp [go_sem, cellDrew]
  have c6 : w2.cell? ⟨w.heap.size, 6, none⟩ = some (.int .i64 0) := by rw [hi2 _ _ (by omega), hi _ _ (by omega)]; simp [go_sem, cellDrew]
  have c7 : w2.cell? ⟨w.heap.size, 7, none⟩ = some (.int .i64 0) := by rw [hi2 _ _ (by omega), hi _ _ (by omega)]; simp [go_sem, cellDrew]
  clear hi hj hi2 hj2 hb2 hs2 hb1 hs1
  simp [results, Tryz.results65, go_sem, ins, noIns, *]
 ·iterate 8 refine belSet ?_ _ _
  exact (belW hb1 (by simp only [World.size_alloc, sz_set, sz_drewN]; omega) (by (iterate 1 (refine belG (belN ?_ _) (by omega) _ _)); refine belAl ?_ (by simp only [World.size_alloc, sz_drewN]; omega) _; refine belN ?_ _; exact (Below.refl _ _).alloc (Nat.le_refl _) _)).trans (hb2.mono (by omega))
theorem rdec_any (x : Int) (h0 : 0 ≤ x) (h1 : x < 4294967296) (w : World) :
 Calls Tryz.prog 65 #[.int .u32 x] w fun e w' => e = .returned (.tuple #[decRes x, .bool (decOk x)]) ∧ Below w.heap.size w w' := by
 have hF : x / 1073741824 = 0 ∨ x / 1073741824 = 1 ∨ x / 1073741824 = 2 ∨ x / 1073741824 = 3 := by omega
 have key_0 : ∀ (h : x / 1073741824 = 0), Calls Tryz.prog 65 #[.int .u32 x] w fun e w' => e = .returned (.tuple #[decRes x, .bool (decOk x)]) ∧ Below w.heap.size w w' := by
  intro h
  have e1 : decI x = ins 0 (decU x) (decV x) (decA x) (x / 1048576 % 16) (x / 65536 % 16) (x % 16) 0 := by unfold decI decF decB decO decC decN decF; simp [h]
  have e2 : decOk x = (rightB 0 (decU x) (decV x) (decA x) (x / 1048576 % 16) (x / 65536 % 16) (x % 16) 0 && decide (encW 0 (decU x) (decV x) (decA x) (x / 1048576 % 16) (x / 65536 % 16) (x % 16) 0 = x)) := by unfold decOk decR decW decF decB decO decC decN decF; simp [h]
  cases hr : rightB 0 (decU x) (decV x) (decA x) (x / 1048576 % 16) (x / 65536 % 16) (x % 16) 0
  ·have hk : decOk x = false := by rw [e2, hr]; rfl
   unfold decRes
   rw [hk, if_neg Bool.false_ne_true]
   exact rdec_0a x h0 h1 (by omega) hr w
  ·cases hw : (encW 0 (decU x) (decV x) (decA x) (x / 1048576 % 16) (x / 65536 % 16) (x % 16) 0 != x)
   ·have hk : decOk x = true := by rw [e2, hr]; rw [bne_dec] at hw; simpa using hw
    unfold decRes
    rw [hk, if_pos rfl, e1]
    exact rdec_0c x h0 h1 (by omega) hr hw w
   ·have hk : decOk x = false := by rw [e2, hr]; rw [bne_dec] at hw; simpa using hw
    unfold decRes
    rw [hk, if_neg Bool.false_ne_true]
    exact rdec_0b x h0 h1 (by omega) hr hw w
 have key_1 : ∀ (h : x / 1073741824 = 1), Calls Tryz.prog 65 #[.int .u32 x] w fun e w' => e = .returned (.tuple #[decRes x, .bool (decOk x)]) ∧ Below w.heap.size w w' := by
  intro h
  have e1 : decI x = ins 1 (decU x) (decV x) (decA x) (x / 1048576 % 16) (x / 65536 % 16) 0 (x % 65536) := by unfold decI decF decB decO decC decN decF; simp [h]
  have e2 : decOk x = (rightB 1 (decU x) (decV x) (decA x) (x / 1048576 % 16) (x / 65536 % 16) 0 (x % 65536) && decide (encW 1 (decU x) (decV x) (decA x) (x / 1048576 % 16) (x / 65536 % 16) 0 (x % 65536) = x)) := by unfold decOk decR decW decF decB decO decC decN decF; simp [h]
  cases hr : rightB 1 (decU x) (decV x) (decA x) (x / 1048576 % 16) (x / 65536 % 16) 0 (x % 65536)
  ·have hk : decOk x = false := by rw [e2, hr]; rfl
   unfold decRes
   rw [hk, if_neg Bool.false_ne_true]
   exact rdec_1a x h0 h1 (by omega) hr w
  ·cases hw : (encW 1 (decU x) (decV x) (decA x) (x / 1048576 % 16) (x / 65536 % 16) 0 (x % 65536) != x)
   ·have hk : decOk x = true := by rw [e2, hr]; rw [bne_dec] at hw; simpa using hw
    unfold decRes
    rw [hk, if_pos rfl, e1]
    exact rdec_1c x h0 h1 (by omega) hr hw w
   ·have hk : decOk x = false := by rw [e2, hr]; rw [bne_dec] at hw; simpa using hw
    unfold decRes
    rw [hk, if_neg Bool.false_ne_true]
    exact rdec_1b x h0 h1 (by omega) hr hw w
 have key_2 : ∀ (h : x / 1073741824 = 2), Calls Tryz.prog 65 #[.int .u32 x] w fun e w' => e = .returned (.tuple #[decRes x, .bool (decOk x)]) ∧ Below w.heap.size w w' := by
  intro h
  have e1 : decI x = ins 2 (decU x) (decV x) (decA x) (x / 1048576 % 16) 0 0 (sextV x 20) := by unfold decI decF decB decO decC decN decF; simp [h]
  have e2 : decOk x = (rightB 2 (decU x) (decV x) (decA x) (x / 1048576 % 16) 0 0 (sextV x 20) && decide (encW 2 (decU x) (decV x) (decA x) (x / 1048576 % 16) 0 0 (sextV x 20) = x)) := by unfold decOk decR decW decF decB decO decC decN decF; simp [h]
  cases hr : rightB 2 (decU x) (decV x) (decA x) (x / 1048576 % 16) 0 0 (sextV x 20)
  ·have hk : decOk x = false := by rw [e2, hr]; rfl
   unfold decRes
   rw [hk, if_neg Bool.false_ne_true]
   exact rdec_2a x h0 h1 (by omega) hr w
  ·cases hw : (encW 2 (decU x) (decV x) (decA x) (x / 1048576 % 16) 0 0 (sextV x 20) != x)
   ·have hk : decOk x = true := by rw [e2, hr]; rw [bne_dec] at hw; simpa using hw
    unfold decRes
    rw [hk, if_pos rfl, e1]
    exact rdec_2c x h0 h1 (by omega) hr hw w
   ·have hk : decOk x = false := by rw [e2, hr]; rw [bne_dec] at hw; simpa using hw
    unfold decRes
    rw [hk, if_neg Bool.false_ne_true]
    exact rdec_2b x h0 h1 (by omega) hr hw w
 have key_3u : ∀ (h : x / 1073741824 = 3) (hU : decU x = true), Calls Tryz.prog 65 #[.int .u32 x] w fun e w' => e = .returned (.tuple #[decRes x, .bool (decOk x)]) ∧ Below w.heap.size w w' := by
  intro h hU
  have e1 : decI x = ins 3 true (decV x) (decA x) 0 0 0 (sextV x 24) := by unfold decI decF decB decO decC decN decF; simp [h, hU]
  have e2 : decOk x = (rightB 3 true (decV x) (decA x) 0 0 0 (sextV x 24) && decide (encW 3 true (decV x) (decA x) 0 0 0 (sextV x 24) = x)) := by unfold decOk decR decW decF decB decO decC decN decF; simp [h, hU]
  cases hr : rightB 3 true (decV x) (decA x) 0 0 0 (sextV x 24)
  ·have hk : decOk x = false := by rw [e2, hr]; rfl
   unfold decRes
   rw [hk, if_neg Bool.false_ne_true]
   exact rdec_3ua x h0 h1 (by omega) hU hr w
  ·cases hw : (encW 3 true (decV x) (decA x) 0 0 0 (sextV x 24) != x)
   ·have hk : decOk x = true := by rw [e2, hr]; rw [bne_dec] at hw; simpa using hw
    unfold decRes
    rw [hk, if_pos rfl, e1]
    exact rdec_3uc x h0 h1 (by omega) hU hr hw w
   ·have hk : decOk x = false := by rw [e2, hr]; rw [bne_dec] at hw; simpa using hw
    unfold decRes
    rw [hk, if_neg Bool.false_ne_true]
    exact rdec_3ub x h0 h1 (by omega) hU hr hw w
 have key_3n : ∀ (h : x / 1073741824 = 3) (hU : decU x = false), Calls Tryz.prog 65 #[.int .u32 x] w fun e w' => e = .returned (.tuple #[decRes x, .bool (decOk x)]) ∧ Below w.heap.size w w' := by
  intro h hU
  have e1 : decI x = ins 3 false (decV x) (decA x) 0 0 (x % 16) 0 := by unfold decI decF decB decO decC decN decF; simp [h, hU]
  have e2 : decOk x = (rightB 3 false (decV x) (decA x) 0 0 (x % 16) 0 && decide (encW 3 false (decV x) (decA x) 0 0 (x % 16) 0 = x)) := by unfold decOk decR decW decF decB decO decC decN decF; simp [h, hU]
  cases hr : rightB 3 false (decV x) (decA x) 0 0 (x % 16) 0
  ·have hk : decOk x = false := by rw [e2, hr]; rfl
   unfold decRes
   rw [hk, if_neg Bool.false_ne_true]
   exact rdec_3na x h0 h1 (by omega) hU hr w
  ·cases hw : (encW 3 false (decV x) (decA x) 0 0 (x % 16) 0 != x)
   ·have hk : decOk x = true := by rw [e2, hr]; rw [bne_dec] at hw; simpa using hw
    unfold decRes
    rw [hk, if_pos rfl, e1]
    exact rdec_3nc x h0 h1 (by omega) hU hr hw w
   ·have hk : decOk x = false := by rw [e2, hr]; rw [bne_dec] at hw; simpa using hw
    unfold decRes
    rw [hk, if_neg Bool.false_ne_true]
    exact rdec_3nb x h0 h1 (by omega) hU hr hw w
 rcases hF with h | h | h | h
 ·exact key_0 h
 ·exact key_1 h
 ·exact key_2 h
 ·cases hU : decU x
  ·exact key_3n h hU
  ·exact key_3u h hU
end Go.Proofs.YtgcknekhimpfkaaGreatDoor
