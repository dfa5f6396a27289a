/- The document's: a branch; what is reckoned, as one. -/
import Derived.Test.YtgcknekhimpfkaaGreatDoorRefI2
import Derived.Test.YtgcknekhimpfkaaGreatDoorCpuHB
namespace Go.Proofs.YtgcknekhimpfkaaGreatDoor
open Go Go.RowKit Go.Lib Go.Proofs.YtgcknekhimpfkaaGreatDoor.Pl
set_option linter.unusedVariables false
set_option linter.unusedSimpArgs false
attribute [local go_sem ↓] exec_load_cpu exec_store_cpu
theorem sc {A : Array Value} {i j : Nat} (x y : Value) (h : i ≠ j) : (A.setIfInBounds i x).setIfInBounds j y = (A.setIfInBounds j y).setIfInBounds i x := Array.setIfInBounds_comm x y h
theorem ss {A : Array Value} {i : Nat} (x y : Value) : (A.setIfInBounds i x).setIfInBounds i y = A.setIfInBounds i y := Array.setIfInBounds_setIfInBounds x
theorem exGo_n (cs : Array Value) (u v : Bool) (a c : Nat) (n : Int) (h : holdsV (flV cs 17) (flV cs 18) (flV cs 19) (flV cs 20) a = false) : exGo cs u v a c n = cs.setIfInBounds 21 (.int .u32 (nextV cs)) := by unfold exGo; rw [h]; rfl
theorem exGo_y (cs : Array Value) (u v : Bool) (a c : Nat) (n : Int) (h : holdsV (flV cs 17) (flV cs 18) (flV cs 19) (flV cs 20) a = true) : exGo cs u v a c n = if v then (cs.setIfInBounds 21 (.int .u32 (if u then goTo cs n else rgV cs c))).setIfInBounds 15 (.int .u32 (nextV cs)) else cs.setIfInBounds 21 (.int .u32 (if u then goTo cs n else rgV cs c)) := by
 unfold exGo c21; rw [h, if_pos rfl]; simp only [ss]
set_option maxRecDepth 100000 in
set_option maxHeartbeats 1000000 in
theorem goes_any (cs : Array Value) (hc : CpuOk cs) (u v : Bool) (a c : Nat) (n : Int) (hr : rightB 3 u v a 0 0 c n = true) (w : World) :
 Calls Tryz.prog 92 #[.agg cs, ins 3 u v a 0 0 c n] w fun e w' => e = .returned (.agg (exGo cs u v a c n)) ∧ Below w.heap.size w w' := by
 have hF : FlagsAre cs (flV cs 17) (flV cs 18) (flV cs 19) (flV cs 20) := ⟨hc.nV, hc.zV, hc.cV, hc.vV⟩
 have HF := hid hF
 have hcc : (c : Int) < 16 := by have := (right_inv hr).2.2.1; omega
 have hn : -8388608 ≤ n ∧ n ≤ 8388607 := by
  obtain ⟨_, _, _, _, h⟩ := right_inv hr
  rcases h with ⟨h, _⟩ | ⟨h, _⟩ | ⟨h, _⟩ | ⟨_, _, _, h⟩
  ·omega
  ·omega
  ·omega
  ·rcases h with ⟨_, _, h⟩ | ⟨_, h⟩ <;> omega
 obtain ⟨hn0, hn1⟩ := hn
 obtain ⟨hrc, hrc0, hrc1⟩ := hc.rg (k := c) (by omega)
 obtain ⟨hpc, hp0, hp1⟩ := hc.pcV
 have HC := hid hc
 have HRC := hid hrc
 have HPC := hid hpc
 have HNV : Hid ((rgV cs 21 + 4) % 4294967296 = nextV cs) := rfl
 have HGO : Hid (((rgV cs 21 + 4) % 4294967296 + 4 * n % 4294967296) % 4294967296 = goTo cs n) := by unfold Hid goTo; omega
 have HGO2 : Hid ((rgV cs 21 + 4 + 4 * n) % 4294967296 = goTo cs n) := by unfold Hid goTo; omega
 clear hF hr hc hrc hpc
 unfold ins
 obtain ⟨h0, h1, h2, hs, hB⟩ := three_made w cs #[.int .i64 3, .bool u, .bool v, .int .i64 a, .int .i64 0, .int .i64 0, .int .i64 c, .int .i64 n] #[.int .u32 0, .int .u32 0, .int .u32 0, .int .u32 0, .int .u32 0, .int .u32 0, .int .u32 0, .int .u32 0, .int .u32 0, .int .u32 0, .int .u32 0, .int .u32 0, .int .u32 0, .int .u32 0, .int .u32 0, .int .u32 0, .int .u32 0, .bool false, .bool false, .bool false, .bool false, .int .u32 0] 50 92 50
 have K0 := hid h0
 have K1 := hid h1
 have K2 := hid h2
 have KB := hid hB
 clear h0 h1 h2 hs hB
 go_enter Tryz.func92, Tryz.ntmps92
 go_upto_region 1 with fail
 generalize ((w.alloc (.cells cs 50)).alloc (.cells #[.int .i64 3, .bool u, .bool v, .int .i64 a, .int .i64 0, .int .i64 0, .int .i64 c, .int .i64 n] 92)).alloc (.cells #[.int .u32 0, .int .u32 0, .int .u32 0, .int .u32 0, .int .u32 0, .int .u32 0, .int .u32 0, .int .u32 0, .int .u32 0, .int .u32 0, .int .u32 0, .int .u32 0, .int .u32 0, .int .u32 0, .int .u32 0, .int .u32 0, .int .u32 0, .bool false, .bool false, .bool false, .bool false, .int .u32 0] 50) = W at K0 K1 K2 KB ⊢
 have i3 : W.cell? ⟨w.heap.size + 1, 3, none⟩ = some (.int .i64 a) := K1.out.cell 3
 have pc := (K0.out.cell 21).trans HPC.out
 have hl := load_cpu K0.out HC.out.size
 go_upto_if 15 with (go_at_call 103; (refine (rholds_any cs _ _ _ _ HF.out a _).mono ?_; rintro e w1 ⟨rfl, hb1⟩; have M0 := hid (K0.out.step hb1); have M1 := hid (K1.out.step hb1); have M2 := hid (K2.out.step hb1); have MB := hid (KB.out.trans (hb1.mono KB.out.size)); clear hb1))
 clear i3 pc hl K0 K1 K2 KB
 have ms : Hid (cs.size = 22) := HC.out.size
 have mo : Hid (OneRow cs) := HC.out.one
 cases hH : holdsV (flV cs 17) (flV cs 18) (flV cs 19) (flV cs 20) a
 ·have HX := hid (exGo_n cs u v a c n hH)
  obtain ⟨x21, c21⟩ := at_some (k := 21) ms.out (by omega)
  have d21 := (M0.out.cell 21).trans c21
  clear c21
  have df := M0.out.frozen
  go_upto_region 5 with fail
  clear df d21
  rw [HNV.out]
  have N0 := hid (M0.out.set 21 (.int .u32 (nextV cs)))
  have N2 := hid (M2.out.far (p := ⟨w.heap.size, 21, none⟩) (by simp; omega) (.int .u32 (nextV cs)))
  have N1 := hid (M1.out.far (p := ⟨w.heap.size, 21, none⟩) (by simp) (.int .u32 (nextV cs)))
  have NB := hid (MB.out.setCell (p := ⟨w.heap.size, 21, none⟩) (Nat.le_refl _) (.int .u32 (nextV cs)))
  have ns : Hid ((cs.setIfInBounds 21 (.int .u32 (nextV cs))).size = 22) := by unfold Hid; rw [Array.size_setIfInBounds]; exact ms.out
  have no : Hid (OneRow (cs.setIfInBounds 21 (.int .u32 (nextV cs)))) := mo.out.set _ rfl
  clear M0 M1 M2 MB ms mo
  generalize w1.setCell ⟨w.heap.size, 21, none⟩ (.int .u32 (nextV cs)) = W2 at N0 N1 N2 NB ⊢
  generalize hD : cs.setIfInBounds 21 (.int .u32 (nextV cs)) = D at N0 ns no ⊢
  have HD := hid hD
  clear hD
  have M0 := N0
  have M1 := N1
  have M2 := N2
  have MB := NB
  have ms := ns
  have mo := no
  clear N0 N1 N2 NB ns no
  have hl := load_cpu M0.out ms.out
  have hst := store_cpu M2.out rfl ms.out mo.out
  have KRES := hid (loadVar_cpu (M2.out.setRow D) ms.out)
  go_wp2_with fail
  have hres := KRES.out
  refine bodyPost_ret (v := .agg D) ?_ rfl ⟨by rw [HX.out, ← HD.out], belRow MB.out (by omega) _⟩
  simp [results, Tryz.results92, asAddr, hres]
 ·have HX := hid (exGo_y cs u v a c n hH)
  clear hH
  have i6 : w1.cell? ⟨w.heap.size + 1, 6, none⟩ = some (.int .i64 c) := M1.out.cell 6
  have oc := (M0.out.cell c).trans HRC.out
  obtain ⟨x21, c21⟩ := at_some (k := 21) ms.out (by omega)
  have d21 := (M0.out.cell 21).trans c21
  clear c21
  have df := M0.out.frozen
  go_upto_region 7 with fail
  clear df d21
  clear i6 oc
  have N0 := hid (M0.out.set 21 (.int .u32 (rgV cs c)))
  have N2 := hid (M2.out.far (p := ⟨w.heap.size, 21, none⟩) (by simp; omega) (.int .u32 (rgV cs c)))
  have N1 := hid (M1.out.far (p := ⟨w.heap.size, 21, none⟩) (by simp) (.int .u32 (rgV cs c)))
  have NB := hid (MB.out.setCell (p := ⟨w.heap.size, 21, none⟩) (Nat.le_refl _) (.int .u32 (rgV cs c)))
  have ns : Hid ((cs.setIfInBounds 21 (.int .u32 (rgV cs c))).size = 22) := by unfold Hid; rw [Array.size_setIfInBounds]; exact ms.out
  have no : Hid (OneRow (cs.setIfInBounds 21 (.int .u32 (rgV cs c)))) := mo.out.set _ rfl
  clear M0 M1 M2 MB ms mo
  generalize w1.setCell ⟨w.heap.size, 21, none⟩ (.int .u32 (rgV cs c)) = W2 at N0 N1 N2 NB ⊢
  generalize hD : cs.setIfInBounds 21 (.int .u32 (rgV cs c)) = D at N0 ns no ⊢
  have HD := hid hD
  clear hD
  have M0 := N0
  have M1 := N1
  have M2 := N2
  have MB := NB
  have ms := ns
  have mo := no
  clear N0 N1 N2 NB ns no
  have i1 : W2.cell? ⟨w.heap.size + 1, 1, none⟩ = some (.bool u) := M1.out.cell 1
  have i2 : W2.cell? ⟨w.heap.size + 1, 2, none⟩ = some (.bool v) := M1.out.cell 2
  have i7 : W2.cell? ⟨w.heap.size + 1, 7, none⟩ = some (.int .i64 n) := M1.out.cell 7
  cases u
  ·skip
   cases v
   ·skip
    have hl := load_cpu M0.out ms.out
    have hst := store_cpu M2.out rfl ms.out mo.out
    have KRES := hid (loadVar_cpu (M2.out.setRow D) ms.out)
    go_wp2_with fail
    have hres := KRES.out
    refine bodyPost_ret (v := .agg D) ?_ rfl ⟨by rw [HX.out, ← HD.out]; rfl, belRow MB.out (by omega) _⟩
    simp [results, Tryz.results92, asAddr, hres]
   ·skip
    obtain ⟨x15, c15⟩ := at_some (k := 15) ms.out (by omega)
    have d15 := (M0.out.cell 15).trans c15
    clear c15
    have df := M0.out.frozen
    go_upto_region 11 with fail
    clear df d15
    clear i1 i2 i7
    rw [HNV.out]
    have N0 := hid (M0.out.set 15 (.int .u32 (nextV cs)))
    have N2 := hid (M2.out.far (p := ⟨w.heap.size, 15, none⟩) (by simp; omega) (.int .u32 (nextV cs)))
    have N1 := hid (M1.out.far (p := ⟨w.heap.size, 15, none⟩) (by simp) (.int .u32 (nextV cs)))
    have NB := hid (MB.out.setCell (p := ⟨w.heap.size, 15, none⟩) (Nat.le_refl _) (.int .u32 (nextV cs)))
    have ns : Hid ((D.setIfInBounds 15 (.int .u32 (nextV cs))).size = 22) := by unfold Hid; rw [Array.size_setIfInBounds]; exact ms.out
    have no : Hid (OneRow (D.setIfInBounds 15 (.int .u32 (nextV cs)))) := mo.out.set _ rfl
    clear M0 M1 M2 MB ms mo
    generalize W2.setCell ⟨w.heap.size, 15, none⟩ (.int .u32 (nextV cs)) = W4 at N0 N1 N2 NB ⊢
    generalize hE : D.setIfInBounds 15 (.int .u32 (nextV cs)) = E at N0 ns no ⊢
    have HE := hid hE
    clear hE
    have M0 := N0
    have M1 := N1
    have M2 := N2
    have MB := NB
    have ms := ns
    have mo := no
    clear N0 N1 N2 NB ns no
    have hl := load_cpu M0.out ms.out
    have hst := store_cpu M2.out rfl ms.out mo.out
    have KRES := hid (loadVar_cpu (M2.out.setRow E) ms.out)
    go_wp2_with fail
    have hres := KRES.out
    refine bodyPost_ret (v := .agg E) ?_ rfl ⟨by rw [HX.out, ← HE.out, ← HD.out]; rfl, belRow MB.out (by omega) _⟩
    simp [results, Tryz.results92, asAddr, hres]
  ·skip
   obtain ⟨x21, c21⟩ := at_some (k := 21) ms.out (by omega)
   have d21 := (M0.out.cell 21).trans c21
   clear c21
   have df := M0.out.frozen
   go_upto_if 35 with fail
   clear df d21
   clear i1 i7 i2
   rw [HGO.out, HGO2.out]
   have N0 := hid (M0.out.set 21 (.int .u32 (goTo cs n)))
   have N2 := hid (M2.out.far (p := ⟨w.heap.size, 21, none⟩) (by simp; omega) (.int .u32 (goTo cs n)))
   have N1 := hid (M1.out.far (p := ⟨w.heap.size, 21, none⟩) (by simp) (.int .u32 (goTo cs n)))
   have NB := hid (MB.out.setCell (p := ⟨w.heap.size, 21, none⟩) (Nat.le_refl _) (.int .u32 (goTo cs n)))
   have ns : Hid ((D.setIfInBounds 21 (.int .u32 (goTo cs n))).size = 22) := by unfold Hid; rw [Array.size_setIfInBounds]; exact ms.out
   have no : Hid (OneRow (D.setIfInBounds 21 (.int .u32 (goTo cs n)))) := mo.out.set _ rfl
   clear M0 M1 M2 MB ms mo
   generalize W2.setCell ⟨w.heap.size, 21, none⟩ (.int .u32 (goTo cs n)) = W3 at N0 N1 N2 NB ⊢
   generalize hE : D.setIfInBounds 21 (.int .u32 (goTo cs n)) = E at N0 ns no ⊢
   have HE := hid hE
   clear hE
   have M0 := N0
   have M1 := N1
   have M2 := N2
   have MB := NB
   have ms := ns
   have mo := no
   clear N0 N1 N2 NB ns no
   have i2 : W3.cell? ⟨w.heap.size + 1, 2, none⟩ = some (.bool v) := M1.out.cell 2
   cases v
   ·skip
    have hl := load_cpu M0.out ms.out
    have hst := store_cpu M2.out rfl ms.out mo.out
    have KRES := hid (loadVar_cpu (M2.out.setRow E) ms.out)
    go_wp2_with fail
    have hres := KRES.out
    refine bodyPost_ret (v := .agg E) ?_ rfl ⟨by rw [HX.out, ← HE.out, ← HD.out, ss]; rfl, belRow MB.out (by omega) _⟩
    simp [results, Tryz.results92, asAddr, hres]
   ·skip
    obtain ⟨x15, c15⟩ := at_some (k := 15) ms.out (by omega)
    have d15 := (M0.out.cell 15).trans c15
    clear c15
    have df := M0.out.frozen
    go_upto_region 11 with fail
    clear df d15
    clear i2
    rw [HNV.out]
    have N0 := hid (M0.out.set 15 (.int .u32 (nextV cs)))
    have N2 := hid (M2.out.far (p := ⟨w.heap.size, 15, none⟩) (by simp; omega) (.int .u32 (nextV cs)))
    have N1 := hid (M1.out.far (p := ⟨w.heap.size, 15, none⟩) (by simp) (.int .u32 (nextV cs)))
    have NB := hid (MB.out.setCell (p := ⟨w.heap.size, 15, none⟩) (Nat.le_refl _) (.int .u32 (nextV cs)))
    have ns : Hid ((E.setIfInBounds 15 (.int .u32 (nextV cs))).size = 22) := by unfold Hid; rw [Array.size_setIfInBounds]; exact ms.out
    have no : Hid (OneRow (E.setIfInBounds 15 (.int .u32 (nextV cs)))) := mo.out.set _ rfl
    clear M0 M1 M2 MB ms mo
    generalize W3.setCell ⟨w.heap.size, 15, none⟩ (.int .u32 (nextV cs)) = W5 at N0 N1 N2 NB ⊢
    generalize hG : E.setIfInBounds 15 (.int .u32 (nextV cs)) = G at N0 ns no ⊢
    have HG := hid hG
    clear hG
    have M0 := N0
    have M1 := N1
    have M2 := N2
    have MB := NB
    have ms := ns
    have mo := no
    clear N0 N1 N2 NB ns no
    have hl := load_cpu M0.out ms.out
    have hst := store_cpu M2.out rfl ms.out mo.out
    have KRES := hid (loadVar_cpu (M2.out.setRow G) ms.out)
    go_wp2_with fail
    have hres := KRES.out
    refine bodyPost_ret (v := .agg G) ?_ rfl ⟨by rw [HX.out, ← HG.out, ← HE.out, ← HD.out, ss]; rfl, belRow MB.out (by omega) _⟩
    simp [results, Tryz.results92, asAddr, hres]
/-- What reckons gives: the processor ahead of its last step, and whether it does. -/
def RkIs (cs : Array Value) (f : Int) (u v : Bool) (a b : Nat) (op : Int) (c : Nat) (n : Int) (R : Array Value) (ok : Bool) : Prop :=
 R.size = 22 ∧ OneRow R ∧ (ok = true ∧ exAlu cs f u v a b op c n = (R.setIfInBounds 21 (.int .u32 (nextV cs)), 0, false) ∨ ok = false ∧ R = cs ∧ exAlu cs f u v a b op c n = (cs, 6, true))
theorem fin21 (cs : Array Value) (a : Nat) (ha : a ≤ 15) (W : Int) (P : Value) : fin (cs.setIfInBounds 21 P) a W = (fin cs a W).setIfInBounds 21 P := by
 unfold fin
 rw [sc P _ (by omega : 21 ≠ a), sc P _ (by omega : (21 : Nat) ≠ 17), sc P _ (by omega : (21 : Nat) ≠ 18)]
theorem fin_set (cs : Array Value) (a : Nat) (ha : a ≤ 15) (W : Int) (j : Nat) (hj : j = 19 ∨ j = 20) (P : Value) : fin (cs.setIfInBounds j P) a W = (fin cs a W).setIfInBounds j P := by
 unfold fin
 rw [sc P _ (by omega : j ≠ a), sc P _ (by omega : j ≠ 17), sc P _ (by omega : j ≠ 18)]
theorem movedV_alu {cs : Array Value} {f : Int} {u v : Bool} {a b c n : Int} {cn : Nat} (y : Int) (hf : f = 0 ∨ f = 1) (h : rightB f u v a b 0 c n = true) : movedV cs f u v n (opX cs f v cn n) = aluW cs f u v 0 y (opX cs f v cn n) := by
 obtain ⟨_, _, _, _, h⟩ := right_inv h
 unfold movedV aluW
 rw [if_pos rfl]
 cases u
 ·rfl
 ·rcases hf with rfl | rfl
  ·rfl
  ·have hv : v = false := by
    rcases h with ⟨h, _⟩ | ⟨_, _, _, h⟩ | ⟨h, _⟩ | ⟨h, _⟩
    ·omega
    ·unfold reckB at h; simp at h; exact h.2
    ·omega
    ·omega
   subst hv
   rfl
theorem rk_any (cs : Array Value) (hc : CpuOk cs) (f : Int) (hf : f = 0 ∨ f = 1) (u v : Bool) (a b c : Nat) (op n : Int) (hr : rightB f u v a b op c n = true) (h15 : op ≠ 15) :
 ∃ R ok, RkIs cs f u v a b op c n R ok ∧ ∀ w, Calls Tryz.prog 94 #[.agg cs, ins f u v a b op c n] w fun e w' => e = .returned (.tuple #[.agg R, .bool ok]) ∧ Below w.heap.size w w' := by
 have ha : a ≤ 15 := by have := (right_inv hr).1; omega
 have ho := (right_inv hr).2.2.2.1
 have ho' : op = 0 ∨ op = 1 ∨ op = 2 ∨ op = 3 ∨ op = 4 ∨ op = 5 ∨ op = 6 ∨ op = 7 ∨ op = 8 ∨ op = 9 ∨ op = 10 ∨ op = 11 ∨ op = 12 ∨ op = 13 ∨ op = 14 := by omega
 have hk : reckB f u v a b op c = true := by
  obtain ⟨_, _, _, _, h⟩ := right_inv hr
  rcases h with ⟨rfl, _, h⟩ | ⟨rfl, _, _, h⟩ | ⟨rfl, _⟩ | ⟨rfl, _⟩
  ·exact h
  ·exact h
  ·omega
  ·omega
 have fs : ∀ W, (fin cs a W).size = 22 := fun W => by simp [fin, hc.size]
 have fo : ∀ W, OneRow (fin cs a W) := fun W => fin_one hc.one
 have plain : ∀ W, exAlu cs f u v a b op c n = (fin (c21 cs) a W, 0, false) → RkIs cs f u v a b op c n (fin cs a W) true := fun W h => ⟨fs W, fo W, .inl ⟨rfl, by rw [h]; unfold c21; rw [fin21 _ _ ha]⟩⟩
 rcases ho' with rfl | rfl | rfl | rfl | rfl | rfl | rfl | rfl | rfl | rfl | rfl | rfl | rfl | rfl | rfl
 ·exact ⟨_, _, plain (movedV cs f u v n (opX cs f v c n)) (by rw [movedV_alu (rgV cs b) hf hr]; rfl), rk_0 cs hc f hf u v a b c n hr⟩
 ·exact ⟨_, _, plain _ rfl, rk_1 cs hc f hf u v a b c n hr⟩
 ·exact ⟨_, _, plain _ rfl, rk_2 cs hc f hf u v a b c n hr⟩
 ·exact ⟨_, _, plain _ rfl, rk_3 cs hc f hf u v a b c n hr⟩
 ·exact ⟨_, _, plain _ rfl, rk_4 cs hc f hf u v a b c n hr⟩
 ·exact ⟨_, _, plain _ rfl, rk_5 cs hc f hf u v a b c n hr⟩
 ·exact ⟨_, _, plain _ rfl, rk_6 cs hc f hf u v a b c n hr⟩
 ·exact ⟨_, _, plain _ rfl, rk_7 cs hc f hf u v a b c n hr⟩
 ·refine ⟨_, _, ⟨by simp [fs], ((fo _).set _ rfl).set _ rfl, .inl ⟨rfl, ?_⟩⟩, rk_8 cs hc f hf u v a b c n hr⟩
  have e : exAlu cs f u v a b 8 c n = (fin (((c21 cs).setIfInBounds 19 (.bool (addC (rgV cs b) (opX cs f v c n) (u && flV cs 19)))).setIfInBounds 20 (.bool (addV (rgV cs b) (opX cs f v c n) (u && flV cs 19)))) a (addS (rgV cs b) (opX cs f v c n) (u && flV cs 19)), 0, false) := rfl
  rw [e, fin_set _ _ ha _ _ (.inr rfl), fin_set _ _ ha _ _ (.inl rfl)]
  unfold c21
  rw [fin21 _ _ ha, sc _ _ (by omega : (21 : Nat) ≠ 19), sc _ _ (by omega : (21 : Nat) ≠ 20)]
 ·refine ⟨_, _, ⟨by simp [fs], ((fo _).set _ rfl).set _ rfl, .inl ⟨rfl, ?_⟩⟩, rk_9 cs hc f hf u v a b c n hr⟩
  have e : exAlu cs f u v a b 9 c n = (fin (((c21 cs).setIfInBounds 19 (.bool (subC (rgV cs b) (opX cs f v c n) (u && flV cs 19)))).setIfInBounds 20 (.bool (subV (rgV cs b) (opX cs f v c n) (u && flV cs 19)))) a (subS (rgV cs b) (opX cs f v c n) (u && flV cs 19)), 0, false) := rfl
  rw [e, fin_set _ _ ha _ _ (.inr rfl), fin_set _ _ ha _ _ (.inl rfl)]
  unfold c21
  rw [fin21 _ _ ha, sc _ _ (by omega : (21 : Nat) ≠ 19), sc _ _ (by omega : (21 : Nat) ≠ 20)]
 ·refine ⟨_, _, ⟨by simp [fin, hc.size], fin_one (hc.one.set _ rfl), .inl ⟨rfl, ?_⟩⟩, rk_10 cs hc f hf u v a b c n hr⟩
  have e : exAlu cs f u v a b 10 c n = (fin ((c21 cs).setIfInBounds 16 (.int .u32 (mulH (rgV cs b) (opX cs f v c n) u))) a (mulL (rgV cs b) (opX cs f v c n) u), 0, false) := rfl
  rw [e]
  unfold c21
  rw [sc _ _ (by omega : (21 : Nat) ≠ 16), fin21 _ _ ha]
 ·cases hd : divOk (opX cs f v c n)
  ·refine ⟨_, _, ⟨hc.size, hc.one, .inr ⟨rfl, rfl, ?_⟩⟩, rk_11n cs hc f hf u v a b c n hd hr⟩
   unfold exAlu; rw [if_neg (by omega), if_pos ⟨rfl, hd⟩]
  ·refine ⟨_, _, ⟨by simp [fin, hc.size], fin_one (hc.one.set _ rfl), .inl ⟨rfl, ?_⟩⟩, rk_11y cs hc f hf u v a b c n hd hr⟩
   have e : exAlu cs f u v a b 11 c n = (fin ((c21 cs).setIfInBounds 16 (.int .u32 (divR (rgV cs b) (opX cs f v c n)))) a (divQ (rgV cs b) (opX cs f v c n)), 0, false) := by
    unfold exAlu; rw [if_neg (by omega), if_neg (by rw [hd]; simp)]; rfl
   rw [e]
   unfold c21
   rw [sc _ _ (by omega : (21 : Nat) ≠ 16), fin21 _ _ ha]
 ·exact absurd hk (by simp [reckB])
 ·exact absurd hk (by simp [reckB])
 ·exact absurd hk (by simp [reckB])
end Go.Proofs.YtgcknekhimpfkaaGreatDoor
