/- The document's disk as it lies in memory; New. -/
import Derived.Test.YtgcknekhimpfkaaGreatDoorDiskM
import Derived.Handy
import Derived.Deep.RegionLaw
import Derived.Deep.DrawnRows
import Derived.BigRegion
import Derived.Deep.Cut
import Derived.WalkSpells
namespace Go.Proofs.YtgcknekhimpfkaaGreatDoor
open Go Go.RowKit Go.Lib
set_option linter.unusedVariables false
set_option linter.unusedSimpArgs false
attribute [local go_sem ↓] Go.wp_at_zero Go.wp_at_succ
/-- What was written, cell by cell. -/
def rcells : List (Nat × ByteArray) → List Value
 | [] => []
 | (n, c) :: r => .int .i64 n :: .string c :: rcells r
theorem rcells_append (a b : List (Nat × ByteArray)) : rcells (a ++ b) = rcells a ++ rcells b := by
 induction a with
 | nil => rfl
 | cons x a ih => obtain ⟨n, c⟩ := x; simp [rcells, ih]
structure RefAt (w : World) (base r : Nat) (vf vw : Value) (N : Nat) (sec0 : Nat → ByteArray) (hist : List (Nat × ByteArray)) : Prop where
 c0 : w.cell? ⟨r, 0, none⟩ = some vf
 c1 : w.cell? ⟨r, 1, none⟩ = some vw
 f0 : w.frozen? ⟨r, 0, none⟩ = false
 f1 : w.frozen? ⟨r, 1, none⟩ = false
 first : w.ownsRow base 9 1 vf N ((List.range N).map fun i => .string (sec0 i))
 writes : w.ownsRow base 137 2 vw hist.length (rcells hist)
 br : base ≤ r
 rf : vf.ownBlock ≠ some r
 rw_ : vw.ownBlock ≠ some r
 fw : ∀ g, vf.ownBlock = some g → vw.ownBlock ≠ some g
theorem RefAt.rlt {w : World} {base r : Nat} {vf vw : Value} {N : Nat} {sec0 : Nat → ByteArray} {hist : List (Nat × ByteArray)} (h : RefAt w base r vf vw N sec0 hist) : r < w.heap.size := World.block_lt_of_cell? w ⟨r, 0, none⟩ h.c0
theorem own_lt {w : World} {base : Nat} {e : TypeId} {size : Nat} {v : Value} {n : Nat} {xs : List Value} (h : w.ownsRow base e size v n xs) (g : Nat) (hg : v.ownBlock = some g) : g < w.heap.size ∧ base ≤ g := by
 rcases h.2 with hv | ⟨g', cap, cur, rfl, h1, h2, h3⟩
 ·rw [hv.1] at hg; cases hg
 ·obtain rfl : g' = g := by simpa [Value.ownBlock] using hg
  exact ⟨(Array.getElem?_eq_some_iff.1 h2).1, h1⟩
theorem RefAt.touch {w w' : World} {row : List Nat} {base r : Nat} {vf vw : Value} {N : Nat} {sec0 : Nat → ByteArray} {hist : List (Nat × ByteArray)} (h : RefAt w base r vf vw N sec0 hist) (t : Touch w w' row) (hr : r ∉ row) (hf : ∀ g, vf.ownBlock = some g → g ∉ row) (hw : ∀ g, vw.ownBlock = some g → g ∉ row) : RefAt w' base r vf vw N sec0 hist :=
 { h with
   c0 := t.cell h.c0 hr
   c1 := t.cell h.c1 hr
   f0 := by rw [t.frozen h.c0 hr]; exact h.f0
   f1 := by rw [t.frozen h.c1 hr]; exact h.f1
   first := t.owns h.first hf
   writes := t.owns h.writes hw }
theorem RefAt.below {w w' : World} {base r : Nat} {vf vw : Value} {N : Nat} {sec0 : Nat → ByteArray} {hist : List (Nat × ByteArray)} (h : RefAt w base r vf vw N sec0 hist) (t : Below w.heap.size w w') : RefAt w' base r vf vw N sec0 hist :=
 h.touch (Touch.of_below t []) (by simp) (by simp) (by simp)
/-- Its own blocks. -/
def rrow (r : Nat) (vf vw : Value) : List Nat := r :: (vf.ownBlock.toList ++ vw.ownBlock.toList)
theorem noughts_any (w : World) : Calls Tryz.prog 40 #[] w fun e w' => e = .returned (.string nought) ∧ Below w.heap.size w w' := by
 obtain ⟨i0, hi, hz0, hz1, hz2⟩ := info_parts info_u8
 obtain ⟨k, hk⟩ : ∃ k : Nat, (k : Int) = 1024 := ⟨1024, rfl⟩
 have HK := hid hk
 clear hk
 go_enter Tryz.func40, Tryz.ntmps40
 go_wp2_with (first | (at_make; refine wpList_make_full _ rfl _ _ 69 rfl w.heap.size 5 i0 _ 1 Tryz.underlying69 hi hz0 hz1 .i64 .i64 1024 1024 k rfl rfl ?m1 ?m2 ?m3 ?m4 (by simp) ?_))
 case m1 => have := HK.out; omega
 case m2 => have := HK.out; omega
 case m3 => have := HK.out; first | omega | (rw [hz2]; omega)
 case m4 => have := HK.out; unfold maxLen; first | omega | (rw [hz2]; omega)
 intro w1 hown hgrow
 have hblk := made_block (C := madeCells #[Value.int .u8 0] k) hown (by rw [Nat.mul_one]; exact size_madeCells _ _)
 have hb1 : Below w.heap.size w w1 := (Below.refl w.heap.size w).grown hgrow (Nat.le_refl _) (fun _ h => by cases h)
 have hb0 := made_bytes w1 _ _ hblk
 have hn : ofL (List.replicate k 0) = nought := by
  unfold ofL nought noughts
  have : k = 1024 := by have := HK.out; omega
  rw [this, List.toArray_replicate]
 have hcv := conv_bytes (cap := k) (List.length_replicate) hb0
 rw [hn] at hcv
 clear hown hgrow hblk hi hb0 hn
 go_wp2_with fail
 go_ret
 exact ⟨rfl, hb1⟩
end Go.Proofs.YtgcknekhimpfkaaGreatDoor
namespace Go.Proofs.YtgcknekhimpfkaaGreatDoor
open Go Go.RowKit Go.Lib
set_option linter.unusedVariables false
set_option linter.unusedSimpArgs false
attribute [local go_sem ↓] Go.wp_at_zero Go.wp_at_succ
theorem touch_app' {w wa w1 : World} {o : Option Nat} (h : wa.grownBy w1 o) (hb : Below w.heap.size w wa) : Touch w w1 o.toList :=
 (Touch.of_below hb o.toList).trans (Touch.of_grown h) (fun g hg _ => hg)
section
variable {w w1 : World} {base r : Nat} {vf vw v' : Value} {N : Nat} {sec0 : Nat → ByteArray} {hist : List (Nat × ByteArray)}
theorem ref_grow_first (R : RefAt w base r vf vw N sec0 hist) (T1 : Touch w w1 vf.ownBlock.toList) (g : Nat) (hg : v'.ownBlock = some g)
 (hown : w1.ownsRow base 9 1 v' (N + 1) (((List.range N).map fun i => .string (sec0 i)) ++ [.string (sec0 N)])) (hat : vf.ownBlock = some g ∨ w.heap.size ≤ g) :
 RefAt (w1.setCell ⟨r, 0, none⟩ v') base r v' vw (N + 1) sec0 hist ∧ Touch w (w1.setCell ⟨r, 0, none⟩ v') (rrow r vf vw) := by
 have hr := R.rlt
 have hrv : r ∉ vf.ownBlock.toList := fun hm => R.rf (by simpa using hm)
 have hgr : g ≠ r := fun e => by subst e; rcases hat with h | h; exact R.rf h; omega
 have T2 := Touch.set w1 ⟨r, 0, none⟩ v'
 have hwn : ∀ x, vw.ownBlock = some x → x ∉ vf.ownBlock.toList := fun x hx hm => R.fw x (by simpa using hm) hx
 have hwg : vw.ownBlock ≠ some g := fun e => by
  rcases hat with h | h
  ·exact R.fw g h e
  ·have := (own_lt R.writes g e).1; omega
 refine ⟨{ R with
  c0 := World.cell?_setCell_same _ _ _ (T1.cell R.c0 hrv)
  c1 := by rw [World.cell?_setCell_other _ _ _ _ (by simp)]; exact T1.cell R.c1 hrv
  f0 := by rw [World.frozen?_setCell, T1.frozen R.c0 hrv]; exact R.f0
  f1 := by rw [World.frozen?_setCell, T1.frozen R.c1 hrv]; exact R.f1
  first := by
   have := T2.owns hown (fun g' hg' => by rw [hg] at hg'; cases hg'; simpa using hgr)
   rw [List.range_succ, List.map_append]
   exact this
  writes := T2.owns (T1.owns R.writes hwn) (fun x hx => by simp; rintro rfl; exact R.rw_ hx)
  rf := by rw [hg]; simpa using hgr
  fw := fun x hx e => by rw [hg] at hx; cases hx; exact hwg e }, ?_⟩
 refine (T1.mono (fun g hg => ?_)).trans T2 (fun g hg _ => ?_)
 ·simp only [rrow, List.mem_cons, List.mem_append]; exact .inr (.inl hg)
 ·simp at hg; simp [rrow, hg]
theorem ref_grow_writes (R : RefAt w base r vf vw N sec0 hist) (T1 : Touch w w1 vw.ownBlock.toList) (g : Nat) (hg : v'.ownBlock = some g) (p : Nat × ByteArray)
 (hown : w1.ownsRow base 137 2 v' (hist.length + 1) (rcells hist ++ [.int .i64 p.1, .string p.2])) (hat : vw.ownBlock = some g ∨ w.heap.size ≤ g) :
 RefAt (w1.setCell ⟨r, 1, none⟩ v') base r vf v' N sec0 (hist ++ [p]) ∧ Touch w (w1.setCell ⟨r, 1, none⟩ v') (rrow r vf vw) := by
 have hr := R.rlt
 have hrv : r ∉ vw.ownBlock.toList := fun hm => R.rw_ (by simpa using hm)
 have hgr : g ≠ r := fun e => by subst e; rcases hat with h | h; exact R.rw_ h; omega
 have T2 := Touch.set w1 ⟨r, 1, none⟩ v'
 have hfn : ∀ x, vf.ownBlock = some x → x ∉ vw.ownBlock.toList := fun x hx hm => R.fw x hx (by simpa using hm)
 have hfg : vf.ownBlock ≠ some g := fun e => by
  rcases hat with h | h
  ·exact R.fw g e h
  ·have := (own_lt R.first g e).1; omega
 refine ⟨{ R with
  c0 := by rw [World.cell?_setCell_other _ _ _ _ (by simp)]; exact T1.cell R.c0 hrv
  c1 := World.cell?_setCell_same _ _ _ (T1.cell R.c1 hrv)
  f0 := by rw [World.frozen?_setCell, T1.frozen R.c0 hrv]; exact R.f0
  f1 := by rw [World.frozen?_setCell, T1.frozen R.c1 hrv]; exact R.f1
  first := T2.owns (T1.owns R.first hfn) (fun x hx => by simp; rintro rfl; exact R.rf hx)
  writes := by
   have := T2.owns hown (fun g' hg' => by rw [hg] at hg'; cases hg'; simpa using hgr)
   rw [rcells_append, List.length_append]
   obtain ⟨n, c⟩ := p
   exact this
  rw_ := by rw [hg]; simpa using hgr
  fw := fun x hx e => by rw [hg] at e; cases e; exact hfg hx }, ?_⟩
 refine (T1.mono (fun g hg => ?_)).trans T2 (fun g hg _ => ?_)
 ·simp only [rrow, List.mem_cons, List.mem_append]; exact .inr (.inr hg)
 ·simp at hg; simp [rrow, hg]
theorem rrow_base (R : RefAt w base r vf vw N sec0 hist) {B : Nat} (hB : B ≤ base) : ∀ g ∈ rrow r vf vw, B ≤ g := fun g hg => by
 simp only [rrow, List.mem_cons, List.mem_append, Option.mem_toList] at hg
 rcases hg with rfl | hg | hg
 ·exact Nat.le_trans hB R.br
 ·exact Nat.le_trans hB (own_lt R.first g hg).2
 ·exact Nat.le_trans hB (own_lt R.writes g hg).2
theorem RefAt.fform (R : RefAt w base r vf vw N sec0 hist) : ∃ q c, vf = .slice q N c := by
 rcases R.first.2 with ⟨h1, h2⟩ | ⟨g, cap, cur, h1, h2⟩
 ·exact ⟨none, 0, by rw [h1, h2]⟩
 ·exact ⟨_, _, h1⟩
end
theorem info_str : ∃ (i : TypeInfo) (z : Value), Tryz.prog.info? 9 = some i ∧ i.zero = some z ∧ i.size = 1 ∧ i.bytes = 16 ∧ z.cells.size = 1 := by
 have h : (Tryz.prog.info? 9).map (fun i => (i.zero.map (·.cells.size), i.size, i.bytes)) = some (some 1, 1, 16) := by kernel_rfl
 obtain ⟨i, hi, hzz⟩ := Option.map_eq_some_iff.1 h
 simp only [Prod.mk.injEq] at hzz
 obtain ⟨z, hz, hs⟩ := Option.map_eq_some_iff.1 hzz.1
 exact ⟨i, z, hi, hz, hzz.2.1, hzz.2.2, hs⟩
set_option maxRecDepth 20000 in
set_option maxHeartbeats 1000000 in
theorem rnew_yes (n : Nat) (w : World) (h8 : 8 ≤ n) (h9 : n ≤ 1024) :
 Calls Tryz.prog 13 #[.int .i64 (n : Int)] w fun e w' => ∃ r vf, e = .returned (.tuple #[.pointer (some ⟨r, 0, none⟩), .int .i64 0]) ∧ RefAt w' w.heap.size r vf (.slice none 0 0) n (fun _ => nought) [] ∧ Below w.heap.size w w' := by
 obtain ⟨i0, z0, hi, hz0, hz1, hz2, hz3⟩ := info_str
 have HI := hid hi; clear hi
 have HZ := hid hz0; clear hz0
 have n8 : (8 : Int) ≤ (n : Int) := by omega
 have n9 : (n : Int) ≤ 1024 := by omega
 go_enter Tryz.func13, Tryz.ntmps13
 go_wp2_with fail
 go_loopw [5] (fun i wr => ∃ k : Nat, k ≤ n ∧ i = .int .i64 k ∧ Hid (∃ vf, RefAt wr w.heap.size w.heap.size vf (.slice none 0 0) k (fun _ => nought) [] ∧ Below w.heap.size w wr)) (fun i _ => n - (intOf i).toNat)
 case atStart =>
  refine ⟨0, by omega, rfl, .slice none 0 0, ?_, (Below.refl _ _).alloc (Nat.le_refl _) _⟩
  exact {
   c0 := by rw [cell_of_row _ _ 0 _ _ _ (heap_alloc_new w _)]; rfl
   c1 := by rw [cell_of_row _ _ 1 _ _ _ (heap_alloc_new w _)]; rfl
   f0 := by unfold World.frozen?; rw [heap_alloc_new]; rfl
   f1 := by unfold World.frozen?; rw [heap_alloc_new]; rfl
   first := ⟨rfl, .inl ⟨rfl, rfl⟩⟩
   writes := ⟨rfl, .inl ⟨rfl, rfl⟩⟩
   br := Nat.le_refl _
   rf := by simp [Value.ownBlock]
   rw_ := by simp [Value.ownBlock]
   fw := by simp [Value.ownBlock] }
 case round =>
  obtain ⟨k, hk, rfl, HX⟩ := hrel
  obtain ⟨vf, R, hB⟩ := HX.out
  by_cases hlt : k < n
  ·have hlt' : (k : Int) < (n : Int) := by omega
   obtain ⟨q, c, rfl⟩ := R.fform
   have c0 := R.c0
   have f0 := R.f0
   have hrv : w.heap.size ∉ (Value.slice q k c).ownBlock.toList := fun hm => R.rf (by simpa using hm)
   have HRV := hid hrv
   have HO : ∀ w', Below wr.heap.size wr w' → w'.ownsRow w.heap.size 9 1 (.slice q k c) k ((List.range k).map fun i => .string nought) := fun w' hb => (Touch.of_below hb []).owns R.first (by simp)
   have HOWN := hid HO
   have hb0 := hB.size
   have HR := hid R
   have HB := hid hB
   clear HX R hB HO hrv
   go_wp2_with fail
   go_region_law (first | (refine step_append_lies _ (by rfl) _ _ _ (by rfl) w.heap.size 9 i0 z0 1 16 Tryz.underlying73 HI.out HZ.out hz1 hz2 hz3 (by decide) _ k ((List.range k).map fun i => .string nought) (by rfl) (HOWN.out _ (hbN.alloc hbN.size _)) ⟨wn.heap.size, 0, none⟩ 1 1 [.string nought] (by rfl) (by rfl) (World.news_of_block (heap_alloc_new _ _)) (by simp [Value.oneCell']) (by decide) (by unfold maxLen; omega) (by omega) (by simp; omega) (wn.heap.size + 1) (by simp) ?_; intro g cap w1 hown1 hgrow hat1 hlt1; have T1 := touch_app' hgrow (hbN.alloc hbN.size _); have c0' := T1.cell c0 HRV.out; have f0' := (T1.frozen c0 HRV.out).trans f0; clear hgrow) | (go_simp; go_at_call 40; refine (noughts_any _).mono ?_; rintro e wn ⟨rfl, hbn⟩; have hbN : Below wr.heap.size wr wn := Below.trans (by go_grown) hbn; have hln := hbN.size; have c0n := (Touch.of_below hbN []).cell c0 (by simp); go_must (have c0m : ∀ o, (wn.alloc o).cell? ⟨w.heap.size, 0, none⟩ = some (.slice q k c) := fun o => by rw [World.cell?_alloc_lt _ _ _ (World.block_lt_of_cell? wn _ c0n)]; exact c0n)))
   all_goals
    obtain ⟨M1, M2⟩ := ref_grow_first (v' := .slice (some ⟨g, 0, none⟩) (k + 1) cap) HR.out T1 g rfl hown1 (hat1.imp id (fun e => by omega))
    have M3 : Below w.heap.size w (w1.setCell ⟨w.heap.size, 0, none⟩ (.slice (some ⟨g, 0, none⟩) (k + 1) cap)) := HB.out.trans (M2.below hb0 (rrow_base HR.out (Nat.le_refl _)))
    have H1 := hid M1
    have H3 := hid M3
    clear M1 M2 M3 hown1 T1
    go_wp2_with fail
    go_roundw
    case rel => exact ⟨k + 1, by omega, by go_num, _, H1.out, H3.out⟩
    case measure => simp [intOf]; omega
  ·obtain rfl : k = n := by omega
   go_wp2_with fail
   go_ret2
   exact ⟨_, _, rfl, R, hB⟩
end Go.Proofs.YtgcknekhimpfkaaGreatDoor
