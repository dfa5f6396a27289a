/- Write, walked. -/
import Derived.Test.YtgcknekhimpfkaaGreatDoorQD
import Derived.Deep.RegionHeld3
import Derived.Handy
namespace Go.Proofs.YtgcknekhimpfkaaGreatDoor
open Go Go.RowKit Go.Lib
set_option linter.unusedVariables false
attribute [local go_sem ↓] exec_load_sector exec_store_sector exec_alloc_sector exec_build_write exec_slice_write
attribute [local go_sem ↓] Go.wp_at_zero Go.wp_at_succ
theorem touch_app {w wa w1 : World} {o : Option Nat} (h : wa.grownBy w1 o) (hb : Below w.heap.size w wa) : Touch w w1 o.toList :=
 (Touch.of_below hb o.toList).trans (Touch.of_grown h) (fun g hg _ => hg)
section
variable {w : World} {base d s : Nat} {v : Value} {N : Nat} {sec : Nat → ByteArray} {ws : List (Nat × ByteArray)}
set_option maxRecDepth 20000 in
set_option maxHeartbeats 1000000 in
theorem write_yes (D : DiskAt w base d s v N sec ws) (n : Nat) (hn : n < N) (few : ws.length < 4096) (gb ob cb : Nat) (bs : ByteArray) (hbs : bs.size = 1024) (hcb : 1024 ≤ cb) (hbr : w.rangeAt gb ob (strCells bs)) (hgb : gb ∉ drow d s v) :
 Calls Tryz.prog 98 #[.pointer (some ⟨d, 0, none⟩), .int .i64 (n : Int), .slice (some ⟨gb, ob, none⟩) 1024 cb] w fun e w' => e = .returned (.int .i64 0) ∧ ∃ v', DiskAt w' base d s v' N (upd sec n bs) (ws ++ [(n, sec n)]) ∧ Touch w w' (drow d s v) ∧ (∀ g, v'.ownBlock = some g → v.ownBlock = some g ∨ w.heap.size ≤ g) := by
 obtain ⟨capS, c0⟩ := D.c0
 have c1 := D.c1
 have f1 := D.f1
 have ge := D.ge
 have c1a : ∀ o, (w.alloc o).cell? ⟨d, 1, none⟩ = some v := fun o => by rw [World.cell?_alloc_lt _ _ _ D.dlt]; exact c1
 have hown := D.writes
 have hv : ∃ q k c, v = .slice q k c ∧ k = ws.length := by
  rcases hown.2 with ⟨h1, h2⟩ | ⟨g, cap, cur, h1, h2⟩
  ·exact ⟨none, 0, 0, h1, h2.symm⟩
  ·exact ⟨_, _, _, h1, rfl⟩
 obtain ⟨q, k, c, rfl, rfl⟩ := hv
 have h2 : (n : Int) < (N : Int) := by omega
 have h3 : (0 : Int) ≤ (n : Int) := by omega
 have hl : (strCells (sec n)).length = 1024 := by rw [strCells_length, D.slen n hn]
 have hat : ∀ w, (Instr.arrayAt 110 (.slice (some ⟨gb, ob, none⟩) 1024 cb)).run Tryz.prog w = .ok (.pointer (some ⟨gb, ob, none⟩)) w := fun w => run_arrayAt w 110 _ 1024 _ 1024 cb Tryz.underlying110 (by decide)
 obtain ⟨i0, z0, hi, hz0, hz1, hz2, hz3⟩ := info_write
 have HO : ∀ w', Below w.heap.size w w' → w'.ownsRow base 112 1025 (.slice q ws.length c) ws.length (wcells ws) := fun w' hb => (Touch.of_below hb []).owns hown (by simp)
 have HOWN := hid HO; clear HO hown
 have HI := hid hi; clear hi
 have HZ := hid hz0; clear hz0
 have hbase : base ≤ w.heap.size := Nat.le_trans D.bd (Nat.le_of_lt D.dlt)
 have hld := fun (w' : World) (h : w'.rangeAt s (n * 1024) (strCells (sec n))) => load_sector w' s (n * 1024) (strCells (sec n)) hl h
 have hbw := fun (w' : World) => build_write w' n (strCells (sec n)) hl
 have hfold := fold_write n (strCells (sec n)) hl
 have hsw := fun (w' : World) => slice_write w' (.int .i64 n :: strCells (sec n)) (by rw [List.length_cons, hl])
 have hr := D.secs n hn
 have hone : ∀ u ∈ Value.int .i64 n :: strCells (sec n), u.oneCell' = true := fun u hu => by
  rcases List.mem_cons.1 hu with rfl | hu
  ·rfl
  ·exact strCells_oneCell _ u hu
 have hdv : d ∉ (Value.slice q ws.length c).ownBlock.toList := fun hm => D.vd (by simpa using hm)
 have hsv : s ∉ (Value.slice q ws.length c).ownBlock.toList := fun hm => D.vs (by simpa using hm)
 have HDV := hid hdv; clear hdv
 have HSV := hid hsv; clear hsv
 have HN := hid hone; clear hone
 have hnl : (Value.int .i64 n :: strCells (sec n)).length = 1 * 1025 := by rw [List.length_cons, hl]
 have HNL := hid hnl; clear hnl
 have hbl : (strCells bs).length = 1024 := by rw [strCells_length, hbs]
 have hld2 := fun (w' : World) (h : w'.rangeAt gb ob (strCells bs)) => load_sector w' gb ob (strCells bs) hbl h
 have hst2 := fun (w' : World) (h : w'.there s (n * 1024) 1024) => store_sector w' s (n * 1024) (strCells bs) hbl (strCells_oneCell _) h
 generalize hbcs : strCells bs = bcs at *
 have HBCS := hid hbcs; clear hbcs
 generalize hcs : strCells (sec n) = cs at *
 have HCS := hid hcs; clear hcs
 go_enter Tryz.func98, Tryz.ntmps98
 go_wp2_with (first | (go_at_call 110; refine (there_any D n (by omega)).mono ?_; rintro e w' ⟨rfl, rfl⟩))
 go_region_law ((refine step_append_lies _ (by rfl) _ _ _ (by rfl) base 112 i0 z0 1025 1032 Tryz.underlying82 HI.out HZ.out hz1 hz2 hz3 (by decide) _ ws.length (wcells ws) (by rfl) (HOWN.out _ (by go_grown)) ⟨w.heap.size, 0, none⟩ 1 1 (.int .i64 n :: cs) (by rfl) HNL.out (World.news_of_block (heap_alloc_new _ _)) HN.out (by decide) (by unfold maxLen; omega) (by omega) (by simp; omega) (w.heap.size + 1) (by simp) ?_; intro g cap w1 hown1 hgrow hat1 hlt1; have T1 := touch_app (w := w) hgrow (by go_grown); have c1' := T1.cell c1 HDV.out; have f1' := (T1.frozen c1 HDV.out).trans f1; clear hgrow))
 all_goals
  obtain ⟨M1, M2⟩ := mid_disk (v' := .slice (some ⟨g, 0, none⟩) (ws.length + 1) cap) D T1 n hn few g rfl (by rw [HCS.out]; exact hown1) (hat1.imp id (fun e => by omega))
  have hr2 := M2.range hbr hgb
  clear hown1 T1 c1' f1' hld hbw hsw hr c1a
  generalize w1.setCell ⟨d, 1, none⟩ (.slice (some ⟨g, 0, none⟩) (ws.length + 1) cap) = w2 at *
  obtain ⟨capS2, c02⟩ := M1.c0
  have ht2 := M1.there n hn
  clear c0 c1 f1
  go_wp2_with fail
  go_region_law fail
 all_goals
  go_wp2_with fail
  go_ret
  rw [← HBCS.out]
  refine ⟨rfl, _, store_disk (M1.below (by go_grown)) n hn bs hbs, ?_, ?_⟩
  ·refine (M2.trans (Touch.of_below (by go_grown) []) (fun g hg _ => by cases hg)).trans (Touch.setCells s _ _ _) (fun g hg _ => ?_)
   simp only [List.mem_singleton] at hg
   subst hg
   simp [drow]
  ·intro g' hg'
   obtain rfl : g = g' := by simpa [Value.ownBlock] using hg'
   rcases hat1 with h | h
   ·exact .inl h
   ·exact .inr (by rw [h]; omega)
set_option maxRecDepth 20000 in
theorem write_no (D : DiskAt w base d s v N sec ws) (n : Int) (h0 : -9223372036854775808 ≤ n ∧ n ≤ 9223372036854775807) (a : Option Addr) (lb cb : Nat) (hlb : lb ≤ 9223372036854775807) (hn : ¬ ((0 ≤ n ∧ n < N) ∧ lb = 1024 ∧ ws.length < 4096)) :
 Calls Tryz.prog 98 #[.pointer (some ⟨d, 0, none⟩), .int .i64 n, .slice a lb cb] w fun e w' => e = .returned (.int .i64 (if 0 ≤ n ∧ n < N then if lb = 1024 then 33 else 32 else 31)) ∧ w = w' := by
 obtain ⟨capS, c0⟩ := D.c0
 have c1 := D.c1
 have ge := D.ge
 have few := D.few
 have hv : ∃ q k c, v = .slice q k c ∧ k = ws.length := by
  rcases D.writes.2 with ⟨h1, h2⟩ | ⟨g, cap, cur, h1, h2⟩
  ·exact ⟨none, 0, 0, h1, h2.symm⟩
  ·exact ⟨_, _, _, h1, rfl⟩
 obtain ⟨q, k, c, rfl, rfl⟩ := hv
 by_cases hin : 0 ≤ n ∧ n < N
 ·by_cases hl : lb = 1024
  ·have hw : ws.length = 4096 := by omega
   subst hl
   rw [hw] at c1
   go_enter Tryz.func98, Tryz.ntmps98
   go_wp2_with (first | (go_at_call 110; refine (there_any D n h0).mono ?_; rintro e w' ⟨rfl, rfl⟩))
   all_goals
    go_ret
    refine ⟨?_, rfl⟩
    simp [*]
  ·go_enter Tryz.func98, Tryz.ntmps98
   go_wp2_with (first | (go_at_call 110; refine (there_any D n h0).mono ?_; rintro e w' ⟨rfl, rfl⟩))
   all_goals
    go_ret
    refine ⟨?_, rfl⟩
    simp [*]
 ·go_enter Tryz.func98, Tryz.ntmps98
  go_wp2_with (first | (go_at_call 110; refine (there_any D n h0).mono ?_; rintro e w' ⟨rfl, rfl⟩))
  all_goals
   go_ret
   refine ⟨?_, rfl⟩
   simp [*]
end
end Go.Proofs.YtgcknekhimpfkaaGreatDoor
