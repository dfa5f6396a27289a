/- The document's From. -/
import Derived.Test.YtegiabnlmngkmaaDiskAB
import Derived.Deep.RegionLaw
import Derived.Deep.DrawnRows
import Derived.BigRegion
import Derived.Deep.AppendLies
import Derived.Handy
import Derived.Lib.Hide
namespace Go.Proofs.Ytegiabnlmngkmaa
open Go Go.RowKit Go.Lib
set_option linter.unusedVariables false
set_option linter.unusedSimpArgs false
attribute [local go_sem ↓] Go.wp_at_zero Go.wp_at_succ
theorem rfrom_no (A : Option Addr) (n cap : Nat) (hn : n ≤ 1000000000000000) (h : ¬ ((8 ≤ n / 1024 ∧ n / 1024 ≤ 1024) ∧ n % 1024 = 0)) (w : World) :
    Calls Try.prog 22 #[.slice A n cap] w fun e w' => e = .returned (.tuple #[.pointer none, .int .i64 30]) ∧ w = w' := by
  have hmw : IntKind.i64.wrap ((n : Int) / 1024 * 1024) = (n : Int) / 1024 * 1024 := IntWalk.i64_in _ (by omega)
  by_cases h1 : n / 1024 < 8
  · have h1' : decide ((n : Int) / 1024 < 8) = true := by simp; omega
    clear h h1
    go_enter Try.func22, Try.ntmps22
    go_wp2_with fail
    all_goals
      go_ret2
      exact ⟨rfl, rfl⟩
  · have h1' : decide ((n : Int) / 1024 < 8) = false := by simp; omega
    by_cases h2 : 1024 < n / 1024
    · have h2' : decide ((1024 : Int) < (n : Int) / 1024) = true := by simp; omega
      clear h h1 h2
      go_enter Try.func22, Try.ntmps22
      go_wp2_with fail
      all_goals
        go_ret2
        exact ⟨rfl, rfl⟩
    · have h2' : decide ((1024 : Int) < (n : Int) / 1024) = false := by simp; omega
      have h3 : ((n : Int) == (n : Int) / 1024 * 1024) = false := by simp; omega
      clear h h1 h2
      go_enter Try.func22, Try.ntmps22
      go_wp2_with fail
      all_goals
        go_ret2
        exact ⟨rfl, rfl⟩
set_option maxHeartbeats 1000000 in
theorem rfrom_yes (b off : Nat) (l : List UInt8) (N M cap : Nat) (hM : M = N * 1024) (hl : l.length = N * 1024) (h8 : 8 ≤ N) (h9 : N ≤ 1024) (hcap : M ≤ cap) (w : World) (hr : w.rangeAt b off (strCells (ofL l))) :
    Calls Try.prog 22 #[.slice (some ⟨b, off, none⟩) M cap] w fun e w' => ∃ r, e = .returned (.tuple #[.pointer (some ⟨r, 0, none⟩), .int .i64 0]) ∧ Below w.heap.size w w' := by
  obtain ⟨i0, z0, hi, hz0, hz1, hz2, hz3⟩ := info_str
  have HI := Lib.hid hi; clear hi
  have HZ := Lib.hid hz0; clear hz0
  have hq : (M : Int) / 1024 = (N : Int) := by omega
  have hmw : IntKind.i64.wrap ((N : Int) * 1024) = (N : Int) * 1024 := IntWalk.i64_in _ (by omega)
  have hm2 : ((M : Int) == (N : Int) * 1024) = true := by simp; omega
  have hm3 : ((M : Int) != (N : Int) * 1024) = false := by simp; omega
  have d1 : decide ((N : Int) < 8) = false := by simp; omega
  have d2 : decide ((1024 : Int) < (N : Int)) = false := by simp; omega
  have hMn : M ≤ 1000000000000000 := by omega
  have HM := Lib.hid hM
  have HL := Lib.hid hl
  have H8 := Lib.hid h8
  have H9 := Lib.hid h9
  have HCP := Lib.hid hcap
  have HR := Lib.hid hr
  clear hM hl h8 h9 hcap hr
  go_enter Try.func22, Try.ntmps22
  go_wp2_with fail
  go_loopw [6] (fun i wr => ∃ k : Nat, k ≤ N ∧ i = .int .i64 k ∧ Hid (∃ vf, RefAt wr w.heap.size w.heap.size vf (.slice none 0 0) k (secL l) [] ∧ Below w.heap.size w wr)) (fun i _ => N - (intOf i).toNat)
  case atStart =>
    refine ⟨0, by omega, rfl, .slice none 0 0, ?_, (Below.refl _ _).alloc (Nat.le_refl _) _⟩
    exact {
      c0 := by rw [cell_of_row _ _ 0 _ _ _ (heap_alloc_new w _)]; rfl
      c1 := by rw [cell_of_row _ _ 1 _ _ _ (heap_alloc_new w _)]; rfl
      f0 := by unfold World.frozen?; rw [heap_alloc_new]; rfl
      f1 := by unfold World.frozen?; rw [heap_alloc_new]; rfl
      first := ⟨rfl, .inl ⟨rfl, rfl⟩⟩
      writes := ⟨rfl, .inl ⟨rfl, rfl⟩⟩
      br := Nat.le_refl _
      rf := by simp [Value.ownBlock]
      rw_ := by simp [Value.ownBlock]
      fw := by simp [Value.ownBlock] }
  case round =>
    obtain ⟨k, hk, rfl, HX⟩ := hrel
    obtain ⟨vf, R, hB⟩ := HX.out
    by_cases hlt : k < N
    · have hlt' : (k : Int) < (N : Int) := by omega
      obtain ⟨q, c, rfl⟩ := R.fform
      have c0 := R.c0
      have f0 := R.f0
      have hrv : w.heap.size ∉ (Value.slice q k c).ownBlock.toList := fun hm => R.rf (by simpa using hm)
      have HRV := Lib.hid hrv
      have HO : ∀ w', Below wr.heap.size wr w' → w'.ownsRow w.heap.size 9 1 (.slice q k c) k ((List.range k).map fun i => .string (secL l i)) := fun w' hb => (Touch.of_below hb []).owns R.first (by simp)
      have HOWN := Lib.hid HO
      have hb0 := hB.size
      have HRR := Lib.hid R
      have HB := Lib.hid hB
      have HKL := Lib.hid hlt
      have hkm : IntKind.i64.wrap ((k : Int) * 1024) = (k : Int) * 1024 := IntWalk.i64_in _ (by have := H9.out; omega)
      have hkm2 : IntKind.i64.wrap (((k : Int) + 1) * 1024) = ((k : Int) + 1) * 1024 := IntWalk.i64_in _ (by have := H9.out; omega)
      have hkw : IntKind.i64.wrap ((k : Int) + 1) = (k : Int) + 1 := IntWalk.i64_in _ (by have := H9.out; omega)
      have hk0 : (0 : Int) ≤ (k : Int) * 1024 := by omega
      have hk1 : (k : Int) * 1024 ≤ ((k : Int) + 1) * 1024 := by omega
      have hk2 : ((k : Int) + 1) * 1024 ≤ (cap : Int) := by have := HCP.out; have := HM.out; omega
      have hk3 : (0 : Int) ≤ ((k : Int) + 1) * 1024 := by omega
      have hk4 : (k : Int) * 1024 ≤ max (((k : Int) + 1) * 1024) 0 := by omega
      have hkt : ((k : Int) * 1024).toNat = k * 1024 := by omega
      have hkt2 : (((k : Int) + 1) * 1024).toNat - k * 1024 = 1024 := by omega
      have hkc : ¬ cap = k * 1024 := by have := HCP.out; have := HM.out; omega
      have hsz := secL_size l N k HL.out hlt
      have hcv := conv_range wr.drew b (off + k * 1024) 1024 (cap - k * 1024) (secL l k) hsz (secL_range ((Touch.of_below hB.drew []).range HR.out (by simp)) N k HL.out hlt)
      have c0a : ∀ o, (wr.alloc o).cell? ⟨w.heap.size, 0, none⟩ = some (.slice q k c) := fun o => by rw [World.cell?_alloc_lt _ _ _ R.rlt]; exact c0
      clear HX R hB HO hrv hlt hsz
      go_wp2_with fail
      go_region_law ((refine step_append_lies _ (by rfl) _ _ _ (by rfl) w.heap.size 9 i0 z0 1 16 Try.underlying45 HI.out HZ.out hz1 hz2 hz3 (by decide) _ k ((List.range k).map fun i => .string (secL l i)) (by rfl) (HOWN.out _ (by go_grown)) ⟨wr.heap.size, 0, none⟩ 1 1 [.string (secL l k)] (by rfl) (by rfl) (World.news_of_block (heap_alloc_new _ _)) (by simp [Value.oneCell']) (by decide) (by have := HKL.out; have := H9.out; unfold maxLen; omega) (by have := HKL.out; have := H9.out; omega) (by simp; omega) (wr.heap.size + 1) (by simp) ?_; intro g cap2 w1 hown1 hgrow hat1 hlt1; have T1 := touch_app' (w := wr) hgrow (by go_grown); have c0' := T1.cell c0 HRV.out; have f0' := (T1.frozen c0 HRV.out).trans f0; clear hgrow))
      all_goals
        obtain ⟨M1, M2⟩ := ref_grow_first (v' := .slice (some ⟨g, 0, none⟩) (k + 1) cap2) HRR.out T1 g rfl hown1 (hat1.imp id (fun e => by omega))
        have M3 : Below w.heap.size w (w1.setCell ⟨w.heap.size, 0, none⟩ (.slice (some ⟨g, 0, none⟩) (k + 1) cap2)) := HB.out.trans (M2.below hb0 (rrow_base HRR.out (Nat.le_refl _)))
        have H1 := Lib.hid M1
        have H3 := Lib.hid M3
        clear M1 M2 M3 hown1 T1
        go_wp2_with fail
        go_roundw
        case rel => exact ⟨k + 1, by have := HKL.out; omega, by go_num, _, H1.out, H3.out⟩
        case measure => have := HKL.out; simp [intOf]; omega
    · obtain rfl : k = N := by omega
      have HBf := Lib.hid hB
      clear HX R hB hk hlt
      go_wp2_with fail
      go_ret2
      exact ⟨_, rfl, HBf.out⟩
end Go.Proofs.Ytegiabnlmngkmaa
