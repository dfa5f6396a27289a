/- The document's disk: Write, Writes. -/
import Derived.Test.YtmamocdkmmkkjaaDiskP
import Derived.Deep.AppendLies
import Derived.Lib.Hide
namespace Go.Proofs.Ytmamocdkmmkkjaa
open Go Go.RowKit Go.Lib
set_option linter.unusedVariables false
set_option linter.unusedSimpArgs false
attribute [local go_sem ↓] Go.wp_at_zero Go.wp_at_succ
theorem info_rwrite : ∃ (i : TypeInfo) (z : Value), Try.prog.info? 103 = some i ∧ i.zero = some z ∧ i.size = 2 ∧ i.bytes = 24 ∧ z.cells.size = 2 := by
  have h : (Try.prog.info? 103).map (fun i => (i.zero.map (·.cells.size), i.size, i.bytes)) = some (some 2, 2, 24) := by kernel_rfl
  obtain ⟨i, hi, hzz⟩ := Option.map_eq_some_iff.1 h
  simp only [Prod.mk.injEq] at hzz
  obtain ⟨z, hz, hs⟩ := Option.map_eq_some_iff.1 hzz.1
  exact ⟨i, z, hi, hz, hzz.2.1, hzz.2.2, hs⟩
section
variable {w : World} {base r : Nat} {vf vw : Value} {N : Nat} {sec0 : Nat → ByteArray} {hist : List (Nat × ByteArray)}
theorem rwrite_no (R : RefAt w base r vf vw N sec0 hist) (n : Int) (a : Option Addr) (lb cb : Nat) (h0 : n ≤ 9223372036854775807) (hlb : lb ≤ 9223372036854775807) (hbig : hist.length ≤ 4096) (x : Int)
    (hx : ((n < 0 ∨ (N : Int) ≤ n) ∧ x = 31) ∨ (0 ≤ n ∧ n < N ∧ ((lb : Int) == 1024) = false ∧ x = 32) ∨ (0 ≤ n ∧ n < N ∧ lb = 1024 ∧ hist.length = 4096 ∧ x = 33)) :
    Calls Try.prog 59 #[.pointer (some ⟨r, 0, none⟩), .int .i64 n, .slice a lb cb] w fun e w' => e = .returned (.int .i64 x) ∧ w = w' := by
  have c0 := R.c0
  have c1 := R.c1
  obtain ⟨q, c, rfl⟩ := R.fform
  obtain ⟨q', c', rfl, _⟩ := R.wform
  have HBIG := Lib.hid hbig
  clear hbig
  rcases hx with ⟨h1, rfl⟩ | ⟨h1, h2, h3, rfl⟩ | ⟨h1, h2, rfl, h3, rfl⟩
  · rcases h1 with h1 | h1
    · go_enter Try.func59, Try.ntmps59
      go_wp2_with fail
      go_ret
      exact ⟨rfl, rfl⟩
    · go_enter Try.func59, Try.ntmps59
      go_wp2_with fail
      all_goals
        go_ret
        exact ⟨rfl, rfl⟩
  · go_enter Try.func59, Try.ntmps59
    go_wp2_with fail
    all_goals
      go_ret
      exact ⟨rfl, rfl⟩
  · go_enter Try.func59, Try.ntmps59
    rw [h3] at c1
    go_wp2_with fail
    all_goals
      go_ret
      exact ⟨rfl, rfl⟩
set_option maxRecDepth 100000 in
set_option maxHeartbeats 1000000 in
theorem rwrite_yes (R : RefAt w base r vf vw N sec0 hist) (n : Nat) (hn : n < N) (few : hist.length < 4096) (g : Nat) (l : List UInt8) (hl : l.length = 1024) (hb : BytesAt w g l) :
    Calls Try.prog 59 #[.pointer (some ⟨r, 0, none⟩), .int .i64 (n : Int), .slice (some ⟨g, 0, none⟩) 1024 1024] w fun e w' => e = .returned (.int .i64 0) ∧ ∃ vw', RefAt w' base r vf vw' N sec0 (hist ++ [(n, ofL l)]) ∧ Touch w w' (rrow r vf vw) ∧ (∀ g, vw'.ownBlock = some g → vw.ownBlock = some g ∨ w.heap.size ≤ g) := by
  obtain ⟨i0, z0, hi, hz0, hz1, hz2, hz3⟩ := info_rwrite
  have HI := Lib.hid hi; clear hi
  have HZ := Lib.hid hz0; clear hz0
  have c0 := R.c0
  have c1 := R.c1
  have f1 := R.f1
  obtain ⟨q, c, rfl⟩ := R.fform
  obtain ⟨q', c', rfl, _⟩ := R.wform
  have hrl := R.rlt
  have hbase : base ≤ w.heap.size := Nat.le_trans R.br (Nat.le_of_lt hrl)
  have hrv : r ∉ (Value.slice q' hist.length c').ownBlock.toList := fun hm => R.rw_ (by simpa using hm)
  have HRV := Lib.hid hrv
  have HO : ∀ w', Below w.heap.size w w' → w'.ownsRow base 103 2 (.slice q' hist.length c') hist.length (rcells hist) := fun w' hb => (Touch.of_below hb []).owns R.writes (by simp)
  have HOWN := Lib.hid HO
  have HR := Lib.hid R
  have hcv : ∀ w', w'.heap = w.heap → (convert 44 9 (.slice (some ⟨g, 0, none⟩) 1024 1024)).run Try.prog w' = .ok (.string (ofL l)) w' := fun w' h => conv_bytes hl (by unfold BytesAt at hb ⊢; rw [h]; exact hb)
  have hcv1 := hcv w.drew rfl
  clear hcv
  have c1a : ∀ o, (w.alloc o).cell? ⟨r, 1, none⟩ = some (.slice q' hist.length c') := fun o => by rw [World.cell?_alloc_lt _ _ _ hrl]; exact c1
  have hn' : (n : Int) < (N : Int) := by omega
  have hn0 : (0 : Int) ≤ (n : Int) := by omega
  have HL := Lib.hid hl
  have HB := Lib.hid hb
  have HF := Lib.hid few
  clear hb hl HO hrv R hn few
  go_enter Try.func59, Try.ntmps59
  generalize hC : (4096 : Int) = C at *
  have HC := Lib.hid hC
  clear hC
  have hlc : decide (C ≤ (hist.length : Int)) = false := by rw [decide_eq_false_iff_not]; have := HC.out; have := HF.out; omega
  go_wp2_with fail
  go_region_law ((refine step_append_lies _ (by rfl) _ _ _ (by rfl) base 103 i0 z0 2 24 Try.underlying91 HI.out HZ.out hz1 hz2 hz3 (by decide) _ hist.length (rcells hist) (by rfl) (HOWN.out _ (by go_grown)) ⟨w.heap.size, 0, none⟩ 1 1 [.int .i64 n, .string (ofL l)] (by rfl) (by rfl) (World.news_of_block (heap_alloc_new _ _)) (by simp [Value.oneCell']) (by decide) (by have := HF.out; unfold maxLen; omega) (by have := HF.out; omega) (by simp; omega) (w.heap.size + 1) (by simp) ?_; intro gn cap w1 hown1 hgrow hat1 hlt1; have T1 := touch_app' (w := w) hgrow (by go_grown); have c1' := T1.cell c1 HRV.out; have f1' := (T1.frozen c1 HRV.out).trans f1; clear hgrow))
  all_goals
    obtain ⟨M1, M2⟩ := ref_grow_writes (v' := .slice (some ⟨gn, 0, none⟩) (hist.length + 1) cap) HR.out T1 gn rfl (n, ofL l) hown1 (hat1.imp id (fun e => by omega))
    have H1 := Lib.hid M1
    have H2 := Lib.hid M2
    clear M1 M2 hown1 T1
    go_wp2_with fail
    go_ret
    refine ⟨rfl, _, H1.out, H2.out, fun g' hg' => ?_⟩
    obtain rfl : gn = g' := by simpa [Value.ownBlock] using hg'
    rcases hat1 with h | h
    · exact .inl h
    · exact .inr (by rw [h]; omega)
end
end Go.Proofs.Ytmamocdkmmkkjaa
