/- The document's Decode: its head. -/
import Derived.Test.YtgemnmceflcpcaaSrF
import Derived.Test.YtgemnmceflcpcaaSrK
import Derived.Test.YtgemnmceflcpcaaSdP
namespace Go.Proofs.Ytgemnmceflcpcaa
open Go Go.RowKit Go.Lib Go.Proofs.Ytgemnmceflcpcaa.Sy Pl
set_option linter.unusedVariables false
set_option linter.unusedSimpArgs false
attribute [local go_sem ↓] exec_load_const exec_store_const exec_load_var exec_store_var exec_load_proc exec_store_proc exec_load_sym exec_store_sym
section
variable {w : World} {l : List Int}
set_option maxHeartbeats 4000000 in
set_option maxRecDepth 100000 in
theorem rdecode_head {v : Value} (hF : BytesAt w v l) (ho : Oct l) (hh : ¬ headOk l) :
    Calls Try.prog 19 #[v] w (DecP l w) := by
  obtain ⟨A, cap, rfl, hc1, hc2, hrd⟩ := bytes_form hF
  have HB0 := Lib.hid ((Below.refl w.heap.size w).alloc (Nat.le_refl _) (.cells zSym 26))
  have KZ0 := Lib.hid (Blk.new w zSym 26)
  have hst := store_blk sz_sym KZ0.out rfl rfl zSym_one
  have hres := loadVar_blk Try.underlying26 rfl sz_sym (KZ0.out.setRow zSym) rfl
  have HBF := Lib.hid (belRow HB0.out (Nat.le_refl _) zSym)
  have HH := Lib.hid (DecAns.head hh)
  by_cases h1 : 1048576 < l.length
  · have h1i : (1048576 : Int) < (l.length : Int) := by omega
    unfold maxLen at hc2
    clear hrd hF ho hh
    go_enter Try.func19, Try.ntmps19
    go_wp2_with fail
    refine bodyPost_ret (v := .tuple #[.agg zSym, .int .i64 0, .int .i64 131]) ?_ rfl ⟨noSym, 0, 131, _, _, _, [], rfl, HH.out, noSym_own _ _, HBF.out⟩
    simp [results, Try.results19, asAddr, hres]
  by_cases h4 : l.length < 4
  · have h4i : (l.length : Int) < 4 := by omega
    have h1i : (l.length : Int) ≤ 1048576 := by omega
    unfold maxLen at hc2
    clear hrd hF ho hh
    go_enter Try.func19, Try.ntmps19
    go_wp2_with fail
    refine bodyPost_ret (v := .tuple #[.agg zSym, .int .i64 0, .int .i64 131]) ?_ rfl ⟨noSym, 0, 131, _, _, _, [], rfl, HH.out, noSym_own _ _, HBF.out⟩
    simp [results, Try.results19, asAddr, hres]
  have hm : ((strOfNums (l.take 4)).toList == [67, 82, 83, 49]) = false := by
    rw [magic_iff (oct_take ho 4)]; exact decide_eq_false (fun h => hh ⟨by omega, h⟩)
  obtain ⟨b, off, rfl, hb, hcl⟩ := hrd (by omega)
  have hF0 : BytesAt (w.alloc (.cells zSym 26)) _ l := hF.below HB0.out
  obtain ⟨_, _, e, _, _, hrd0⟩ := bytes_form hF0
  cases e
  obtain ⟨b0, off0, e, hb0, hcl0⟩ := hrd0 (by omega)
  cases e
  have hcv := take_four (v := .slice none 0 0) hb0 hcl0 hc2 (by omega) hc1
  have h4i : 4 ≤ (l.length : Int) := by omega
  have h1i : (l.length : Int) ≤ 1048576 := by omega
  unfold maxLen at hc2
  clear hF ho hh hcl hcl0 hF0
  go_enter Try.func19, Try.ntmps19
  go_wp2_with fail
  refine bodyPost_ret (v := .tuple #[.agg zSym, .int .i64 0, .int .i64 131]) ?_ rfl ⟨noSym, 0, 131, _, _, _, [], rfl, HH.out, noSym_own _ _, HBF.out⟩
  simp [results, Try.results19, asAddr, hres]
end
end Go.Proofs.Ytgemnmceflcpcaa
