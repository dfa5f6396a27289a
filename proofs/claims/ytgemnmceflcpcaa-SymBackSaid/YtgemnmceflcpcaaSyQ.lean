/- Parameters laid, their number ahead. -/
import Derived.Test.YtgemnmceflcpcaaSyP
namespace Go.Proofs.Ytgemnmceflcpcaa
open Go Go.RowKit Go.Lib Go.Proofs.Ytgemnmceflcpcaa.Sy
set_option linter.unusedVariables false
set_option linter.unusedSimpArgs false
attribute [local go_sem ↓] exec_load_const exec_store_const exec_load_var exec_store_var exec_load_proc exec_store_proc
def parsB (l : List Vr) : List Int := l.flatMap parB
theorem parsB_len (l : List Vr) : (parsB l).length = 2 * l.length := by
  induction l with
  | nil => rfl
  | cons a l ih => unfold parsB at ih ⊢; rw [List.flatMap_cons, List.length_append, ih]; simp [parB]; omega
theorem parsB_snoc (l : List Vr) (x : Vr) : parsB (l ++ [x]) = parsB l ++ parB x := by unfold parsB; simp
section
variable {w : World}
set_option maxHeartbeats 4000000 in
set_option maxRecDepth 100000 in
theorem row_param {v : Value} {l : List Int} {pv : Value} (ps : List Vr) (hF : BytesAt w v l) (hP : VrsAt w pv ps) (hp : ∀ x ∈ ps, plainF x.form) (hn : ps.length ≤ 200) (hl : l.length ≤ 50000000) :
    Calls Try.prog 32 #[v, pv, .func (.func 36) #[] #[]] w (NewB (l ++ grps ps.length ++ parsB ps) w) := by
  have H1 := Lib.hid (putuint_any hF ps.length (by omega) (by omega))
  obtain ⟨A, cap, rfl, hc1, hc2, hA⟩ := list_of hP.1 (List.length_map _)
  unfold maxLen at hc2
  have HA := Lib.hid hA
  have HP := Lib.hid hp
  have HL := Lib.hid hl
  have HG5 := Lib.hid (grps_len5 (n := ps.length) (by omega))
  have hn1 : (ps.length : Int) ≤ 200 := by omega
  clear hF hP hp hl hA
  go_enter Try.func32, Try.ntmps32
  go_wp2_with (go_at_call 77; refine H1.out.mono ?_; rintro e w1 ⟨v1, rfl, ho1, hb1⟩; have HO1 := Lib.hid ho1; have HB1 := Lib.hid hb1; clear ho1 hb1)
  go_loopw [0, 16] (fun u i wr => ∃ k : Nat, k ≤ ps.length ∧ i = .int .i64 k ∧ Hid (OwnB wr w.heap.size u (l ++ grps ps.length ++ parsB (ps.take k))) ∧ Hid (Below w.heap.size w wr)) (fun _ i _ => ps.length - (intOf i).toNat)
  case atStart => exact ⟨0, Nat.zero_le _, rfl, Lib.hid (by simpa [parsB] using HO1.out), HB1⟩
  case round =>
    obtain ⟨k, hk, rfl, HO, HB⟩ := hrel
    by_cases hlt : k < ps.length
    · obtain ⟨x, hx⟩ : ∃ x, ps[k]? = some x := ⟨ps[k], List.getElem?_eq_getElem hlt⟩
      rcases HA.out with hz | ⟨b, off, rfl, hb, hr⟩
      · omega
      have hrx := range_below (hr k (vcells x).toList (by rw [List.getElem?_map, hx]; rfl)) HB.out hb
      have hld := load_mid Try.underlying73 rfl sz_var hrx rfl
      have hst := store_blk_new wr zVar (vcells x) 73 sz_var rfl rfl (vcells_one x)
      have hl2 := load_blk Try.underlying73 rfl sz_var (Blk.new wr (vcells x) 73) rfl
      have H2 := Lib.hid (putparam_own (w := wr.alloc (.cells (vcells x) 73)) (B := w.heap.size) x (HP.out x (List.mem_of_getElem? hx)) (by
        have := HL.out; have := HG5.out
        simp only [List.length_append, parsB_len, List.length_take]; omega) (by have := HB.out.size; simp; omega) (World.ownsRow.alloc HO.out _))
      have HX := Lib.hid hx
      have hlt1 : (k : Int) < (ps.length : Int) := by omega
      have HB2 := Lib.hid (HB.out.alloc HB.out.size (.cells (vcells x) 73))
      clear hrx hr hx
      go_wp2_with (go_at_call 36; refine H2.out.mono ?_; rintro e w3 ⟨v3, rfl, ho3, hb3⟩; have HO3 := Lib.hid ho3; have HB3 := Lib.hid (HB2.out.trans hb3); clear ho3 hb3)
      go_roundw
      case rel => exact ⟨k + 1, by omega, by go_num, Lib.hid (by rw [take_snoc HX.out, parsB_snoc, ← List.append_assoc]; exact HO3.out), HB3⟩
      case measure => simp [intOf]; omega
    · obtain rfl : k = ps.length := by omega
      go_wp2_with fail
      go_ret
      exact ⟨_, rfl, by have := HO.out; rw [List.take_length] at this; exact this, HB.out⟩
end
end Go.Proofs.Ytgemnmceflcpcaa
