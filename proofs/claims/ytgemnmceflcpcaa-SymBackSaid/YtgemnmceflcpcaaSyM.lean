/- Bytes laid: a copy, a number behind bytes. -/
import Derived.Test.YtgemnmceflcpcaaSyL
import Derived.WalkSpells
import Derived.Maps.AppendAt
namespace Go.Proofs.Ytgemnmceflcpcaa
open Go Go.RowKit Go.Lib Go.Proofs.Ytgemnmceflcpcaa.Sy
set_option linter.unusedVariables false
set_option linter.unusedSimpArgs false
@[reducible] def encB (n : Int) : Value := .int .u8 n
theorem info_u8 : (Try.prog.info? 5).map (fun i => (i.zero, i.size, i.bytes)) = some (some (.int .u8 0), 1, 1) := by kernel_rfl
/-- A number's groups of seven bits, the lowest ahead. -/
def grps (n : Nat) : List Int := if h : n < 128 then [(n : Int)] else ((n % 128 + 128 : Nat) : Int) :: grps (n / 128)
termination_by n
decreasing_by omega
theorem grps_lt {n : Nat} (h : n < 128) : grps n = [(n : Int)] := by rw [grps, dif_pos h]
theorem grps_ge {n : Nat} (h : ¬ n < 128) : grps n = ((n % 128 + 128 : Nat) : Int) :: grps (n / 128) := by rw [grps, dif_neg h]
theorem orB_all : ((List.range 256).all fun n => bits .or .u8 ((n : Nat) : Int) 128 == ((n % 128 + 128 : Nat) : Int)) = true := by kernel_rfl
theorem orB (n : Nat) (hn : n < 256) : bits .or .u8 (n : Int) 128 = ((n % 128 + 128 : Nat) : Int) := by
  have := List.all_eq_true.1 orB_all n (List.mem_range.2 hn)
  exact eq_of_beq this
section
variable {w : World}
theorem grps_len : ∀ (k n : Nat), n < 128 ^ (k + 1) → (grps n).length ≤ k + 1
  | 0, n, h => by rw [grps_lt (by simpa using h)]; simp
  | k + 1, n, h => by
    by_cases hn : n < 128
    · rw [grps_lt hn]; simp
    · rw [grps_ge hn, List.length_cons]
      have := grps_len k (n / 128) (by rw [Nat.div_lt_iff_lt_mul (by decide)]; rw [Nat.pow_succ] at h; exact h)
      omega
theorem grps_len5 {n : Nat} (h : n < 4294967296) : (grps n).length ≤ 5 := grps_len 4 n (by omega)
/-- Bytes of the call's own, from block B on. -/
abbrev OwnB (w : World) (B : Nat) (v : Value) (l : List Int) : Prop := w.ownsRow B 5 1 v l.length (l.map encB)
set_option maxHeartbeats 4000000 in
set_option maxRecDepth 100000 in
theorem number_any {B : Nat} {v : Value} {l : List Int} (n : Nat) (hn : n < 4294967296) (hl : l.length ≤ 100000000) (hB : B ≤ w.heap.size) (hO : OwnB w B v l) :
    Calls Try.prog 93 #[v, .int .u32 n] w fun e w' => ∃ v', e = .returned v' ∧ OwnB w' B v' (l ++ grps n) ∧ Touch w w' v.ownBlock.toList := by
  have HO := Lib.hid hO
  clear hO
  go_enter Try.func93, Try.ntmps93
  obtain ⟨i0, hi, hz0, hz1, hz2⟩ := info_parts info_u8
  have HI := Lib.hid hi
  have HZ0 := Lib.hid hz0
  have HZ1 := Lib.hid hz1
  have HZ2 := Lib.hid hz2
  have HG5 := Lib.hid (grps_len5 hn)
  have HN := Lib.hid hn
  have HL := Lib.hid hl
  clear hi hz0 hz1 hz2 hn hl
  go_wp2_with fail
  go_loopw [0, 1] (fun u x wr => ∃ (m : Nat) (acc : List Int), x = .int .u32 m ∧ m ≤ n ∧ Hid (acc ++ grps m = l ++ grps n) ∧ Hid (OwnB wr B u acc) ∧ Hid (Touch w wr v.ownBlock.toList) ∧ Hid (∀ g, u.ownBlock = some g → g ∈ v.ownBlock.toList ∨ w.heap.size ≤ g)) (fun _ x _ => (intOf x).toNat)
  case atStart => exact ⟨n, l, rfl, Nat.le_refl _, Lib.hid rfl, HO, Lib.hid (Touch.refl _ _), Lib.hid (fun g hg => .inl (by rw [hg]; simp))⟩
  case round =>
    obtain ⟨m, acc, rfl, hm, HA, OWN, HT, HW⟩ := hrel
    have HAL := Lib.hid (show acc.length ≤ 100000005 from by have := congrArg List.length HA.out; have h5 := HG5.out; have hl := HL.out; simp only [List.length_append] at this; omega)
    by_cases hlt : m < 128
    · have hlt1 : (m : Int) < 128 := by omega
      have hm256 : (m : Int) % 256 = (m : Int) := by omega
      go_wp2_with (at_builtin; refine wpList_append_own_at _ rfl _ _ 30 rfl B 5 i0 (.int .u8 0) 1 1 Try.underlying30 HI.out HZ0.out HZ1.out HZ2.out rfl (by decide) _ _ _ rfl (World.ownsRow.alloc OWN.out _) ⟨wr.heap.size, 0, none⟩ 1 1 [.int .u8 (m : Int)] rfl rfl (cell_one_new _ _ _) (by simp [Value.oneCell']) ?c3 ?c4 ?c5 ?_)
      case c3 => have := HAL.out; unfold maxLen; omega
      case c4 => have := HAL.out; omega
      case c5 => have := HT.out.size; simp; omega
      intro v' w8 hown8 hgrow8 _ hblk8
      have T8 := Lib.hid (((Touch.alloc wr (.cells #[.int .u8 ((m : Int))] 5)).mono (r' := u0.ownBlock.toList) (fun g hg => by cases hg)).trans (Touch.of_grown hgrow8) (fun g hg _ => hg))
      have OWN8 := Lib.hid (show OwnB w8 B v' (acc ++ [(m : Int)]) by unfold OwnB; rw [List.length_append, List.map_append]; exact hown8)
      have HT8 := Lib.hid (HT.out.trans T8.out (fun g hg hlt => by
        simp only [Option.mem_toList, Option.mem_def] at hg
        rcases HW.out g hg with h | h
        · exact h
        · omega))
      have HBK := Lib.hid hblk8
      clear hown8 hgrow8 hblk8
      go_wp2_with fail
      go_ret
      refine ⟨v', rfl, ?_, HT8.out⟩
      rw [← HA.out, grps_lt hlt]
      exact OWN8.out
    · have hge : (128 : Int) ≤ (m : Int) := by omega
      have hob : bits .or .u8 ((m : Int) % 256) 128 = (m : Int) % 128 + 128 := by
        have h := orB (m % 256) (by omega)
        rw [show m % 256 % 128 = m % 128 from by omega] at h
        rw [show ((m % 256 : Nat) : Int) = (m : Int) % 256 from by omega, show ((m % 128 + 128 : Nat) : Int) = (m : Int) % 128 + 128 from by omega] at h
        exact h
      go_wp2_with (at_builtin; refine wpList_append_own_at _ rfl _ _ 30 rfl B 5 i0 (.int .u8 0) 1 1 Try.underlying30 HI.out HZ0.out HZ1.out HZ2.out rfl (by decide) _ _ _ rfl (World.ownsRow.alloc OWN.out _) ⟨wr.heap.size, 0, none⟩ 1 1 [.int .u8 ((m : Int) % 128 + 128)] rfl rfl (cell_one_new _ _ _) (by simp [Value.oneCell']) ?c3 ?c4 ?c5 ?_)
      case c3 => have := HAL.out; unfold maxLen; omega
      case c4 => have := HAL.out; omega
      case c5 => have := HT.out.size; simp; omega
      intro v' w8 hown8 hgrow8 _ hblk8
      have T8 := Lib.hid (((Touch.alloc wr (.cells #[.int .u8 ((m : Int) % 128 + 128)] 5)).mono (r' := u0.ownBlock.toList) (fun g hg => by cases hg)).trans (Touch.of_grown hgrow8) (fun g hg _ => hg))
      have OWN8 := Lib.hid (show OwnB w8 B v' (acc ++ [(m : Int) % 128 + 128]) by unfold OwnB; rw [List.length_append, List.map_append]; exact hown8)
      have HT8 := Lib.hid (HT.out.trans T8.out (fun g hg hlt => by
        simp only [Option.mem_toList, Option.mem_def] at hg
        rcases HW.out g hg with h | h
        · exact h
        · omega))
      have HBK := Lib.hid hblk8
      clear hown8 hgrow8 hblk8
      go_wp2_with fail
      go_roundw
      case rel => exact ⟨m / 128, acc ++ [(m : Int) % 128 + 128], by go_num, by omega, Lib.hid (by rw [← HA.out, grps_ge hlt, List.append_assoc]; congr 2), OWN8, HT8, Lib.hid (fun g hg => by
        rcases HBK.out with h | h
        · rw [h] at hg; exact HW.out g hg
        · rw [h] at hg; cases hg; right; have := HT.out.size; simp; omega)⟩
      case measure => simp [intOf]; omega
end
end Go.Proofs.Ytgemnmceflcpcaa
