/- A parameter laid behind bytes. -/
import Derived.Test.YtgemnmceflcpcaaSyO
namespace Go.Proofs.Ytgemnmceflcpcaa
open Go Go.RowKit Go.Lib Go.Proofs.Ytgemnmceflcpcaa.Sy
set_option linter.unusedVariables false
set_option linter.unusedSimpArgs false
def howI (v : Vr) : Int := (if v.opn = true then 1 else 0) + (if v.ref = true then 2 else 0)
def parB (v : Vr) : List Int := [v.form, howI v]
theorem two_new (w : World) (a b : Value) (t : TypeId) (j : Nat) (u : Value) (hj : [a, b][j]? = some u) : (w.alloc (.cells #[a, b] t)).cell? (Addr.add ⟨w.heap.size, 0, none⟩ j) = some u :=
  new_cells w [a, b] t (by simp) j u hj
section
variable {w : World}
set_option maxHeartbeats 2000000 in
set_option maxRecDepth 100000 in
theorem putparam_own {B : Nat} {v : Value} {l : List Int} (x : Vr) (hx : plainF x.form) (hl : l.length ≤ 100000000) (hB : B ≤ w.heap.size) (hO : OwnB w B v l) :
    Calls Try.prog 36 #[v, .agg (vcells x)] w fun e w' => ∃ v', e = .returned v' ∧ OwnB w' B v' (l ++ parB x) ∧ Below B w w' := by
  obtain ⟨nm, fm, ln, op, rf⟩ := x
  obtain ⟨h1, h5⟩ := hx
  simp only at h1 h5
  have HO := Lib.hid hO
  have HB := Lib.hid hB
  have HL := Lib.hid hl
  obtain ⟨i0, hi, hz0, hz1, hz2⟩ := info_parts info_u8
  have HI := Lib.hid hi
  have HZ0 := Lib.hid hz0
  have HZ1 := Lib.hid hz1
  have HZ2 := Lib.hid hz2
  have hm : fm % 256 = fm := by omega
  have hb01 : bits .or .u8 0 1 = 1 := by kernel_rfl
  have hb02 : bits .or .u8 0 2 = 2 := by kernel_rfl
  have hb12 : bits .or .u8 1 2 = 3 := by kernel_rfl
  clear hi hz0 hz1 hz2 hO hB hl
  cases op with
  | true =>
    cases rf with
    | true =>
      have HOA := Lib.hid (World.ownsRow.alloc (World.ownsRow.alloc HO.out (.cells (vcells ⟨nm, fm, ln, true, true⟩) 73)) (.cells #[.int .u8 fm, .int .u8 3] 5))
      have TA := Lib.hid (((Touch.alloc w (.cells (vcells ⟨nm, fm, ln, true, true⟩) 73)).trans (Touch.alloc _ (.cells #[.int .u8 fm, .int .u8 3] 5)) (fun g hg _ => hg)).mono (r' := v.ownBlock.toList) (fun g hg => by cases hg))
      have hnew := two_new (w.alloc (.cells (vcells ⟨nm, fm, ln, true, true⟩) 73)) (.int .u8 fm) (.int .u8 3) 5
      simp only [World.size_alloc] at hnew
      have HNEW := Lib.hid hnew
      clear hnew
      go_enter Try.func36, Try.ntmps36
      go_wp2_with (at_builtin; go_must (refine wpList_append_own _ rfl _ _ 30 rfl B 5 i0 (.int .u8 0) 1 1 Try.underlying30 HI.out HZ0.out HZ1.out HZ2.out rfl (by decide) _ _ _ rfl HOA.out ⟨w.heap.size + 1, 0, none⟩ 2 2 [.int .u8 fm, .int .u8 3] rfl rfl HNEW.out ?c2 ?c3 ?c4 ?c5 ?_))
      case c2 => intro u hu; simp only [List.mem_cons, List.not_mem_nil, or_false] at hu; rcases hu with rfl | rfl <;> rfl
      case c3 => have := HL.out; unfold maxLen; omega
      case c4 => have := HL.out; omega
      case c5 => have := HB.out; simp; omega
      intro v' w8 hown8 hgrow8 _
      have T8 := Touch.of_grown hgrow8
      have OWN8 := Lib.hid (show OwnB w8 B v' (l ++ parB ⟨nm, fm, ln, true, true⟩) by
        unfold OwnB
        rw [List.length_append, List.map_append]
        exact hown8)
      have HB8 := Lib.hid ((TA.out.trans T8 (fun g hg _ => hg)).below HB.out (fun g hg => by
        simp only [Option.mem_toList, Option.mem_def] at hg
        exact (own_lt HO.out g hg).2))
      clear hown8 hgrow8 T8
      go_wp2_with fail
      go_ret
      exact ⟨v', rfl, OWN8.out, HB8.out⟩
    | false =>
      have HOA := Lib.hid (World.ownsRow.alloc (World.ownsRow.alloc HO.out (.cells (vcells ⟨nm, fm, ln, true, false⟩) 73)) (.cells #[.int .u8 fm, .int .u8 1] 5))
      have TA := Lib.hid (((Touch.alloc w (.cells (vcells ⟨nm, fm, ln, true, false⟩) 73)).trans (Touch.alloc _ (.cells #[.int .u8 fm, .int .u8 1] 5)) (fun g hg _ => hg)).mono (r' := v.ownBlock.toList) (fun g hg => by cases hg))
      have hnew := two_new (w.alloc (.cells (vcells ⟨nm, fm, ln, true, false⟩) 73)) (.int .u8 fm) (.int .u8 1) 5
      simp only [World.size_alloc] at hnew
      have HNEW := Lib.hid hnew
      clear hnew
      go_enter Try.func36, Try.ntmps36
      go_wp2_with (at_builtin; go_must (refine wpList_append_own _ rfl _ _ 30 rfl B 5 i0 (.int .u8 0) 1 1 Try.underlying30 HI.out HZ0.out HZ1.out HZ2.out rfl (by decide) _ _ _ rfl HOA.out ⟨w.heap.size + 1, 0, none⟩ 2 2 [.int .u8 fm, .int .u8 1] rfl rfl HNEW.out ?c2 ?c3 ?c4 ?c5 ?_))
      case c2 => intro u hu; simp only [List.mem_cons, List.not_mem_nil, or_false] at hu; rcases hu with rfl | rfl <;> rfl
      case c3 => have := HL.out; unfold maxLen; omega
      case c4 => have := HL.out; omega
      case c5 => have := HB.out; simp; omega
      intro v' w8 hown8 hgrow8 _
      have T8 := Touch.of_grown hgrow8
      have OWN8 := Lib.hid (show OwnB w8 B v' (l ++ parB ⟨nm, fm, ln, true, false⟩) by
        unfold OwnB
        rw [List.length_append, List.map_append]
        exact hown8)
      have HB8 := Lib.hid ((TA.out.trans T8 (fun g hg _ => hg)).below HB.out (fun g hg => by
        simp only [Option.mem_toList, Option.mem_def] at hg
        exact (own_lt HO.out g hg).2))
      clear hown8 hgrow8 T8
      go_wp2_with fail
      go_ret
      exact ⟨v', rfl, OWN8.out, HB8.out⟩
  | false =>
    cases rf with
    | true =>
      have HOA := Lib.hid (World.ownsRow.alloc (World.ownsRow.alloc HO.out (.cells (vcells ⟨nm, fm, ln, false, true⟩) 73)) (.cells #[.int .u8 fm, .int .u8 2] 5))
      have TA := Lib.hid (((Touch.alloc w (.cells (vcells ⟨nm, fm, ln, false, true⟩) 73)).trans (Touch.alloc _ (.cells #[.int .u8 fm, .int .u8 2] 5)) (fun g hg _ => hg)).mono (r' := v.ownBlock.toList) (fun g hg => by cases hg))
      have hnew := two_new (w.alloc (.cells (vcells ⟨nm, fm, ln, false, true⟩) 73)) (.int .u8 fm) (.int .u8 2) 5
      simp only [World.size_alloc] at hnew
      have HNEW := Lib.hid hnew
      clear hnew
      go_enter Try.func36, Try.ntmps36
      go_wp2_with (at_builtin; go_must (refine wpList_append_own _ rfl _ _ 30 rfl B 5 i0 (.int .u8 0) 1 1 Try.underlying30 HI.out HZ0.out HZ1.out HZ2.out rfl (by decide) _ _ _ rfl HOA.out ⟨w.heap.size + 1, 0, none⟩ 2 2 [.int .u8 fm, .int .u8 2] rfl rfl HNEW.out ?c2 ?c3 ?c4 ?c5 ?_))
      case c2 => intro u hu; simp only [List.mem_cons, List.not_mem_nil, or_false] at hu; rcases hu with rfl | rfl <;> rfl
      case c3 => have := HL.out; unfold maxLen; omega
      case c4 => have := HL.out; omega
      case c5 => have := HB.out; simp; omega
      intro v' w8 hown8 hgrow8 _
      have T8 := Touch.of_grown hgrow8
      have OWN8 := Lib.hid (show OwnB w8 B v' (l ++ parB ⟨nm, fm, ln, false, true⟩) by
        unfold OwnB
        rw [List.length_append, List.map_append]
        exact hown8)
      have HB8 := Lib.hid ((TA.out.trans T8 (fun g hg _ => hg)).below HB.out (fun g hg => by
        simp only [Option.mem_toList, Option.mem_def] at hg
        exact (own_lt HO.out g hg).2))
      clear hown8 hgrow8 T8
      go_wp2_with fail
      go_ret
      exact ⟨v', rfl, OWN8.out, HB8.out⟩
    | false =>
      have HOA := Lib.hid (World.ownsRow.alloc (World.ownsRow.alloc HO.out (.cells (vcells ⟨nm, fm, ln, false, false⟩) 73)) (.cells #[.int .u8 fm, .int .u8 0] 5))
      have TA := Lib.hid (((Touch.alloc w (.cells (vcells ⟨nm, fm, ln, false, false⟩) 73)).trans (Touch.alloc _ (.cells #[.int .u8 fm, .int .u8 0] 5)) (fun g hg _ => hg)).mono (r' := v.ownBlock.toList) (fun g hg => by cases hg))
      have hnew := two_new (w.alloc (.cells (vcells ⟨nm, fm, ln, false, false⟩) 73)) (.int .u8 fm) (.int .u8 0) 5
      simp only [World.size_alloc] at hnew
      have HNEW := Lib.hid hnew
      clear hnew
      go_enter Try.func36, Try.ntmps36
      go_wp2_with (at_builtin; go_must (refine wpList_append_own _ rfl _ _ 30 rfl B 5 i0 (.int .u8 0) 1 1 Try.underlying30 HI.out HZ0.out HZ1.out HZ2.out rfl (by decide) _ _ _ rfl HOA.out ⟨w.heap.size + 1, 0, none⟩ 2 2 [.int .u8 fm, .int .u8 0] rfl rfl HNEW.out ?c2 ?c3 ?c4 ?c5 ?_))
      case c2 => intro u hu; simp only [List.mem_cons, List.not_mem_nil, or_false] at hu; rcases hu with rfl | rfl <;> rfl
      case c3 => have := HL.out; unfold maxLen; omega
      case c4 => have := HL.out; omega
      case c5 => have := HB.out; simp; omega
      intro v' w8 hown8 hgrow8 _
      have T8 := Touch.of_grown hgrow8
      have OWN8 := Lib.hid (show OwnB w8 B v' (l ++ parB ⟨nm, fm, ln, false, false⟩) by
        unfold OwnB
        rw [List.length_append, List.map_append]
        exact hown8)
      have HB8 := Lib.hid ((TA.out.trans T8 (fun g hg _ => hg)).below HB.out (fun g hg => by
        simp only [Option.mem_toList, Option.mem_def] at hg
        exact (own_lt HO.out g hg).2))
      clear hown8 hgrow8 T8
      go_wp2_with fail
      go_ret
      exact ⟨v', rfl, OWN8.out, HB8.out⟩
end
end Go.Proofs.Ytgemnmceflcpcaa
