/- Bytes: a text behind bytes. -/
import Derived.Test.YtgemnmceflcpcaaSyN
import Derived.Lib.AppendStr
namespace Go.Proofs.Ytgemnmceflcpcaa
open Go Go.RowKit Go.Lib Go.Proofs.Ytgemnmceflcpcaa.Sy
set_option linter.unusedVariables false
set_option linter.unusedSimpArgs false
def strI (s : ByteArray) : List Int := s.data.toList.map fun b => (b.toNat : Int)
theorem strI_len (s : ByteArray) : (strI s).length = s.size := by unfold strI; simp
theorem strI_enc (s : ByteArray) : (strI s).map encB = strCells s := by unfold strI strCells encB; rw [List.map_map]; rfl
section
variable {w : World}
set_option maxHeartbeats 2000000 in
set_option maxRecDepth 100000 in
theorem text_own {B : Nat} {v : Value} {l : List Int} (s : ByteArray) (hs : s.size ≤ 1000) (hl : l.length ≤ 100000000) (hB : B ≤ w.heap.size) (hO : OwnB w B v l) :
    Calls Try.prog 75 #[v, .string s] w fun e w' => ∃ v', e = .returned v' ∧ OwnB w' B v' (l ++ grps s.size ++ strI s) ∧ Below B w w' := by
  have H1 := Lib.hid (number_any (w := w) s.size (by omega) hl hB hO)
  have HO := Lib.hid hO
  have HB := Lib.hid hB
  have HL := Lib.hid hl
  have hs1 : (s.size : Int) ≤ 1000 := by omega
  obtain ⟨i0, hi, hz0, hz1, hz2⟩ := info_parts info_u8
  have HI := Lib.hid hi
  have HZ0 := Lib.hid hz0
  have HZ1 := Lib.hid hz1
  have HZ2 := Lib.hid hz2
  have HG5 := Lib.hid (grps_len5 (n := s.size) (by omega))
  clear hi hz0 hz1 hz2 hO hB hl
  go_enter Try.func75, Try.ntmps75
  go_wp2_with (first
    | (at_builtin; go_must (refine wpList_append_own_string _ rfl _ _ 30 9 rfl B 5 i0 Try.underlying30 Try.underlying9 HI.out HZ0.out HZ1.out HZ2.out _ _ _ rfl HO1.out s rfl ?c3 ?c4 ?c5 ?_))
    | (go_at_call 93; refine H1.out.mono ?_; rintro e w1 ⟨v1, rfl, ho1, ht1⟩; have HO1 := Lib.hid ho1; have HT1 := Lib.hid ht1; clear ho1 ht1))
  case c3 => have := HL.out; have := HG5.out; simp only [List.length_append]; unfold maxLen; omega
  case c4 => have := HL.out; have := HG5.out; simp only [List.length_append]; omega
  case c5 => have := HT1.out.size; have := HB.out; omega
  intro v' w8 hown8 hgrow8 _
  have T8 := Touch.of_grown hgrow8
  have OWN8 := Lib.hid (show OwnB w8 B v' (l ++ grps s.size ++ strI s) by
    unfold OwnB
    rw [List.length_append, List.length_append, strI_len, List.map_append, List.map_append, strI_enc, List.append_assoc]
    exact hown8)
  have HB1 := Lib.hid (HT1.out.below HB.out (fun g hg => by
    simp only [Option.mem_toList, Option.mem_def] at hg
    exact (own_lt HO.out g hg).2))
  have HB8 := Lib.hid (HB1.out.trans (T8.below (Nat.le_trans HB.out HT1.out.size) (fun g hg => by
    simp only [Option.mem_toList, Option.mem_def] at hg
    exact (own_lt HO1.out g hg).2)))
  clear hown8 hgrow8 T8
  go_wp2_with fail
  go_ret
  exact ⟨v', rfl, OWN8.out, HB8.out⟩
set_option maxHeartbeats 2000000 in
theorem puttext_any {v : Value} {l : List Int} (hF : BytesAt w v l) (s : ByteArray) (hs : s.size ≤ 1000) (hl : l.length ≤ 100000000) :
    Calls Try.prog 29 #[v, .string s] w (NewB (l ++ grps s.size ++ strI s) w) := by
  have H1 := Lib.hid (clone_bytes hF hl)
  have H2 := Lib.hid (fun (w1 : World) (v1 : Value) (h : OwnB w1 w.heap.size v1 l) (hb : w.heap.size ≤ w1.heap.size) => text_own (w := w1) s hs hl hb h)
  clear hF hs hl
  go_enter Try.func29, Try.ntmps29
  go_wp2_with (first
    | (go_at_call 75; refine (H2.out w1 v1 HO1.out HB1.out.size).mono ?_; rintro e w2 ⟨v2, rfl, ho2, hb2⟩; have HO2 := Lib.hid ho2; have HB2 := Lib.hid (HB1.out.trans hb2); clear ho2 hb2)
    | (go_at_call 76; refine H1.out.mono ?_; rintro e w1 ⟨v1, rfl, ho1, hb1⟩; have HO1 := Lib.hid ho1; have HB1 := Lib.hid hb1; clear ho1 hb1))
  go_ret
  exact ⟨v2, rfl, HO2.out, HB2.out⟩
end
end Go.Proofs.Ytgemnmceflcpcaa
