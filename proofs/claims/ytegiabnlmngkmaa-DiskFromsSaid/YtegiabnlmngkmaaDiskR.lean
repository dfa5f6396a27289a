/- The document's disk: Writes, Cut. -/
import Derived.Test.YtegiabnlmngkmaaDiskQ
namespace Go.Proofs.Ytegiabnlmngkmaa
open Go Go.RowKit Go.Lib
set_option linter.unusedVariables false
set_option linter.unusedSimpArgs false
section
variable {w : World} {base r : Nat} {vf vw : Value} {N : Nat} {sec0 : Nat → ByteArray} {hist : List (Nat × ByteArray)}
theorem rwrites_any (R : RefAt w base r vf vw N sec0 hist) (hbig : hist.length ≤ 4096) :
    Calls Try.prog 17 #[.pointer (some ⟨r, 0, none⟩)] w fun e w' => ∃ v', e = .returned v' ∧ w'.ownsRow w.heap.size 3 1 v' hist.length (hist.map fun p => .int .i64 p.1) ∧ Below w.heap.size w w' := by
  obtain ⟨i0, hi, hz0, hz1, hz2⟩ := info_parts info_i64
  obtain ⟨q, c, rfl, hv⟩ := R.wform
  have c1 := R.c1
  have HBIG := Lib.hid hbig
  clear hbig
  go_enter Try.func17, Try.ntmps17
  go_wp2_with fail
  go_loopw [3, 4] (fun v i wr => ∃ k : Nat, k ≤ hist.length ∧ i = .int .i64 k ∧ wr.ownsRow w.heap.size 3 1 v k ((hist.take k).map fun p => .int .i64 p.1) ∧ Below w.heap.size w wr) (fun _ i _ => hist.length - (intOf i).toNat)
  case atStart => exact ⟨0, by omega, rfl, ⟨rfl, .inl ⟨rfl, rfl⟩⟩, Below.refl _ _⟩
  case round =>
    obtain ⟨k, hk, rfl, hown, hb⟩ := hrel
    have c1r := (Touch.of_below hb []).cell c1 (by simp)
    by_cases hlt : k < hist.length
    · obtain ⟨p, hp⟩ : ∃ p, hist[k]? = some p := ⟨hist[k], List.getElem?_eq_getElem hlt⟩
      obtain ⟨g, rfl, hr, _⟩ := hv k p hp
      have hrr := (Touch.of_below hb []).cell hr (by simp)
      have hk2 : (k : Int) < (hist.length : Int) := by omega
      have hkw : IntKind.i64.wrap ((k : Int) + 1) = (k : Int) + 1 := IntWalk.i64_in _ (by have := HBIG.out; omega)
      have HO := Lib.hid hown
      have HB := Lib.hid hb
      clear hv hown hb
      go_wp2_with (at_builtin; go_must (refine wpList_append_own _ rfl _ _ 35 rfl w.heap.size 3 i0 (.int .i64 0) 1 8 Try.underlying35 hi hz0 hz1 hz2 rfl (by decide) _ _ _ rfl (HO.out.alloc _) ⟨wr.heap.size, 0, none⟩ 1 1 [.int .i64 p.1] rfl rfl ?c1 ?c2 ?c3 ?c4 ?c5 ?_))
      case c1 => exact cell_one_new' _ _ _ _ rfl
      case c2 => intro u hu; simp at hu; subst hu; rfl
      case c3 => have := HBIG.out; unfold maxLen; omega
      case c4 => have := HBIG.out; omega
      case c5 => have := HB.out.size; simp; omega
      intro v' w1 hown' hgrow _
      have hb1 := (HB.out.alloc HB.out.size (.cells #[.int .i64 p.1] 3)).grown hgrow (by have := HB.out.size; simp; omega) (fun g hg => by
        rcases HO.out.2 with ⟨rfl, _⟩ | ⟨g', cap, cur, rfl, hbase, _⟩
        · cases hg
        · simp [Value.ownBlock] at hg; omega)
      have ho2 : w1.ownsRow w.heap.size 3 1 v' (k + 1) ((hist.take (k + 1)).map fun p => .int .i64 p.1) := by
        rw [List.take_add_one, hp]
        simpa using hown'
      clear hown' hgrow HO HB
      have HO2 := Lib.hid ho2
      have HB2 := Lib.hid hb1
      clear ho2 hb1
      go_wp2_with fail
      go_roundw
      case rel => exact ⟨k + 1, by omega, by go_num, HO2.out, HB2.out⟩
      case measure => simp [intOf]; omega
    · obtain rfl : k = hist.length := by omega
      go_wp2_with fail
      go_ret
      exact ⟨_, rfl, by simpa using hown, hb⟩
theorem rcut_no (R : RefAt w base r vf vw N sec0 hist) (k : Int) (hk : k < 0 ∨ (hist.length : Int) < k) (h0 : k ≤ 9223372036854775807) :
    Calls Try.prog 18 #[.pointer (some ⟨r, 0, none⟩), .int .i64 k] w fun e w' => e = .returned (.tuple #[.string ⟨#[]⟩, .int .i64 2]) ∧ w = w' := by
  have c1 := R.c1
  obtain ⟨q, c, rfl, _⟩ := R.wform
  rcases hk with hk | hk
  · go_enter Try.func18, Try.ntmps18
    go_wp2_with fail
    go_ret2
    exact ⟨rfl, rfl⟩
  · go_enter Try.func18, Try.ntmps18
    go_wp2_with fail
    all_goals
      go_ret2
      exact ⟨rfl, rfl⟩
set_option maxHeartbeats 1000000 in
theorem rcut_yes (R : RefAt w base r vf vw N sec0 hist) (k : Nat) (hk : k ≤ hist.length) (hbig : hist.length ≤ 4096) (hN : N ≤ 1024) (hs : ∀ i, i < N → (secOf sec0 (hist.take k) i).size = 1024) :
    Calls Try.prog 18 #[.pointer (some ⟨r, 0, none⟩), .int .i64 (k : Int)] w fun e w' => e = .returned (.tuple #[.string (ofL (imgL (secOf sec0 (hist.take k)) N)), .int .i64 0]) ∧ Below w.heap.size w w' := by
  obtain ⟨i0, hi, hz0, hz1, hz2⟩ := info_parts info_u8
  have hat := fun (w' : World) (hb : Below w.heap.size w w') (n : Nat) (hn : n < N) => at_any (R.below hb) n hn k hk hbig hN
  have c0 := R.c0
  have c1 := R.c1
  obtain ⟨q, c, rfl⟩ := R.fform
  obtain ⟨q', c', rfl, _⟩ := R.wform
  have HAT := Lib.hid hat
  have HBIG := Lib.hid hbig
  have HS := Lib.hid hs
  have hk2 : (k : Int) ≤ (hist.length : Int) := by omega
  have hk3 : (0 : Int) ≤ (k : Int) := by omega
  have hk4 : decide (hist.length < k) = false := by simpa using hk
  clear hat hbig hs hk
  go_enter Try.func18, Try.ntmps18
  go_wp2_with fail
  go_loopw [6, 7] (fun v i wr => ∃ j : Nat, j ≤ N ∧ i = .int .i64 j ∧ wr.ownsRow w.heap.size 5 1 v (j * 1024) (strCells (ofL (imgL (secOf sec0 (hist.take k)) j))) ∧ Below w.heap.size w wr) (fun _ i _ => N - (intOf i).toNat)
  case atStart => exact ⟨0, by omega, rfl, ⟨rfl, .inl ⟨rfl, rfl⟩⟩, Below.refl _ _⟩
  case round =>
    obtain ⟨j, hj, rfl, hown, hb⟩ := hrel
    have c0r := (Touch.of_below hb []).cell c0 (by simp)
    by_cases hlt : j < N
    · have hj2 : (j : Int) < (N : Int) := by omega
      have hat := HAT.out wr hb j hlt
      have hsz := HS.out j hlt
      have hcat : strCells (ofL (imgL (secOf sec0 (hist.take k)) j)) ++ strCells (secOf sec0 (hist.take k) j) = strCells (ofL (imgL (secOf sec0 (hist.take k)) (j + 1))) := by
        rw [imgL_succ, strCells_ofL, strCells_ofL, List.map_append, strCells_data]
      obtain ⟨sj, hsj⟩ : ∃ sj, sj = secOf sec0 (hist.take k) j := ⟨_, rfl⟩
      rw [← hsj] at hcat hat hsz
      have HC := Lib.hid hcat
      have HA := Lib.hid hat
      have HZ := Lib.hid hsz
      have HO := Lib.hid hown
      have HB := Lib.hid hb
      clear hcat hat hsz hown hb hsj
      go_wp2_with (first | (go_at_call 28; go_must (refine HA.out.mono ?_); rintro e w' ⟨rfl, rfl⟩) | (at_builtin; go_must (refine wpList_append_own_string _ rfl _ _ 30 9 rfl w.heap.size 5 i0 Try.underlying30 Try.underlying9 hi hz0 hz1 hz2 _ _ _ rfl HO.out sj rfl ?c3 ?c4 ?c5 ?_)))
      case c3 => rw [HZ.out]; unfold maxLen; omega
      case c4 => rw [HZ.out]; omega
      case c5 => exact HB.out.size
      intro v' w1 hown' hgrow _
      have hb1 := HB.out.grown hgrow HB.out.size (fun g hg => by
        rcases HO.out.2 with ⟨rfl, _⟩ | ⟨g', cap, cur, rfl, hbase, _⟩
        · cases hg
        · simp [Value.ownBlock] at hg; omega)
      rw [HC.out, HZ.out, show j * 1024 + 1024 = (j + 1) * 1024 from by omega] at hown'
      clear hgrow HO HB
      have HO2 := Lib.hid hown'
      have HB2 := Lib.hid hb1
      clear hown' hb1
      go_wp2_with fail
      go_roundw
      case rel => exact ⟨j + 1, by omega, by go_num, HO2.out, HB2.out⟩
      case measure => simp [intOf]; omega
    · obtain rfl : j = N := by omega
      rw [← imgL_length _ j HS.out j (Nat.le_refl _)] at hown
      have hcv := BytesRow.conv hown
      go_wp2_with fail
      go_ret2
      exact ⟨rfl, hb⟩
end
end Go.Proofs.Ytegiabnlmngkmaa
