/- The document's numbers and texts. -/
import Derived.Test.YtgemnmceflcpcaaSrA
namespace Go.Proofs.Ytgemnmceflcpcaa
open Go Go.RowKit Go.Lib Go.Proofs.Ytgemnmceflcpcaa.Sy Pl
set_option linter.unusedVariables false
set_option linter.unusedSimpArgs false
section
variable {w : World}
set_option maxHeartbeats 2000000 in
theorem rnum_any {v : Value} {l : List Int} (hF : BytesAt w v l) (ho : Oct l) (hl : l.length ≤ 2000000000) (p : Nat) (hp : p ≤ l.length) :
    Calls Try.prog 95 #[v, .int .i64 p] w fun e w' => e = .returned (uintV (uintL (l.drop p)) p) ∧ w = w' := by
  obtain ⟨A, cap, rfl, h1, h2, hr⟩ := bytes_form hF
  have H1 := Lib.hid (ruint_some A cap l p ho hl hp hr)
  cases hu : uintL (l.drop p) with
  | none =>
    rw [hu] at H1
    have H1 : Hid (Calls Try.prog 96 #[.slice A l.length cap, .int .i64 p] w fun e w' => ∃ x y : Int, e = .returned (.tuple #[.int .u32 x, .int .i64 y, .bool false]) ∧ w = w') := Lib.hid (H1.out.mono fun e w' h => by
      rcases h with ⟨n, k, h, _⟩ | ⟨_, h⟩
      · cases h
      · exact h)
    clear hF hr hu ho
    go_enter Try.func95, Try.ntmps95
    go_wp2_with (go_at_call 96; refine H1.out.mono ?_; rintro e w' ⟨x, y, rfl, rfl⟩)
    go_ret3
    exact ⟨rfl, rfl⟩
  | some nk =>
    obtain ⟨n, k⟩ := nk
    rw [hu] at H1
    have H1 : Hid (Calls Try.prog 96 #[.slice A l.length cap, .int .i64 p] w fun e w' => e = .returned (.tuple #[.int .u32 (n : Int), .int .i64 ((p + k : Nat) : Int), .bool true]) ∧ w = w') := Lib.hid (H1.out.mono fun e w' h => by
      rcases h with ⟨n', k', h, h2, h3⟩ | ⟨h, _⟩
      · cases h; exact ⟨h2, h3⟩
      · cases h)
    clear hF hr hu ho
    go_enter Try.func95, Try.ntmps95
    go_wp2_with (go_at_call 96; refine H1.out.mono ?_; rintro e w' ⟨rfl, rfl⟩)
    go_ret3
    exact ⟨rfl, rfl⟩
theorem uintV_form (o : Option (Nat × Nat)) (p : Nat) : ∃ a b c, uintV o p = .tuple #[a, b, c] := by
  cases o with
  | none => exact ⟨_, _, _, rfl⟩
  | some nk => exact ⟨_, _, _, rfl⟩
set_option maxHeartbeats 2000000 in
theorem rnumber_any {v : Value} {l : List Int} (hF : BytesAt w v l) (ho : Oct l) (hl : l.length ≤ 2000000000) (p : Nat) (hp : p ≤ l.length) :
    Calls Try.prog 87 #[v, .int .i64 p] w fun e w' => e = .returned (uintV (uintL (l.drop p)) p) ∧ w = w' := by
  have H1 := Lib.hid (rnum_any hF ho hl p hp)
  obtain ⟨a, b, c, hv⟩ := uintV_form (uintL (l.drop p)) p
  rw [hv] at H1 ⊢
  clear hF ho hv
  go_enter Try.func87, Try.ntmps87
  go_wp2_with (go_at_call 95; refine H1.out.mono ?_; rintro e w' ⟨rfl, rfl⟩)
  go_ret3
  exact ⟨rfl, rfl⟩
set_option maxHeartbeats 4000000 in
set_option maxRecDepth 100000 in
theorem rtext_any {v : Value} {l : List Int} (hF : BytesAt w v l) (ho : Oct l) (hl : l.length ≤ 2000000000) (p : Nat) (hp : p ≤ l.length) (most : Nat) (hm : most ≤ 1000) :
    Calls Try.prog 86 #[v, .int .i64 p, .int .i64 most] w fun e w' => e = .returned (textV (textL l most p)) ∧ w = w' := by
  have H1 := Lib.hid (rnum_any hF ho hl p hp)
  obtain ⟨A, cap, rfl, h1, h2, hr⟩ := bytes_form hF
  cases hu : uintL (l.drop p) with
  | none =>
    rw [hu] at H1
    have HE := Lib.hid (show textL l most p = none by unfold textL; rw [hu])
    have H1 : Hid (Calls Try.prog 95 #[.slice A l.length cap, .int .i64 p] w fun e w' => e = .returned (.tuple #[.int .u32 0, .int .i64 0, .bool false]) ∧ w = w') := H1
    clear hF ho hr hu
    go_enter Try.func86, Try.ntmps86
    go_wp2_with (go_at_call 95; refine H1.out.mono ?_; rintro e w' ⟨rfl, rfl⟩)
    go_ret3
    rw [HE.out]; exact ⟨rfl, rfl⟩
  | some nk =>
    obtain ⟨n, k⟩ := nk
    rw [hu] at H1
    obtain ⟨k1, k2, k5⟩ := uintL_len (oct_drop ho p) hu
    have hn := (uintL_dec (oct_drop ho p) hu).1
    rw [List.length_drop] at k2
    obtain ⟨b, off, rfl, hb, hc⟩ := hr (by omega)
    obtain ⟨q, hq⟩ : ∃ q, p + k = q := ⟨_, rfl⟩
    have H1 : Hid (Calls Try.prog 95 #[.slice (some ⟨b, off, none⟩) l.length cap, .int .i64 p] w fun e w' => e = .returned (.tuple #[.int .u32 n, .int .i64 (q : Int), .bool true]) ∧ w = w') := by rw [← hq]; exact H1
    have HE := Lib.hid (show textL l most p = if n ≤ most ∧ q + n ≤ l.length then some (strOfNums ((l.drop q).take n), q + n) else none by unfold textL; rw [hu]; simp only [hq])
    have hql : q ≤ l.length := by omega
    have HQ := Lib.hid hq
    clear hq hu k1 k2 k5
    have hn2 : (n : Int) ≤ 4294967295 := by omega
    by_cases c1 : n ≤ most
    · by_cases c2 : q + n ≤ l.length
      · have hi1 : ((n : Int) ≤ (most : Int)) := by omega
        have hi2 : (n : Int) ≤ (l.length : Int) - (q : Int) := by omega
        unfold maxLen at h2
        by_cases hqc : q = cap
        · obtain rfl : n = 0 := by omega
          have hcv := conv_at (bytes_none (w := w) (some ⟨b, off, none⟩) 0 (by decide))
          have hqd : l.length = q := by omega
          rw [hqd] at H1 h1 ⊢
          have HQD := Lib.hid hqd
          clear hqd
          clear hF ho hr hc
          subst hqc
          clear h1 hi2 c2 hql
          go_enter Try.func86, Try.ntmps86
          go_wp2_with (go_at_call 95; refine H1.out.mono ?_; rintro e w' ⟨rfl, rfl⟩)
          go_ret3
          rw [HE.out, if_pos ⟨by omega, by have := HQD.out; omega⟩]
          exact ⟨ret_text (by simp) (by simp), rfl⟩
        · have hcv := conv_at (bytes_cut hb hc (by unfold maxLen; omega) q n c2 h1)
          clear hF ho hr hc
          go_enter Try.func86, Try.ntmps86
          go_wp2_with (go_at_call 95; refine H1.out.mono ?_; rintro e w' ⟨rfl, rfl⟩)
          go_ret3
          rw [HE.out, if_pos ⟨by omega, by omega⟩]
          exact ⟨ret_text rfl (by omega), rfl⟩
      · have hi1 : ((n : Int) ≤ (most : Int)) := by omega
        have hi2 : (l.length : Int) - (q : Int) < (n : Int) := by omega
        clear hF ho hr hc
        go_enter Try.func86, Try.ntmps86
        go_wp2_with (go_at_call 95; refine H1.out.mono ?_; rintro e w' ⟨rfl, rfl⟩)
        go_ret3
        rw [HE.out, if_neg (fun h => c2 h.2)]
        exact ⟨rfl, rfl⟩
    · have hi1 : (most : Int) < (n : Int) := by omega
      clear hF ho hr hc
      go_enter Try.func86, Try.ntmps86
      go_wp2_with (go_at_call 95; refine H1.out.mono ?_; rintro e w' ⟨rfl, rfl⟩)
      go_ret3
      rw [HE.out, if_neg (fun h => c1 h.1)]
      exact ⟨rfl, rfl⟩
end
end Go.Proofs.Ytgemnmceflcpcaa
