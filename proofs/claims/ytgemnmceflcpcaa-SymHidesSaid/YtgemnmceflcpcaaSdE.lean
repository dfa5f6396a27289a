/- The reader: a number, a text. -/
import Derived.Test.YtgemnmceflcpcaaQF
import Derived.Test.YtgemnmceflcpcaaSyX
namespace Go.Proofs.Ytgemnmceflcpcaa
open Go Go.RowKit Go.Lib Go.Proofs.Ytgemnmceflcpcaa.Sy Pl
set_option linter.unusedVariables false
set_option linter.unusedSimpArgs false
section
variable {w : World} {g : Nat} {v : Value} {l : List Int}
theorem RdAt.drewN {r : Rd} (h : RdAt w g v l r) (n : Nat) : RdAt (w.drewN n) g v l r := h.step (belDrewN (Below.refl _ _) n)
theorem uint_quiet {r : Rd} (hR : RdAt w g v l r) (n : Nat) : Calls Try.prog 82 #[v, .int .i64 r.pos] (w.drewN n) fun e w' => e = .returned (uintV (uintL (l.drop r.pos)) r.pos) ∧ w' = w.drewN n :=
  (uint_any (hR.drewN n).bytes hR.oct (by have := hR.len; omega) r.pos hR.pos).mono fun e w' ⟨a, b⟩ => ⟨a, b.symm⟩
theorem text_quiet {r : Rd} (hR : RdAt w g v l r) (most : Nat) (hm : most ≤ 1000) (n : Nat) : Calls Try.prog 79 #[v, .int .i64 r.pos, .int .i64 most] (w.drewN n) fun e w' => e = .returned (textV (textL l most r.pos)) ∧ w' = w.drewN n :=
  (text_any (hR.drewN n).bytes hR.oct (by have := hR.len; omega) r.pos hR.pos most hm).mono fun e w' ⟨a, b⟩ => ⟨a, b.symm⟩
theorem Touch.of_drew {w w' : World} {n : Nat} {r : List Nat} (h : Touch (w.drewN n) w' r) : Touch w w' r := ⟨h.os, h.tape, h.output, h.size, h.block⟩
theorem numS_no {r : Rd} {most : Nat} (h : uintL (l.drop r.pos) = none ∨ ∃ n k, uintL (l.drop r.pos) = some (n, k) ∧ most < n) (x : Int) : numS l most r = (0, tookS r x false) := by
  unfold numS tookS
  obtain ⟨p, ok⟩ := r
  cases ok with
  | false => rfl
  | true =>
    simp only [if_true] at *
    rcases h with h | ⟨n, k, h, hn⟩
    · rw [h]; rfl
    · rw [h]; simp only []; rw [if_neg (by omega)]; rfl
theorem numS_yes {r : Rd} {most n k : Nat} (h : uintL (l.drop r.pos) = some (n, k)) (hn : n ≤ most) (hr : r.ok = true) : numS l most r = (n, tookS r ((r.pos + k : Nat) : Int) true) := by
  unfold numS tookS
  rw [if_pos hr, if_pos hr, h]; simp only []; rw [if_pos hn]; rfl
theorem numS_bad {r : Rd} {most : Nat} (hr : r.ok = false) (x : Int) (b : Bool) : numS l most r = (0, tookS r x b) := by
  unfold numS tookS
  rw [if_neg (by rw [hr]; decide), if_neg (by rw [hr]; decide)]
set_option maxHeartbeats 4000000 in
set_option maxRecDepth 100000 in
theorem number_r {r : Rd} (hR : RdAt w g v l r) (most : Nat) (hm : most ≤ 4294967295) :
    Calls Try.prog 57 #[.pointer (some ⟨g, 0, none⟩), .int .u32 most] w (RdP g v l w (numS l most r).2 (.int .i64 (numS l most r).1)) := by
  have HR := Lib.hid hR
  have l0 := hR.blk.cell 0
  have l1 := hR.blk.cell 1
  have HM := Lib.hid hm
  have HQ := Lib.hid (uint_quiet hR)
  have HT := Lib.hid (fun (n : Nat) (next : Int) (ok : Bool) (h : ok = true → 0 ≤ next ∧ next ≤ l.length) => took_any (hR.drewN n) next ok h)
  cases hu : uintL (l.drop r.pos) with
  | none =>
    rw [hu] at HQ
    have HQ : Hid (∀ n, Calls Try.prog 82 #[v, .int .i64 r.pos] (w.drewN n) fun e w' => e = .returned (.tuple #[.int .u32 0, .int .i64 0, .bool false]) ∧ w' = w.drewN n) := HQ
    have HE := Lib.hid (numS_no (most := most) (.inl hu) 0)
    clear hR hu hm
    go_enter Try.func57, Try.ntmps57
    go_wp2_with fail
    go_quiet ((go_at_call 82; exact Calls.quiet_of_same (HQ.out _)))
    go_wp2_with (go_at_call 60; refine (HT.out _ 0 false (fun h => by cases h)).mono ?_; rintro e w1 ⟨rfl, hr1, ht1⟩; rw [Bool.and_false]; have HR1 := Lib.hid hr1; have HT1 := Lib.hid ht1; clear hr1 ht1)
    go_ret
    rw [HE.out]
    exact ⟨rfl, HR1.out, HT1.out.of_drew⟩
  | some nk =>
    obtain ⟨n, k⟩ := nk
    rw [hu] at HQ
    have hkl := (uintL_len (oct_drop hR.oct r.pos) hu).2.1
    rw [List.length_drop] at hkl
    have hn9 : (n : Int) ≤ 4294967295 := by have := (uintL_dec (oct_drop hR.oct r.pos) hu).1; omega
    have hpl := hR.pos
    obtain ⟨q, hq⟩ : ∃ q, r.pos + k = q := ⟨_, rfl⟩
    have HQ : Hid (∀ nn, Calls Try.prog 82 #[v, .int .i64 r.pos] (w.drewN nn) fun e w' => e = .returned (.tuple #[.int .u32 n, .int .i64 (q : Int), .bool true]) ∧ w' = w.drewN nn) := by rw [← hq]; exact HQ
    have hql : q ≤ l.length := by omega
    by_cases hn : n ≤ most
    · have hn1 : (n : Int) ≤ (most : Int) := by omega
      cases hk : r.ok with
      | true =>
        have HE := Lib.hid (numS_yes hu hn hk)
        rw [hq] at HE
        have HK := Lib.hid hk
        clear hR hu hm hkl hpl hq hk
        go_enter Try.func57, Try.ntmps57
        go_wp2_with fail
        go_quiet ((go_at_call 82; exact Calls.quiet_of_same (HQ.out _)))
        go_wp2_with (go_at_call 60; refine (HT.out _ (q : Int) true (fun h => ⟨by omega, by omega⟩)).mono ?_; rintro e w1 ⟨rfl, hr1, ht1⟩; rw [HK.out, Bool.true_and]; have HR1 := Lib.hid hr1; have HT1 := Lib.hid ht1; clear hr1 ht1)
        go_ret
        rw [HE.out]
        exact ⟨rfl, HR1.out, HT1.out.of_drew⟩
      | false =>
        have HE := Lib.hid (numS_bad (l := l) (most := most) hk (q : Int) true)
        have HK := Lib.hid hk
        clear hR hu hm hkl hpl hq hk
        go_enter Try.func57, Try.ntmps57
        go_wp2_with fail
        go_quiet ((go_at_call 82; exact Calls.quiet_of_same (HQ.out _)))
        go_wp2_with (go_at_call 60; refine (HT.out _ (q : Int) true (fun h => ⟨by omega, by omega⟩)).mono ?_; rintro e w1 ⟨rfl, hr1, ht1⟩; rw [HK.out, Bool.false_and]; have HR1 := Lib.hid hr1; have HT1 := Lib.hid ht1; clear hr1 ht1)
        go_ret
        rw [HE.out]
        exact ⟨rfl, HR1.out, HT1.out.of_drew⟩
    · have hn1 : (most : Int) < (n : Int) := by omega
      have HE := Lib.hid (numS_no (most := most) (.inr ⟨n, k, hu, by omega⟩) (q : Int))
      clear hR hu hm hkl hpl hq
      go_enter Try.func57, Try.ntmps57
      go_wp2_with fail
      go_quiet ((go_at_call 82; exact Calls.quiet_of_same (HQ.out _)))
      go_wp2_with (go_at_call 60; refine (HT.out _ (q : Int) false (fun h => by cases h)).mono ?_; rintro e w1 ⟨rfl, hr1, ht1⟩; rw [Bool.and_false]; have HR1 := Lib.hid hr1; have HT1 := Lib.hid ht1; clear hr1 ht1)
      go_ret
      rw [HE.out]
      exact ⟨rfl, HR1.out, HT1.out.of_drew⟩
theorem textS_no {r : Rd} {most : Nat} (h : textL l most r.pos = none) (x : Int) : textS l most r = (⟨#[]⟩, tookS r x false) := by
  unfold textS tookS
  obtain ⟨p, ok⟩ := r
  cases ok with
  | false => rfl
  | true => simp only [if_true] at *; rw [h]; rfl
theorem textS_yes {r : Rd} {most nx : Nat} {s : ByteArray} (h : textL l most r.pos = some (s, nx)) (hr : r.ok = true) : textS l most r = (s, tookS r (nx : Int) true) := by
  unfold textS tookS
  rw [if_pos hr, if_pos hr, h]; rfl
theorem textS_bad {r : Rd} {most : Nat} (hr : r.ok = false) (x : Int) (b : Bool) : textS l most r = (⟨#[]⟩, tookS r x b) := by
  unfold textS tookS
  rw [if_neg (by rw [hr]; decide), if_neg (by rw [hr]; decide)]
theorem textL_len {p most nx : Nat} {s : ByteArray} (h : textL l most p = some (s, nx)) : nx ≤ l.length ∧ s.size ≤ most := by
  unfold textL at h
  cases hu : uintL (l.drop p) with
  | none => rw [hu] at h; cases h
  | some nk =>
    obtain ⟨n, k⟩ := nk
    rw [hu] at h
    simp only [] at h
    by_cases hc : n ≤ most ∧ p + k + n ≤ l.length
    · rw [if_pos hc] at h; cases h
      exact ⟨hc.2, by rw [size_of, List.length_take]; omega⟩
    · rw [if_neg hc] at h; cases h
set_option maxHeartbeats 4000000 in
set_option maxRecDepth 100000 in
theorem text_r {r : Rd} (hR : RdAt w g v l r) (most : Nat) (hm : most ≤ 1000) :
    Calls Try.prog 50 #[.pointer (some ⟨g, 0, none⟩), .int .i64 most] w (RdP g v l w (textS l most r).2 (.string (textS l most r).1)) := by
  have HR := Lib.hid hR
  have l0 := hR.blk.cell 0
  have l1 := hR.blk.cell 1
  have HM := Lib.hid hm
  have HQ := Lib.hid (text_quiet hR most hm)
  have HT := Lib.hid (fun (n : Nat) (next : Int) (ok : Bool) (h : ok = true → 0 ≤ next ∧ next ≤ l.length) => took_any (hR.drewN n) next ok h)
  cases hu : textL l most r.pos with
  | none =>
    rw [hu] at HQ
    have HQ : Hid (∀ n, Calls Try.prog 79 #[v, .int .i64 r.pos, .int .i64 most] (w.drewN n) fun e w' => e = .returned (.tuple #[.string ⟨#[]⟩, .int .i64 0, .bool false]) ∧ w' = w.drewN n) := HQ
    have HE := Lib.hid (textS_no hu 0)
    clear hR hu hm
    go_enter Try.func50, Try.ntmps50
    go_wp2_with fail
    go_quiet ((go_at_call 79; exact Calls.quiet_of_same (HQ.out _)))
    go_wp2_with (go_at_call 60; refine (HT.out _ 0 false (fun h => by cases h)).mono ?_; rintro e w1 ⟨rfl, hr1, ht1⟩; rw [Bool.and_false]; have HR1 := Lib.hid hr1; have HT1 := Lib.hid ht1; clear hr1 ht1)
    go_ret
    rw [HE.out]
    exact ⟨rfl, HR1.out, HT1.out.of_drew⟩
  | some nk =>
    obtain ⟨s, q⟩ := nk
    rw [hu] at HQ
    have hql := (textL_len hu).1
    have HQ : Hid (∀ nn, Calls Try.prog 79 #[v, .int .i64 r.pos, .int .i64 most] (w.drewN nn) fun e w' => e = .returned (.tuple #[.string s, .int .i64 (q : Int), .bool true]) ∧ w' = w.drewN nn) := HQ
    cases hk : r.ok with
    | true =>
      have HE := Lib.hid (textS_yes hu hk)
      have HK := Lib.hid hk
      clear hR hu hm hk
      go_enter Try.func50, Try.ntmps50
      go_wp2_with fail
      go_quiet ((go_at_call 79; exact Calls.quiet_of_same (HQ.out _)))
      go_wp2_with (go_at_call 60; refine (HT.out _ (q : Int) true (fun h => ⟨by omega, by omega⟩)).mono ?_; rintro e w1 ⟨rfl, hr1, ht1⟩; rw [HK.out, Bool.true_and]; have HR1 := Lib.hid hr1; have HT1 := Lib.hid ht1; clear hr1 ht1)
      go_ret
      rw [HE.out]
      exact ⟨rfl, HR1.out, HT1.out.of_drew⟩
    | false =>
      have HE := Lib.hid (textS_bad (l := l) (most := most) hk (q : Int) true)
      have HK := Lib.hid hk
      clear hR hu hm hk
      go_enter Try.func50, Try.ntmps50
      go_wp2_with fail
      go_quiet ((go_at_call 79; exact Calls.quiet_of_same (HQ.out _)))
      go_wp2_with (go_at_call 60; refine (HT.out _ (q : Int) true (fun h => ⟨by omega, by omega⟩)).mono ?_; rintro e w1 ⟨rfl, hr1, ht1⟩; rw [HK.out, Bool.false_and]; have HR1 := Lib.hid hr1; have HT1 := Lib.hid ht1; clear hr1 ht1)
      go_ret
      rw [HE.out]
      exact ⟨rfl, HR1.out, HT1.out.of_drew⟩
end
end Go.Proofs.Ytgemnmceflcpcaa
