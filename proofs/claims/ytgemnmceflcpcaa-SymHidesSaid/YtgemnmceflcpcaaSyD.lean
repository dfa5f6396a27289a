/- May a constant be. -/
import Derived.Test.YtgemnmceflcpcaaSyC
namespace Go.Proofs.Ytgemnmceflcpcaa
open Go Go.RowKit Go.Lib Go.Proofs.Ytgemnmceflcpcaa.Sy
set_option linter.unusedVariables false
set_option linter.unusedSimpArgs false
attribute [local go_sem ↓] exec_load_const exec_store_const exec_load_var exec_store_var exec_load_proc exec_store_proc
attribute [local go_sem] ccells vcells pcells
theorem str_ne {s : ByteArray} (h : s ≠ ⟨#[]⟩) : s.toList.isEmpty = false := by
  rw [ByteArray.toList_eq]
  cases e : s.data.toList with
  | nil => exact absurd (by cases s; congr 1; exact Array.toList_inj.1 e) h
  | cons a b => rfl
theorem str_ne2 {s : ByteArray} (h : s ≠ ⟨#[]⟩) : (s.toList == []) = false := by
  have := str_ne h
  cases e : s.toList with
  | nil => rw [e] at this; cases this
  | cons a b => rfl
section
variable {w : World}
set_option maxHeartbeats 4000000 in
theorem constant_any (c : Cst) (hf : CFit c) {k : Bool} (hc : IsB k (cstOk c)) : Calls Try.prog 24 #[.agg (ccells c)] w fun e w' => e = .returned (.bool k) ∧ Below w.heap.size w w' := by
  obtain ⟨nm, ty, n, s, sh⟩ := c
  obtain ⟨f1, f2, f3, f4⟩ := hf
  have HB := Lib.hid ((Below.refl w.heap.size w).alloc (Nat.le_refl _) (.cells #[.string nm, .int .i64 ty, .int .i64 n, .string s, .bool sh] 48))
  have HC := Lib.hid hc
  clear hc
  simp only at f1 f2 f3 f4
  dsimp only [ccells]
  cases sh with
  | false =>
    obtain rfl := HC.out.no (fun h => by have := h.1; simp at this)
    by_cases t7 : ty = 7
    · subst t7
      go_enter Try.func24, Try.ntmps24
      go_wp2_with fail
      go_ret
      exact ⟨rfl, HB.out⟩
    · go_enter Try.func24, Try.ntmps24
      go_wp2_with fail
      all_goals
        go_ret
        exact ⟨rfl, HB.out⟩
  | true =>
    have z0 := trivial
    by_cases t1 : ty = 1
    · subst t1
      by_cases hs : s = ⟨#[]⟩
      · subst hs
        by_cases n0 : n < -2147483648
        · have n1 : ¬ -2147483648 ≤ n := by omega
          obtain rfl := HC.out.no (fun h => by rcases h.2 with h | h | h | h | h <;> (simp at h; try omega))
          go_enter Try.func24, Try.ntmps24
          go_wp2_with fail
          go_ret
          exact ⟨by first | rfl | (refine ret_bool ?_; simp; omega), HB.out⟩
        · have n1 : -2147483648 ≤ n := by omega
          by_cases n2 : 2147483647 < n
          · have n3 : ¬ n ≤ 2147483647 := by omega
            obtain rfl := HC.out.no (fun h => by rcases h.2 with h | h | h | h | h <;> (simp at h; try omega))
            go_enter Try.func24, Try.ntmps24
            go_wp2_with fail
            go_ret
            exact ⟨by first | rfl | (refine ret_bool ?_; simp; omega), HB.out⟩
          · have n3 : n ≤ 2147483647 := by omega
            obtain rfl := HC.out.yes (⟨rfl, .inl ⟨rfl, rfl, by omega, by omega⟩⟩)
            go_enter Try.func24, Try.ntmps24
            go_wp2_with fail
            go_ret
            exact ⟨by first | rfl | (refine ret_bool ?_; simp; omega), HB.out⟩
      · have z1 := str_ne hs
        have z2 := str_ne2 hs
        obtain rfl := HC.out.no (fun h => by rcases h.2 with h | h | h | h | h <;> (simp at h; try exact hs h.1))
        go_enter Try.func24, Try.ntmps24
        go_wp2_with fail
        go_ret
        exact ⟨by first | rfl | (refine ret_bool ?_; simp; omega), HB.out⟩
    by_cases t2 : ty = 2
    · subst t2
      by_cases hs : s = ⟨#[]⟩
      · subst hs
        by_cases n0 : n < 0
        · have n1 : ¬ 0 ≤ n := by omega
          obtain rfl := HC.out.no (fun h => by rcases h.2 with h | h | h | h | h <;> (simp at h; try omega))
          go_enter Try.func24, Try.ntmps24
          go_wp2_with fail
          go_ret
          exact ⟨by first | rfl | (refine ret_bool ?_; simp; omega), HB.out⟩
        · have n1 : 0 ≤ n := by omega
          by_cases n2 : 1 < n
          · have n3 : ¬ n ≤ 1 := by omega
            obtain rfl := HC.out.no (fun h => by rcases h.2 with h | h | h | h | h <;> (simp at h; try omega))
            go_enter Try.func24, Try.ntmps24
            go_wp2_with fail
            go_ret
            exact ⟨by first | rfl | (refine ret_bool ?_; simp; omega), HB.out⟩
          · have n3 : n ≤ 1 := by omega
            obtain rfl := HC.out.yes (⟨rfl, .inr (.inl ⟨rfl, rfl, by omega, by omega⟩)⟩)
            go_enter Try.func24, Try.ntmps24
            go_wp2_with fail
            go_ret
            exact ⟨by first | rfl | (refine ret_bool ?_; simp; omega), HB.out⟩
      · have z1 := str_ne hs
        have z2 := str_ne2 hs
        obtain rfl := HC.out.no (fun h => by rcases h.2 with h | h | h | h | h <;> (simp at h; try exact hs h.1))
        go_enter Try.func24, Try.ntmps24
        go_wp2_with fail
        go_ret
        exact ⟨by first | rfl | (refine ret_bool ?_; simp; omega), HB.out⟩
    by_cases t3 : ty = 3
    · subst t3
      by_cases hs : s = ⟨#[]⟩
      · subst hs
        by_cases n0 : n < 0
        · have n1 : ¬ 0 ≤ n := by omega
          obtain rfl := HC.out.no (fun h => by rcases h.2 with h | h | h | h | h <;> (simp at h; try omega))
          go_enter Try.func24, Try.ntmps24
          go_wp2_with fail
          go_ret
          exact ⟨by first | rfl | (refine ret_bool ?_; simp; omega), HB.out⟩
        · have n1 : 0 ≤ n := by omega
          by_cases n2 : 255 < n
          · have n3 : ¬ n ≤ 255 := by omega
            obtain rfl := HC.out.no (fun h => by rcases h.2 with h | h | h | h | h <;> (simp at h; try omega))
            go_enter Try.func24, Try.ntmps24
            go_wp2_with fail
            go_ret
            exact ⟨by first | rfl | (refine ret_bool ?_; simp; omega), HB.out⟩
          · have n3 : n ≤ 255 := by omega
            obtain rfl := HC.out.yes (⟨rfl, .inr (.inr (.inl ⟨rfl, rfl, by omega, by omega⟩))⟩)
            go_enter Try.func24, Try.ntmps24
            go_wp2_with fail
            go_ret
            exact ⟨by first | rfl | (refine ret_bool ?_; simp; omega), HB.out⟩
      · have z1 := str_ne hs
        have z2 := str_ne2 hs
        obtain rfl := HC.out.no (fun h => by rcases h.2 with h | h | h | h | h <;> (simp at h; try exact hs h.1))
        go_enter Try.func24, Try.ntmps24
        go_wp2_with fail
        go_ret
        exact ⟨by first | rfl | (refine ret_bool ?_; simp; omega), HB.out⟩
    by_cases t5 : ty = 5
    · subst t5
      by_cases hs : s = ⟨#[]⟩
      · subst hs
        by_cases n0 : n < 0
        · have n1 : ¬ 0 ≤ n := by omega
          obtain rfl := HC.out.no (fun h => by rcases h.2 with h | h | h | h | h <;> (simp at h; try omega))
          go_enter Try.func24, Try.ntmps24
          go_wp2_with fail
          go_ret
          exact ⟨by first | rfl | (refine ret_bool ?_; simp; omega), HB.out⟩
        · have n1 : 0 ≤ n := by omega
          by_cases n2 : 4294967295 < n
          · have n3 : ¬ n ≤ 4294967295 := by omega
            obtain rfl := HC.out.no (fun h => by rcases h.2 with h | h | h | h | h <;> (simp at h; try omega))
            go_enter Try.func24, Try.ntmps24
            go_wp2_with fail
            go_ret
            exact ⟨by first | rfl | (refine ret_bool ?_; simp; omega), HB.out⟩
          · have n3 : n ≤ 4294967295 := by omega
            obtain rfl := HC.out.yes (⟨rfl, .inr (.inr (.inr (.inl ⟨rfl, rfl, by omega, by omega⟩)))⟩)
            go_enter Try.func24, Try.ntmps24
            go_wp2_with fail
            go_ret
            exact ⟨by first | rfl | (refine ret_bool ?_; simp; omega), HB.out⟩
      · have z1 := str_ne hs
        have z2 := str_ne2 hs
        obtain rfl := HC.out.no (fun h => by rcases h.2 with h | h | h | h | h <;> (simp at h; try exact hs h.1))
        go_enter Try.func24, Try.ntmps24
        go_wp2_with fail
        go_ret
        exact ⟨by first | rfl | (refine ret_bool ?_; simp; omega), HB.out⟩
    by_cases t7 : ty = 7
    · subst t7
      by_cases n0 : n = 0
      · subst n0
        by_cases s2 : s.size ≤ 200
        · have s3 : (s.size : Int) ≤ 200 := by omega
          obtain rfl := HC.out.yes (⟨rfl, .inr (.inr (.inr (.inr ⟨rfl, rfl, s2⟩)))⟩)
          go_enter Try.func24, Try.ntmps24
          go_wp2_with fail
          go_ret
          exact ⟨by first | rfl | (refine ret_bool ?_; simp; omega), HB.out⟩
        · have s3 : 200 < (s.size : Int) := by omega
          obtain rfl := HC.out.no (fun h => by rcases h.2 with h | h | h | h | h <;> (simp at h; try omega))
          go_enter Try.func24, Try.ntmps24
          go_wp2_with fail
          go_ret
          exact ⟨by first | rfl | (refine ret_bool ?_; simp; omega), HB.out⟩
      · have n1 : (n == 0) = false := by simpa using n0
        obtain rfl := HC.out.no (fun h => by rcases h.2 with h | h | h | h | h <;> (simp at h; try omega))
        go_enter Try.func24, Try.ntmps24
        go_wp2_with fail
        go_ret
        exact ⟨by first | rfl | (refine ret_bool ?_; simp; omega), HB.out⟩
    have e1 : (ty == 1) = false := by simpa using t1
    have e2 : (ty == 2) = false := by simpa using t2
    have e3 : (ty == 3) = false := by simpa using t3
    have e5 : (ty == 5) = false := by simpa using t5
    have e7 : (ty == 7) = false := by simpa using t7
    obtain rfl := HC.out.no (fun h => by rcases h.2 with h | h | h | h | h <;> (simp at h; omega))
    go_enter Try.func24, Try.ntmps24
    go_wp2_with fail
    go_ret
    exact ⟨by first | rfl | (refine ret_bool ?_; simp; omega), HB.out⟩
end
end Go.Proofs.Ytgemnmceflcpcaa
