/- What was read was written so. No program in sight. -/
import Derived.Test.YtgemnmceflcpcaaSdQ
namespace Go.Proofs.Ytgemnmceflcpcaa
open Go Go.RowKit Go.Lib Go.Proofs.Ytgemnmceflcpcaa.Sy
set_option linter.unusedVariables false
set_option linter.unusedSimpArgs false
section
variable {l : List Int}
theorem num_bw (ho : Oct l) (most : Nat) : Bw l (numS l most) grps := fun r n r' h hk => by
  unfold numS at h
  cases hr : r.ok with
  | false => rw [if_neg (by rw [hr]; decide)] at h; cases h; rw [hr] at hk; cases hk
  | true =>
    rw [if_pos hr] at h
    cases hu : uintL (l.drop r.pos) with
    | none => rw [hu] at h; cases h; cases hk
    | some nk =>
      obtain ⟨m, k⟩ := nk
      rw [hu] at h
      simp only [] at h
      by_cases hm : m ≤ most
      · rw [if_pos hm] at h; cases h
        have := (uintL_dec (oct_drop ho r.pos) hu).2.2
        rw [List.drop_drop] at this
        exact ⟨rfl, this⟩
      · rw [if_neg hm] at h; cases h; cases hk
theorem txt_bw (ho : Oct l) (most : Nat) : Bw l (textS l most) txt := fun r s r' h hk => by
  unfold textS at h
  cases hr : r.ok with
  | false => rw [if_neg (by rw [hr]; decide)] at h; cases h; rw [hr] at hk; cases hk
  | true =>
    rw [if_pos hr] at h
    cases ht : textL l most r.pos with
    | none => rw [ht] at h; cases h; cases hk
    | some sn =>
      obtain ⟨s', nx⟩ := sn
      rw [ht] at h
      cases h
      unfold textL at ht
      cases hu : uintL (l.drop r.pos) with
      | none => rw [hu] at ht; cases ht
      | some nk =>
        obtain ⟨m, k⟩ := nk
        rw [hu] at ht
        simp only [] at ht
        by_cases hm : m ≤ most ∧ r.pos + k + m ≤ l.length
        · rw [if_pos hm] at ht; cases ht
          have h1 := (uintL_dec (oct_drop ho r.pos) hu).2.2
          rw [List.drop_drop] at h1
          have hlen : (strOfNums ((l.drop (r.pos + k)).take m)).size = m := by rw [size_of, List.length_take, List.length_drop]; omega
          refine ⟨rfl, ?_⟩
          unfold txt
          rw [hlen, strI_of (oct_take (oct_drop ho _) m), List.append_assoc]
          rw [show l.drop (r.pos + k + m) = (l.drop (r.pos + k)).drop m from (List.drop_drop ..).symm, List.take_append_drop]
          exact h1
        · rw [if_neg hm] at ht; cases ht
theorem byte_bw (may : Int → Bool) : Bw l (byteS l may) (fun c => [c]) := fun r c r' h hk => by
  unfold byteS at h
  cases hr : r.ok with
  | false => rw [if_neg (by rw [hr]; decide)] at h; cases h; rw [hr] at hk; cases hk
  | true =>
    rw [if_pos hr] at h
    by_cases hc : r.pos < l.length ∧ may (l.getD r.pos 0) = true
    · rw [if_pos hc] at h; cases h
      exact ⟨rfl, drop_get hc.1⟩
    · rw [if_neg hc] at h; cases h; cases hk
theorem word_bw (ho : Oct l) : ∀ r n r', wordS l r = (n, r') → r'.ok = true → r.ok = true ∧ (0 ≤ n ∧ n < 4294967296) ∧ l.drop r.pos = wrdB n ++ l.drop r'.pos := fun r n r' h hk => by
  unfold wordS at h
  cases hr : r.ok with
  | false => rw [if_neg (by rw [hr]; decide)] at h; cases h; rw [hr] at hk; cases hk
  | true =>
    rw [if_pos hr] at h
    by_cases hc : r.pos + 4 ≤ l.length
    · rw [if_pos hc] at h; cases h
      have h0 := oct_getD ho r.pos; have h1 := oct_getD ho (r.pos + 1); have h2 := oct_getD ho (r.pos + 2); have h3 := oct_getD ho (r.pos + 3)
      refine ⟨rfl, by unfold wordL; omega, ?_⟩
      rw [drop_get (show r.pos < l.length by omega), drop_get (show r.pos + 1 < l.length by omega), drop_get (show r.pos + 1 + 1 < l.length by omega), drop_get (show r.pos + 1 + 1 + 1 < l.length by omega)]
      have e0 : wordL l r.pos % 256 = l.getD r.pos 0 := by unfold wordL; omega
      have e1 : wordL l r.pos / 256 % 256 = l.getD (r.pos + 1) 0 := by unfold wordL; omega
      have e2 : wordL l r.pos / 65536 % 256 = l.getD (r.pos + 2) 0 := by unfold wordL; omega
      have e3 : wordL l r.pos / 16777216 % 256 = l.getD (r.pos + 3) 0 := by unfold wordL; omega
      unfold wrdB
      rw [e0, e1, e2, e3]; rfl
    · rw [if_neg hc] at h; cases h; cases hk
theorem wrd_sgn (w : Int) (h0 : 0 ≤ w) (h1 : w < 4294967296) : wrdB (sgnW w) = wrdB w := by
  unfold sgnW
  split
  · rfl
  · unfold wrdB
    rw [show (w - 4294967296) % 256 = w % 256 from by omega, show (w - 4294967296) / 256 % 256 = w / 256 % 256 from by omega, show (w - 4294967296) / 65536 % 256 = w / 65536 % 256 from by omega, show (w - 4294967296) / 16777216 % 256 = w / 16777216 % 256 from by omega]
theorem const_bw (ho : Oct l) : Bw l (constS l) cstB := fun r c r' h hk => by
  unfold constS at h
  simp only at h
  obtain ⟨a, r1, ha⟩ : ∃ a r1, textS l 20 r = (a, r1) := ⟨_, _, rfl⟩
  obtain ⟨t, r2, ht⟩ : ∃ t r2, byteS l typeB r1 = (t, r2) := ⟨_, _, rfl⟩
  simp only [ha, ht] at h
  by_cases h7 : t = 7
  · rw [if_pos h7] at h
    obtain ⟨s, r3, hs⟩ : ∃ s r3, textS l 200 r2 = (s, r3) := ⟨_, _, rfl⟩
    rw [hs] at h; cases h
    obtain ⟨k2, d2⟩ := txt_bw ho 200 _ _ _ hs hk
    obtain ⟨k1, d1⟩ := byte_bw typeB _ _ _ ht k2
    obtain ⟨k0, d0⟩ := txt_bw ho 20 _ _ _ ha k1
    refine ⟨k0, ?_⟩
    unfold cstB
    simp only [if_true]
    rw [d0, d1, d2, h7]; simp only [List.append_assoc]
  · rw [if_neg h7] at h
    obtain ⟨n, r3, hn⟩ : ∃ n r3, wordS l r2 = (n, r3) := ⟨_, _, rfl⟩
    rw [hn] at h; cases h
    obtain ⟨k2, hb, d2⟩ := word_bw ho _ _ _ hn hk
    obtain ⟨k1, d1⟩ := byte_bw typeB _ _ _ ht k2
    obtain ⟨k0, d0⟩ := txt_bw ho 20 _ _ _ ha k1
    refine ⟨k0, ?_⟩
    unfold cstB
    simp only
    rw [if_neg h7, d0, d1, d2]
    have hw : wrdB (if t = 1 then sgnW n else n) = wrdB n := by split; exact wrd_sgn n hb.1 hb.2; rfl
    rw [hw]; simp only [List.append_assoc]
theorem var_bw (ho : Oct l) : Bw l (varS l) varB := fun r c r' h hk => by
  unfold varS at h
  simp only at h
  obtain ⟨a, r1, ha⟩ : ∃ a r1, textS l 20 r = (a, r1) := ⟨_, _, rfl⟩
  obtain ⟨t, r2, ht⟩ : ∃ t r2, byteS l plainB r1 = (t, r2) := ⟨_, _, rfl⟩
  obtain ⟨n, r3, hn⟩ : ∃ n r3, numS l 4294967295 r2 = (n, r3) := ⟨_, _, rfl⟩
  simp only [ha, ht, hn] at h
  cases h
  obtain ⟨k2, d2⟩ := num_bw ho _ _ _ _ hn hk
  obtain ⟨k1, d1⟩ := byte_bw plainB _ _ _ ht k2
  obtain ⟨k0, d0⟩ := txt_bw ho 20 _ _ _ ha k1
  refine ⟨k0, ?_⟩
  rw [d0, d1, d2]
  unfold varB txt
  simp only [List.append_assoc, Int.toNat_natCast]
theorem par_bw (ho : Oct l) : Bw l (parS l) parB := fun r c r' h hk => by
  unfold parS at h
  simp only at h
  obtain ⟨t, r2, ht⟩ : ∃ t r2, byteS l plainB r = (t, r2) := ⟨_, _, rfl⟩
  obtain ⟨n, r3, hn⟩ : ∃ n r3, byteS l howB r2 = (n, r3) := ⟨_, _, rfl⟩
  have hb := how_bd ho r2
  simp only [ht, hn] at h hb
  cases h
  obtain ⟨k2, d2⟩ := byte_bw howB _ _ _ hn hk
  obtain ⟨k1, d1⟩ := byte_bw plainB _ _ _ ht k2
  refine ⟨k1, ?_⟩
  rw [d1, d2]
  have h4 : n = 0 ∨ n = 1 ∨ n = 2 ∨ n = 3 := by omega
  unfold parB howI
  rcases h4 with rfl | rfl | rfl | rfl <;> rfl
theorem rows_bw {α : Type} {one : Rd → α × Rd} {e : α → List Int} (h : Bw l one e) : ∀ (n : Nat) (r : Rd) (xs : List α) (r' : Rd), rowsS one n r = (xs, r') → r'.ok = true → r.ok = true ∧ xs.length = n ∧ l.drop r.pos = xs.flatMap e ++ l.drop r'.pos
  | 0, r, xs, r', hx, hk => by
    rw [rowsS_zero] at hx; cases hx
    exact ⟨hk, rfl, rfl⟩
  | n + 1, r, xs, r', hx, hk => by
    cases hr : r.ok with
    | false => rw [rowsS_bad _ _ hr] at hx; cases hx; rw [hr] at hk; cases hk
    | true =>
      obtain ⟨x, r1, h1⟩ : ∃ x r1, one r = (x, r1) := ⟨_, _, rfl⟩
      rw [rowsS_step _ _ hr h1] at hx
      obtain ⟨ys, r2, h2⟩ : ∃ ys r2, rowsS one n r1 = (ys, r2) := ⟨_, _, rfl⟩
      rw [h2] at hx; cases hx
      obtain ⟨k1, hl, d1⟩ := rows_bw h n r1 ys _ h2 hk
      obtain ⟨k0, d0⟩ := h _ _ _ h1 k1
      refine ⟨rfl, by rw [List.length_cons, hl], ?_⟩
      rw [d0, d1, List.flatMap_cons, List.append_assoc]
theorem count_bw {α : Type} {one : Rd → α × Rd} {e : α → List Int} (ho : Oct l) (most : Nat) (h : Bw l one e) : Bw l (countS l one most) (fun xs => grps xs.length ++ xs.flatMap e) := fun r xs r' hx hk => by
  unfold countS at hx
  obtain ⟨n, r1, hn⟩ : ∃ n r1, numS l most r = (n, r1) := ⟨_, _, rfl⟩
  rw [hn] at hx
  obtain ⟨k1, hl, d1⟩ := rows_bw h n r1 xs r' hx hk
  obtain ⟨k0, d0⟩ := num_bw ho most _ _ _ hn k1
  refine ⟨k0, ?_⟩
  simp only
  rw [d0, d1, hl, List.append_assoc]
theorem proc_bw (ho : Oct l) : Bw l (procS l) prB := fun r c r' h hk => by
  unfold procS at h
  simp only at h
  obtain ⟨a, r1, ha⟩ : ∃ a r1, textS l 20 r = (a, r1) := ⟨_, _, rfl⟩
  obtain ⟨ps, r2, hp⟩ : ∃ ps r2, countS l (parS l) 8 r1 = (ps, r2) := ⟨_, _, rfl⟩
  obtain ⟨f, r3, hf⟩ : ∃ f r3, byteS l resB r2 = (f, r3) := ⟨_, _, rfl⟩
  simp only [ha, hp, hf] at h
  cases h
  obtain ⟨k2, d2⟩ := byte_bw resB _ _ _ hf hk
  obtain ⟨k1, d1⟩ := count_bw ho 8 (par_bw ho) _ _ _ hp k2
  obtain ⟨k0, d0⟩ := txt_bw ho 20 _ _ _ ha k1
  refine ⟨k0, ?_⟩
  rw [d0, d1, d2]
  unfold prB parsB
  simp only [List.append_assoc]
/-- What is read is written as the same bytes. -/
theorem read_bw (ho : Oct l) (hh : headOk l) (hk : (readS l).2.ok = true) : l = symB (readS l).1 := by
  obtain ⟨a, r1, ha⟩ : ∃ a r1, textS l 20 ⟨4, true⟩ = (a, r1) := ⟨_, _, rfl⟩
  obtain ⟨cs, r2, hcs⟩ : ∃ cs r2, countS l (constS l) 200 r1 = (cs, r2) := ⟨_, _, rfl⟩
  obtain ⟨vs, r3, hvs⟩ : ∃ vs r3, countS l (varS l) 200 r2 = (vs, r3) := ⟨_, _, rfl⟩
  obtain ⟨ps, r4, hps⟩ : ∃ ps r4, countS l (procS l) 100 r3 = (ps, r4) := ⟨_, _, rfl⟩
  have hE : readS l = (⟨a, cs, vs, ps⟩, if r4.ok = true then ⟨r4.pos, decide (r4.pos = l.length)⟩ else r4) := by unfold readS; simp only [ha, hcs, hvs, hps]
  rw [hE] at hk ⊢
  simp only at hk ⊢
  cases h4 : r4.ok with
  | false => rw [if_neg (by rw [h4]; decide), h4] at hk; cases hk
  | true =>
    rw [if_pos h4] at hk
    have hp := of_decide_eq_true hk
    obtain ⟨k3, d3⟩ := count_bw ho 100 (proc_bw ho) _ _ _ hps h4
    obtain ⟨k2, d2⟩ := count_bw ho 200 (var_bw ho) _ _ _ hvs k3
    obtain ⟨k1, d1⟩ := count_bw ho 200 (const_bw ho) _ _ _ hcs k2
    obtain ⟨k0, d0⟩ := txt_bw ho 20 _ _ _ ha k1
    rw [d1, d2, d3, hp, List.drop_length, List.append_nil] at d0
    conv => lhs; rw [← List.take_append_drop 4 l, hh.2]
    rw [show l.drop 4 = l.drop (⟨4, true⟩ : Rd).pos from rfl, d0]
    unfold symB cstsB varsB prsB
    simp only [List.append_assoc]
/-- Bytes that are read as symbols are these symbols' bytes. -/
theorem dec_bytes (ho : Oct l) {s : Sm} {p : Int} (h : DecAns l s p 0) : p = 0 ∧ smOk s ∧ l = symB s := by
  generalize he : (0 : Int) = e at h
  cases h with
  | head h => cases he
  | wrong h hb => cases he
  | form h hb hn => cases he
  | right h hb hn => exact ⟨rfl, hn, read_bw ho h hb⟩
theorem head_sym {s : Sm} (h : smOk s) (more : List Int) (hl : (symB s ++ more).length ≤ 1048576) : headOk (symB s ++ more) := ⟨hl, by unfold symB; rfl⟩
/-- Right symbols are what their bytes are read as. -/
theorem dec_sym {s s' : Sm} (h : smOk s) {p e : Int} (k : DecAns (symB s) s' p e) : s' = s ∧ p = 0 ∧ e = 0 := by
  have hl := symB_len h
  have hr := read_fw h [] (l := symB s) (by rw [List.append_nil])
  have hh : headOk (symB s) := by have := head_sym h [] (by rw [List.append_nil]; omega); rwa [List.append_nil] at this
  exact k.same (by have := DecAns.right (l := symB s) hh (by rw [hr]; exact decide_eq_true rfl) (by rw [hr]; exact h); rw [hr] at this; exact this)
/-- .. and no longer ones. -/
theorem dec_more {s s' : Sm} (h : smOk s) {more : List Int} (hm : more ≠ []) {p e : Int} (k : DecAns (symB s ++ more) s' p e) : e = 131 := by
  by_cases hl : (symB s ++ more).length ≤ 1048576
  · have hr := read_fw h more (l := symB s ++ more) rfl
    have hne : decide ((symB s).length = (symB s ++ more).length) = false := decide_eq_false (by
      rw [List.length_append]; have := List.length_pos_iff.2 hm; omega)
    exact (k.same (DecAns.wrong (head_sym h more hl) (by rw [hr]; exact hne))).2.2
  · exact (k.same (DecAns.head (fun h => hl h.1))).2.2
/-- .. and no shorter ones. -/
theorem dec_less {s s' : Sm} (h : smOk s) {cut : Nat} (hc : cut < (symB s).length) {p e : Int} (k : DecAns ((symB s).take cut) s' p e) : e ≠ 0 := by
  rintro rfl
  obtain ⟨_, h1, h2⟩ := dec_bytes (oct_take (oct_sym h) cut) k
  have h3 : symB s = symB s' ++ (symB s).drop cut := by rw [← h2, List.take_append_drop]
  have hne : (symB s).drop cut ≠ [] := fun e => by have := congrArg List.length e; rw [List.length_drop] at this; simp at this; omega
  have hl := symB_len h
  have hr := read_fw h1 ((symB s).drop cut) (l := symB s) h3
  have hr2 := read_fw h [] (l := symB s) (by rw [List.append_nil])
  rw [hr] at hr2
  have := congrArg (fun x : Sm × Rd => x.2.ok) hr2
  have h4 := of_decide_eq_true (this.trans (show decide ((symB s).length = (symB s).length) = true from decide_eq_true rfl))
  rw [← h2, List.length_take] at h4
  omega
end
end Go.Proofs.Ytgemnmceflcpcaa
