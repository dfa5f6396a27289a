/- What is written is read as it was; what is read was written so. No program in sight. -/
import Derived.Test.YtgemnmceflcpcaaQG
namespace Go.Proofs.Ytgemnmceflcpcaa
open Go Go.RowKit Go.Lib Go.Proofs.Ytgemnmceflcpcaa.Sy
set_option linter.unusedVariables false
set_option linter.unusedSimpArgs false
theorem nums_self (s : ByteArray) : strOfNums (strI s) = s := by
  unfold strOfNums strI
  simp only [List.map_map]
  rw [show ((fun x : Int => UInt8.ofNat x.toNat) ∘ fun b : UInt8 => (b.toNat : Int)) = id from by funext b; simp]
  simp
section
variable {l : List Int}
/-- Read at a place, it is just what was written there. -/
def Fw {α : Type} (l : List Int) (p : Rd → α × Rd) (e : List Int) (x : α) : Prop := ∀ pos rest, l.drop pos = e ++ rest → p ⟨pos, true⟩ = (x, ⟨pos + e.length, true⟩)
/-- What was read was written so. -/
def Bw {α : Type} (l : List Int) (p : Rd → α × Rd) (e : α → List Int) : Prop := ∀ r x r', p r = (x, r') → r'.ok = true → r.ok = true ∧ l.drop r.pos = e x ++ l.drop r'.pos
theorem num_fw {n most : Nat} (h : n ≤ most) (h2 : most ≤ 4294967295) : Fw l (numS l most) (grps n) n := fun pos rest hd => by
  unfold numS
  rw [if_pos rfl, show (⟨pos, true⟩ : Rd).pos = pos from rfl, hd, uintL_enc (by omega)]
  simp only []
  rw [if_pos h]
theorem drop_len {e rest : List Int} {pos : Nat} (h : l.drop pos = e ++ rest) (he : 0 < e.length) : pos + e.length ≤ l.length := by
  have := congrArg List.length h
  rw [List.length_drop, List.length_append] at this
  omega
theorem grps_pos (n : Nat) : 0 < (grps n).length := by
  by_cases h : n < 128
  · rw [grps_lt h]; simp
  · rw [grps_ge h]; simp
theorem txt_fw {s : ByteArray} {most : Nat} (h : s.size ≤ most) (h2 : most ≤ 1000) : Fw l (textS l most) (txt s) s := fun pos rest hd => by
  have hle := drop_len hd (by unfold txt; rw [List.length_append]; have := grps_pos s.size; omega)
  have hd' : l.drop pos = grps s.size ++ (strI s ++ rest) := by rw [hd]; unfold txt; rw [List.append_assoc]
  have hd2 := drop_app hd'
  have hlen : (txt s).length = (grps s.size).length + s.size := by unfold txt; rw [List.length_append, strI_len]
  have ht : textL l most pos = some (s, pos + (txt s).length) := by
    unfold textL
    rw [hd', uintL_enc (by omega)]
    simp only []
    rw [if_pos ⟨h, by omega⟩, hd2, show (strI s ++ rest).take s.size = strI s from by rw [← strI_len, List.take_left], nums_self, hlen, Nat.add_assoc]
  unfold textS
  rw [if_pos rfl, show (⟨pos, true⟩ : Rd).pos = pos from rfl, ht]
theorem drop_head {c : Int} {rest : List Int} {pos : Nat} (h : l.drop pos = [c] ++ rest) : pos < l.length ∧ l.getD pos 0 = c := by
  have h1 := drop_len h (by simp)
  simp only [List.length_singleton] at h1
  have h2 := drop_get (l := l) (p := pos) (by omega)
  rw [h] at h2
  exact ⟨by omega, (List.cons.inj h2).1.symm⟩
theorem byte_fw {c : Int} {may : Int → Bool} (h : may c = true) : Fw l (byteS l may) [c] c := fun pos rest hd => by
  obtain ⟨h1, h2⟩ := drop_head hd
  unfold byteS
  rw [if_pos rfl, show (⟨pos, true⟩ : Rd).pos = pos from rfl, h2, if_pos ⟨h1, h⟩]; rfl
theorem word_bytes (n : Int) : n % 256 + n / 256 % 256 * 256 + n / 65536 % 256 * 65536 + n / 16777216 % 256 * 16777216 = n % 4294967296 := by omega
theorem word_fw (n : Int) : Fw l (wordS l) (wrdB n) (n % 4294967296) := fun pos rest hd => by
  have h0 := drop_len hd (by simp [wrdB])
  simp only [wrdB, List.length_cons, List.length_nil] at h0
  have a0 := drop_head (l := l) (pos := pos) (by rw [hd]; rfl : l.drop pos = [n % 256] ++ ([n / 256 % 256, n / 65536 % 256, n / 16777216 % 256] ++ rest))
  have d1 : l.drop (pos + 1) = [n / 256 % 256] ++ ([n / 65536 % 256, n / 16777216 % 256] ++ rest) := drop_app (e := [n % 256]) (by rw [hd]; rfl)
  have d2 : l.drop (pos + 2) = [n / 65536 % 256] ++ ([n / 16777216 % 256] ++ rest) := drop_app (e := [n % 256, n / 256 % 256]) (by rw [hd]; rfl)
  have d3 : l.drop (pos + 3) = [n / 16777216 % 256] ++ rest := drop_app (e := [n % 256, n / 256 % 256, n / 65536 % 256]) (by rw [hd]; rfl)
  have a1 := drop_head d1
  have a2 := drop_head d2
  have a3 := drop_head d3
  unfold wordS wordL
  rw [if_pos rfl, show (⟨pos, true⟩ : Rd).pos = pos from rfl, if_pos (by omega), a0.2, a1.2, a2.2, a3.2, word_bytes]; rfl
theorem drop_split {a b : List Int} {rest : List Int} {pos : Nat} (h : l.drop pos = a ++ b ++ rest) : l.drop pos = a ++ (b ++ rest) ∧ l.drop (pos + a.length) = b ++ rest := by
  rw [List.append_assoc] at h
  exact ⟨h, drop_app h⟩
theorem const_fw {c : Cst} (hc : cstOk c) (hn : c.name.size ≤ 20) : Fw l (constS l) (cstB c) c := fun pos rest hd => by
  obtain ⟨nm, t, n, s, sh⟩ := c
  unfold cstB at hd
  obtain ⟨hd1, hd2⟩ := drop_split (a := txt nm ++ [t]) hd
  obtain ⟨hd3, hd4⟩ := drop_split (a := txt nm) (b := [t]) (by rw [hd1] : l.drop pos = (txt nm ++ [t]) ++ _)
  have h1 := txt_fw (l := l) hn (by omega) pos _ hd3
  rw [List.length_append, ← Nat.add_assoc] at hd2
  have hlen : (cstB ⟨nm, t, n, s, sh⟩).length = (txt nm).length + 1 + (if t = 7 then txt s else wrdB n).length := by unfold cstB; rw [List.length_append, List.length_append]; rfl
  have ht : typeB t = true := by
    unfold typeB
    obtain ⟨_, h | h | h | h | h⟩ := hc <;> (have := h.1; simp only at this; subst this; decide)
  have h2 := byte_fw (l := l) ht (pos + (txt nm).length) _ hd4
  simp only [List.length_singleton] at h2 hd2
  have hsh : sh = true := hc.1
  unfold constS
  simp only [h1, h2]
  by_cases h7 : t = 7
  · subst h7
    have h5 : n = 0 ∧ s.size ≤ 200 := by
      obtain ⟨_, h | h | h | h | h⟩ := hc
      · exact absurd h.1 (show ¬ ((7 : Int) = 1) by decide)
      · exact absurd h.1 (show ¬ ((7 : Int) = 2) by decide)
      · exact absurd h.1 (show ¬ ((7 : Int) = 3) by decide)
      · exact absurd h.1 (show ¬ ((7 : Int) = 5) by decide)
      · exact h.2
    rw [if_pos rfl] at hd2 hlen ⊢
    rw [txt_fw (l := l) h5.2 (by omega) _ _ hd2, hlen, h5.1, hsh, Nat.add_assoc, Nat.add_assoc, Nat.add_assoc]
  · rw [if_neg h7] at hd2 hlen ⊢
    have hs : s = ⟨#[]⟩ ∧ n = (if t = 1 then sgnW (n % 4294967296) else n % 4294967296) := by
      unfold sgnW
      obtain ⟨_, h | h | h | h | h⟩ := hc
      · have := h.1; simp only at this h; subst this; exact ⟨h.2.1, by rw [if_pos rfl]; split <;> omega⟩
      · have := h.1; simp only at this h; subst this; exact ⟨h.2.1, by rw [if_neg (by decide)]; omega⟩
      · have := h.1; simp only at this h; subst this; exact ⟨h.2.1, by rw [if_neg (by decide)]; omega⟩
      · have := h.1; simp only at this h; subst this; exact ⟨h.2.1, by rw [if_neg (by decide)]; omega⟩
      · exact absurd h.1 h7
    rw [word_fw (l := l) n _ _ hd2, hlen, hsh, hs.1]
    simp only []
    rw [← hs.2, Nat.add_assoc, Nat.add_assoc, Nat.add_assoc]
theorem plainB_of {f : Int} (h : plainF f) : plainB f = true := by unfold plainB plainF at *; exact decide_eq_true h
theorem var_fw {v : Vr} (hv : vrOk v) (hn : v.name.size ≤ 20) : Fw l (varS l) (varB v) v := fun pos rest hd => by
  obtain ⟨nm, f, n, o, rf⟩ := v
  have hb : varB ⟨nm, f, n, o, rf⟩ = txt nm ++ [f] ++ grps n.toNat := rfl
  rw [hb] at hd ⊢
  obtain ⟨hd1, hd2⟩ := drop_split (a := txt nm ++ [f]) hd
  obtain ⟨hd3, hd4⟩ := drop_split (a := txt nm) (b := [f]) (by rw [hd1] : l.drop pos = (txt nm ++ [f]) ++ _)
  have h1 := txt_fw (l := l) hn (by omega) pos _ hd3
  rw [List.length_append, ← Nat.add_assoc] at hd2
  have h2 := byte_fw (l := l) (plainB_of hv.1) (pos + (txt nm).length) _ hd4
  simp only [List.length_singleton] at h2 hd2
  have hl := vr_fit hv
  have h0 := hv.2.1
  simp only at hl h0
  have h3 := num_fw (l := l) (n := n.toNat) (most := 4294967295) (by omega) (by omega) _ _ hd2
  have ho : o = false := hv.2.2.2.1
  have hr : rf = false := hv.2.2.2.2
  unfold varS
  simp only [h1, h2, h3, ho, hr]
  rw [List.length_append, List.length_append, List.length_singleton, show ((n.toNat : Nat) : Int) = n from by omega, Nat.add_assoc, Nat.add_assoc, Nat.add_assoc]
theorem par_fw {v : Vr} (hf : plainF v.form) (hn : v.name = ⟨#[]⟩) (hl : v.len = 0) : Fw l (parS l) (parB v) v := fun pos rest hd => by
  obtain ⟨nm, f, n, o, rf⟩ := v
  simp only at hn hl hf
  subst hn hl
  have hb : parB ⟨⟨#[]⟩, f, 0, o, rf⟩ = [f] ++ [howI ⟨⟨#[]⟩, f, 0, o, rf⟩] := rfl
  rw [hb] at hd ⊢
  obtain ⟨hd1, hd2⟩ := drop_split hd
  have h1 := byte_fw (l := l) (plainB_of hf) pos _ hd1
  have h2 := byte_fw (l := l) (may := howB) (c := howI ⟨⟨#[]⟩, f, 0, o, rf⟩) (by cases o <;> cases rf <;> rfl) _ _ hd2
  unfold parS
  simp only [h1, h2]
  cases o <;> cases rf <;> rfl
theorem rows_fw {α : Type} {one : Rd → α × Rd} {e : α → List Int} : ∀ (xs : List α), (∀ x ∈ xs, Fw l one (e x) x) → Fw l (rowsS one xs.length) (xs.flatMap e) xs
  | [], _ => fun pos rest hd => by simp [rowsS]
  | x :: xs, h => fun pos rest hd => by
    rw [List.flatMap_cons] at hd ⊢
    obtain ⟨hd1, hd2⟩ := drop_split hd
    have h1 := h x (by simp) pos _ hd1
    have h2 := rows_fw xs (fun y hy => h y (by simp [hy])) _ _ hd2
    rw [List.length_cons, rowsS_step _ _ rfl h1, h2, List.length_append, Nat.add_assoc]
theorem count_fw {α : Type} {one : Rd → α × Rd} {e : α → List Int} {xs : List α} {most : Nat} (hm : most ≤ 1000) (hl : xs.length ≤ most) (h : ∀ x ∈ xs, Fw l one (e x) x) : Fw l (countS l one most) (grps xs.length ++ xs.flatMap e) xs := fun pos rest hd => by
  obtain ⟨hd1, hd2⟩ := drop_split hd
  have h1 := num_fw (l := l) hl (by omega) pos _ hd1
  unfold countS
  rw [h1, rows_fw xs h _ _ hd2, List.length_append, Nat.add_assoc]
theorem resB_of {f : Int} (h : f = 0 ∨ plainF f) : resB f = true := by unfold resB plainF at *; exact decide_eq_true h
theorem proc_fw {p : Pr} (hp : prOk p) (hn : p.name.size ≤ 20) : Fw l (procS l) (prB p) p := fun pos rest hd => by
  obtain ⟨nm, ps, f⟩ := p
  have hb : prB ⟨nm, ps, f⟩ = txt nm ++ (grps ps.length ++ ps.flatMap parB) ++ [f] := by unfold prB parsB; simp only [List.append_assoc]
  rw [hb] at hd ⊢
  obtain ⟨hd1, hd2⟩ := drop_split (a := txt nm ++ (grps ps.length ++ ps.flatMap parB)) hd
  obtain ⟨hd3, hd4⟩ := drop_split (a := txt nm) (b := grps ps.length ++ ps.flatMap parB) (by rw [hd1] : l.drop pos = (txt nm ++ (grps ps.length ++ ps.flatMap parB)) ++ _)
  have h1 := txt_fw (l := l) hn (by omega) pos _ hd3
  have h2 := count_fw (l := l) (one := parS l) (e := parB) (xs := ps) (most := 8) (by omega) hp.2.1 (fun x hx => par_fw (hp.1 x hx).1 (hp.1 x hx).2.1 (hp.1 x hx).2.2) _ _ hd4
  rw [List.length_append, ← Nat.add_assoc] at hd2
  have h3 := byte_fw (l := l) (resB_of hp.2.2) _ _ hd2
  unfold procS
  simp only [h1, h2]
  simp only at h3
  rw [h3]
  simp only [List.length_append, List.length_singleton, Nat.add_assoc]
/-- Right symbols are read from their bytes, whatever stands behind. -/
theorem read_fw {s : Sm} (h : smOk s) (more : List Int) (hl : l = symB s ++ more) : readS l = (s, ⟨(symB s).length, decide ((symB s).length = l.length)⟩) := by
  obtain ⟨nm, cs, vs, ps⟩ := s
  have hb : symB ⟨nm, cs, vs, ps⟩ = [67, 82, 83, 49] ++ txt nm ++ (grps cs.length ++ cs.flatMap cstB) ++ (grps vs.length ++ vs.flatMap varB) ++ (grps ps.length ++ ps.flatMap prB) := by unfold symB cstsB varsB prsB; simp only [List.append_assoc]
  obtain ⟨k0, k1, k2, k3, _, _, kc, kv, kp⟩ := id h
  have hd0 : l.drop 4 = txt nm ++ (grps cs.length ++ cs.flatMap cstB) ++ (grps vs.length ++ vs.flatMap varB) ++ (grps ps.length ++ ps.flatMap prB) ++ more := by
    rw [hl, hb]; simp only [List.append_assoc]; rfl
  obtain ⟨e1, e2⟩ := drop_split (a := txt nm ++ (grps cs.length ++ cs.flatMap cstB) ++ (grps vs.length ++ vs.flatMap varB)) hd0
  obtain ⟨e3, e4⟩ := drop_split (a := txt nm ++ (grps cs.length ++ cs.flatMap cstB)) e1
  obtain ⟨e5, e6⟩ := drop_split (a := txt nm) e3
  have h1 := txt_fw (l := l) k0.2.1 (by omega) 4 _ e5
  have h2 := count_fw (l := l) (one := constS l) (e := cstB) (xs := cs) (most := 200) (by omega) k1 (fun x hx => const_fw (kc x hx) (cst_name h hx)) _ _ e6
  rw [List.length_append, ← Nat.add_assoc] at e4
  have h3 := count_fw (l := l) (one := varS l) (e := varB) (xs := vs) (most := 200) (by omega) k2 (fun x hx => var_fw (kv x hx) (vr_name h hx)) _ _ e4
  rw [List.length_append, ← Nat.add_assoc, List.length_append, ← Nat.add_assoc] at e2
  have h4 := count_fw (l := l) (one := procS l) (e := prB) (xs := ps) (most := 100) (by omega) k3 (fun x hx => proc_fw (kp x hx) (pr_name h hx)) _ _ e2
  have hlen : (symB ⟨nm, cs, vs, ps⟩).length = 4 + (txt nm).length + (grps cs.length ++ cs.flatMap cstB).length + (grps vs.length ++ vs.flatMap varB).length + (grps ps.length ++ ps.flatMap prB).length := by
    rw [hb, List.length_append, List.length_append, List.length_append, List.length_append]; rfl
  unfold readS
  simp only [h1, h2, h3, h4, if_true, hlen]
end
end Go.Proofs.Ytgemnmceflcpcaa
namespace Go.Proofs.Ytgemnmceflcpcaa
open Go Go.RowKit Go.Lib Go.Proofs.Ytgemnmceflcpcaa.Sy
set_option linter.unusedVariables false
set_option linter.unusedSimpArgs false
section
variable {l : List Int}
theorem num_bw (ho : Oct l) (most : Nat) : Bw l (numS l most) grps := fun r n r' h hk => by
  unfold numS at h
  cases hr : r.ok with
  | false => rw [if_neg (by rw [hr]; decide)] at h; cases h; rw [hr] at hk; cases hk
  | true =>
    rw [if_pos hr] at h
    cases hu : uintL (l.drop r.pos) with
    | none => rw [hu] at h; cases h; cases hk
    | some nk =>
      obtain ⟨m, k⟩ := nk
      rw [hu] at h
      simp only [] at h
      by_cases hm : m ≤ most
      · rw [if_pos hm] at h; cases h
        have := (uintL_dec (oct_drop ho r.pos) hu).2.2
        rw [List.drop_drop] at this
        exact ⟨rfl, this⟩
      · rw [if_neg hm] at h; cases h; cases hk
theorem txt_bw (ho : Oct l) (most : Nat) : Bw l (textS l most) txt := fun r s r' h hk => by
  unfold textS at h
  cases hr : r.ok with
  | false => rw [if_neg (by rw [hr]; decide)] at h; cases h; rw [hr] at hk; cases hk
  | true =>
    rw [if_pos hr] at h
    cases ht : textL l most r.pos with
    | none => rw [ht] at h; cases h; cases hk
    | some sn =>
      obtain ⟨s', nx⟩ := sn
      rw [ht] at h
      cases h
      unfold textL at ht
      cases hu : uintL (l.drop r.pos) with
      | none => rw [hu] at ht; cases ht
      | some nk =>
        obtain ⟨m, k⟩ := nk
        rw [hu] at ht
        simp only [] at ht
        by_cases hm : m ≤ most ∧ r.pos + k + m ≤ l.length
        · rw [if_pos hm] at ht; cases ht
          have h1 := (uintL_dec (oct_drop ho r.pos) hu).2.2
          rw [List.drop_drop] at h1
          have hlen : (strOfNums ((l.drop (r.pos + k)).take m)).size = m := by rw [size_of, List.length_take, List.length_drop]; omega
          refine ⟨rfl, ?_⟩
          unfold txt
          rw [hlen, strI_of (oct_take (oct_drop ho _) m), List.append_assoc]
          rw [show l.drop (r.pos + k + m) = (l.drop (r.pos + k)).drop m from (List.drop_drop ..).symm, List.take_append_drop]
          exact h1
        · rw [if_neg hm] at ht; cases ht
theorem byte_bw (may : Int → Bool) : Bw l (byteS l may) (fun c => [c]) := fun r c r' h hk => by
  unfold byteS at h
  cases hr : r.ok with
  | false => rw [if_neg (by rw [hr]; decide)] at h; cases h; rw [hr] at hk; cases hk
  | true =>
    rw [if_pos hr] at h
    by_cases hc : r.pos < l.length ∧ may (l.getD r.pos 0) = true
    · rw [if_pos hc] at h; cases h
      exact ⟨rfl, drop_get hc.1⟩
    · rw [if_neg hc] at h; cases h; cases hk
theorem word_bw (ho : Oct l) : ∀ r n r', wordS l r = (n, r') → r'.ok = true → r.ok = true ∧ (0 ≤ n ∧ n < 4294967296) ∧ l.drop r.pos = wrdB n ++ l.drop r'.pos := fun r n r' h hk => by
  unfold wordS at h
  cases hr : r.ok with
  | false => rw [if_neg (by rw [hr]; decide)] at h; cases h; rw [hr] at hk; cases hk
  | true =>
    rw [if_pos hr] at h
    by_cases hc : r.pos + 4 ≤ l.length
    · rw [if_pos hc] at h; cases h
      have h0 := oct_getD ho r.pos; have h1 := oct_getD ho (r.pos + 1); have h2 := oct_getD ho (r.pos + 2); have h3 := oct_getD ho (r.pos + 3)
      refine ⟨rfl, by unfold wordL; omega, ?_⟩
      rw [drop_get (show r.pos < l.length by omega), drop_get (show r.pos + 1 < l.length by omega), drop_get (show r.pos + 1 + 1 < l.length by omega), drop_get (show r.pos + 1 + 1 + 1 < l.length by omega)]
      have e0 : wordL l r.pos % 256 = l.getD r.pos 0 := by unfold wordL; omega
      have e1 : wordL l r.pos / 256 % 256 = l.getD (r.pos + 1) 0 := by unfold wordL; omega
      have e2 : wordL l r.pos / 65536 % 256 = l.getD (r.pos + 2) 0 := by unfold wordL; omega
      have e3 : wordL l r.pos / 16777216 % 256 = l.getD (r.pos + 3) 0 := by unfold wordL; omega
      unfold wrdB
      rw [e0, e1, e2, e3]; rfl
    · rw [if_neg hc] at h; cases h; cases hk
theorem wrd_sgn (w : Int) (h0 : 0 ≤ w) (h1 : w < 4294967296) : wrdB (sgnW w) = wrdB w := by
  unfold sgnW
  split
  · rfl
  · unfold wrdB
    rw [show (w - 4294967296) % 256 = w % 256 from by omega, show (w - 4294967296) / 256 % 256 = w / 256 % 256 from by omega, show (w - 4294967296) / 65536 % 256 = w / 65536 % 256 from by omega, show (w - 4294967296) / 16777216 % 256 = w / 16777216 % 256 from by omega]
theorem const_bw (ho : Oct l) : Bw l (constS l) cstB := fun r c r' h hk => by
  unfold constS at h
  simp only at h
  obtain ⟨a, r1, ha⟩ : ∃ a r1, textS l 20 r = (a, r1) := ⟨_, _, rfl⟩
  obtain ⟨t, r2, ht⟩ : ∃ t r2, byteS l typeB r1 = (t, r2) := ⟨_, _, rfl⟩
  simp only [ha, ht] at h
  by_cases h7 : t = 7
  · rw [if_pos h7] at h
    obtain ⟨s, r3, hs⟩ : ∃ s r3, textS l 200 r2 = (s, r3) := ⟨_, _, rfl⟩
    rw [hs] at h; cases h
    obtain ⟨k2, d2⟩ := txt_bw ho 200 _ _ _ hs hk
    obtain ⟨k1, d1⟩ := byte_bw typeB _ _ _ ht k2
    obtain ⟨k0, d0⟩ := txt_bw ho 20 _ _ _ ha k1
    refine ⟨k0, ?_⟩
    unfold cstB
    simp only [if_true]
    rw [d0, d1, d2, h7]; simp only [List.append_assoc]
  · rw [if_neg h7] at h
    obtain ⟨n, r3, hn⟩ : ∃ n r3, wordS l r2 = (n, r3) := ⟨_, _, rfl⟩
    rw [hn] at h; cases h
    obtain ⟨k2, hb, d2⟩ := word_bw ho _ _ _ hn hk
    obtain ⟨k1, d1⟩ := byte_bw typeB _ _ _ ht k2
    obtain ⟨k0, d0⟩ := txt_bw ho 20 _ _ _ ha k1
    refine ⟨k0, ?_⟩
    unfold cstB
    simp only
    rw [if_neg h7, d0, d1, d2]
    have hw : wrdB (if t = 1 then sgnW n else n) = wrdB n := by split; exact wrd_sgn n hb.1 hb.2; rfl
    rw [hw]; simp only [List.append_assoc]
theorem var_bw (ho : Oct l) : Bw l (varS l) varB := fun r c r' h hk => by
  unfold varS at h
  simp only at h
  obtain ⟨a, r1, ha⟩ : ∃ a r1, textS l 20 r = (a, r1) := ⟨_, _, rfl⟩
  obtain ⟨t, r2, ht⟩ : ∃ t r2, byteS l plainB r1 = (t, r2) := ⟨_, _, rfl⟩
  obtain ⟨n, r3, hn⟩ : ∃ n r3, numS l 4294967295 r2 = (n, r3) := ⟨_, _, rfl⟩
  simp only [ha, ht, hn] at h
  cases h
  obtain ⟨k2, d2⟩ := num_bw ho _ _ _ _ hn hk
  obtain ⟨k1, d1⟩ := byte_bw plainB _ _ _ ht k2
  obtain ⟨k0, d0⟩ := txt_bw ho 20 _ _ _ ha k1
  refine ⟨k0, ?_⟩
  rw [d0, d1, d2]
  unfold varB txt
  simp only [List.append_assoc, Int.toNat_natCast]
theorem par_bw (ho : Oct l) : Bw l (parS l) parB := fun r c r' h hk => by
  unfold parS at h
  simp only at h
  obtain ⟨t, r2, ht⟩ : ∃ t r2, byteS l plainB r = (t, r2) := ⟨_, _, rfl⟩
  obtain ⟨n, r3, hn⟩ : ∃ n r3, byteS l howB r2 = (n, r3) := ⟨_, _, rfl⟩
  have hb := how_bd ho r2
  simp only [ht, hn] at h hb
  cases h
  obtain ⟨k2, d2⟩ := byte_bw howB _ _ _ hn hk
  obtain ⟨k1, d1⟩ := byte_bw plainB _ _ _ ht k2
  refine ⟨k1, ?_⟩
  rw [d1, d2]
  have h4 : n = 0 ∨ n = 1 ∨ n = 2 ∨ n = 3 := by omega
  unfold parB howI
  rcases h4 with rfl | rfl | rfl | rfl <;> rfl
theorem rows_bw {α : Type} {one : Rd → α × Rd} {e : α → List Int} (h : Bw l one e) : ∀ (n : Nat) (r : Rd) (xs : List α) (r' : Rd), rowsS one n r = (xs, r') → r'.ok = true → r.ok = true ∧ xs.length = n ∧ l.drop r.pos = xs.flatMap e ++ l.drop r'.pos
  | 0, r, xs, r', hx, hk => by
    rw [rowsS_zero] at hx; cases hx
    exact ⟨hk, rfl, rfl⟩
  | n + 1, r, xs, r', hx, hk => by
    cases hr : r.ok with
    | false => rw [rowsS_bad _ _ hr] at hx; cases hx; rw [hr] at hk; cases hk
    | true =>
      obtain ⟨x, r1, h1⟩ : ∃ x r1, one r = (x, r1) := ⟨_, _, rfl⟩
      rw [rowsS_step _ _ hr h1] at hx
      obtain ⟨ys, r2, h2⟩ : ∃ ys r2, rowsS one n r1 = (ys, r2) := ⟨_, _, rfl⟩
      rw [h2] at hx; cases hx
      obtain ⟨k1, hl, d1⟩ := rows_bw h n r1 ys _ h2 hk
      obtain ⟨k0, d0⟩ := h _ _ _ h1 k1
      refine ⟨rfl, by rw [List.length_cons, hl], ?_⟩
      rw [d0, d1, List.flatMap_cons, List.append_assoc]
theorem count_bw {α : Type} {one : Rd → α × Rd} {e : α → List Int} (ho : Oct l) (most : Nat) (h : Bw l one e) : Bw l (countS l one most) (fun xs => grps xs.length ++ xs.flatMap e) := fun r xs r' hx hk => by
  unfold countS at hx
  obtain ⟨n, r1, hn⟩ : ∃ n r1, numS l most r = (n, r1) := ⟨_, _, rfl⟩
  rw [hn] at hx
  obtain ⟨k1, hl, d1⟩ := rows_bw h n r1 xs r' hx hk
  obtain ⟨k0, d0⟩ := num_bw ho most _ _ _ hn k1
  refine ⟨k0, ?_⟩
  simp only
  rw [d0, d1, hl, List.append_assoc]
theorem proc_bw (ho : Oct l) : Bw l (procS l) prB := fun r c r' h hk => by
  unfold procS at h
  simp only at h
  obtain ⟨a, r1, ha⟩ : ∃ a r1, textS l 20 r = (a, r1) := ⟨_, _, rfl⟩
  obtain ⟨ps, r2, hp⟩ : ∃ ps r2, countS l (parS l) 8 r1 = (ps, r2) := ⟨_, _, rfl⟩
  obtain ⟨f, r3, hf⟩ : ∃ f r3, byteS l resB r2 = (f, r3) := ⟨_, _, rfl⟩
  simp only [ha, hp, hf] at h
  cases h
  obtain ⟨k2, d2⟩ := byte_bw resB _ _ _ hf hk
  obtain ⟨k1, d1⟩ := count_bw ho 8 (par_bw ho) _ _ _ hp k2
  obtain ⟨k0, d0⟩ := txt_bw ho 20 _ _ _ ha k1
  refine ⟨k0, ?_⟩
  rw [d0, d1, d2]
  unfold prB parsB
  simp only [List.append_assoc]
/-- What is read is written as the same bytes. -/
theorem read_bw (ho : Oct l) (hh : headOk l) (hk : (readS l).2.ok = true) : l = symB (readS l).1 := by
  obtain ⟨a, r1, ha⟩ : ∃ a r1, textS l 20 ⟨4, true⟩ = (a, r1) := ⟨_, _, rfl⟩
  obtain ⟨cs, r2, hcs⟩ : ∃ cs r2, countS l (constS l) 200 r1 = (cs, r2) := ⟨_, _, rfl⟩
  obtain ⟨vs, r3, hvs⟩ : ∃ vs r3, countS l (varS l) 200 r2 = (vs, r3) := ⟨_, _, rfl⟩
  obtain ⟨ps, r4, hps⟩ : ∃ ps r4, countS l (procS l) 100 r3 = (ps, r4) := ⟨_, _, rfl⟩
  have hE : readS l = (⟨a, cs, vs, ps⟩, if r4.ok = true then ⟨r4.pos, decide (r4.pos = l.length)⟩ else r4) := by unfold readS; simp only [ha, hcs, hvs, hps]
  rw [hE] at hk ⊢
  simp only at hk ⊢
  cases h4 : r4.ok with
  | false => rw [if_neg (by rw [h4]; decide), h4] at hk; cases hk
  | true =>
    rw [if_pos h4] at hk
    have hp := of_decide_eq_true hk
    obtain ⟨k3, d3⟩ := count_bw ho 100 (proc_bw ho) _ _ _ hps h4
    obtain ⟨k2, d2⟩ := count_bw ho 200 (var_bw ho) _ _ _ hvs k3
    obtain ⟨k1, d1⟩ := count_bw ho 200 (const_bw ho) _ _ _ hcs k2
    obtain ⟨k0, d0⟩ := txt_bw ho 20 _ _ _ ha k1
    rw [d1, d2, d3, hp, List.drop_length, List.append_nil] at d0
    conv => lhs; rw [← List.take_append_drop 4 l, hh.2]
    rw [show l.drop 4 = l.drop (⟨4, true⟩ : Rd).pos from rfl, d0]
    unfold symB cstsB varsB prsB
    simp only [List.append_assoc]
/-- Bytes that are read as symbols are these symbols' bytes. -/
theorem dec_bytes (ho : Oct l) {s : Sm} {p : Int} (h : DecAns l s p 0) : p = 0 ∧ smOk s ∧ l = symB s := by
  generalize he : (0 : Int) = e at h
  cases h with
  | head h => cases he
  | wrong h hb => cases he
  | form h hb hn => cases he
  | right h hb hn => exact ⟨rfl, hn, read_bw ho h hb⟩
theorem head_sym {s : Sm} (h : smOk s) (more : List Int) (hl : (symB s ++ more).length ≤ 1048576) : headOk (symB s ++ more) := ⟨hl, by unfold symB; rfl⟩
/-- Right symbols are what their bytes are read as. -/
theorem dec_sym {s s' : Sm} (h : smOk s) {p e : Int} (k : DecAns (symB s) s' p e) : s' = s ∧ p = 0 ∧ e = 0 := by
  have hl := symB_len h
  have hr := read_fw h [] (l := symB s) (by rw [List.append_nil])
  have hh : headOk (symB s) := by have := head_sym h [] (by rw [List.append_nil]; omega); rwa [List.append_nil] at this
  exact k.same (by have := DecAns.right (l := symB s) hh (by rw [hr]; exact decide_eq_true rfl) (by rw [hr]; exact h); rw [hr] at this; exact this)
/-- .. and no longer ones. -/
theorem dec_more {s s' : Sm} (h : smOk s) {more : List Int} (hm : more ≠ []) {p e : Int} (k : DecAns (symB s ++ more) s' p e) : e = 131 := by
  by_cases hl : (symB s ++ more).length ≤ 1048576
  · have hr := read_fw h more (l := symB s ++ more) rfl
    have hne : decide ((symB s).length = (symB s ++ more).length) = false := decide_eq_false (by
      rw [List.length_append]; have := List.length_pos_iff.2 hm; omega)
    exact (k.same (DecAns.wrong (head_sym h more hl) (by rw [hr]; exact hne))).2.2
  · exact (k.same (DecAns.head (fun h => hl h.1))).2.2
/-- .. and no shorter ones. -/
theorem dec_less {s s' : Sm} (h : smOk s) {cut : Nat} (hc : cut < (symB s).length) {p e : Int} (k : DecAns ((symB s).take cut) s' p e) : e ≠ 0 := by
  rintro rfl
  obtain ⟨_, h1, h2⟩ := dec_bytes (oct_take (oct_sym h) cut) k
  have h3 : symB s = symB s' ++ (symB s).drop cut := by rw [← h2, List.take_append_drop]
  have hne : (symB s).drop cut ≠ [] := fun e => by have := congrArg List.length e; rw [List.length_drop] at this; simp at this; omega
  have hl := symB_len h
  have hr := read_fw h1 ((symB s).drop cut) (l := symB s) h3
  have hr2 := read_fw h [] (l := symB s) (by rw [List.append_nil])
  rw [hr] at hr2
  have := congrArg (fun x : Sm × Rd => x.2.ok) hr2
  have h4 := of_decide_eq_true (this.trans (show decide ((symB s).length = (symB s).length) = true from decide_eq_true rfl))
  rw [← h2, List.length_take] at h4
  omega
end
end Go.Proofs.Ytgemnmceflcpcaa
