/- What is written is read as it was; what is read was written so. No program in sight. -/
import Derived.Test.YtgemnmceflcpcaaSdO
namespace Go.Proofs.Ytgemnmceflcpcaa
open Go Go.RowKit Go.Lib Go.Proofs.Ytgemnmceflcpcaa.Sy
set_option linter.unusedVariables false
set_option linter.unusedSimpArgs false
theorem nums_self (s : ByteArray) : strOfNums (strI s) = s := by
  unfold strOfNums strI
  simp only [List.map_map]
  rw [show ((fun x : Int => UInt8.ofNat x.toNat) ∘ fun b : UInt8 => (b.toNat : Int)) = id from by funext b; simp]
  simp
section
variable {l : List Int}
/-- Read at a place, it is just what was written there. -/
def Fw {α : Type} (l : List Int) (p : Rd → α × Rd) (e : List Int) (x : α) : Prop := ∀ pos rest, l.drop pos = e ++ rest → p ⟨pos, true⟩ = (x, ⟨pos + e.length, true⟩)
/-- What was read was written so. -/
def Bw {α : Type} (l : List Int) (p : Rd → α × Rd) (e : α → List Int) : Prop := ∀ r x r', p r = (x, r') → r'.ok = true → r.ok = true ∧ l.drop r.pos = e x ++ l.drop r'.pos
theorem num_fw {n most : Nat} (h : n ≤ most) (h2 : most ≤ 4294967295) : Fw l (numS l most) (grps n) n := fun pos rest hd => by
  unfold numS
  rw [if_pos rfl, show (⟨pos, true⟩ : Rd).pos = pos from rfl, hd, uintL_enc (by omega)]
  simp only []
  rw [if_pos h]
theorem drop_len {e rest : List Int} {pos : Nat} (h : l.drop pos = e ++ rest) (he : 0 < e.length) : pos + e.length ≤ l.length := by
  have := congrArg List.length h
  rw [List.length_drop, List.length_append] at this
  omega
theorem grps_pos (n : Nat) : 0 < (grps n).length := by
  by_cases h : n < 128
  · rw [grps_lt h]; simp
  · rw [grps_ge h]; simp
theorem txt_fw {s : ByteArray} {most : Nat} (h : s.size ≤ most) (h2 : most ≤ 1000) : Fw l (textS l most) (txt s) s := fun pos rest hd => by
  have hle := drop_len hd (by unfold txt; rw [List.length_append]; have := grps_pos s.size; omega)
  have hd' : l.drop pos = grps s.size ++ (strI s ++ rest) := by rw [hd]; unfold txt; rw [List.append_assoc]
  have hd2 := drop_app hd'
  have hlen : (txt s).length = (grps s.size).length + s.size := by unfold txt; rw [List.length_append, strI_len]
  have ht : textL l most pos = some (s, pos + (txt s).length) := by
    unfold textL
    rw [hd', uintL_enc (by omega)]
    simp only []
    rw [if_pos ⟨h, by omega⟩, hd2, show (strI s ++ rest).take s.size = strI s from by rw [← strI_len, List.take_left], nums_self, hlen, Nat.add_assoc]
  unfold textS
  rw [if_pos rfl, show (⟨pos, true⟩ : Rd).pos = pos from rfl, ht]
theorem drop_head {c : Int} {rest : List Int} {pos : Nat} (h : l.drop pos = [c] ++ rest) : pos < l.length ∧ l.getD pos 0 = c := by
  have h1 := drop_len h (by simp)
  simp only [List.length_singleton] at h1
  have h2 := drop_get (l := l) (p := pos) (by omega)
  rw [h] at h2
  exact ⟨by omega, (List.cons.inj h2).1.symm⟩
theorem byte_fw {c : Int} {may : Int → Bool} (h : may c = true) : Fw l (byteS l may) [c] c := fun pos rest hd => by
  obtain ⟨h1, h2⟩ := drop_head hd
  unfold byteS
  rw [if_pos rfl, show (⟨pos, true⟩ : Rd).pos = pos from rfl, h2, if_pos ⟨h1, h⟩]; rfl
theorem word_bytes (n : Int) : n % 256 + n / 256 % 256 * 256 + n / 65536 % 256 * 65536 + n / 16777216 % 256 * 16777216 = n % 4294967296 := by omega
theorem word_fw (n : Int) : Fw l (wordS l) (wrdB n) (n % 4294967296) := fun pos rest hd => by
  have h0 := drop_len hd (by simp [wrdB])
  simp only [wrdB, List.length_cons, List.length_nil] at h0
  have a0 := drop_head (l := l) (pos := pos) (by rw [hd]; rfl : l.drop pos = [n % 256] ++ ([n / 256 % 256, n / 65536 % 256, n / 16777216 % 256] ++ rest))
  have d1 : l.drop (pos + 1) = [n / 256 % 256] ++ ([n / 65536 % 256, n / 16777216 % 256] ++ rest) := drop_app (e := [n % 256]) (by rw [hd]; rfl)
  have d2 : l.drop (pos + 2) = [n / 65536 % 256] ++ ([n / 16777216 % 256] ++ rest) := drop_app (e := [n % 256, n / 256 % 256]) (by rw [hd]; rfl)
  have d3 : l.drop (pos + 3) = [n / 16777216 % 256] ++ rest := drop_app (e := [n % 256, n / 256 % 256, n / 65536 % 256]) (by rw [hd]; rfl)
  have a1 := drop_head d1
  have a2 := drop_head d2
  have a3 := drop_head d3
  unfold wordS wordL
  rw [if_pos rfl, show (⟨pos, true⟩ : Rd).pos = pos from rfl, if_pos (by omega), a0.2, a1.2, a2.2, a3.2, word_bytes]; rfl
theorem drop_split {a b : List Int} {rest : List Int} {pos : Nat} (h : l.drop pos = a ++ b ++ rest) : l.drop pos = a ++ (b ++ rest) ∧ l.drop (pos + a.length) = b ++ rest := by
  rw [List.append_assoc] at h
  exact ⟨h, drop_app h⟩
theorem const_fw {c : Cst} (hc : cstOk c) (hn : c.name.size ≤ 20) : Fw l (constS l) (cstB c) c := fun pos rest hd => by
  obtain ⟨nm, t, n, s, sh⟩ := c
  unfold cstB at hd
  obtain ⟨hd1, hd2⟩ := drop_split (a := txt nm ++ [t]) hd
  obtain ⟨hd3, hd4⟩ := drop_split (a := txt nm) (b := [t]) (by rw [hd1] : l.drop pos = (txt nm ++ [t]) ++ _)
  have h1 := txt_fw (l := l) hn (by omega) pos _ hd3
  rw [List.length_append, ← Nat.add_assoc] at hd2
  have hlen : (cstB ⟨nm, t, n, s, sh⟩).length = (txt nm).length + 1 + (if t = 7 then txt s else wrdB n).length := by unfold cstB; rw [List.length_append, List.length_append]; rfl
  have ht : typeB t = true := by
    unfold typeB
    obtain ⟨_, h | h | h | h | h⟩ := hc <;> (have := h.1; simp only at this; subst this; decide)
  have h2 := byte_fw (l := l) ht (pos + (txt nm).length) _ hd4
  simp only [List.length_singleton] at h2 hd2
  have hsh : sh = true := hc.1
  unfold constS
  simp only [h1, h2]
  by_cases h7 : t = 7
  · subst h7
    have h5 : n = 0 ∧ s.size ≤ 200 := by
      obtain ⟨_, h | h | h | h | h⟩ := hc
      · exact absurd h.1 (show ¬ ((7 : Int) = 1) by decide)
      · exact absurd h.1 (show ¬ ((7 : Int) = 2) by decide)
      · exact absurd h.1 (show ¬ ((7 : Int) = 3) by decide)
      · exact absurd h.1 (show ¬ ((7 : Int) = 5) by decide)
      · exact h.2
    rw [if_pos rfl] at hd2 hlen ⊢
    rw [txt_fw (l := l) h5.2 (by omega) _ _ hd2, hlen, h5.1, hsh, Nat.add_assoc, Nat.add_assoc, Nat.add_assoc]
  · rw [if_neg h7] at hd2 hlen ⊢
    have hs : s = ⟨#[]⟩ ∧ n = (if t = 1 then sgnW (n % 4294967296) else n % 4294967296) := by
      unfold sgnW
      obtain ⟨_, h | h | h | h | h⟩ := hc
      · have := h.1; simp only at this h; subst this; exact ⟨h.2.1, by rw [if_pos rfl]; split <;> omega⟩
      · have := h.1; simp only at this h; subst this; exact ⟨h.2.1, by rw [if_neg (by decide)]; omega⟩
      · have := h.1; simp only at this h; subst this; exact ⟨h.2.1, by rw [if_neg (by decide)]; omega⟩
      · have := h.1; simp only at this h; subst this; exact ⟨h.2.1, by rw [if_neg (by decide)]; omega⟩
      · exact absurd h.1 h7
    rw [word_fw (l := l) n _ _ hd2, hlen, hsh, hs.1]
    simp only []
    rw [← hs.2, Nat.add_assoc, Nat.add_assoc, Nat.add_assoc]
theorem plainB_of {f : Int} (h : plainF f) : plainB f = true := by unfold plainB plainF at *; exact decide_eq_true h
theorem var_fw {v : Vr} (hv : vrOk v) (hn : v.name.size ≤ 20) : Fw l (varS l) (varB v) v := fun pos rest hd => by
  obtain ⟨nm, f, n, o, rf⟩ := v
  have hb : varB ⟨nm, f, n, o, rf⟩ = txt nm ++ [f] ++ grps n.toNat := rfl
  rw [hb] at hd ⊢
  obtain ⟨hd1, hd2⟩ := drop_split (a := txt nm ++ [f]) hd
  obtain ⟨hd3, hd4⟩ := drop_split (a := txt nm) (b := [f]) (by rw [hd1] : l.drop pos = (txt nm ++ [f]) ++ _)
  have h1 := txt_fw (l := l) hn (by omega) pos _ hd3
  rw [List.length_append, ← Nat.add_assoc] at hd2
  have h2 := byte_fw (l := l) (plainB_of hv.1) (pos + (txt nm).length) _ hd4
  simp only [List.length_singleton] at h2 hd2
  have hl := vr_fit hv
  have h0 := hv.2.1
  simp only at hl h0
  have h3 := num_fw (l := l) (n := n.toNat) (most := 4294967295) (by omega) (by omega) _ _ hd2
  have ho : o = false := hv.2.2.2.1
  have hr : rf = false := hv.2.2.2.2
  unfold varS
  simp only [h1, h2, h3, ho, hr]
  rw [List.length_append, List.length_append, List.length_singleton, show ((n.toNat : Nat) : Int) = n from by omega, Nat.add_assoc, Nat.add_assoc, Nat.add_assoc]
theorem par_fw {v : Vr} (hf : plainF v.form) (hn : v.name = ⟨#[]⟩) (hl : v.len = 0) : Fw l (parS l) (parB v) v := fun pos rest hd => by
  obtain ⟨nm, f, n, o, rf⟩ := v
  simp only at hn hl hf
  subst hn hl
  have hb : parB ⟨⟨#[]⟩, f, 0, o, rf⟩ = [f] ++ [howI ⟨⟨#[]⟩, f, 0, o, rf⟩] := rfl
  rw [hb] at hd ⊢
  obtain ⟨hd1, hd2⟩ := drop_split hd
  have h1 := byte_fw (l := l) (plainB_of hf) pos _ hd1
  have h2 := byte_fw (l := l) (may := howB) (c := howI ⟨⟨#[]⟩, f, 0, o, rf⟩) (by cases o <;> cases rf <;> rfl) _ _ hd2
  unfold parS
  simp only [h1, h2]
  cases o <;> cases rf <;> rfl
theorem rows_fw {α : Type} {one : Rd → α × Rd} {e : α → List Int} : ∀ (xs : List α), (∀ x ∈ xs, Fw l one (e x) x) → Fw l (rowsS one xs.length) (xs.flatMap e) xs
  | [], _ => fun pos rest hd => by simp [rowsS]
  | x :: xs, h => fun pos rest hd => by
    rw [List.flatMap_cons] at hd ⊢
    obtain ⟨hd1, hd2⟩ := drop_split hd
    have h1 := h x (by simp) pos _ hd1
    have h2 := rows_fw xs (fun y hy => h y (by simp [hy])) _ _ hd2
    rw [List.length_cons, rowsS_step _ _ rfl h1, h2, List.length_append, Nat.add_assoc]
theorem count_fw {α : Type} {one : Rd → α × Rd} {e : α → List Int} {xs : List α} {most : Nat} (hm : most ≤ 1000) (hl : xs.length ≤ most) (h : ∀ x ∈ xs, Fw l one (e x) x) : Fw l (countS l one most) (grps xs.length ++ xs.flatMap e) xs := fun pos rest hd => by
  obtain ⟨hd1, hd2⟩ := drop_split hd
  have h1 := num_fw (l := l) hl (by omega) pos _ hd1
  unfold countS
  rw [h1, rows_fw xs h _ _ hd2, List.length_append, Nat.add_assoc]
theorem resB_of {f : Int} (h : f = 0 ∨ plainF f) : resB f = true := by unfold resB plainF at *; exact decide_eq_true h
theorem proc_fw {p : Pr} (hp : prOk p) (hn : p.name.size ≤ 20) : Fw l (procS l) (prB p) p := fun pos rest hd => by
  obtain ⟨nm, ps, f⟩ := p
  have hb : prB ⟨nm, ps, f⟩ = txt nm ++ (grps ps.length ++ ps.flatMap parB) ++ [f] := by unfold prB parsB; simp only [List.append_assoc]
  rw [hb] at hd ⊢
  obtain ⟨hd1, hd2⟩ := drop_split (a := txt nm ++ (grps ps.length ++ ps.flatMap parB)) hd
  obtain ⟨hd3, hd4⟩ := drop_split (a := txt nm) (b := grps ps.length ++ ps.flatMap parB) (by rw [hd1] : l.drop pos = (txt nm ++ (grps ps.length ++ ps.flatMap parB)) ++ _)
  have h1 := txt_fw (l := l) hn (by omega) pos _ hd3
  have h2 := count_fw (l := l) (one := parS l) (e := parB) (xs := ps) (most := 8) (by omega) hp.2.1 (fun x hx => par_fw (hp.1 x hx).1 (hp.1 x hx).2.1 (hp.1 x hx).2.2) _ _ hd4
  rw [List.length_append, ← Nat.add_assoc] at hd2
  have h3 := byte_fw (l := l) (resB_of hp.2.2) _ _ hd2
  unfold procS
  simp only [h1, h2]
  simp only at h3
  rw [h3]
  simp only [List.length_append, List.length_singleton, Nat.add_assoc]
/-- Right symbols are read from their bytes, whatever stands behind. -/
theorem read_fw {s : Sm} (h : smOk s) (more : List Int) (hl : l = symB s ++ more) : readS l = (s, ⟨(symB s).length, decide ((symB s).length = l.length)⟩) := by
  obtain ⟨nm, cs, vs, ps⟩ := s
  have hb : symB ⟨nm, cs, vs, ps⟩ = [67, 82, 83, 49] ++ txt nm ++ (grps cs.length ++ cs.flatMap cstB) ++ (grps vs.length ++ vs.flatMap varB) ++ (grps ps.length ++ ps.flatMap prB) := by unfold symB cstsB varsB prsB; simp only [List.append_assoc]
  obtain ⟨k0, k1, k2, k3, _, _, kc, kv, kp⟩ := id h
  have hd0 : l.drop 4 = txt nm ++ (grps cs.length ++ cs.flatMap cstB) ++ (grps vs.length ++ vs.flatMap varB) ++ (grps ps.length ++ ps.flatMap prB) ++ more := by
    rw [hl, hb]; simp only [List.append_assoc]; rfl
  obtain ⟨e1, e2⟩ := drop_split (a := txt nm ++ (grps cs.length ++ cs.flatMap cstB) ++ (grps vs.length ++ vs.flatMap varB)) hd0
  obtain ⟨e3, e4⟩ := drop_split (a := txt nm ++ (grps cs.length ++ cs.flatMap cstB)) e1
  obtain ⟨e5, e6⟩ := drop_split (a := txt nm) e3
  have h1 := txt_fw (l := l) k0.2.1 (by omega) 4 _ e5
  have h2 := count_fw (l := l) (one := constS l) (e := cstB) (xs := cs) (most := 200) (by omega) k1 (fun x hx => const_fw (kc x hx) (cst_name h hx)) _ _ e6
  rw [List.length_append, ← Nat.add_assoc] at e4
  have h3 := count_fw (l := l) (one := varS l) (e := varB) (xs := vs) (most := 200) (by omega) k2 (fun x hx => var_fw (kv x hx) (vr_name h hx)) _ _ e4
  rw [List.length_append, ← Nat.add_assoc, List.length_append, ← Nat.add_assoc] at e2
  have h4 := count_fw (l := l) (one := procS l) (e := prB) (xs := ps) (most := 100) (by omega) k3 (fun x hx => proc_fw (kp x hx) (pr_name h hx)) _ _ e2
  have hlen : (symB ⟨nm, cs, vs, ps⟩).length = 4 + (txt nm).length + (grps cs.length ++ cs.flatMap cstB).length + (grps vs.length ++ vs.flatMap varB).length + (grps ps.length ++ ps.flatMap prB).length := by
    rw [hb, List.length_append, List.length_append, List.length_append, List.length_append]; rfl
  unfold readS
  simp only [h1, h2, h3, h4, if_true, hlen]
end
end Go.Proofs.Ytgemnmceflcpcaa
