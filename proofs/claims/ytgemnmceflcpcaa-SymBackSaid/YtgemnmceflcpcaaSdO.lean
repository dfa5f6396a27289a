/- What was read: what it may be; as it lies in memory. -/
import Derived.Test.YtgemnmceflcpcaaSdN
import Derived.DataShut
namespace Go.Proofs.Ytgemnmceflcpcaa
open Go Go.RowKit Go.Lib Go.Proofs.Ytgemnmceflcpcaa.Sy Pl
set_option linter.unusedVariables false
set_option linter.unusedSimpArgs false
section
variable {l : List Int}
theorem textS_size (most : Nat) (r : Rd) : (textS l most r).1.size ≤ most := by
  unfold textS
  split
  · split
    · next h => exact (textL_len h).2
    · exact Nat.zero_le _
  · exact Nat.zero_le _
theorem byteS_bd (ho : Oct l) (may : Int → Bool) (r : Rd) : 0 ≤ (byteS l may r).1 ∧ (byteS l may r).1 ≤ 255 := by
  unfold byteS
  split
  · split
    · exact oct_getD ho r.pos
    · exact ⟨Int.le_refl 0, show (0 : Int) ≤ 255 by decide⟩
  · exact ⟨Int.le_refl 0, show (0 : Int) ≤ 255 by decide⟩
theorem wordS_bd (ho : Oct l) (r : Rd) : 0 ≤ (wordS l r).1 ∧ (wordS l r).1 < 4294967296 := by
  unfold wordS wordL
  have h0 := oct_getD ho r.pos; have h1 := oct_getD ho (r.pos + 1); have h2 := oct_getD ho (r.pos + 2); have h3 := oct_getD ho (r.pos + 3)
  split
  · split
    · simp only; omega
    · exact ⟨Int.le_refl 0, show (0 : Int) < 4294967296 by decide⟩
  · exact ⟨Int.le_refl 0, show (0 : Int) < 4294967296 by decide⟩
theorem wf64 {n : Int} (h : -9223372036854775808 ≤ n ∧ n ≤ 9223372036854775807) : (Lit.int .i64 n).wf = true := (Lit.wf_int_iff _ _).2 h
theorem cfit {a s : ByteArray} {t n : Int} {b : Bool} (h1 : a.size ≤ 1000) (h2 : s.size ≤ 1000) (h3 : 0 ≤ t ∧ t ≤ 255) (h4 : -2147483648 ≤ n ∧ n ≤ 4294967295) : CFit ⟨a, t, n, s, b⟩ := ⟨show a.size ≤ maxLen by unfold maxLen; omega, show s.size ≤ maxLen by unfold maxLen; omega, wf64 (show _ ≤ t ∧ t ≤ _ from ⟨by omega, by omega⟩), wf64 (show _ ≤ n ∧ n ≤ _ from ⟨by omega, by omega⟩)⟩
theorem vfit {a : ByteArray} {f n : Int} {b c : Bool} (h1 : a.size ≤ 1000) (h3 : 0 ≤ f ∧ f ≤ 255) (h4 : 0 ≤ n ∧ n ≤ 4294967295) : VFit ⟨a, f, n, b, c⟩ := ⟨show a.size ≤ maxLen by unfold maxLen; omega, wf64 (show _ ≤ f ∧ f ≤ _ from ⟨by omega, by omega⟩), wf64 (show _ ≤ n ∧ n ≤ _ from ⟨by omega, by omega⟩)⟩
theorem const_fit (ho : Oct l) (r : Rd) : CFit (constS l r).1 := by
  have h1 := textS_size (l := l) 20 r
  have ht := byteS_bd ho typeB (textS l 20 r).2
  unfold constS
  simp only
  split
  · have h2 := textS_size (l := l) 200 (byteS l typeB (textS l 20 r).2).2
    exact cfit (by omega) (by omega) (by omega) (by omega)
  · have hw := wordS_bd ho (byteS l typeB (textS l 20 r).2).2
    refine cfit (by omega) (show (0 : Nat) ≤ 1000 by omega) ht ?_
    split
    · unfold sgnW; split <;> omega
    · omega
theorem var_fit (ho : Oct l) (r : Rd) : VFit (varS l r).1 := by
  have h1 := textS_size (l := l) 20 r
  have ht := byteS_bd ho plainB (textS l 20 r).2
  have hn := numS_le l 4294967295 (byteS l plainB (textS l 20 r).2).2
  unfold varS
  exact vfit (by omega) ht ⟨by omega, by omega⟩
theorem par_fit (ho : Oct l) (r : Rd) : VFit (parS l r).1 := by
  have ht := byteS_bd ho plainB r
  unfold parS
  exact vfit (show (0 : Nat) ≤ 1000 by omega) ht ⟨by omega, by omega⟩
theorem rows_all {α : Type} {one : Rd → α × Rd} {P : α → Prop} (h : ∀ r, P (one r).1) : ∀ (n : Nat) (r : Rd), ∀ x ∈ (rowsS one n r).1, P x
  | 0, r, x, hx => by cases hx
  | n + 1, r, x, hx => by
    unfold rowsS at hx
    split at hx
    · rcases List.mem_cons.1 hx with e | e
      · rw [e]; exact h r
      · exact rows_all h n _ x e
    · cases hx
def PFit (p : Pr) : Prop := p.name.size ≤ maxLen ∧ (Lit.int .i64 p.result).wf = true ∧ ∀ x ∈ p.params, VFit x
theorem pfit {a : ByteArray} {ps : List Vr} {f : Int} (h1 : a.size ≤ 1000) (h2 : 0 ≤ f ∧ f ≤ 255) (h3 : ∀ x ∈ ps, VFit x) : PFit ⟨a, ps, f⟩ := ⟨show a.size ≤ maxLen by unfold maxLen; omega, wf64 (show _ ≤ f ∧ f ≤ _ from ⟨by omega, by omega⟩), h3⟩
theorem proc_fit (ho : Oct l) (r : Rd) : PFit (procS l r).1 := by
  have h1 := textS_size (l := l) 20 r
  have ht := byteS_bd ho resB (countS l (parS l) 8 (textS l 20 r).2).2
  unfold procS
  exact pfit (by omega) ht (rows_all (P := VFit) (par_fit ho) _ _)
/-- Symbols whose values are values of their types. -/
structure SFit (s : Sm) : Prop where
  name : s.name.size ≤ maxLen
  c : ∀ x ∈ s.consts, CFit x
  v : ∀ x ∈ s.vars, VFit x
  p : ∀ x ∈ s.procs, PFit x
theorem sfit {a : ByteArray} {c : List Cst} {v : List Vr} {p : List Pr} (h1 : a.size ≤ 1000) (hc : ∀ x ∈ c, CFit x) (hv : ∀ x ∈ v, VFit x) (hp : ∀ x ∈ p, PFit x) : SFit ⟨a, c, v, p⟩ := ⟨show a.size ≤ maxLen by unfold maxLen; omega, hc, hv, hp⟩
theorem read_fit (ho : Oct l) : SFit (readS l).1 := by
  have h1 := textS_size (l := l) 20 ⟨4, true⟩
  unfold readS
  exact sfit (by omega) (rows_all (P := CFit) (const_fit ho) _ _) (rows_all (P := VFit) (var_fit ho) _ _) (rows_all (P := PFit) (proc_fit ho) _ _)
theorem noSym_fit : SFit noSym := ⟨by decide, (fun x h => by cases h), (fun x h => by cases h), (fun x h => by cases h)⟩
end
theorem OwnPs.weak {w : World} {B B' : Nat} {u : Value} {l : List Pr} {pvs : List Value} (h : OwnPs w B u l pvs) (hB : B' ≤ B) : OwnPs w B' u l pvs := ⟨h.len, h.own.weak hB, fun k p pv hp hv => (h.each k p pv hp hv).weak hB⟩
/-- Symbols in memory of the call's own, from block B on. -/
structure SmOwn (w : World) (B : Nat) (s : Sm) (cv vv pv : Value) (pvs : List Value) : Prop where
  fit : SFit s
  c : OwnL w B 48 5 cv (s.consts.map fun c => (ccells c).toList)
  v : OwnL w B 73 5 vv (vrows s.vars)
  p : OwnPs w B pv s.procs pvs
theorem SmOwn.touch {w w' : World} {B : Nat} {s : Sm} {cv vv pv : Value} {pvs : List Value} {r : List Nat} (h : SmOwn w B s cv vv pv pvs) (T : Touch w w' r) (hn : ∀ x ∈ r, x < B) : SmOwn w' B s cv vv pv pvs :=
  ⟨h.fit, h.c.touch T hn, h.v.touch T hn, h.p.touch T hn⟩
theorem SmOwn.weak {w : World} {B B' : Nat} {s : Sm} {cv vv pv : Value} {pvs : List Value} (h : SmOwn w B s cv vv pv pvs) (hB : B' ≤ B) : SmOwn w B' s cv vv pv pvs :=
  ⟨h.fit, h.c.weak hB, h.v.weak hB, ⟨h.p.len, h.p.own.weak hB, fun k p pv hp hv => (h.p.each k p pv hp hv).weak hB⟩⟩
theorem SmOwn.below {w w' : World} {B : Nat} {s : Sm} {cv vv pv : Value} {pvs : List Value} (h : SmOwn w B s cv vv pv pvs) (b : Below w.heap.size w w') : SmOwn w' B s cv vv pv pvs :=
  h.touch (Touch.of_below b []) (fun x hx => by cases hx)
theorem vrows_own {w : World} {B : Nat} {v : Value} {l : List Vr} (h : OwnL w B 73 5 v (vrows l)) (hf : ∀ x ∈ l, VFit x) : VrsAt w v l :=
  ⟨own_rows (fun r hr => by obtain ⟨x, _, rfl⟩ := List.mem_map.1 hr; rfl) h, hf⟩
theorem SmOwn.at {w : World} {B : Nat} {s : Sm} {cv vv pv : Value} {pvs : List Value} (h : SmOwn w B s cv vv pv pvs) : SmAt w s cv vv pv := by
  refine ⟨h.fit.name, ⟨own_rows (fun r hr => by obtain ⟨x, _, rfl⟩ := List.mem_map.1 hr; rfl) h.c, h.fit.c⟩, vrows_own h.v h.fit.v, pvs, h.p.len, own_rows (fun r hr => ?_) h.p.own, fun k p qv hp hv => ?_⟩
  · unfold prows at hr
    obtain ⟨k, hk, rfl⟩ := List.getElem_of_mem hr
    rw [List.getElem_zipWith]; rfl
  · have hm := List.mem_of_getElem? hp
    exact ⟨(h.fit.p p hm).1, (h.fit.p p hm).2.1, vrows_own (h.p.each k p qv hp hv) (h.fit.p p hm).2.2⟩
theorem noSym_own (w : World) (B : Nat) : SmOwn w B noSym (.slice none 0 0) (.slice none 0 0) (.slice none 0 0) [] := ⟨noSym_fit, World.ownsRow_nil _ _ _ _, World.ownsRow_nil _ _ _ _, OwnPs.nil_ _ _⟩
end Go.Proofs.Ytgemnmceflcpcaa
