/- Symbols read from bytes: what is read. No program in sight (the bytes' own words stand in the texts ahead). -/
import Derived.Test.YtgemnmceflcpcaaQE
namespace Go.Proofs.Ytgemnmceflcpcaa
open Go Go.RowKit Go.Lib Go.Proofs.Ytgemnmceflcpcaa.Sy
set_option linter.unusedVariables false
set_option linter.unusedSimpArgs false
/-- A reader's place; has nothing been wrong. -/
structure Rd where
  pos : Nat
  ok : Bool
def Rd.bad (r : Rd) : Int := if r.ok then -1 else r.pos
def uintGo : Nat → Nat → List Int → Option (Nat × Nat)
  | _, _, [] => none
  | i, n, c :: r =>
    if i = 5 then none
    else if 128 ≤ c then uintGo (i + 1) (n + (c - 128).toNat * 128 ^ i) r
    else if (0 < i ∧ c = 0) ∨ 4294967295 < n + c.toNat * 128 ^ i then none else some (n + c.toNat * 128 ^ i, i + 1)
/-- A number at the head of bytes; how many bytes it has. -/
def uintL (l : List Int) : Option (Nat × Nat) := uintGo 0 0 l
theorem go_enc : ∀ (m i n : Nat) (rest : List Int), n + m * 128 ^ i ≤ 4294967295 → i ≤ 5 → (i = 0 ∨ m ≠ 0) → uintGo i n (grps m ++ rest) = some (n + m * 128 ^ i, i + (grps m).length) := fun m => by
  induction m using Nat.strongRecOn with
  | ind m ih =>
    intro i n rest h1 h2 h3
    have h5 : i ≠ 5 := by
      rintro rfl
      rcases h3 with h | h
      · cases h
      · have : 1 * 128 ^ 5 ≤ m * 128 ^ 5 := Nat.mul_le_mul_right _ (by omega)
        have e : (128 : Nat) ^ 5 = 34359738368 := by decide
        omega
    by_cases h : m < 128
    · rw [grps_lt h, List.singleton_append, uintGo, if_neg h5, if_neg (by omega), Int.toNat_natCast, if_neg ?_]
      · rfl
      · intro h6
        rcases h6 with ⟨h7, h8⟩ | h7
        · omega
        · omega
    · rw [grps_ge h, List.cons_append, uintGo, if_neg h5, if_pos (by omega), show (((m % 128 + 128 : Nat) : Int) - 128).toNat = m % 128 from by omega]
      have hp : n + m % 128 * 128 ^ i + m / 128 * 128 ^ (i + 1) = n + m * 128 ^ i := by
        have := congrArg (· * 128 ^ i) (Nat.mod_add_div m 128)
        simp only [Nat.add_mul] at this
        rw [Nat.pow_succ, Nat.add_assoc, ← this, Nat.mul_comm (128 ^ i) 128, ← Nat.mul_assoc, Nat.mul_comm (m / 128) 128]
      rw [ih (m / 128) (by omega) (i + 1) _ rest (by rw [hp]; exact h1) (by omega) (.inr (by omega)), hp, List.length_cons]
      congr 2; omega
theorem go_dec : ∀ (l : List Int) (i n v k : Nat), Oct l → i ≤ 5 → uintGo i n l = some (v, k) → ∃ m, v = n + m * 128 ^ i ∧ v ≤ 4294967295 ∧ k = i + (grps m).length ∧ l = grps m ++ l.drop (grps m).length ∧ (i = 0 ∨ m ≠ 0)
  | [], i, n, v, k, _, _, h => by rw [uintGo] at h; cases h
  | c :: r, i, n, v, k, ho, hi, h => by
    have hc := ho c (by simp)
    have hor : Oct r := fun x hx => ho x (by simp [hx])
    rw [uintGo] at h
    by_cases h5 : i = 5
    · rw [if_pos h5] at h; cases h
    rw [if_neg h5] at h
    by_cases hg : 128 ≤ c
    · rw [if_pos hg] at h
      obtain ⟨m, h1, h2, h3, h4, h6⟩ := go_dec r (i + 1) _ v k hor (by omega) h
      have hm : m ≠ 0 := by rcases h6 with h6 | h6 <;> omega
      have e1 : ((c - 128).toNat + 128 * m) / 128 = m := by omega
      have e2 : ((c - 128).toNat + 128 * m) % 128 = (c - 128).toNat := by omega
      refine ⟨(c - 128).toNat + 128 * m, ?_, h2, ?_, ?_, .inr (by omega)⟩
      · rw [h1, Nat.add_mul, Nat.pow_succ, Nat.add_assoc]; congr 2; rw [Nat.mul_comm (128 ^ i) 128, ← Nat.mul_assoc, Nat.mul_comm m 128]
      · rw [h3, grps_ge (n := (c - 128).toNat + 128 * m) (by omega), e1, List.length_cons]; omega
      · rw [grps_ge (n := (c - 128).toNat + 128 * m) (by omega), e1, e2, List.length_cons, List.drop_succ_cons, List.cons_append, ← h4]
        congr 1; omega
    · rw [if_neg hg] at h
      by_cases hz : (0 < i ∧ c = 0) ∨ 4294967295 < n + c.toNat * 128 ^ i
      · rw [if_pos hz] at h; cases h
      · rw [if_neg hz] at h
        cases h
        refine ⟨c.toNat, rfl, by omega, by rw [grps_lt (by omega)]; rfl, ?_, ?_⟩
        · rw [grps_lt (by omega), List.length_singleton, List.drop_succ_cons, List.drop_zero, List.singleton_append]; congr 1; omega
        · omega
theorem uintL_enc {m : Nat} (h : m ≤ 4294967295) (rest : List Int) : uintL (grps m ++ rest) = some (m, (grps m).length) := by
  have := go_enc m 0 0 rest (by omega) (by omega) (.inl rfl)
  unfold uintL; rw [this]; simp
theorem uintL_dec {l : List Int} (ho : Oct l) {n k : Nat} (h : uintL l = some (n, k)) : n ≤ 4294967295 ∧ k = (grps n).length ∧ l = grps n ++ l.drop k := by
  obtain ⟨m, h1, h2, h3, h4, _⟩ := go_dec l 0 0 n k ho (by omega) h
  obtain rfl : n = m := by omega
  have h3 : k = (grps n).length := by omega
  exact ⟨h2, h3, by rw [h3]; exact h4⟩
theorem drop_app {l e rest : List Int} {pos : Nat} (h : l.drop pos = e ++ rest) : l.drop (pos + e.length) = rest := by
  rw [← List.drop_drop, h, List.drop_left]
theorem drop_take {l e : List Int} {pos : Nat} (h : l.drop pos = e ++ l.drop (pos + e.length)) : (l.drop pos).take e.length = e := by
  rw [h, List.take_left]
def numS (l : List Int) (most : Nat) (r : Rd) : Nat × Rd :=
  if r.ok = true then
    match uintL (l.drop r.pos) with
    | some (n, k) => if n ≤ most then (n, ⟨r.pos + k, true⟩) else (0, ⟨r.pos, false⟩)
    | none => (0, ⟨r.pos, false⟩)
  else (0, r)
/-- A text at a place; where it ends. -/
def textL (l : List Int) (most pos : Nat) : Option (ByteArray × Nat) :=
  match uintL (l.drop pos) with
  | some (n, k) => if n ≤ most ∧ pos + k + n ≤ l.length then some (strOfNums ((l.drop (pos + k)).take n), pos + k + n) else none
  | none => none
def textS (l : List Int) (most : Nat) (r : Rd) : ByteArray × Rd :=
  if r.ok = true then
    match textL l most r.pos with
    | some (s, nx) => (s, ⟨nx, true⟩)
    | none => (⟨#[]⟩, ⟨r.pos, false⟩)
  else (⟨#[]⟩, r)
def byteS (l : List Int) (may : Int → Bool) (r : Rd) : Int × Rd :=
  if r.ok = true then
    if r.pos < l.length ∧ may (l.getD r.pos 0) = true then (l.getD r.pos 0, ⟨r.pos + 1, true⟩) else (0, ⟨r.pos, false⟩)
  else (0, r)
def wordL (l : List Int) (pos : Nat) : Int := l.getD pos 0 + l.getD (pos + 1) 0 * 256 + l.getD (pos + 2) 0 * 65536 + l.getD (pos + 3) 0 * 16777216
def wordS (l : List Int) (r : Rd) : Int × Rd :=
  if r.ok = true then
    if r.pos + 4 ≤ l.length then (wordL l r.pos, ⟨r.pos + 4, true⟩) else (0, ⟨r.pos, false⟩)
  else (0, r)
def rowsS {α : Type} (one : Rd → α × Rd) : Nat → Rd → List α × Rd
  | 0, r => ([], r)
  | n + 1, r => if r.ok = true then ((one r).1 :: (rowsS one n (one r).2).1, (rowsS one n (one r).2).2) else ([], r)
def sgnW (w : Int) : Int := if w < 2147483648 then w else w - 4294967296
def plainB (f : Int) : Bool := decide (1 ≤ f ∧ f ≤ 5)
def typeB (t : Int) : Bool := decide ((1 ≤ t ∧ t ≤ 5 ∧ t ≠ 4) ∨ t = 7)
def resB (t : Int) : Bool := decide (t = 0 ∨ (1 ≤ t ∧ t ≤ 5))
def howB (t : Int) : Bool := decide (t ≤ 3)
def constS (l : List Int) (r : Rd) : Cst × Rd :=
  let a := textS l 20 r
  let t := byteS l typeB a.2
  if t.1 = 7 then (⟨a.1, 7, 0, (textS l 200 t.2).1, true⟩, (textS l 200 t.2).2)
  else (⟨a.1, t.1, if t.1 = 1 then sgnW (wordS l t.2).1 else (wordS l t.2).1, ⟨#[]⟩, true⟩, (wordS l t.2).2)
def varS (l : List Int) (r : Rd) : Vr × Rd :=
  let a := textS l 20 r
  let f := byteS l plainB a.2
  let n := numS l 4294967295 f.2
  (⟨a.1, f.1, n.1, false, false⟩, n.2)
def parS (l : List Int) (r : Rd) : Vr × Rd :=
  let f := byteS l plainB r
  let h := byteS l howB f.2
  (⟨⟨#[]⟩, f.1, 0, decide (h.1 % 2 = 1), decide (2 ≤ h.1)⟩, h.2)
def countS {α : Type} (l : List Int) (one : Rd → α × Rd) (most : Nat) (r : Rd) : List α × Rd := rowsS one (numS l most r).1 (numS l most r).2
def procS (l : List Int) (r : Rd) : Pr × Rd :=
  let a := textS l 20 r
  let p := countS l (parS l) 8 a.2
  let f := byteS l resB p.2
  (⟨a.1, p.1, f.1⟩, f.2)
def readS (l : List Int) : Sm × Rd :=
  let a := textS l 20 ⟨4, true⟩
  let c := countS l (constS l) 200 a.2
  let v := countS l (varS l) 200 c.2
  let p := countS l (procS l) 100 v.2
  (⟨a.1, c.1, v.1, p.1⟩, if p.2.ok = true then ⟨p.2.pos, decide (p.2.pos = l.length)⟩ else p.2)
def noSym : Sm := ⟨⟨#[]⟩, [], [], []⟩
def headOk (l : List Int) : Prop := l.length ≤ 1048576 ∧ l.take 4 = [67, 82, 83, 49]
/-- What Decode answers: the symbols, a place, an error. -/
inductive DecAns (l : List Int) : Sm → Int → Int → Prop where
  | head (h : ¬ headOk l) : DecAns l noSym 0 131
  | wrong (h : headOk l) (hb : (readS l).2.ok = false) : DecAns l noSym (readS l).2.pos 131
  | form (h : headOk l) (hb : (readS l).2.ok = true) (hn : ¬ smOk (readS l).1) : DecAns l noSym 0 130
  | right (h : headOk l) (hb : (readS l).2.ok = true) (hn : smOk (readS l).1) : DecAns l (readS l).1 0 0
theorem DecAns.same {l : List Int} {s s' : Sm} {p p' e e' : Int} (h : DecAns l s p e) (k : DecAns l s' p' e') : s = s' ∧ p = p' ∧ e = e' := by
  cases h with
  | head h => cases k with
    | head k => exact ⟨rfl, rfl, rfl⟩
    | wrong k => exact absurd k h
    | form k => exact absurd k h
    | right k => exact absurd k h
  | wrong h hb => cases k with
    | head k => exact absurd h k
    | wrong k kb => exact ⟨rfl, rfl, rfl⟩
    | form k kb => rw [hb] at kb; cases kb
    | right k kb => rw [hb] at kb; cases kb
  | form h hb hn => cases k with
    | head k => exact absurd h k
    | wrong k kb => rw [hb] at kb; cases kb
    | form k kb => exact ⟨rfl, rfl, rfl⟩
    | right k kb kn => exact absurd kn hn
  | right h hb hn => cases k with
    | head k => exact absurd h k
    | wrong k kb => rw [hb] at kb; cases kb
    | form k kb kn => exact absurd hn kn
    | right k kb => exact ⟨rfl, rfl, rfl⟩
end Go.Proofs.Ytgemnmceflcpcaa
