/- Rows of types: what they say, no memory in sight. -/
import Derived.WalkKit
namespace Go.Proofs.Ytmbnpfjimidggaa.Ty
set_option linter.unusedVariables false
set_option linter.unusedSimpArgs false
structure Fld where
  name : ByteArray
  type : Int
  off : Int
structure Typ where
  form : Int
  len : Int
  elem : Int
  base : Int
  fields : List Fld
  size : Int
  level : Int
def nil_ : Typ := ⟨0, 0, 0, 0, [], 0, 0⟩
/-- The type of a place; none's is nil_. -/
def at_ (L : List Typ) (t : Int) : Typ := if 0 ≤ t ∧ t < L.length then L.getD t.toNat nil_ else nil_
def thingF (f : Int) : Bool := decide (1 ≤ f ∧ f ≤ 5) || decide (f = 8) || decide (f = 10) || decide (f = 11)
def thing (L : List Typ) (t : Int) : Bool := thingF (at_ L t).form
/-- A record's chain of bases, from t: is b in it? -/
def chain (L : List Typ) : Nat → Int → Int → Bool
  | 0, _, _ => false
  | n + 1, t, b => if (at_ L t).form = 10 ∧ (at_ L b).form = 10 then (if t = b then true else chain L n (at_ L t).base b) else false
def ext (L : List Typ) (t b : Int) : Bool :=
  if (at_ L t).form = 11 ∧ (at_ L b).form = 11 then (if t = b then true else chain L (L.length + 1) (at_ L t).elem (at_ L b).elem)
  else chain L (L.length + 1) t b
/-- Each record's base stands ahead of it. -/
def Ahead (L : List Typ) : Prop := ∀ i, i < L.length → (at_ L (i : Nat)).form = 10 → (at_ L (i : Nat)).base = 0 ∨ (0 ≤ (at_ L (i : Nat)).base ∧ (at_ L (i : Nat)).base < i)
theorem at_rec {L : List Typ} {t : Int} (h : (at_ L t).form = 10) : 0 ≤ t ∧ t < L.length := by
  unfold at_ at h
  by_cases hc : 0 ≤ t ∧ t < L.length
  · exact hc
  · rw [if_neg hc] at h; exact absurd h (by decide)
/-- What a step down the chain comes to is lower. -/
theorem base_lt {L : List Typ} (hA : Ahead L) (h0 : (at_ L 0).form ≠ 10) {t : Int} (h : (at_ L t).form = 10) (hb : (at_ L (at_ L t).base).form = 10) : (at_ L t).base < t ∧ 0 ≤ (at_ L t).base := by
  obtain ⟨h1, h2⟩ := at_rec h
  have := hA t.toNat (by omega) (by rw [show ((t.toNat : Nat) : Int) = t from by omega]; exact h)
  rw [show ((t.toNat : Nat) : Int) = t from by omega] at this
  rcases this with h3 | h3
  · rw [h3] at hb; exact absurd hb h0
  · exact ⟨h3.2, h3.1⟩
/-- What the chain says does not hang on how far it may go. -/
theorem chain_more {L : List Typ} (hA : Ahead L) (h0 : (at_ L 0).form ≠ 10) : ∀ (n m : Nat) (t b : Int), t < n → t < m → chain L n t b = chain L m t b
  | 0, 0, t, b, _, _ => rfl
  | 0, m + 1, t, b, h, _ => by
    unfold chain
    rw [if_neg]
    rintro ⟨h1, _⟩
    have := at_rec h1; omega
  | n + 1, 0, t, b, _, h => by
    unfold chain
    rw [if_neg]
    rintro ⟨h1, _⟩
    have := at_rec h1; omega
  | n + 1, m + 1, t, b, hn, hm => by
    unfold chain
    by_cases hc : (at_ L t).form = 10 ∧ (at_ L b).form = 10
    · rw [if_pos hc, if_pos hc]
      by_cases e : t = b
      · rw [if_pos e, if_pos e]
      · rw [if_neg e, if_neg e]
        by_cases hb : (at_ L (at_ L t).base).form = 10
        · have := base_lt hA h0 hc.1 hb
          exact chain_more hA h0 n m _ _ (by omega) (by omega)
        · have key : ∀ k, chain L k (at_ L t).base b = false := fun k => by
            cases k with
            | zero => rfl
            | succ k => unfold chain; rw [if_neg (fun h => hb h.1)]
          rw [key, key]
    · rw [if_neg hc, if_neg hc]
theorem chain_le {L : List Typ} (hA : Ahead L) (h0 : (at_ L 0).form ≠ 10) : ∀ (n : Nat) (t b : Int), chain L n t b = true → b ≤ t ∧ (at_ L t).form = 10 ∧ (at_ L b).form = 10
  | 0, t, b, h => by cases h
  | n + 1, t, b, h => by
    unfold chain at h
    by_cases hc : (at_ L t).form = 10 ∧ (at_ L b).form = 10
    · rw [if_pos hc] at h
      by_cases e : t = b
      · subst e; exact ⟨Int.le_refl _, hc⟩
      · rw [if_neg e] at h
        obtain ⟨h1, h2, h3⟩ := chain_le hA h0 n _ _ h
        have := base_lt hA h0 hc.1 h2
        exact ⟨by omega, hc⟩
    · rw [if_neg hc] at h; cases h
theorem chain_trans {L : List Typ} (hA : Ahead L) (h0 : (at_ L 0).form ≠ 10) : ∀ (n m : Nat) (t b c : Int), chain L n t b = true → chain L m b c = true → t < n → b < m → chain L n t c = true
  | 0, m, t, b, c, h, _, _, _ => by cases h
  | n + 1, m, t, b, c, h, k, hn, hm => by
    obtain ⟨_, h1, h2⟩ := chain_le hA h0 _ _ _ h
    obtain ⟨k0, _, k2⟩ := chain_le hA h0 _ _ _ k
    by_cases e : t = b
    · subst e
      rw [chain_more hA h0 (n + 1) m t c hn hm]; exact k
    · unfold chain at h ⊢
      rw [if_pos ⟨h1, h2⟩, if_neg e] at h
      rw [if_pos ⟨h1, k2⟩]
      by_cases e2 : t = c
      · rw [if_pos e2]
      · rw [if_neg e2]
        obtain ⟨j0, j1, j2⟩ := chain_le hA h0 _ _ _ h
        have := base_lt hA h0 h1 j1
        exact chain_trans hA h0 n m _ b c h k (by omega) hm
theorem ext_trans {L : List Typ} (hA : Ahead L) (h0 : (at_ L 0).form ≠ 10) (a b c : Int) (h : ext L a b = true) (k : ext L b c = true) : ext L a c = true := by
  have lt : ∀ n t b, chain L n t b = true → t < ((L.length + 1 : Nat) : Int) ∧ b < ((L.length + 1 : Nat) : Int) := fun n t b h => by
    obtain ⟨_, h1, h2⟩ := chain_le hA h0 _ _ _ h
    have := at_rec h1; have := at_rec h2; omega
  unfold ext at h k ⊢
  by_cases hp : (at_ L a).form = 11 ∧ (at_ L b).form = 11
  · rw [if_pos hp] at h
    by_cases hq : (at_ L b).form = 11 ∧ (at_ L c).form = 11
    · rw [if_pos hq] at k
      rw [if_pos ⟨hp.1, hq.2⟩]
      by_cases e : a = b
      · subst e; exact k
      · rw [if_neg e] at h
        by_cases e2 : b = c
        · subst e2; rw [if_neg e]; exact h
        · rw [if_neg e2] at k
          by_cases e3 : a = c
          · rw [if_pos e3]
          · rw [if_neg e3]
            exact chain_trans hA h0 _ _ _ _ _ h k (lt _ _ _ h).1 (lt _ _ _ k).1
    · rw [if_neg hq] at k
      have := (chain_le hA h0 _ _ _ k).2.1
      rw [hp.2] at this; exact absurd this (by decide)
  · rw [if_neg hp] at h
    have hr := (chain_le hA h0 _ _ _ h).2
    by_cases hq : (at_ L b).form = 11 ∧ (at_ L c).form = 11
    · rw [hq.1] at hr; exact absurd hr.2 (by decide)
    · rw [if_neg hq] at k
      rw [if_neg (fun hh => by rw [hr.1] at hh; exact absurd hh.1 (by decide))]
      exact chain_trans hA h0 _ _ _ _ _ h k (lt _ _ _ h).1 (lt _ _ _ k).1
theorem ext_anti {L : List Typ} (hA : Ahead L) (h0 : (at_ L 0).form ≠ 10) (a b : Int) (h : ext L a b = true) (k : ext L b a = true) (ha : (at_ L a).form = 10) : a = b := by
  unfold ext at h k
  rw [if_neg (fun hh => by rw [ha] at hh; exact absurd hh.1 (by decide))] at h
  rw [if_neg (fun hh => by rw [ha] at hh; exact absurd hh.2 (by decide))] at k
  have := (chain_le hA h0 _ _ _ h).1
  have := (chain_le hA h0 _ _ _ k).1
  omega
end Go.Proofs.Ytmbnpfjimidggaa.Ty
