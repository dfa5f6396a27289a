/- Plain facts on sums over bytes. No program in sight. -/
import Derived.Test.YtefaennifhmadaaPlain
import Derived.ProofKit
import Derived.OpenShut
namespace Go.Proofs.Ytefaennifhmadaa.Pl
open Go Go.RowKit

/-- A slice of integers that reads as f, index by index. -/
def RdI (k : IntKind) (w : World) (A : Option Addr) (n : Nat) (f : Nat → Int) : Prop :=
  0 < n → ∃ b off, A = some ⟨b, off, none⟩ ∧ b < w.heap.size ∧ ∀ i, i < n → w.cell? ⟨b, off + i, none⟩ = some (.int k (f i))

theorem RdI.below {k : IntKind} {w w' : World} {A : Option Addr} {n : Nat} {f : Nat → Int} (h : RdI k w A n f) (hb : Below w.heap.size w w') : RdI k w' A n f := fun hn => by
  obtain ⟨b, off, hA, hlt, hc⟩ := h hn
  exact ⟨b, off, hA, Nat.lt_of_lt_of_le hlt hb.size, fun i hi => (hb.cell (p := ⟨b, off + i, none⟩) hlt).trans (hc i hi)⟩
theorem cell_lt {w : World} {p : Addr} {v : Value} (h : w.cell? p = some v) : p.block < w.heap.size := by
  rcases Nat.lt_or_ge p.block w.heap.size with g | g
  · exact g
  · exfalso
    unfold World.cell? at h
    rw [Array.getElem?_eq_none g] at h
    simp at h
theorem RdI.of_row {k : IntKind} {w : World} {A : Option Addr} {n cap : Nat} {zs : List Int}
    (h : (A = none ∧ n = 0 ∧ cap = 0 ∧ zs = []) ∨ ∃ x, A = some x ∧ n ≤ cap ∧ cap ≤ maxLen ∧ zs.length = cap ∧ (∀ i, i < zs.length → w.cell? (x.add i) = some (.int k (zs.getD i 0))) ∧ ∀ n ∈ zs, (Lit.int k n).wf = true) :
    RdI k w A n (fun i => zs.getD i 0) ∧ n ≤ 9223372036854775807 ∧ ((Lit.int k 0).wf = true → ∀ i, (Lit.int k (zs.getD i 0)).wf = true) := by
  rcases h with ⟨rfl, rfl, rfl, rfl⟩ | ⟨x, rfl, hl, hm, hz, hc, hw⟩
  · exact ⟨fun h => absurd h (by omega), by omega, fun h i => by simpa using h⟩
  · refine ⟨fun hn => ?_, by unfold maxLen at hm; omega, fun h0 i => ?_⟩
    · obtain ⟨b, off, spot⟩ := x
      have h0 := hc 0 (by omega)
      have hs : spot = none := by simpa [Addr.add] using World.cell?_spot h0
      subst hs
      have hlt := cell_lt h0
      refine ⟨b, off, rfl, by simpa [Addr.add] using hlt, fun i hi => ?_⟩
      have := hc i (by omega)
      by_cases hi0 : i = 0
      · subst hi0; simpa [Addr.add] using this
      · simpa [Addr.add, hi0] using this
    · rcases Nat.lt_or_ge i zs.length with g | g
      · rw [List.getD_eq_getElem?_getD, List.getElem?_eq_getElem g]; exact hw _ (List.getElem_mem g)
      · rw [List.getD_eq_getElem?_getD, List.getElem?_eq_none g]; exact h0

def sumK (f : Nat → Int) : Nat → Int
  | 0 => 2166136261
  | k + 1 => bits .xor .u32 (sumK f k) (f k) * 16777619 % 4294967296
theorem sumK_bd (f : Nat → Int) (k : Nat) : 0 ≤ sumK f k ∧ sumK f k < 4294967296 := by
  cases k with
  | zero => unfold sumK; omega
  | succ k => unfold sumK; omega
theorem xor_bd (x y : Int) (hx : 0 ≤ x) (hx' : x < 4294967296) (hy : 0 ≤ y) (hy' : y < 4294967296) : 0 ≤ bits .xor .u32 x y ∧ bits .xor .u32 x y < 4294967296 := by
  rw [u32_xor _ _ hx hx' hy hy']
  have := xor_lt x.toNat y.toNat (by omega) (by omega)
  omega
theorem xor_low (x y : Int) (hx : 0 ≤ x) (hx' : x < 4294967296) (hy : 0 ≤ y) (hy' : y ≤ 255) : x / 256 * 256 + bits .xor .u64 (x % 256) y = bits .xor .u32 x y := by
  rw [u32_xor _ _ hx hx' hy (by omega), u64_xor _ _ (by omega) (by omega) hy (by omega)]
  obtain ⟨x, rfl⟩ := Int.eq_ofNat_of_zero_le hx
  obtain ⟨y, rfl⟩ := Int.eq_ofNat_of_zero_le hy
  have e : ((x : Int) % 256).toNat = x % 256 := by omega
  rw [e]
  simp only [Int.toNat_natCast]
  have h1 : (x ^^^ y) / 2 ^ 8 = x / 2 ^ 8 ^^^ y / 2 ^ 8 := Nat.xor_div_two_pow
  have h2 : (x ^^^ y) % 2 ^ 8 = x % 2 ^ 8 ^^^ y % 2 ^ 8 := Nat.xor_mod_two_pow
  have h3 : y / 2 ^ 8 = 0 := by omega
  have h4 : y % 2 ^ 8 = y := by omega
  rw [h3, Nat.xor_zero] at h1
  rw [h4] at h2
  have h5 : (2 : Nat) ^ 8 = 256 := rfl
  rw [h5] at h1 h2
  rw [← h2]
  omega
end Go.Proofs.Ytefaennifhmadaa.Pl
