/- Contracts of word.Get, whole, and of the document's Get. -/
import Derived.Test.YtgemnmceflcpcaaQE
import Derived.Test.YtgemnmceflcpcaaProg
import Derived.WalkKit
import Derived.Lib.Hide
import Derived.ProofKit
import Derived.Handy
import Derived.Maps.AppendAt
namespace Go.Proofs.Ytgemnmceflcpcaa
open Go.RowKit Pl
set_option linter.unusedVariables false
theorem whole_any (b off c : Nat) (x0 x1 x2 x3 : Int) (w : World) (h0 : 0 ≤ x0 ∧ x0 ≤ 255) (h1 : 0 ≤ x1 ∧ x1 ≤ 255) (h2 : 0 ≤ x2 ∧ x2 ≤ 255) (h3 : 0 ≤ x3 ∧ x3 ≤ 255)
    (c0 : w.cell? ⟨b, off, none⟩ = some (.int .u8 x0)) (c1 : w.cell? ⟨b, off + 1, none⟩ = some (.int .u8 x1)) (c2 : w.cell? ⟨b, off + 2, none⟩ = some (.int .u8 x2)) (c3 : w.cell? ⟨b, off + 3, none⟩ = some (.int .u8 x3)) :
    Calls Try.prog 94 #[.slice (some ⟨b, off, none⟩) 4 c] w fun e w' => e = .returned (.int .u32 (x0 + x1 * 256 + x2 * 65536 + x3 * 16777216)) ∧ w = w' := by
  go_enter Try.func94, Try.ntmps94
  go_wp2_with fail
  go_rounds 5
  go_ret
  exact ⟨one1 (whole4 x0 x1 x2 x3 h0 h1 h2 h3), rfl⟩
theorem tup2bG {k : IntKind} {a c : Int} {x y : Bool} (h : a = c) (g : x = y) : Ending.returned (.tuple #[.int k a, .bool x]) = Ending.returned (.tuple #[.int k c, .bool y]) := by rw [h, g]
theorem get_yes (b off n c : Nat) (f : Nat → Int) (k : Nat) (w : World) (hn : n ≤ 9223372036854775807) (hcap : n ≤ c) (hat : k + 4 ≤ n) (hf : ∀ i, 0 ≤ f i ∧ f i ≤ 255)
    (hc : ∀ i, i < n → w.cell? ⟨b, off + i, none⟩ = some (.int .u8 (f i))) :
    Calls Try.prog 81 #[.slice (some ⟨b, off, none⟩) n c, .int .i64 k] w fun e w' => e = .returned (.tuple #[.int .u32 (getV f k), .bool true]) ∧ w = w' := by
  have h0 := hf k; have h1 := hf (k + 1); have h2 := hf (k + 2); have h3 := hf (k + 3)
  have HC := whole_any b (off + k) (c - k) (f k) (f (k + 1)) (f (k + 2)) (f (k + 3)) w h0 h1 h2 h3 (hc k (by omega)) (by have := hc (k + 1) (by omega); rw [← Nat.add_assoc] at this; exact this) (by have := hc (k + 2) (by omega); rw [← Nat.add_assoc] at this; exact this) (by have := hc (k + 3) (by omega); rw [← Nat.add_assoc] at this; exact this)
  have HH := Lib.hid HC
  clear HC hc hf
  go_enter Try.func81, Try.ntmps81
  go_wp2_with fail
  refine HH.out.mono ?_
  rintro e w' ⟨rfl, rfl⟩
  go_wp2_with fail
  go_ret2
  exact ⟨rfl, rfl⟩
theorem get_no (A : Option Addr) (n c : Nat) (k : Int) (w : World) (hn : n ≤ 9223372036854775807) (h : k < 0 ∨ (n : Int) < k + 4) :
    Calls Try.prog 81 #[.slice A n c, .int .i64 k] w fun e w' => e = .returned (.tuple #[.int .u32 0, .bool false]) ∧ w = w' := by
  by_cases h1 : k < 0
  · go_enter Try.func81, Try.ntmps81
    go_wp2_with fail
    go_ret2
    exact ⟨rfl, rfl⟩
  · have h2 : (n : Int) - 4 < k := by omega
    clear h
    go_enter Try.func81, Try.ntmps81
    go_wp2_with fail
    go_ret2
    exact ⟨rfl, rfl⟩
theorem get_any (A : Option Addr) (n c : Nat) (f : Nat → Int) (k : Int) (w : World) (hn : n ≤ 9223372036854775807) (hcap : n ≤ c) (hf : ∀ i, 0 ≤ f i ∧ f i ≤ 255) (hr : RdI .u8 w A n f) :
    Calls Try.prog 81 #[.slice A n c, .int .i64 k] w fun e w' => e = .returned (.tuple #[.int .u32 (getR n f k), .bool (getOk n k)]) ∧ w = w' := by
  by_cases h : 0 ≤ k ∧ k + 4 ≤ n
  · obtain ⟨b, off, rfl, _, hc⟩ := hr (by omega)
    obtain ⟨m, rfl⟩ := Int.eq_ofNat_of_zero_le h.1
    unfold getR
    rw [getOk_yes h.1 h.2, if_pos rfl]
    exact get_yes b off n c f m w hn hcap (by omega) hf hc
  · unfold getR
    rw [getOk_no (by omega), if_neg (by decide)]
    exact get_no A n c k w hn (by omega)
theorem rget_yes (b off n c : Nat) (f : Nat → Int) (k : Nat) (w : World) (hn : n ≤ 9223372036854775807) (hat : k + 4 ≤ n) (hf : ∀ i, 0 ≤ f i ∧ f i ≤ 255)
    (hc : ∀ i, i < n → w.cell? ⟨b, off + i, none⟩ = some (.int .u8 (f i))) :
    Calls Try.prog 88 #[.slice (some ⟨b, off, none⟩) n c, .int .i64 k] w fun e w' => e = .returned (.tuple #[.int .u32 (getV f k), .bool true]) ∧ w = w' := by
  have h0 := hf k; have h1 := hf (k + 1); have h2 := hf (k + 2); have h3 := hf (k + 3)
  have c0 := hc k (by omega); have c1 := hc (k + 1) (by omega); have c2 := hc (k + 2) (by omega); have c3 := hc (k + 3) (by omega)
  clear hc hf
  go_enter Try.func88, Try.ntmps88
  go_wp2_with fail
  go_rounds 5
  go_ret2
  refine ⟨tup2bG ?_ rfl, rfl⟩
  unfold getV; omega
theorem rget_no (A : Option Addr) (n c : Nat) (k : Int) (w : World) (hn : n ≤ 9223372036854775807) (h : k < 0 ∨ (n : Int) < k + 4) :
    Calls Try.prog 88 #[.slice A n c, .int .i64 k] w fun e w' => e = .returned (.tuple #[.int .u32 0, .bool false]) ∧ w = w' := by
  by_cases h1 : k < 0
  · go_enter Try.func88, Try.ntmps88
    go_wp2_with fail
    go_ret2
    exact ⟨rfl, rfl⟩
  · by_cases h3 : (n : Int) < 4
    · go_enter Try.func88, Try.ntmps88
      go_wp2_with fail
      go_ret2
      exact ⟨rfl, rfl⟩
    · have h2 : (n : Int) - 4 < k := by omega
      clear h
      go_enter Try.func88, Try.ntmps88
      go_wp2_with fail
      go_ret2
      exact ⟨rfl, rfl⟩
theorem rget_any (A : Option Addr) (n c : Nat) (f : Nat → Int) (k : Int) (w : World) (hn : n ≤ 9223372036854775807) (hf : ∀ i, 0 ≤ f i ∧ f i ≤ 255) (hr : RdI .u8 w A n f) :
    Calls Try.prog 88 #[.slice A n c, .int .i64 k] w fun e w' => e = .returned (.tuple #[.int .u32 (getR n f k), .bool (getOk n k)]) ∧ w = w' := by
  by_cases h : 0 ≤ k ∧ k + 4 ≤ n
  · obtain ⟨b, off, rfl, _, hc⟩ := hr (by omega)
    obtain ⟨m, rfl⟩ := Int.eq_ofNat_of_zero_le h.1
    unfold getR
    rw [getOk_yes h.1 h.2, if_pos rfl]
    exact rget_yes b off n c f m w hn (by omega) hf hc
  · unfold getR
    rw [getOk_no (by omega), if_neg (by decide)]
    exact rget_no A n c k w hn (by omega)
end Go.Proofs.Ytgemnmceflcpcaa
