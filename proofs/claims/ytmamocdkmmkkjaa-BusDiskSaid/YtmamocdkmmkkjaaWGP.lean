/- Contracts of word.Get, whole, Put (by themselves, for a seat that has no other function of word). -/
import Derived.Test.YtmamocdkmmkkjaaPlainC
import Derived.Test.YtmamocdkmmkkjaaProg
import Derived.WalkKit
import Derived.Lib.Hide
import Derived.ProofKit
import Derived.Handy
import Derived.Maps.AppendAt
namespace Go.Proofs.Ytmamocdkmmkkjaa
open Go.RowKit Pl
set_option linter.unusedVariables false
theorem whole_any (b off c : Nat) (x0 x1 x2 x3 : Int) (w : World) (h0 : 0 ≤ x0 ∧ x0 ≤ 255) (h1 : 0 ≤ x1 ∧ x1 ≤ 255) (h2 : 0 ≤ x2 ∧ x2 ≤ 255) (h3 : 0 ≤ x3 ∧ x3 ≤ 255)
    (c0 : w.cell? ⟨b, off, none⟩ = some (.int .u8 x0)) (c1 : w.cell? ⟨b, off + 1, none⟩ = some (.int .u8 x1)) (c2 : w.cell? ⟨b, off + 2, none⟩ = some (.int .u8 x2)) (c3 : w.cell? ⟨b, off + 3, none⟩ = some (.int .u8 x3)) :
    Calls Try.prog 49 #[.slice (some ⟨b, off, none⟩) 4 c] w fun e w' => e = .returned (.int .u32 (x0 + x1 * 256 + x2 * 65536 + x3 * 16777216)) ∧ w = w' := by
  go_enter Try.func49, Try.ntmps49
  go_wp2_with fail
  go_rounds 5
  go_ret
  exact ⟨one1 (whole4 x0 x1 x2 x3 h0 h1 h2 h3), rfl⟩
theorem tup2bG {k : IntKind} {a c : Int} {x y : Bool} (h : a = c) (g : x = y) : Ending.returned (.tuple #[.int k a, .bool x]) = Ending.returned (.tuple #[.int k c, .bool y]) := by rw [h, g]
theorem get_yes (b off n c : Nat) (f : Nat → Int) (k : Nat) (w : World) (hn : n ≤ 9223372036854775807) (hcap : n ≤ c) (hat : k + 4 ≤ n) (hf : ∀ i, 0 ≤ f i ∧ f i ≤ 255)
    (hc : ∀ i, i < n → w.cell? ⟨b, off + i, none⟩ = some (.int .u8 (f i))) :
    Calls Try.prog 29 #[.slice (some ⟨b, off, none⟩) n c, .int .i64 k] w fun e w' => e = .returned (.tuple #[.int .u32 (getV f k), .bool true]) ∧ w = w' := by
  have h0 := hf k; have h1 := hf (k + 1); have h2 := hf (k + 2); have h3 := hf (k + 3)
  have HC := whole_any b (off + k) (c - k) (f k) (f (k + 1)) (f (k + 2)) (f (k + 3)) w h0 h1 h2 h3 (hc k (by omega)) (by have := hc (k + 1) (by omega); rw [← Nat.add_assoc] at this; exact this) (by have := hc (k + 2) (by omega); rw [← Nat.add_assoc] at this; exact this) (by have := hc (k + 3) (by omega); rw [← Nat.add_assoc] at this; exact this)
  have HH := Lib.hid HC
  clear HC hc hf
  go_enter Try.func29, Try.ntmps29
  go_wp2_with fail
  refine HH.out.mono ?_
  rintro e w' ⟨rfl, rfl⟩
  go_wp2_with fail
  go_ret2
  exact ⟨rfl, rfl⟩
theorem get_no (A : Option Addr) (n c : Nat) (k : Int) (w : World) (hn : n ≤ 9223372036854775807) (h : k < 0 ∨ (n : Int) < k + 4) :
    Calls Try.prog 29 #[.slice A n c, .int .i64 k] w fun e w' => e = .returned (.tuple #[.int .u32 0, .bool false]) ∧ w = w' := by
  by_cases h1 : k < 0
  · go_enter Try.func29, Try.ntmps29
    go_wp2_with fail
    go_ret2
    exact ⟨rfl, rfl⟩
  · have h2 : (n : Int) - 4 < k := by omega
    clear h
    go_enter Try.func29, Try.ntmps29
    go_wp2_with fail
    go_ret2
    exact ⟨rfl, rfl⟩
theorem get_any (A : Option Addr) (n c : Nat) (f : Nat → Int) (k : Int) (w : World) (hn : n ≤ 9223372036854775807) (hcap : n ≤ c) (hf : ∀ i, 0 ≤ f i ∧ f i ≤ 255) (hr : RdI .u8 w A n f) :
    Calls Try.prog 29 #[.slice A n c, .int .i64 k] w fun e w' => e = .returned (.tuple #[.int .u32 (getR n f k), .bool (getOk n k)]) ∧ w = w' := by
  by_cases h : 0 ≤ k ∧ k + 4 ≤ n
  · obtain ⟨b, off, rfl, _, hc⟩ := hr (by omega)
    obtain ⟨m, rfl⟩ := Int.eq_ofNat_of_zero_le h.1
    unfold getR
    rw [getOk_yes h.1 h.2, if_pos rfl]
    exact get_yes b off n c f m w hn hcap (by omega) hf hc
  · unfold getR
    rw [getOk_no (by omega), if_neg (by decide)]
    exact get_no A n c k w hn (by omega)
theorem put_yes (b off n c : Nat) (k : Nat) (x : Int) (w : World) (hn : n ≤ 9223372036854775807) (hat : k + 4 ≤ n) (hx : 0 ≤ x) (hx' : x < 4294967296) (v0 v1 v2 v3 : Value)
    (c0 : w.cell? ⟨b, off + k, none⟩ = some v0) (c1 : w.cell? ⟨b, off + (k + 1), none⟩ = some v1) (c2 : w.cell? ⟨b, off + (k + 2), none⟩ = some v2) (c3 : w.cell? ⟨b, off + (k + 3), none⟩ = some v3)
    (f0 : w.frozen? ⟨b, off + k, none⟩ = false) (f1 : w.frozen? ⟨b, off + (k + 1), none⟩ = false) (f2 : w.frozen? ⟨b, off + (k + 2), none⟩ = false) (f3 : w.frozen? ⟨b, off + (k + 3), none⟩ = false) :
    Calls Try.prog 27 #[.slice (some ⟨b, off, none⟩) n c, .int .i64 k, .int .u32 x] w fun e w' => e = .returned (.bool true) ∧ put4 w b (off + k) x = w' := by
  go_enter Try.func27, Try.ntmps27
  go_wp2_with fail
  go_rounds 5
  go_ret
  exact ⟨rfl, rfl⟩
theorem put_no (A : Option Addr) (n c : Nat) (k : Int) (x : Int) (w : World) (hn : n ≤ 9223372036854775807) (h : k < 0 ∨ (n : Int) < k + 4) :
    Calls Try.prog 27 #[.slice A n c, .int .i64 k, .int .u32 x] w fun e w' => e = .returned (.bool false) ∧ w = w' := by
  by_cases h1 : k < 0
  · go_enter Try.func27, Try.ntmps27
    go_wp2_with fail
    go_ret
    exact ⟨rfl, rfl⟩
  · have h2 : (n : Int) - 4 < k := by omega
    clear h
    go_enter Try.func27, Try.ntmps27
    go_wp2_with fail
    go_ret
    exact ⟨rfl, rfl⟩
/-- What Put leaves. -/
def putW (w : World) (g off n : Nat) (k x : Int) : World := if getOk n k then put4 w g (off + k.toNat) x else w
theorem put_any (g off n N c : Nat) (t : TypeId) (L : Nat → Int) (k x : Int) (w : World) (hn : n ≤ 9223372036854775807) (hx : 0 ≤ x) (hx' : x < 4294967296) (ho : OwnI .u8 w g N t L) (hN : off + n ≤ N) :
    Calls Try.prog 27 #[.slice (some ⟨g, off, none⟩) n c, .int .i64 k, .int .u32 x] w fun e w' => e = .returned (.bool (getOk n k)) ∧ putW w g off n k x = w' := by
  unfold putW
  by_cases h : 0 ≤ k ∧ k + 4 ≤ n
  · obtain ⟨m, rfl⟩ := Int.eq_ofNat_of_zero_le h.1
    rw [getOk_yes h.1 h.2, if_pos rfl]
    exact put_yes g off n c m x w hn (by omega) hx hx' _ _ _ _ (ho.cell (by omega)) (ho.cell (by omega)) (ho.cell (by omega)) (ho.cell (by omega)) (ho.frozen _) (ho.frozen _) (ho.frozen _) (ho.frozen _)
  · rw [getOk_no (by omega), if_neg (by decide)]
    exact put_no _ n c k x w hn (by omega)
theorem putW_own {w : World} {g off n N : Nat} {t : TypeId} {L : Nat → Int} (h : OwnI .u8 w g N t L) (k x : Int) (hx : 0 ≤ x) (hx' : x < 4294967296) :
    OwnI .u8 (putW w g off n k x) g N t (fun i => if getOk n k = true ∧ off + k.toNat ≤ i ∧ i < off + k.toNat + 4 then wbyte x (i - (off + k.toNat)) else L i) := by
  unfold putW
  by_cases hk : getOk n k = true
  · rw [if_pos hk]
    refine (put4_own h _ x hx hx').congr fun i _ => ?_
    unfold laid4
    by_cases hi : off + k.toNat ≤ i ∧ i < off + k.toNat + 4
    · rw [if_pos hi, if_pos ⟨hk, hi⟩]
    · rw [if_neg hi, if_neg (fun hh => hi hh.2)]
  · rw [if_neg hk]
    exact h.congr fun i _ => by rw [if_neg (fun hh => hk hh.1)]
theorem putW_below {w : World} {B g off n : Nat} (hB : B ≤ g) (k x : Int) : Below B w (putW w g off n k x) := by
  unfold putW; split
  · exact put4_below hB _ x
  · exact Below.refl _ _

end Go.Proofs.Ytmamocdkmmkkjaa
