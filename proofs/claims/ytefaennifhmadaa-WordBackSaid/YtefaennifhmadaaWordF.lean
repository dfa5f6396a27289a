/- Contracts of word.Put and of the document's Word. -/
import Derived.Test.YtefaennifhmadaaWordE
import Derived.Maps.AppendAt
namespace Go.Proofs.Ytefaennifhmadaa
open Go.RowKit Pl
set_option linter.unusedVariables false
theorem put_yes (b off n c : Nat) (k : Nat) (x : Int) (w : World) (hn : n ≤ 9223372036854775807) (hat : k + 4 ≤ n) (hx : 0 ≤ x) (hx' : x < 4294967296) (v0 v1 v2 v3 : Value)
    (c0 : w.cell? ⟨b, off + k, none⟩ = some v0) (c1 : w.cell? ⟨b, off + (k + 1), none⟩ = some v1) (c2 : w.cell? ⟨b, off + (k + 2), none⟩ = some v2) (c3 : w.cell? ⟨b, off + (k + 3), none⟩ = some v3)
    (f0 : w.frozen? ⟨b, off + k, none⟩ = false) (f1 : w.frozen? ⟨b, off + (k + 1), none⟩ = false) (f2 : w.frozen? ⟨b, off + (k + 2), none⟩ = false) (f3 : w.frozen? ⟨b, off + (k + 3), none⟩ = false) :
    Calls Try.prog 31 #[.slice (some ⟨b, off, none⟩) n c, .int .i64 k, .int .u32 x] w fun e w' => e = .returned (.bool true) ∧ put4 w b (off + k) x = w' := by
  go_enter Try.func31, Try.ntmps31
  go_wp2_with fail
  go_rounds 5
  go_ret
  exact ⟨rfl, rfl⟩
theorem put_no (A : Option Addr) (n c : Nat) (k : Int) (x : Int) (w : World) (hn : n ≤ 9223372036854775807) (h : k < 0 ∨ (n : Int) < k + 4) :
    Calls Try.prog 31 #[.slice A n c, .int .i64 k, .int .u32 x] w fun e w' => e = .returned (.bool false) ∧ w = w' := by
  by_cases h1 : k < 0
  · go_enter Try.func31, Try.ntmps31
    go_wp2_with fail
    go_ret
    exact ⟨rfl, rfl⟩
  · have h2 : (n : Int) - 4 < k := by omega
    clear h
    go_enter Try.func31, Try.ntmps31
    go_wp2_with fail
    go_ret
    exact ⟨rfl, rfl⟩
/-- What Put leaves. -/
def putW (w : World) (g off n : Nat) (k x : Int) : World := if getOk n k then put4 w g (off + k.toNat) x else w
theorem put_any (g off n N c : Nat) (t : TypeId) (L : Nat → Int) (k x : Int) (w : World) (hn : n ≤ 9223372036854775807) (hx : 0 ≤ x) (hx' : x < 4294967296) (ho : OwnI .u8 w g N t L) (hN : off + n ≤ N) :
    Calls Try.prog 31 #[.slice (some ⟨g, off, none⟩) n c, .int .i64 k, .int .u32 x] w fun e w' => e = .returned (.bool (getOk n k)) ∧ putW w g off n k x = w' := by
  unfold putW
  by_cases h : 0 ≤ k ∧ k + 4 ≤ n
  · obtain ⟨m, rfl⟩ := Int.eq_ofNat_of_zero_le h.1
    rw [getOk_yes h.1 h.2, if_pos rfl]
    exact put_yes g off n c m x w hn (by omega) hx hx' _ _ _ _ (ho.cell (by omega)) (ho.cell (by omega)) (ho.cell (by omega)) (ho.cell (by omega)) (ho.frozen _) (ho.frozen _) (ho.frozen _) (ho.frozen _)
  · rw [getOk_no (by omega), if_neg (by decide)]
    exact put_no _ n c k x w hn (by omega)
theorem putW_own {w : World} {g off n N : Nat} {t : TypeId} {L : Nat → Int} (h : OwnI .u8 w g N t L) (k x : Int) (hx : 0 ≤ x) (hx' : x < 4294967296) :
    OwnI .u8 (putW w g off n k x) g N t (fun i => if getOk n k = true ∧ off + k.toNat ≤ i ∧ i < off + k.toNat + 4 then wbyte x (i - (off + k.toNat)) else L i) := by
  unfold putW
  by_cases hk : getOk n k = true
  · rw [if_pos hk]
    refine (put4_own h _ x hx hx').congr fun i _ => ?_
    unfold laid4
    by_cases hi : off + k.toNat ≤ i ∧ i < off + k.toNat + 4
    · rw [if_pos hi, if_pos ⟨hk, hi⟩]
    · rw [if_neg hi, if_neg (fun hh => hi hh.2)]
  · rw [if_neg hk]
    exact h.congr fun i _ => by rw [if_neg (fun hh => hk hh.1)]
theorem putW_below {w : World} {B g off n : Nat} (hB : B ≤ g) (k x : Int) : Below B w (putW w g off n k x) := by
  unfold putW; split
  · exact put4_below hB _ x
  · exact Below.refl _ _

/-! The document's four bytes. -/
theorem info_u8 : (Try.prog.info? 5).map (fun i => (i.zero, i.size, i.bytes)) = some (some (.int .u8 0), 1, 1) := by kernel_rfl
def WordPost (x : Int) (w : World) (e : Ending) (w' : World) : Prop :=
  ∃ g cap, e = .returned (.slice (some ⟨g, 0, none⟩) 4 cap) ∧ w.heap.size ≤ g ∧ 4 ≤ cap ∧ RdI .u8 w' (some ⟨g, 0, none⟩) 4 (wbyte x) ∧ Below w.heap.size w w'
theorem div_256 (x : Int) (k : Nat) : x / 256 ^ k / 256 = x / 256 ^ (k + 1) := by
  rw [Int.ediv_ediv_of_nonneg (Int.le_of_lt (Int.pow_pos (by decide))), Int.pow_succ]
theorem wbyte_pow (x : Int) (k : Nat) (h : k < 4) : x / 256 ^ k % 256 = wbyte x k := by
  have hk : k = 0 ∨ k = 1 ∨ k = 2 ∨ k = 3 := by omega
  rcases hk with rfl | rfl | rfl | rfl
  · show x / 1 % 256 = _; rw [Int.ediv_one]; rfl
  · rfl
  · rfl
  · rfl
theorem word_any (x : Int) (hx : 0 ≤ x) (hx' : x < 4294967296) (w : World) : Calls Try.prog 32 #[.int .u32 x] w (WordPost x w) := by
  obtain ⟨i0, hi, hz0, hz1, hz2⟩ := info_parts info_u8
  go_enter Try.func32, Try.ntmps32
  go_wp2_with fail
  go_loopw [0, 3, 4] (fun a v i wr => ∃ k : Nat, k ≤ 4 ∧ i = .int .i64 k ∧ a = .int .u32 (x / 256 ^ k) ∧ wr.ownsRow w.heap.size 5 1 v k ((List.range k).map fun j => .int .u8 (wbyte x j)) ∧ Below w.heap.size w wr) (fun _ _ i _ => 4 - (intOf i).toNat)
  case atStart => exact ⟨0, by omega, rfl, by simp, ⟨rfl, .inl ⟨rfl, rfl⟩⟩, Below.refl _ _⟩
  case round =>
    obtain ⟨k, hk, rfl, rfl, hown, hb⟩ := hrel
    have h0 : 0 ≤ x / 256 ^ k ∧ x / 256 ^ k < 4294967296 := ⟨Int.ediv_nonneg hx (Int.le_of_lt (Int.pow_pos (by decide))), by have := Int.ediv_le_self (256 ^ k) hx; omega⟩
    have HD := Lib.hid (div_256 x k)
    by_cases hlt : k < 4
    · have HP := Lib.hid (wbyte_pow x k hlt)
      go_wp2_with (at_builtin; refine wpList_append_own _ rfl _ _ 22 rfl w.heap.size 5 i0 (.int .u8 0) 1 1 Try.underlying22 hi hz0 hz1 hz2 rfl (by decide) _ _ _ rfl (hown.alloc _) ⟨wr.heap.size, 0, none⟩ 1 1 [.int .u8 (x / 256 ^ k % 256)] rfl rfl ?c1 ?c2 ?c3 ?c4 ?c5 ?_)
      case c1 => exact cell_one_new _ _ _
      case c2 => intro u hu; simp at hu; subst hu; rfl
      case c3 => unfold maxLen; omega
      case c4 => omega
      case c5 => simp; have := hb.size; omega
      intro v' w1 hown' hgrow _
      have hb1 := (hb.alloc hb.size (.cells #[.int .u8 (x / 256 ^ k % 256)] 5)).grown hgrow (by simp; have := hb.size; omega) (fun g hg => by
        rcases hown.2 with ⟨rfl, _⟩ | ⟨g', cap, cur, rfl, hbase, _⟩
        · cases hg
        · simp [Value.ownBlock] at hg; omega)
      have ho2 : w1.ownsRow w.heap.size 5 1 v' (k + 1) ((List.range (k + 1)).map fun j => .int .u8 (wbyte x j)) := by
        rw [HP.out] at hown'
        rw [List.range_succ, List.map_append]
        exact hown'
      clear hown' hgrow hown hb
      go_wp2_with fail
      go_roundw
      case rel => exact ⟨k + 1, by omega, by go_num, by rw [← HD.out], ho2, hb1⟩
      case measure => simp [intOf]; omega
    · obtain rfl : k = 4 := by omega
      go_wp2_with fail
      go_ret
      obtain ⟨hlen, hh⟩ := hown
      rcases hh with ⟨_, h4⟩ | ⟨g, cap, cur, rfl, hbase, hg, hc, hm, hsz, htk⟩
      · omega
      · refine ⟨g, cap, rfl, hbase, hc, fun _ => ⟨g, 0, rfl, ?_, fun i hi => ?_⟩, hb⟩
        · exact block_lt_of_cell (a := ⟨g, 0, none⟩) (v := .int .u8 (wbyte x 0)) (by
            rw [cell_of_row _ _ _ _ _ _ hg]
            have := congrArg (fun l : List Value => l[0]?) htk
            simpa [List.getElem?_take] using this)
        · rw [Nat.zero_add, cell_of_row _ _ _ _ _ _ hg]
          have := congrArg (fun l : List Value => l[i]?) htk
          have h4 : i = 0 ∨ i = 1 ∨ i = 2 ∨ i = 3 := by omega
          rcases h4 with rfl | rfl | rfl | rfl <;> simpa [List.getElem?_take, List.range, List.range.loop] using this
end Go.Proofs.Ytefaennifhmadaa
