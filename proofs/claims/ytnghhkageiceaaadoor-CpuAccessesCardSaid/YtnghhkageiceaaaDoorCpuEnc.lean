/- Words and instructions are each other's. -/
import Derived.Test.YtnghhkageiceaaaDoorCpuJ2
import Derived.Test.YtnghhkageiceaaaDoorRow2
namespace Go.Proofs.YtnghhkageiceaaaDoor
open Go Go.RowKit Go.Lib Go.Proofs.YtnghhkageiceaaaDoor.Pl
set_option linter.unusedVariables false
set_option linter.unusedSimpArgs false
theorem sextV_back (x n : Int) (k : Nat) (M : Int) (hM : (2 : Int) ^ k = 2 * M) (hM0 : 0 < M) (h : x % 2 ^ k = n % 2 ^ k) (h0 : -M ≤ n) (h1 : n < M) : sextV x k = n := by
  unfold sextV
  rw [h, hM, show 2 * M / 2 = M from by omega]
  by_cases hn : 0 ≤ n
  · rw [Int.emod_eq_of_lt hn (by omega), if_neg (by omega)]
  · have : n % (2 * M) = n + 2 * M := by rw [← Int.add_emod_right, Int.emod_eq_of_lt (by omega) (by omega)]
    rw [this, if_pos (by omega)]
    omega
theorem crb (u : Bool) : u = decide (cr u = 1) := by cases u <;> rfl
theorem dec_enc {f : Int} {u v : Bool} {a b op c n : Int} (h : rightB f u v a b op c n = true) :
    decF (encW f u v a b op c n) = f ∧ decU (encW f u v a b op c n) = u ∧ decV (encW f u v a b op c n) = v ∧ decA (encW f u v a b op c n) = a ∧ decB (encW f u v a b op c n) = b ∧ decO (encW f u v a b op c n) = op ∧ decC (encW f u v a b op c n) = c ∧ decN (encW f u v a b op c n) = n := by
  obtain ⟨ha, hb, hc, ho, hf⟩ := right_inv h
  have hu := cr_bd u
  have hv := cr_bd v
  have key : ∀ X F U V A L : Int, (0 ≤ U ∧ U ≤ 1) → (0 ≤ V ∧ V ≤ 1) → (0 ≤ A ∧ A ≤ 15) → (0 ≤ L ∧ L < 16777216) → X = F * 1073741824 + U * 536870912 + V * 268435456 + A * 16777216 + L →
      X / 1073741824 = F ∧ X / 536870912 % 2 = U ∧ X / 268435456 % 2 = V ∧ X / 16777216 % 16 = A ∧ X % 16777216 = L := by
    intro X F U V A L h1 h2 h3 h4 e
    omega
  rcases hf with ⟨rfl, rfl, _⟩ | ⟨rfl, rfl, hn, _⟩ | ⟨rfl, rfl, rfl, hn⟩ | ⟨rfl, rfl, rfl, hn⟩
  · have e : encW 0 u v a b op c 0 = 0 * 1073741824 + cr u * 536870912 + cr v * 268435456 + a * 16777216 + (b * 1048576 + op * 65536 + c) := by simp [encW, encN]; omega
    obtain ⟨k1, k2, k3, k4, k5⟩ := key _ 0 (cr u) (cr v) a _ hu hv ha (by omega) e
    generalize encW 0 u v a b op c 0 = X at *
    have hF : decF X = 0 := k1
    refine ⟨hF, by unfold decU; rw [k2, ← crb], by unfold decV; rw [k3, ← crb], k4, ?_, ?_, ?_, ?_⟩
    · unfold decB; rw [hF, if_neg (by omega)]; omega
    · unfold decO; rw [hF, if_pos (by omega)]; omega
    · unfold decC; rw [hF, if_pos (by omega)]; omega
    · unfold decN; rw [hF]; simp
  · have e : encW 1 u v a b op 0 n = 1 * 1073741824 + cr u * 536870912 + cr v * 268435456 + a * 16777216 + (b * 1048576 + op * 65536 + n) := by simp [encW, encN]; omega
    obtain ⟨k1, k2, k3, k4, k5⟩ := key _ 1 (cr u) (cr v) a _ hu hv ha (by omega) e
    generalize encW 1 u v a b op 0 n = X at *
    have hF : decF X = 1 := k1
    refine ⟨hF, by unfold decU; rw [k2, ← crb], by unfold decV; rw [k3, ← crb], k4, ?_, ?_, ?_, ?_⟩
    · unfold decB; rw [hF, if_neg (by omega)]; omega
    · unfold decO; rw [hF, if_pos (by omega)]; omega
    · unfold decC; rw [hF, if_neg (by omega)]
    · unfold decN; rw [hF, if_pos rfl]; omega
  · have e : encW 2 u v a b 0 0 n = 2 * 1073741824 + cr u * 536870912 + cr v * 268435456 + a * 16777216 + (b * 1048576 + n % 1048576) := by simp [encW, encN]; omega
    obtain ⟨k1, k2, k3, k4, k5⟩ := key _ 2 (cr u) (cr v) a _ hu hv ha (by omega) e
    generalize encW 2 u v a b 0 0 n = X at *
    have hF : decF X = 2 := k1
    refine ⟨hF, by unfold decU; rw [k2, ← crb], by unfold decV; rw [k3, ← crb], k4, ?_, ?_, ?_, ?_⟩
    · unfold decB; rw [hF, if_neg (by omega)]; omega
    · unfold decO; rw [hF, if_neg (by omega)]
    · unfold decC; rw [hF, if_neg (by omega)]
    · unfold decN; rw [hF, if_neg (by omega), if_pos rfl]
      exact sextV_back X n 20 524288 (by rfl) (by omega) (by show X % 1048576 = n % 1048576; omega) (by omega) (by omega)
  · have e : encW 3 u v a 0 0 c n = 3 * 1073741824 + cr u * 536870912 + cr v * 268435456 + a * 16777216 + (c + n % 16777216) := by simp [encW, encN]; omega
    obtain ⟨k1, k2, k3, k4, k5⟩ := key _ 3 (cr u) (cr v) a _ hu hv ha (by omega) e
    generalize encW 3 u v a 0 0 c n = X at *
    have hF : decF X = 3 := k1
    have hU : decU X = u := by unfold decU; rw [k2, ← crb]
    refine ⟨hF, hU, by unfold decV; rw [k3, ← crb], k4, ?_, ?_, ?_, ?_⟩
    · unfold decB; rw [hF, if_pos rfl]
    · unfold decO; rw [hF, if_neg (by omega)]
    · unfold decC; rw [hF, hU]
      rcases hn with ⟨rfl, rfl, _⟩ | ⟨rfl, rfl⟩
      · rw [if_neg (by simp)]
      · rw [if_pos (by simp)]; omega
    · unfold decN; rw [hF, hU, if_neg (by omega), if_neg (by omega)]
      rcases hn with ⟨rfl, rfl, hn⟩ | ⟨rfl, rfl⟩
      · rw [if_pos (by simp)]
        exact sextV_back X n 24 8388608 (by rfl) (by omega) (by show X % 16777216 = n % 16777216; omega) (by omega) (by omega)
      · rw [if_neg (by simp)]
theorem decOk_enc {f : Int} {u v : Bool} {a b op c n : Int} (h : rightB f u v a b op c n = true) : decOk (encW f u v a b op c n) = true ∧ decI (encW f u v a b op c n) = ins f u v a b op c n := by
  obtain ⟨h1, h2, h3, h4, h5, h6, h7, h8⟩ := dec_enc h
  unfold decOk decR decW decI
  rw [h1, h2, h3, h4, h5, h6, h7, h8, h]
  simp
/-- Contracts by what the word, the instruction is. -/
theorem dec_yes (x : Int) (h0 : 0 ≤ x) (h1 : x < 4294967296) (hk : decOk x = true) (w : World) (hT : Tab w) :
    Calls Tryd.prog 13 #[.int .u32 x] w fun e w' => e = .returned (.tuple #[.agg #[.int .i64 (decF x), .bool (decU x), .bool (decV x), .int .i64 (decA x), .int .i64 (decB x), .int .i64 (decO x), .int .i64 (decC x), .int .i64 (decN x)], .bool true]) ∧ Below w.heap.size w w' := by
  have := dec_any x h0 h1 w hT
  unfold decRes at this
  rw [hk, if_pos rfl] at this
  exact this
theorem dec_not (x : Int) (h0 : 0 ≤ x) (h1 : x < 4294967296) (hk : decOk x = false) (w : World) (hT : Tab w) :
    Calls Tryd.prog 13 #[.int .u32 x] w fun e w' => e = .returned (.tuple #[.agg #[.int .i64 0, .bool false, .bool false, .int .i64 0, .int .i64 0, .int .i64 0, .int .i64 0, .int .i64 0], .bool false]) ∧ Below w.heap.size w w' := by
  have := dec_any x h0 h1 w hT
  unfold decRes at this
  rw [hk, if_neg (by simp)] at this
  exact this
theorem dec_back {f : Int} {u v : Bool} {a b op c n : Int} (h : rightB f u v a b op c n = true) (w : World) (hT : Tab w) :
    Calls Tryd.prog 13 #[.int .u32 (encW f u v a b op c n)] w fun e w' => e = .returned (.tuple #[.agg #[.int .i64 f, .bool u, .bool v, .int .i64 a, .int .i64 b, .int .i64 op, .int .i64 c, .int .i64 n], .bool true]) ∧ Below w.heap.size w w' := by
  obtain ⟨h1, h2⟩ := decOk_enc h
  have := dec_any _ (encW_bd h).1 (encW_bd h).2 w hT
  unfold decRes at this
  rw [h1, if_pos rfl, h2] at this
  exact this
theorem enc_yes {f : Int} {u v : Bool} {a b op c n : Int} (h : rightB f u v a b op c n = true) (w : World) (hT : Tab w) :
    Calls Tryd.prog 16 #[.agg #[.int .i64 f, .bool u, .bool v, .int .i64 a, .int .i64 b, .int .i64 op, .int .i64 c, .int .i64 n]] w fun e w' => e = .returned (.tuple #[.int .u32 (encW f u v a b op c n), .int .i64 0]) ∧ Below w.heap.size w w' := by
  have := enc_any f u v a b op c n w hT
  unfold encR encE at this
  rw [h, if_pos rfl, if_pos rfl] at this
  exact this
theorem enc_not {f : Int} {u v : Bool} {a b op c n : Int} (h : rightB f u v a b op c n = false) (w : World) (hT : Tab w) :
    Calls Tryd.prog 16 #[.agg #[.int .i64 f, .bool u, .bool v, .int .i64 a, .int .i64 b, .int .i64 op, .int .i64 c, .int .i64 n]] w fun e w' => e = .returned (.tuple #[.int .u32 0, .int .i64 20]) ∧ Below w.heap.size w w' := by
  have := enc_any f u v a b op c n w hT
  unfold encR encE at this
  rw [h, if_neg (by simp), if_neg (by simp)] at this
  exact this
theorem enc_back (x : Int) (hk : decOk x = true) (w : World) (hT : Tab w) :
    Calls Tryd.prog 16 #[.agg #[.int .i64 (decF x), .bool (decU x), .bool (decV x), .int .i64 (decA x), .int .i64 (decB x), .int .i64 (decO x), .int .i64 (decC x), .int .i64 (decN x)]] w fun e w' => e = .returned (.tuple #[.int .u32 x, .int .i64 0]) ∧ Below w.heap.size w w' := by
  unfold decOk at hk
  rw [Bool.and_eq_true] at hk
  have h2 : decW x = x := of_decide_eq_true hk.2
  have := enc_yes (show rightB (decF x) (decU x) (decV x) (decA x) (decB x) (decO x) (decC x) (decN x) = true from hk.1) w hT
  rw [show encW (decF x) (decU x) (decV x) (decA x) (decB x) (decO x) (decC x) (decN x) = x from h2] at this
  exact this
theorem enc_zero (w : World) (hT : Tab w) :
    Calls Tryd.prog 16 #[.agg #[.int .i64 0, .bool false, .bool false, .int .i64 0, .int .i64 0, .int .i64 0, .int .i64 0, .int .i64 0]] w fun e w' => e = .returned (.tuple #[.int .u32 0, .int .i64 0]) ∧ Below w.heap.size w w' := enc_z w
theorem insCells {W : World} {g : Nat} {t : TypeId} {f : Int} {u v : Bool} {a b op c n : Int} (h : Blk W g #[.int .i64 f, .bool u, .bool v, .int .i64 a, .int .i64 b, .int .i64 op, .int .i64 c, .int .i64 n] t) :
    W.cell? ⟨g, 0, none⟩ = some (.int .i64 f) ∧ W.cell? ⟨g, 1, none⟩ = some (.bool u) ∧ W.cell? ⟨g, 2, none⟩ = some (.bool v) ∧ W.cell? ⟨g, 3, none⟩ = some (.int .i64 a) ∧ W.cell? ⟨g, 4, none⟩ = some (.int .i64 b) ∧ W.cell? ⟨g, 5, none⟩ = some (.int .i64 op) ∧ W.cell? ⟨g, 6, none⟩ = some (.int .i64 c) ∧ W.cell? ⟨g, 7, none⟩ = some (.int .i64 n) :=
  ⟨h.cell 0, h.cell 1, h.cell 2, h.cell 3, h.cell 4, h.cell 5, h.cell 6, h.cell 7⟩
end Go.Proofs.YtnghhkageiceaaaDoor
