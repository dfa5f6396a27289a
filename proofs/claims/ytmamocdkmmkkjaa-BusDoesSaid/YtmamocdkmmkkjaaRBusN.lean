/- A new bus of the document's; a slice that is lent. -/
import Derived.Test.YtmamocdkmmkkjaaRBusM
import Derived.Test.YtmamocdkmmkkjaaBusZ
namespace Go.Proofs.Ytmamocdkmmkkjaa
open Go Go.RowKit Go.Lib Go.Proofs.Ytmamocdkmmkkjaa.Pl
set_option linter.unusedVariables false
set_option linter.unusedSimpArgs false
theorem getV_words' (f : Nat → Int) (n j : Nat) (hj : j < n) (h0 : 0 ≤ f j) (h1 : f j < 4294967296) : getV (wordsM f n) (4 * j) = f j := by
  unfold getV wordsM
  rw [if_pos (by omega), if_pos (by omega), if_pos (by omega), if_pos (by omega), show 4 * j / 4 = j from by omega, show (4 * j + 1) / 4 = j from by omega, show (4 * j + 2) / 4 = j from by omega, show (4 * j + 3) / 4 = j from by omega,
    show 4 * j % 4 = 0 from by omega, show (4 * j + 1) % 4 = 1 from by omega, show (4 * j + 2) % 4 = 2 from by omega, show (4 * j + 3) % 4 = 3 from by omega]
  simp only [wbyte]
  omega
theorem getV_words0 (f : Nat → Int) (n j : Nat) (hj : ¬ j < n) : getV (wordsM f n) (4 * j) = 0 := by
  unfold getV wordsM
  rw [if_neg (by omega), if_neg (by omega), if_neg (by omega), if_neg (by omega)]
  rfl
theorem zeroB : (0 : Int) ≤ 0 ∧ (0 : Int) < 4294967296 := ⟨by decide, by decide⟩
theorem rbnew_at (A : Option Addr) (n c : Nat) (f : Nat → Int) (w : World) (base r : Nat) (vf : Value) (N : Nat) (sec0 : Nat → ByteArray) (hn : n ≤ 262144) (hf : ∀ i, 0 ≤ f i ∧ f i < 4294967296) (hr : RdI .u32 w A n f) (R : RefAt w base r vf (.slice none 0 0) N sec0 []) (hN : 8 ≤ N ∧ N ≤ 1024) (hs : ∀ i, (sec0 i).size = 1024) :
    Calls Try.prog 33 #[.slice A n c, .pointer (some ⟨r, 0, none⟩)] w fun e w' => ∃ u, e = .returned (.tuple #[.pointer (some ⟨u.b, 0, none⟩), .int .i64 0]) ∧ RBusAt w' base u ⟨wordsM f n, [], [], 0, 0, 0, 0, N, sec0, []⟩ sec0 [] ∧ Below w.heap.size w w' ∧ ∀ g ∈ rbrow u, g ∈ rrow r vf (.slice none 0 0) ∨ w.heap.size ≤ g := by
  refine (rbnew_yes A n c f w r hn hr).mono ?_
  rintro e w' ⟨b, mm, rfl, hb, hm, hbl, h1, h2⟩
  have hlt := rrow_lt' R
  have hbase : base ≤ w.heap.size := Nat.le_trans R.br (Nat.le_of_lt R.rlt)
  refine ⟨⟨b, mm, r, .slice none 0 0, vf, .slice none 0 0⟩, rfl, {
    row := hb
    mem := hm.congr fun i _ => by
      by_cases hi : i < n
      · rw [if_pos hi]; exact (getV_words' f n i hi (hf i).1 (hf i).2).symm
      · rw [if_neg hi]; exact (getV_words0 f n i hi).symm
    mb := wordsM_bd f n
    out := ⟨rfl, .inl ⟨rfl, rfl⟩⟩
    ql := Nat.zero_le _
    ol := Nat.zero_le _
    tkb := zeroB
    seb := zeroB
    adb := zeroB
    flb := zeroB
    disk := R.below hbl
    nb := hN
    sec := rfl
    ws := rfl
    few := Nat.zero_le _
    slen := fun i _ => hs i
    nd := ?_
    lo := ⟨by show base ≤ b; omega, by show base ≤ mm; omega⟩ }, hbl, fun g hg => ?_⟩
  · have nr : (rrow r vf (.slice none 0 0)).Nodup := by
      have hrf := R.rf
      simp only [rrow, show (Value.slice none 0 0).ownBlock = none from rfl, Option.toList_none, List.append_nil]
      generalize vf.ownBlock = o at hrf
      cases o with
      | none => simp
      | some k => simp; intro e; exact hrf (by rw [e])
    simp only [rbrow, Value.ownBlock, Option.toList_none, List.nil_append, List.nodup_cons, List.mem_cons, not_or]
    exact ⟨⟨by omega, fun h => by have := (hlt b h).2; omega⟩, fun h => by have := (hlt mm h).2; omega, nr⟩
  · simp only [rbrow, List.mem_cons, List.mem_append, Value.ownBlock, Option.toList_none, List.not_mem_nil, false_or] at hg
    rcases hg with h | h | h
    · exact .inr (by omega)
    · exact .inr (by omega)
    · exact .inl h
theorem mk_lent (n : Nat) (hn : n ≤ 35184372090000) (w : World) : (Instr.makeSlice 23 (.int .i64 (n : Int)) (.int .i64 ((n : Int) + 3))).run Try.prog w = .ok (.slice (some ⟨w.heap.size, 0, none⟩) n (n + 3)) (w.alloc (.cells (madeCells #[.int .u32 0] (n + 3)) 22)) := by
  obtain ⟨i0, hi, hz0, hz1, hz2⟩ := u32_info
  have h := run_make (P := Try.prog) w 23 22 i0 (.int .u32 0) Try.underlying23 hi hz0 .i64 .i64 (n : Int) ((n : Int) + 3) (by omega) (by omega) (by rw [hz2]; omega) (by omega)
  rw [hz1, Nat.mul_one, show ((n : Int) + 3).toNat = n + 3 from by omega, show (n : Int).toNat = n from by omega] at h
  exact h
/-- What is copied into a slice that is lent. -/
theorem lent_copy (w w1 : World) (g n : Nat) (c : Nat) (A : Option Addr) (f : Nat → Int) (hr : RdI .u32 w A n f) (hb : Below w.heap.size w w1) (hO : OwnI .u32 w1 g (n + 3) 22 (fun _ => 0)) (tt : TypeId) :
    ∃ vl w2, (Builtin.copy_ #[23, 23] tt #[.slice (some ⟨g, 0, none⟩) n (n + 3), .slice A n c]).run Try.prog w1 = .ok vl w2 ∧ OwnI .u32 w2 g (n + 3) 22 (fun i => if i < n then f i else 0) ∧ Touch w1 w2 [g] := by
  by_cases hn0 : 0 < n
  · obtain ⟨b, off, rfl, hlb, hc⟩ := hr hn0
    have hadd : ∀ j, (⟨b, off, none⟩ : Addr).add j = ⟨b, off + j, none⟩ := fun j => by unfold Addr.add; split <;> simp_all
    have hsrc : ∀ j u, (icells f n)[j]? = some u → w1.cell? ((⟨b, off, none⟩ : Addr).add j) = some u := fun j u hj => by
      have hl : j < n := by have := (List.getElem?_eq_some_iff.1 hj).1; rwa [icells_length] at this
      rw [hadd, ← hj, icells_get f n j hl]
      exact (hb.cell (p := ⟨b, off + j, none⟩) hlb).trans (hc j hl)
    have hmin : (icells f n).length = Nat.min n n := by rw [icells_length]; exact (Nat.min_self n).symm
    have hth : w1.there g 0 (icells f n).length := fun j hj => by
      rw [icells_length] at hj
      have hj2 : 0 + j < n + 3 := by omega
      rw [hO.cell hj2]
      exact ⟨rfl, hO.frozen _⟩
    have hcp := run_copy_cells (P := Try.prog) w1 23 23 tt 22 g 0 n (n + 3) ⟨b, off, none⟩ n c (icells f n) Try.underlying23 u32_one hmin hsrc (fun j hj => (hth j hj).1) (fun j hj => (hth j hj).2) (icells_one f n)
    exact ⟨_, _, hcp, rmem_made hO f n (by omega), Touch.setCells g (icells f n) 0 w1⟩
  · obtain rfl : n = 0 := by omega
    have hcp := run_copy_none (P := Try.prog) w1 23 23 tt 22 (some ⟨g, 0, none⟩) A 0 3 0 c Try.underlying23 u32_one (Nat.min_self 0)
    exact ⟨_, _, hcp, hO.congr fun i _ => by simp, Touch.refl _ _⟩
end Go.Proofs.Ytmamocdkmmkkjaa
