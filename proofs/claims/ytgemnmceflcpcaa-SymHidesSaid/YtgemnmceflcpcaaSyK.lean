/- Which names have been seen: the map of names. -/
import Derived.Test.YtgemnmceflcpcaaSyJ
import Derived.Maps.OwnIn
import Derived.Maps.OwnOps
import Derived.Maps.Views
import Derived.Maps.AppendAt
namespace Go.Proofs.Ytgemnmceflcpcaa
open Go Go.RowKit Go.Lib Go.Shelf Go.Proofs.Ytgemnmceflcpcaa.Sy Go.Maps Go.WideMaps
set_option linter.unusedVariables false
set_option linter.unusedSimpArgs false
def had (l : List ByteArray) (nm : ByteArray) : Bool := l.any fun x => decide (x = nm)
theorem had_iff {l : List ByteArray} {nm : ByteArray} : had l nm = true ↔ nm ∈ l := by unfold had; simp
def keyL (nm : ByteArray) : Lit := .string nm.data.toList
theorem keyL_inj {a b : ByteArray} (h : keyL a = keyL b) : a = b := by
  unfold keyL at h
  simp only [Lit.string.injEq] at h
  cases a; cases b; congr 1; exact Array.toList_inj.1 h
/-- Which names have been seen, each once. -/
def Seen (D : DataW Unit) (l : List ByteArray) : Prop := IsMap D ∧ ∀ nm, D.atKey (keyL nm) (.lit (.int .i64 0)) = .lit (.int .i64 (if had l nm = true then 1 else 0))
theorem seen_nil : Seen (.map []) [] := ⟨isMap_empty, fun nm => rfl⟩
theorem seen_put {D : DataW Unit} {l : List ByteArray} (h : Seen D l) (nm : ByteArray) : Seen (D.put (keyL nm) (.lit (.int .i64 1))) (l ++ [nm]) := by
  refine ⟨h.1.put _ _, fun n => ?_⟩
  by_cases e : n = nm
  · subst e
    rw [atKey_put_same h.1 (by trivial), if_pos (had_iff.2 (by simp))]
  · rw [atKey_put_other (fun g => e (keyL_inj g)), h.2 n]
    by_cases hn : n ∈ l
    · rw [if_pos (had_iff.2 hn), if_pos (had_iff.2 (by simp [hn]))]
    · rw [if_neg (fun g => hn (had_iff.1 g)), if_neg (fun g => by have := had_iff.1 g; simp [hn, e] at this)]
theorem lawS : Keyed Try.prog 9 := string_keyed Try.underlying9
theorem zeroI (w : World) : (zeroValue 3).run Try.prog w = .ok (.int .i64 0) w := by kernel_rfl
/-- The count of a name. -/
theorem seen_look {W : World} {gm n : Nat} {D : DataW Unit} {l : List ByteArray} (h : W.ownsMap Try.prog 9 (plainElem Try.prog 3) gm n D) (hs : Seen D l) (nm : ByteArray) (hn : nm.size ≤ maxLen) {c : Int} (hc : c = if had l nm = true then 1 else 0) :
    (Instr.lookup 65 (.map (some gm)) (.string nm) false).run Try.prog W = .ok (.int .i64 c) W := by
  obtain ⟨c', hrun, hat, _⟩ := h.lookup_int lawS Try.underlying65 Try.underlying3 (zeroI _) (keyOf_string_mk Try.underlying9 hn)
  have := hs.2 nm
  unfold keyL at this
  rw [this] at hat
  simp only [DataW.lit.injEq, Lit.int.injEq, true_and] at hat
  rw [hrun, hc, ← hat]
/-- The count of a name that was seen once and is counted again. -/
theorem seen_two {W : World} {gm n : Nat} {D : DataW Unit} {nm : ByteArray} (h : W.ownsMap Try.prog 9 (plainElem Try.prog 3) gm n (D.put (.string nm.data.toList) (.lit (.int .i64 2)))) (hD : IsMap D) (hn : nm.size ≤ maxLen) :
    (Instr.lookup 65 (.map (some gm)) (.string nm) false).run Try.prog W = .ok (.int .i64 2) W := by
  obtain ⟨c', hrun, hat, _⟩ := h.lookup_int lawS Try.underlying65 Try.underlying3 (zeroI _) (keyOf_string_mk Try.underlying9 hn)
  rw [atKey_put_same hD (by trivial)] at hat
  simp only [DataW.lit.injEq, Lit.int.injEq, true_and] at hat
  rw [hrun, ← hat]
end Go.Proofs.Ytgemnmceflcpcaa
