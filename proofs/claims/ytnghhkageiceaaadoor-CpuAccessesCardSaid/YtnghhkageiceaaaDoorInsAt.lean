/- Instructions in a list. -/
import Derived.Test.YtnghhkageiceaaaDoorRefF
namespace Go.Proofs.YtnghhkageiceaaaDoor
open Go Go.RowKit Go.Lib Go.Proofs.YtnghhkageiceaaaDoor.Pl
set_option linter.unusedVariables false
set_option linter.unusedSimpArgs false
attribute [local go_sem ↓] exec_load_cpu exec_store_cpu run_eql_ins run_neq_ins
/-- An instruction that lies from a place on. -/
def InsAt (w : World) (g o : Nat) (f : Int) (u v : Bool) (a b op c n : Int) : Prop :=
  w.cell? ⟨g, o, none⟩ = some (.int .i64 f) ∧ w.cell? ⟨g, o + 1, none⟩ = some (.bool u) ∧ w.cell? ⟨g, o + 2, none⟩ = some (.bool v) ∧ w.cell? ⟨g, o + 3, none⟩ = some (.int .i64 a) ∧ w.cell? ⟨g, o + 4, none⟩ = some (.int .i64 b) ∧ w.cell? ⟨g, o + 5, none⟩ = some (.int .i64 op) ∧ w.cell? ⟨g, o + 6, none⟩ = some (.int .i64 c) ∧ w.cell? ⟨g, o + 7, none⟩ = some (.int .i64 n)
theorem InsAt.below {B : Nat} {w w' : World} {g o : Nat} {f : Int} {u v : Bool} {a b op c n : Int} (h : InsAt w g o f u v a b op c n) (hb : Below B w w') (hg : g < B) : InsAt w' g o f u v a b op c n := by
  obtain ⟨h0, h1, h2, h3, h4, h5, h6, h7⟩ := h
  exact ⟨(hb.cell (p := ⟨g, o, none⟩) hg).trans h0, (hb.cell (p := ⟨g, o + 1, none⟩) hg).trans h1, (hb.cell (p := ⟨g, o + 2, none⟩) hg).trans h2, (hb.cell (p := ⟨g, o + 3, none⟩) hg).trans h3, (hb.cell (p := ⟨g, o + 4, none⟩) hg).trans h4, (hb.cell (p := ⟨g, o + 5, none⟩) hg).trans h5, (hb.cell (p := ⟨g, o + 6, none⟩) hg).trans h6, (hb.cell (p := ⟨g, o + 7, none⟩) hg).trans h7⟩
theorem insAt_of_row {w : World} {A : Option Addr} {cap : Nat} {V : Nat → Nat → Value} (h : Gen.Rows_ w A cap insKinds V) (hc : 0 < cap) :
    ∃ g off, A = some ⟨g, off, none⟩ ∧ g < w.heap.size ∧ ∀ i, i < cap → ∃ f u v a b op c n, InsAt w g (off + i * 8) f u v a b op c n := by
  obtain ⟨g, off, hA, hg, hcell⟩ := h.1 hc (by decide)
  refine ⟨g, off, hA, hg, fun i hi => ?_⟩
  have hint : ∀ j, insKinds[j]? = some (Gen.CT.int .i64) → j < 8 → ∃ n, w.cell? ⟨g, off + i * 8 + j, none⟩ = some (.int .i64 n) := fun j hj hj8 => by
    obtain ⟨n, h1, _⟩ := (h.2 i j _ hi hj).int_inv
    have := hcell i j hi hj8
    rw [h1] at this
    exact ⟨n, by rw [show off + i * 8 + j = off + (i * 8 + j) from by omega]; exact this⟩
  have hbool : ∀ j, insKinds[j]? = some Gen.CT.bool → j < 8 → ∃ n, w.cell? ⟨g, off + i * 8 + j, none⟩ = some (.bool n) := fun j hj hj8 => by
    obtain ⟨n, h1⟩ := (h.2 i j _ hi hj).bool_inv
    have := hcell i j hi hj8
    rw [h1] at this
    exact ⟨n, by rw [show off + i * 8 + j = off + (i * 8 + j) from by omega]; exact this⟩
  obtain ⟨f, hf⟩ := hint 0 rfl (by omega)
  obtain ⟨u, hu⟩ := hbool 1 rfl (by omega)
  obtain ⟨v, hv⟩ := hbool 2 rfl (by omega)
  obtain ⟨a, ha⟩ := hint 3 rfl (by omega)
  obtain ⟨b, hb⟩ := hint 4 rfl (by omega)
  obtain ⟨op, ho⟩ := hint 5 rfl (by omega)
  obtain ⟨c, hc⟩ := hint 6 rfl (by omega)
  obtain ⟨n, hn⟩ := hint 7 rfl (by omega)
  exact ⟨f, u, v, a, b, op, c, n, hf, hu, hv, ha, hb, ho, hc, hn⟩
end Go.Proofs.YtnghhkageiceaaaDoor
