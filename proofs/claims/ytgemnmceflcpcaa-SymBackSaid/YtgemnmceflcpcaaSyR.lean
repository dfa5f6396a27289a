/- A variable laid behind bytes. -/
import Derived.Test.YtgemnmceflcpcaaSyQ
import Derived.Deep.AppendLies
import Derived.IntWalk
namespace Go.Proofs.Ytgemnmceflcpcaa
open Go Go.RowKit Go.Lib Go.Proofs.Ytgemnmceflcpcaa.Sy
set_option linter.unusedVariables false
set_option linter.unusedSimpArgs false
theorem own_weak {w : World} {B B' : Nat} {v : Value} {l : List Int} (h : OwnB w B v l) (hB : B' ≤ B) : OwnB w B' v l := by
  refine ⟨h.1, ?_⟩
  rcases h.2 with h2 | ⟨g, cp, cur, e, h1, r⟩
  · exact .inl h2
  · exact .inr ⟨g, cp, cur, e, by omega, r⟩
theorem Touch.own {w w' : World} {r : List Nat} {B : Nat} {v : Value} {l : List Int} (h : OwnB w B v l) (T : Touch w w' r) (hn : ∀ g, v.ownBlock = some g → g ∉ r) : OwnB w' B v l := T.owns h hn
theorem own_below {w w' : World} {B : Nat} {v : Value} {l : List Int} (h : OwnB w B v l) (b : Below w.heap.size w w') : OwnB w' B v l := (Touch.of_below b []).owns h (fun g hg => by simp)
theorem ownB_push {w : World} {B : Nat} {v : Value} {l r : List Int} (h : w.ownsRow B 5 1 v (l.length + r.length) (l.map encB ++ r.map encB)) : OwnB w B v (l ++ r) := by
  unfold OwnB; rw [List.length_append, List.map_append]; exact h
/-- append at a step of a region that draws: bytes. -/
theorem step_appB {w : World} {ops : Array Oper} {o : Oper} {a : Act} {K : Act → World → Prop} {Q : Exit → Act → World → Prop} {E : Prop} (hgd : o.guard = none) (s x : Operand)
    (ho : o.op = .call { callee := .builtin .append, args := #[s, x], argTypes := #[30, 30] }) {B : Nat} {v : Value} {l : List Int} (r : List Int) (hs : a.eval s = v) (hO : OwnB w B v l)
    {ad : Addr} {m c : Nat} (hx : a.eval x = .slice (some ad) m c) (hm : r.length = m) (hnews : ∀ j u, (r.map encB)[j]? = some u → w.cell? (ad.add j) = some u) (h0 : 0 < m) (hl : l.length + m ≤ 1000000000) (hB : B ≤ w.heap.size)
    (h : ∀ v' w', OwnB w' B v' (l ++ r) → Touch w w' v.ownBlock.toList → K (a.put o.dst v') w') :
    if Region.wanted o (yielded ops a.tmps) = true then Oper.wp Try.prog o a w K Q else E := by
  obtain ⟨i0, hi, hz0, hz1, hz2⟩ := info_parts info_u8
  refine step_append_lies _ hgd s x 30 ho B 5 i0 (.int .u8 0) 1 1 Try.underlying30 hi hz0 hz1 hz2 rfl (by decide) v _ _ hs hO ad m c (r.map encB) hx (by rw [List.length_map, hm]; omega) hnews (fun u hu => by obtain ⟨b, _, rfl⟩ := List.mem_map.1 hu; rfl) h0 (by unfold maxLen; omega) (by omega) hB _ rfl ?_
  intro g cap w' hown hgrow _ _
  refine h _ w' (ownB_push ?_) (Touch.of_grown hgrow)
  rw [hm]; exact hown
/-- append in a region of one order: bytes. -/
theorem list_appB {w : World} {ops : Array Oper} {rest : List Oper} {o : Oper} {a : Act} {Q : Exit → Act → World → Prop} (hgd : o.guard = none) (s x : Operand)
    (ho : o.op = .call { callee := .builtin .append, args := #[s, x], argTypes := #[30, 30] }) {B : Nat} {v : Value} {l : List Int} (r : List Int) (hs : a.eval s = v) (hO : OwnB w B v l)
    {ad : Addr} {m c : Nat} (hx : a.eval x = .slice (some ad) m c) (hm : r.length = m) (hnews : ∀ j u, (r.map encB)[j]? = some u → w.cell? (ad.add j) = some u) (hl : l.length + m ≤ 1000000000) (hB : B ≤ w.heap.size)
    (h : ∀ v' w', OwnB w' B v' (l ++ r) → Touch w w' v.ownBlock.toList → (v' = .slice none 0 0 ↔ v = .slice none 0 0 ∧ m = 0) → wpList Try.prog ops Q rest (a.put o.dst v') w') : wpList Try.prog ops Q (o :: rest) a w := by
  obtain ⟨i0, hi, hz0, hz1, hz2⟩ := info_parts info_u8
  refine wpList_append_own _ hgd s x 30 ho B 5 i0 (.int .u8 0) 1 1 Try.underlying30 hi hz0 hz1 hz2 rfl (by decide) v _ _ hs hO ad m c (r.map encB) hx (by rw [List.length_map, hm]; omega) hnews (fun u hu => by obtain ⟨b, _, rfl⟩ := List.mem_map.1 hu; rfl) (by unfold maxLen; omega) (by omega) hB ?_
  intro v' w' hown hgrow hnil
  refine h v' w' (ownB_push ?_) (Touch.of_grown hgrow) hnil
  rw [hm]; exact hown
theorem own_touchB {w0 w w' : World} {v : Value} {l : List Int} (hO : OwnB w w0.heap.size v l) (hb : Below w0.heap.size w0 w) (hT : Touch w w' v.ownBlock.toList) : Below w0.heap.size w0 w' := own_touch_below hO hb hT
end Go.Proofs.Ytgemnmceflcpcaa
