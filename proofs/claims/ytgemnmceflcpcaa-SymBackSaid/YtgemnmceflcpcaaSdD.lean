/- The reader: its place. -/
import Derived.Test.YtgemnmceflcpcaaSdC
namespace Go.Proofs.Ytgemnmceflcpcaa
open Go Go.RowKit Go.Lib Go.Proofs.Ytgemnmceflcpcaa.Sy Pl
set_option linter.unusedVariables false
set_option linter.unusedSimpArgs false
@[reducible] def rcells (v : Value) (p b : Int) : Array Value := #[v, .int .i64 p, .int .i64 b]
/-- A reader of the bytes l, at r. -/
structure RdAt (w : World) (g : Nat) (v : Value) (l : List Int) (r : Rd) : Prop where
  blk : Blk w g (rcells v r.pos r.bad) 99
  bytes : BytesAt w v l
  old : l ≠ [] → ∀ b, v.ownBlock = some b → b < g
  oct : Oct l
  len : l.length ≤ 2000000
  pos : r.pos ≤ l.length
theorem Touch.bytes {w w' : World} {v : Value} {l : List Int} {r : List Nat} (h : BytesAt w v l) (T : Touch w w' r) (hn : l ≠ [] → ∀ g, v.ownBlock = some g → g ∉ r) : BytesAt w' v l := RowsAt.touch h T (fun hr => hn (fun e => hr (by rw [e]; rfl)))
theorem RdAt.step {w w' : World} {g : Nat} {v : Value} {l : List Int} {r : Rd} (h : RdAt w g v l r) (b : Below w.heap.size w w') : RdAt w' g v l r := ⟨h.blk.step b, h.bytes.below b, h.old, h.oct, h.len, h.pos⟩
theorem RdAt.touch {w w' : World} {g : Nat} {v : Value} {l : List Int} {r : Rd} {s : List Nat} (h : RdAt w g v l r) (T : Touch w w' s) (hs : ∀ x ∈ s, g < x) : RdAt w' g v l r :=
  ⟨T.blk h.blk (fun hm => Nat.lt_irrefl _ (hs g hm)), Touch.bytes h.bytes T (fun hl b hb hm => by have := h.old hl b hb; have := hs b hm; omega), h.old, h.oct, h.len, h.pos⟩
theorem RdAt.setTo {w w' : World} {g : Nat} {v : Value} {l : List Int} {r r' : Rd} (h : RdAt w g v l r) (hb : Blk w' g (rcells v r'.pos r'.bad) 99) (T : Touch w w' [g]) (hp : r'.pos ≤ l.length) : RdAt w' g v l r' :=
  ⟨hb, Touch.bytes h.bytes T (fun hl b hb => by have := h.old hl b hb; simp only [List.mem_singleton]; omega), h.old, h.oct, h.len, hp⟩
/-- What 'took' comes to. -/
def tookS (r : Rd) (next : Int) (ok : Bool) : Rd := if r.ok = true then (if ok = true then ⟨next.toNat, true⟩ else ⟨r.pos, false⟩) else r
/-- A step of the reader: the answer, the reader behind it; nothing else of what was there has changed. -/
def RdP (g : Nat) (v : Value) (l : List Int) (w : World) (r' : Rd) (a : Value) (e : Ending) (w' : World) : Prop := e = .returned a ∧ RdAt w' g v l r' ∧ Touch w w' [g]
section
variable {w : World} {g : Nat} {v : Value} {l : List Int}
set_option maxHeartbeats 2000000 in
theorem took_any {r : Rd} (hR : RdAt w g v l r) (next : Int) (ok : Bool) (h : ok = true → 0 ≤ next ∧ next ≤ l.length) :
    Calls Try.prog 60 #[.pointer (some ⟨g, 0, none⟩), .int .i64 next, .bool ok] w (RdP g v l w (tookS r next ok) (.bool (r.ok && ok))) := by
  have HR := Lib.hid hR
  have l1 := hR.blk.cell 1
  have l2 := hR.blk.cell 2
  have f1 := hR.blk.frozen 1
  have f2 := hR.blk.frozen 2
  obtain ⟨p, k⟩ := r
  cases k with
  | true =>
    cases ok with
    | true =>
      have h1 := h rfl
      have l2 : w.cell? ⟨g, 2, none⟩ = some (.int .i64 (-1)) := l2
      clear hR h
      go_enter Try.func60, Try.ntmps60
      go_wp2_with fail
      go_ret
      have hb := HR.out.blk.set 1 (.int .i64 next)
      refine ⟨rfl, ?_, (Touch.set w ⟨g, 1, none⟩ _)⟩
      refine HR.out.setTo (r' := tookS ⟨p, true⟩ next true) ?_ (Touch.set w ⟨g, 1, none⟩ _) ?_
      · simp only [tookS, if_true, Rd.bad]; rw [show ((next.toNat : Nat) : Int) = next from by omega]; exact hb
      · simp only [tookS, if_true]; omega
    | false =>
      have l2 : w.cell? ⟨g, 2, none⟩ = some (.int .i64 (-1)) := l2
      have hpp : (0 : Int) ≤ (p : Int) := by omega
      clear hR h
      go_enter Try.func60, Try.ntmps60
      go_wp2_with fail
      go_ret
      have hb := HR.out.blk.set 2 (.int .i64 (p : Int))
      refine ⟨rfl, ?_, (Touch.set w ⟨g, 2, none⟩ _)⟩
      refine HR.out.setTo (r' := tookS ⟨p, true⟩ next false) ?_ (Touch.set w ⟨g, 2, none⟩ _) ?_
      · simp only [tookS, if_true, Rd.bad]; exact hb
      · simp only [tookS, if_true]; exact HR.out.pos
  | false =>
    have l2 : w.cell? ⟨g, 2, none⟩ = some (.int .i64 (p : Int)) := l2
    have hpp : (0 : Int) ≤ (p : Int) := by omega
    clear hR h
    go_enter Try.func60, Try.ntmps60
    go_wp2_with fail
    go_ret
    exact ⟨rfl, by simp only [tookS]; exact HR.out, Touch.refl _ _⟩
end
end Go.Proofs.Ytgemnmceflcpcaa
