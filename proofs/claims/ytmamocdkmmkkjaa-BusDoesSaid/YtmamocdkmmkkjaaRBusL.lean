/- A bus and the document's, side by side. -/
import Derived.Test.YtmamocdkmmkkjaaRBusK
import Derived.Test.YtmamocdkmmkkjaaBusK
import Derived.Test.YtmamocdkmmkkjaaBusL
namespace Go.Proofs.Ytmamocdkmmkkjaa
open Go Go.RowKit Go.Lib Go.Proofs.Ytmamocdkmmkkjaa.Pl
set_option linter.unusedVariables false
set_option linter.unusedSimpArgs false
structure Both (w0 w : World) (b1 b2 : Nat) (v : BV) (u : RV) (x z : BS) (sec0 : Nat → ByteArray) (hist : List (Nat × ByteArray)) : Prop where
  p : BusAt w b1 v x
  r : RBusAt w b2 u z sec0 hist
  below : Below w0.heap.size w0 w
  l1 : w0.heap.size ≤ b1
  l2 : w0.heap.size ≤ b2
  ap : ∀ g ∈ brow v, g ∉ rbrow u
section
variable {w0 w w' : World} {b1 b2 : Nat} {v v' : BV} {u u' : RV} {x x' z z' : BS} {sec0 : Nat → ByteArray} {hist hist' : List (Nat × ByteArray)}
theorem Both.opP (T : Both w0 w b1 b2 v u x z sec0 hist) (B : BusAt w' b1 v' x') (h : Moves w w' v v') : Both w0 w' b1 b2 v' u x' z sec0 hist :=
  ⟨B, T.r.touch h.t (fun g hg hm => T.ap g hm hg), T.below.trans (h.t.below T.below.size (fun g hg => Nat.le_trans T.l1 (T.p.lt g hg).1)), T.l1, T.l2, fun g hg hn => by
    rcases h.n g hg with h1 | h1
    · exact T.ap g h1 hn
    · have := (T.r.lt g hn).2; omega⟩
theorem Both.opR (T : Both w0 w b1 b2 v u x z sec0 hist) (R : RBusAt w' b2 u' z' sec0 hist') (h : RMoves w w' u u') : Both w0 w' b1 b2 v u' x z' sec0 hist' :=
  ⟨T.p.touch h.t (fun g hg hm => T.ap g hg hm), R, T.below.trans (h.t.below T.below.size (fun g hg => Nat.le_trans T.l2 (T.r.lt g hg).1)), T.l1, T.l2, fun g hg hn => by
    rcases h.n g hn with h1 | h1
    · exact T.ap g hg h1
    · have := (T.p.lt g hg).2; omega⟩
theorem Both.step (T : Both w0 w b1 b2 v u x z sec0 hist) (h : Below w.heap.size w w') : Both w0 w' b1 b2 v u x z sec0 hist := T.opP (T.p.below h) (Moves.of_below v h)
theorem Both.free (T : Both w0 w b1 b2 v u x z sec0 hist) {g : Nat} (hg : w.heap.size ≤ g ∨ g < w0.heap.size) : g ∉ brow v ∧ g ∉ rbrow u :=
  ⟨fun h => by have := T.p.lt g h; have := T.l1; omega, fun h => by have := T.r.lt g h; have := T.l2; omega⟩
theorem Both.doP (T : Both w0 w b1 b2 v u x z sec0 hist) (k a y : Int) (a0 : 0 ≤ a) (a1 : a < 4294967296) (y0 : 0 ≤ y) (y1 : y < 4294967296) :
    Calls Try.prog 10 #[.pointer (some ⟨v.b, 0, none⟩), .agg #[.int .i64 k, .int .u32 a, .int .u32 y]] w fun e w' => e = .returned (.tuple #[.int .u32 (x.act k a y).1, .int .i64 (x.act k a y).2.1]) ∧ ∃ v', Both w0 w' b1 b2 v' u (x.act k a y).2.2 z sec0 hist ∧ Moves w w' v v' :=
  (bdo_any T.p k a y a0 a1 y0 y1).mono fun e w' ⟨h1, v', h2, h3⟩ => ⟨h1, v', T.opP h2 h3, h3⟩
theorem Both.doR (T : Both w0 w b1 b2 v u x z sec0 hist) (k a y : Int) (a0 : 0 ≤ a) (a1 : a < 4294967296) (y0 : 0 ≤ y) (y1 : y < 4294967296) :
    Calls Try.prog 34 #[.pointer (some ⟨u.b, 0, none⟩), .agg #[.int .i64 k, .int .u32 a, .int .u32 y]] w fun e w' => e = .returned (.tuple #[.int .u32 (z.act k a y).1, .int .i64 (z.act k a y).2.1]) ∧ ∃ u' hist', Both w0 w' b1 b2 v u' x (z.act k a y).2.2 sec0 hist' ∧ RMoves w w' u u' :=
  (rdo_any T.r k a y a0 a1 y0 y1).mono fun e w' ⟨h1, u', hist', h2, h3⟩ => ⟨h1, u', hist', T.opR h2 h3, h3⟩
/-- A Feed, by both. -/
def fedS (x : BS) (s : ByteArray) : BS := if x.q.length + s.size ≤ 65536 then { x with q := x.q ++ s.data.toList } else x
def fedE (x : BS) (s : ByteArray) : Int := if x.q.length + s.size ≤ 65536 then 0 else 40
theorem Both.feedP (T : Both w0 w b1 b2 v u x z sec0 hist) (s : ByteArray) (hs : s.size ≤ 140737488351232) :
    Calls Try.prog 17 #[.pointer (some ⟨v.b, 0, none⟩), .string s] w fun e w' => e = .returned (.int .i64 (fedE x s)) ∧ ∃ v', Both w0 w' b1 b2 v' u (fedS x s) z sec0 hist ∧ Moves w w' v v' := by
  unfold fedS fedE
  by_cases h : x.q.length + s.size ≤ 65536
  · rw [if_pos h, if_pos h]
    exact (bfeed_yes T.p s h).mono fun e w' ⟨h1, v', h2, h3⟩ => ⟨h1, v', T.opP h2 h3, h3⟩
  · rw [if_neg h, if_neg h]
    exact (bfeed_no T.p s (by omega) hs).mono fun e w' ⟨h1, h2⟩ => ⟨h1, v, by subst h2; exact T, by subst h2; exact Moves.refl _ _⟩
theorem Both.feedR (T : Both w0 w b1 b2 v u x z sec0 hist) (s : ByteArray) (hs : s.size ≤ 140737488351232) :
    Calls Try.prog 35 #[.pointer (some ⟨u.b, 0, none⟩), .string s] w fun e w' => e = .returned (.int .i64 (fedE z s)) ∧ ∃ u' hist', Both w0 w' b1 b2 v u' x (fedS z s) sec0 hist' ∧ RMoves w w' u u' := by
  unfold fedS fedE
  by_cases h : z.q.length + s.size ≤ 65536
  · rw [if_pos h, if_pos h]
    exact (rfeed_yes T.r s h).mono fun e w' ⟨h1, h2, h3⟩ => ⟨h1, u, hist, T.opR h2 h3, h3⟩
  · rw [if_neg h, if_neg h]
    exact (rfeed_no T.r s (by omega) hs).mono fun e w' ⟨h1, h2⟩ => ⟨h1, u, hist, by subst h2; exact T, by subst h2; exact RMoves.refl _ _⟩
theorem Both.tickP (T : Both w0 w b1 b2 v u x z sec0 hist) (n : Int) (h0 : 0 ≤ n) (h1 : n < 4294967296) :
    Calls Try.prog 31 #[.pointer (some ⟨v.b, 0, none⟩), .int .u32 n] w fun e w' => e = .returned (.tuple #[]) ∧ Both w0 w' b1 b2 v u { x with tk := (x.tk + n) % 4294967296 } z sec0 hist ∧ Moves w w' v v :=
  (btick_any T.p n h0 h1).mono fun e w' ⟨h1, h2, h3⟩ => ⟨h1, T.opP h2 h3, h3⟩
theorem Both.tickR (T : Both w0 w b1 b2 v u x z sec0 hist) (n : Int) (h0 : 0 ≤ n) (h1 : n < 4294967296) :
    Calls Try.prog 36 #[.pointer (some ⟨u.b, 0, none⟩), .int .u32 n] w fun e w' => e = .returned (.tuple #[]) ∧ Both w0 w' b1 b2 v u x { z with tk := (z.tk + n) % 4294967296 } sec0 hist ∧ RMoves w w' u u :=
  (rtick_any T.r n h0 h1).mono fun e w' ⟨h1, h2, h3⟩ => ⟨h1, T.opR h2 h3, h3⟩
def wordOk (a : Int) : Bool := decide (a < 1048576 ∧ a % 4 = 0)
def wordV (x : BS) (a : Int) : Int := if wordOk a then getV x.M a.toNat else 0
theorem Both.wordP (T : Both w0 w b1 b2 v u x z sec0 hist) (a : Int) (h0 : 0 ≤ a) (h1 : a < 4294967296) :
    Calls Try.prog 11 #[.pointer (some ⟨v.b, 0, none⟩), .int .u32 a] w fun e w' => e = .returned (.tuple #[.int .u32 (wordV x a), .bool (wordOk a)]) ∧ w = w' := by
  unfold wordV wordOk
  by_cases h : a < 1048576 ∧ a % 4 = 0
  · rw [decide_eq_true h, if_pos rfl]
    exact bword_yes T.p a h0 h.1 h.2
  · rw [decide_eq_false h]
    exact bword_no T.p a h0 h1 h
theorem Both.wordR (T : Both w0 w b1 b2 v u x z sec0 hist) (a : Int) (h0 : 0 ≤ a) (h1 : a < 4294967296) :
    Calls Try.prog 39 #[.pointer (some ⟨u.b, 0, none⟩), .int .u32 a] w fun e w' => e = .returned (.tuple #[.int .u32 (wordV z a), .bool (wordOk a)]) ∧ w = w' := by
  unfold wordV wordOk
  by_cases h : a < 1048576 ∧ a % 4 = 0
  · rw [decide_eq_true h, if_pos rfl]
    exact rword_yes T.r a h0 h.1 h.2
  · rw [decide_eq_false h]
    exact rword_no T.r a h0 h1 h
def pokeS (x : BS) (a y : Int) : BS := if wordOk a then { x with M := laid4 x.M a.toNat y } else x
theorem Both.pokeP (T : Both w0 w b1 b2 v u x z sec0 hist) (a y : Int) (h0 : 0 ≤ a) (h1 : a < 4294967296) (y0 : 0 ≤ y) (y1 : y < 4294967296) :
    Calls Try.prog 13 #[.pointer (some ⟨v.b, 0, none⟩), .int .u32 a, .int .u32 y] w fun e w' => e = .returned (.bool (wordOk a)) ∧ Both w0 w' b1 b2 v u (pokeS x a y) z sec0 hist ∧ Moves w w' v v := by
  unfold pokeS wordOk
  by_cases h : a < 1048576 ∧ a % 4 = 0
  · rw [decide_eq_true h, if_pos rfl]
    exact (bpoke_yes T.p a y h0 h.1 h.2 y0 y1).mono fun e w' ⟨h1, h2, h3⟩ => ⟨h1, T.opP h2 h3, h3⟩
  · rw [decide_eq_false h]
    exact (bpoke_no T.p a y h0 h1 h).mono fun e w' ⟨h1, h2⟩ => ⟨h1, by subst h2; exact T, by subst h2; exact Moves.refl _ _⟩
theorem Both.pokeR (T : Both w0 w b1 b2 v u x z sec0 hist) (a y : Int) (h0 : 0 ≤ a) (h1 : a < 4294967296) (y0 : 0 ≤ y) (y1 : y < 4294967296) :
    Calls Try.prog 40 #[.pointer (some ⟨u.b, 0, none⟩), .int .u32 a, .int .u32 y] w fun e w' => e = .returned (.bool (wordOk a)) ∧ Both w0 w' b1 b2 v u x (pokeS z a y) sec0 hist ∧ RMoves w w' u u := by
  unfold pokeS wordOk
  by_cases h : a < 1048576 ∧ a % 4 = 0
  · rw [decide_eq_true h, if_pos rfl]
    exact (rpoke_yes T.r a y h0 h.1 h.2 y0 y1).mono fun e w' ⟨h1, h2, h3⟩ => ⟨h1, T.opR h2 h3, h3⟩
  · rw [decide_eq_false h]
    exact (rpoke_no T.r a y h0 h1 h).mono fun e w' ⟨h1, h2⟩ => ⟨h1, by subst h2; exact T, by subst h2; exact RMoves.refl _ _⟩
/-- A block beside both. -/
structure BBox (w : World) (v : BV) (u : RV) (g : Nat) (X : Array Value) (t : TypeId) : Prop where
  blk : Blk w g X t
  fa : g ∉ brow v
  fb : g ∉ rbrow u
theorem BBox.opP {g : Nat} {X : Array Value} {t : TypeId} (B : BBox w v u g X t) (h : Moves w w' v v') : BBox w' v' u g X t := ⟨(h.t.block _ B.blk.lt B.fa).trans B.blk, h.free B.blk.lt B.fa, B.fb⟩
theorem RMoves.free (h : RMoves w w' u u') {g : Nat} (hg : g < w.heap.size) (hn : g ∉ rbrow u) : g ∉ rbrow u' := fun hm => (h.n g hm).elim hn (fun h' => by omega)
theorem BBox.opR {g : Nat} {X : Array Value} {t : TypeId} (B : BBox w v u g X t) (h : RMoves w w' u u') : BBox w' v u' g X t := ⟨(h.t.block _ B.blk.lt B.fb).trans B.blk, B.fa, h.free B.blk.lt B.fb⟩
theorem BBox.new (T : Both w0 w b1 b2 v u x z sec0 hist) (X : Array Value) (t : TypeId) : BBox (w.alloc (.cells X t)) v u w.heap.size X t :=
  ⟨Blk.new w X t, (T.free (.inl (Nat.le_refl _))).1, (T.free (.inl (Nat.le_refl _))).2⟩
end
end Go.Proofs.Ytmamocdkmmkkjaa
