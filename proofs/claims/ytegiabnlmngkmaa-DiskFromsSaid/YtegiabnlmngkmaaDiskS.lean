/- Both disks, side by side. -/
import Derived.Test.YtegiabnlmngkmaaDiskR
import Derived.Test.YtegiabnlmngkmaaDiskH
namespace Go.Proofs.Ytegiabnlmngkmaa
open Go Go.RowKit Go.Lib
set_option linter.unusedVariables false
set_option linter.unusedSimpArgs false
/-- What stood there ahead of each write. -/
def oldStep (s : (Nat → ByteArray) × List (Nat × ByteArray)) (p : Nat × ByteArray) : (Nat → ByteArray) × List (Nat × ByteArray) := (upd s.1 p.1 p.2, s.2 ++ [(p.1, s.1 p.1)])
theorem oldStep_fst (h : List (Nat × ByteArray)) : ∀ s, (h.foldl oldStep s).1 = secOf s.1 h := by
  induction h with
  | nil => intro s; rfl
  | cons p h ih => intro s; rw [List.foldl_cons, ih]; rfl
def olds (sec0 : Nat → ByteArray) (h : List (Nat × ByteArray)) : List (Nat × ByteArray) := (h.foldl oldStep (sec0, [])).2
theorem olds_snoc (sec0 : Nat → ByteArray) (h : List (Nat × ByteArray)) (p : Nat × ByteArray) : olds sec0 (h ++ [p]) = olds sec0 h ++ [(p.1, secOf sec0 h p.1)] := by
  unfold olds
  rw [List.foldl_append, List.foldl_cons, List.foldl_nil]
  show (h.foldl oldStep (sec0, [])).2 ++ [(p.1, (h.foldl oldStep (sec0, [])).1 p.1)] = _
  rw [oldStep_fst]
theorem olds_map (sec0 : Nat → ByteArray) (h : List (Nat × ByteArray)) : (olds sec0 h).map (·.1) = h.map (·.1) := by
  suffices ∀ s : (Nat → ByteArray) × List (Nat × ByteArray), ((h.foldl oldStep s).2).map (·.1) = s.2.map (·.1) ++ h.map (·.1) by simpa [olds] using this (sec0, [])
  induction h with
  | nil => intro s; simp
  | cons p h ih => intro s; rw [List.foldl_cons, ih]; simp [oldStep]
theorem olds_length (sec0 : Nat → ByteArray) (h : List (Nat × ByteArray)) : (olds sec0 h).length = h.length := by
  have := congrArg List.length (olds_map sec0 h)
  simpa using this
structure Pair (w : World) (base d s : Nat) (v : Value) (r : Nat) (vf vw : Value) (N : Nat) (sec : Nat → ByteArray) (ws : List (Nat × ByteArray)) (sec0 : Nat → ByteArray) (hist : List (Nat × ByteArray)) : Prop where
  D : DiskAt w base d s v N sec ws
  R : RefAt w base r vf vw N sec0 hist
  ap : ∀ g ∈ rrow r vf vw, g ∉ drow d s v
section
variable {w : World} {base d s : Nat} {v : Value} {r : Nat} {vf vw : Value} {N : Nat} {sec : Nat → ByteArray} {ws : List (Nat × ByteArray)} {sec0 : Nat → ByteArray} {hist : List (Nat × ByteArray)}
theorem Pair.base_le (T : Pair w base d s v r vf vw N sec ws sec0 hist) : base ≤ w.heap.size := Nat.le_trans T.D.bd (Nat.le_of_lt T.D.dlt)
theorem drow_lt (D : DiskAt w base d s v N sec ws) : ∀ g ∈ drow d s v, base ≤ g ∧ g < w.heap.size := fun g hg => by
  simp only [drow, List.mem_cons, Option.mem_toList] at hg
  rcases hg with rfl | rfl | hg
  · exact ⟨D.bd, D.dlt⟩
  · exact ⟨D.bs, D.slt⟩
  · exact ⟨(D.vlt g hg).2, (D.vlt g hg).1⟩
theorem rrow_lt (R : RefAt w base r vf vw N sec0 hist) : ∀ g ∈ rrow r vf vw, base ≤ g ∧ g < w.heap.size := fun g hg => by
  simp only [rrow, List.mem_cons, List.mem_append, Option.mem_toList] at hg
  rcases hg with rfl | hg | hg
  · exact ⟨R.br, R.rlt⟩
  · exact ⟨(own_lt R.first g hg).2, (own_lt R.first g hg).1⟩
  · exact ⟨(own_lt R.writes g hg).2, (own_lt R.writes g hg).1⟩
theorem Pair.touch (T : Pair w base d s v r vf vw N sec ws sec0 hist) {w' : World} {row : List Nat} (t : Touch w w' row) (h1 : ∀ g ∈ row, g ∉ drow d s v) (h2 : ∀ g ∈ row, g ∉ rrow r vf vw) : Pair w' base d s v r vf vw N sec ws sec0 hist :=
  ⟨T.D.touch t (fun h => h1 _ h (by simp [drow])) (fun h => h1 _ h (by simp [drow])) (fun g hg h => h1 _ h (by simp [drow, hg])),
   T.R.touch t (fun h => h2 _ h (by simp [rrow])) (fun g hg h => h2 _ h (by simp [rrow, hg])) (fun g hg h => h2 _ h (by simp [rrow, hg])), T.ap⟩
theorem Pair.below (T : Pair w base d s v r vf vw N sec ws sec0 hist) {w' : World} (b : Below w.heap.size w w') : Pair w' base d s v r vf vw N sec ws sec0 hist := T.touch (Touch.of_below b []) (by simp) (by simp)
/-- A block that neither has. -/
def Away (g d s : Nat) (v : Value) (r : Nat) (vf vw : Value) : Prop := g ∉ drow d s v ∧ g ∉ rrow r vf vw
theorem Pair.away (T : Pair w base d s v r vf vw N sec ws sec0 hist) (g : Nat) (hg : w.heap.size ≤ g ∨ g < base) : Away g d s v r vf vw :=
  ⟨fun h => by have := drow_lt T.D g h; omega, fun h => by have := rrow_lt T.R g h; omega⟩
theorem Pair.set (T : Pair w base d s v r vf vw N sec ws sec0 hist) (g j : Nat) (x : Value) (hg : Away g d s v r vf vw) : Pair (w.setCell ⟨g, j, none⟩ x) base d s v r vf vw N sec ws sec0 hist :=
  T.touch (Touch.set w ⟨g, j, none⟩ x) (by simpa using hg.1) (by simpa using hg.2)
theorem Pair.dwrite (T : Pair w base d s v r vf vw N sec ws sec0 hist) (n : Nat) (hn : n < N) (few : ws.length < 4096) (g : Nat) (l : List UInt8) (hl : l.length = 1024) (hb : BytesAt w g l) (hg : Away g d s v r vf vw) :
    Calls Try.prog 11 #[.pointer (some ⟨d, 0, none⟩), .int .i64 (n : Int), .slice (some ⟨g, 0, none⟩) 1024 1024] w fun e w' => e = .returned (.int .i64 0) ∧ ∃ v', Pair w' base d s v' r vf vw N (upd sec n (ofL l)) (ws ++ [(n, sec n)]) sec0 hist ∧ Touch w w' (drow d s v) ∧ (∀ x, x < w.heap.size → Away x d s v r vf vw → Away x d s v' r vf vw) := by
  refine (write_bytes T.D n hn few g l hl hb hg.1).mono ?_
  rintro e w' ⟨rfl, v', D', T', hv'⟩
  have R' := T.R.touch T' (fun h => T.ap _ (by simp [rrow]) h) (fun x hx h => T.ap x (by simp [rrow, hx]) h) (fun x hx h => T.ap x (by simp [rrow, hx]) h)
  have key : ∀ x, x < w.heap.size → x ∉ drow d s v → x ∉ drow d s v' := fun x hx h h2 => by
    simp only [drow, List.mem_cons, Option.mem_toList, not_or] at h h2
    rcases h2 with h2 | h2 | h2
    · exact h.1 h2
    · exact h.2.1 h2
    · rcases hv' x h2 with h3 | h3
      · exact h.2.2 h3
      · omega
  exact ⟨rfl, v', ⟨D', R', fun x hx => key x (rrow_lt T.R x hx).2 (T.ap x hx)⟩, T', fun x hx h => ⟨key x hx h.1, h.2⟩⟩
theorem Pair.rwrite (T : Pair w base d s v r vf vw N sec ws sec0 hist) (n : Nat) (hn : n < N) (few : hist.length < 4096) (g : Nat) (l : List UInt8) (hl : l.length = 1024) (hb : BytesAt w g l) :
    Calls Try.prog 26 #[.pointer (some ⟨r, 0, none⟩), .int .i64 (n : Int), .slice (some ⟨g, 0, none⟩) 1024 1024] w fun e w' => e = .returned (.int .i64 0) ∧ ∃ vw', Pair w' base d s v r vf vw' N sec ws sec0 (hist ++ [(n, ofL l)]) ∧ Touch w w' (rrow r vf vw) ∧ (∀ x, x < w.heap.size → Away x d s v r vf vw → Away x d s v r vf vw') := by
  refine (rwrite_yes T.R n hn few g l hl hb).mono ?_
  rintro e w' ⟨rfl, vw', R', T', hv'⟩
  have nd : ∀ x, x ∈ drow d s v → x ∉ rrow r vf vw := fun x hx h => T.ap x h hx
  have D' := T.D.touch T' (nd d (by simp [drow])) (nd s (by simp [drow])) (fun x hx => nd x (by simp [drow, hx]))
  have key : ∀ x, x < w.heap.size → x ∉ rrow r vf vw → x ∉ rrow r vf vw' := fun x hx h h2 => by
    simp only [rrow, List.mem_cons, List.mem_append, Option.mem_toList, not_or] at h h2
    rcases h2 with h2 | h2 | h2
    · exact h.1 h2
    · exact h.2.1 h2
    · rcases hv' x h2 with h3 | h3
      · exact h.2.2 h3
      · omega
  exact ⟨rfl, vw', ⟨D', R', fun x hx hd => key x (drow_lt T.D x hd).2 (fun h => T.ap x h hd) hx⟩, T', fun x hx h => ⟨h.1, key x hx h.2⟩⟩
end
end Go.Proofs.Ytegiabnlmngkmaa
