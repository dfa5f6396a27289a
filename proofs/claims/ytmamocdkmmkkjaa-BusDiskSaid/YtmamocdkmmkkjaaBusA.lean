/- A bus as it lies in memory. -/
import Derived.Test.YtmamocdkmmkkjaaDiskD
import Derived.Test.YtmamocdkmmkkjaaPlainC
import Derived.Test.YtmamocdkmmkkjaaRow2
import Derived.Laws.EntriesVeiled
namespace Go.Proofs.Ytmamocdkmmkkjaa
open Go Go.RowKit Go.Lib Go.Proofs.Ytmamocdkmmkkjaa.Pl
set_option linter.unusedVariables false

def bcells (q : List UInt8) : List Value := q.map fun b => Value.int .u8 b.toNat
theorem bcells_length (q : List UInt8) : (bcells q).length = q.length := by simp [bcells]
theorem bcells_append (q r : List UInt8) : bcells (q ++ r) = bcells q ++ bcells r := by simp [bcells]
theorem bcells_str (s : ByteArray) : bcells s.data.toList = strCells s := rfl
theorem bcells_get (q : List UInt8) (i : Nat) (h : i < q.length) : (bcells q)[i]? = some (.int .u8 (q[i]).toNat) := by simp [bcells, h]
theorem bcells_one (q : List UInt8) : ∀ u ∈ bcells q, u.oneCell' = true := fun u hu => by
  obtain ⟨b, _, rfl⟩ := List.mem_map.1 hu
  rfl

/-- Input that waits: a slice that reads as q, its head at any place of its block. -/
def InAt (w : World) (base : Nat) (v : Value) (q : List UInt8) : Prop :=
  (v = .slice none 0 0 ∧ q = []) ∨ ∃ g off cap cur, v = .slice (some ⟨g, off, none⟩) q.length cap ∧ base ≤ g ∧ w.heap[g]? = some (.cells cur 5 (0, 0)) ∧ q.length ≤ cap ∧ cap ≤ maxLen ∧ off + cap ≤ cur.size ∧ ∀ i, i < q.length → cur[off + i]? = (bcells q)[i]?
theorem InAt.lt {w : World} {base : Nat} {v : Value} {q : List UInt8} (h : InAt w base v q) (g : Nat) (hg : v.ownBlock = some g) : base ≤ g ∧ g < w.heap.size := by
  rcases h with ⟨rfl, _⟩ | ⟨g', off, cap, cur, rfl, hb, hh, _⟩
  · cases hg
  · obtain rfl : g' = g := by simpa [Value.ownBlock] using hg
    exact ⟨hb, (Array.getElem?_eq_some_iff.1 hh).1⟩
theorem InAt.form {w : World} {base : Nat} {v : Value} {q : List UInt8} (h : InAt w base v q) : ∃ a c, v = .slice a q.length c := by
  rcases h with ⟨rfl, rfl⟩ | ⟨g', off, cap, cur, rfl, hb, hh, _⟩
  · exact ⟨none, 0, rfl⟩
  · exact ⟨_, _, rfl⟩
theorem InAt.touch {w w' : World} {base : Nat} {v : Value} {q : List UInt8} {r : List Nat} (h : InAt w base v q) (t : Touch w w' r) (hv : ∀ g, v.ownBlock = some g → g ∉ r) : InAt w' base v q := by
  rcases h with h | ⟨g, off, cap, cur, rfl, hb, hh, h⟩
  · exact .inl h
  · exact .inr ⟨g, off, cap, cur, rfl, hb, by rw [t.block g (Array.getElem?_eq_some_iff.1 hh).1 (hv g rfl)]; exact hh, h⟩
/-- What is taken off its head. -/
theorem InAt.cons {w : World} {base : Nat} {v : Value} {c : UInt8} {q : List UInt8} (h : InAt w base v (c :: q)) :
    ∃ g off cap, v = .slice (some ⟨g, off, none⟩) (q.length + 1) cap ∧ q.length + 1 ≤ cap ∧ cap ≤ maxLen ∧ w.cell? ⟨g, off, none⟩ = some (.int .u8 c.toNat) ∧ (cap ≠ 1 → InAt w base (.slice (some ⟨g, off + 1, none⟩) q.length (cap - 1)) q) ∧ (cap = 1 → InAt w base (.slice (some ⟨g, off, none⟩) q.length 0) q) := by
  rcases h with ⟨_, h⟩ | ⟨g, off, cap, cur, rfl, hb, hh, h1, h2, h3, h4⟩
  · cases h
  · simp only [List.length_cons] at h1 h4
    refine ⟨g, off, cap, rfl, h1, h2, ?_, fun hc => ?_, fun hc => ?_⟩
    · rw [cell_of_row w g off cur _ (0, 0) hh]
      have := h4 0 (by omega)
      rw [Nat.add_zero] at this
      rw [this]; rfl
    · refine .inr ⟨g, off + 1, cap - 1, cur, rfl, hb, hh, by omega, by omega, by omega, fun i hi => ?_⟩
      rw [show off + 1 + i = off + (i + 1) from by omega, h4 (i + 1) (by omega)]
      rfl
    · subst hc
      have : q = [] := List.eq_nil_of_length_eq_zero (by omega)
      subst this
      exact .inr ⟨g, off, 0, cur, rfl, hb, hh, by simp, by unfold maxLen; omega, by omega, fun i hi => by cases hi⟩

/-- Where it lies. -/
structure BV where
  b : Nat
  m : Nat
  d : Nat
  s : Nat
  vi : Value
  vo : Value
  vw : Value
/-- What it says. -/
structure BS where
  M : Nat → Int
  q : List UInt8
  o : List UInt8
  tk : Int
  se : Int
  ad : Int
  fl : Int
  N : Nat
  sec : Nat → ByteArray
  ws : List (Nat × ByteArray)
def brow (v : BV) : List Nat := v.b :: v.m :: v.d :: v.s :: (v.vi.ownBlock.toList ++ (v.vo.ownBlock.toList ++ v.vw.ownBlock.toList))
def busRow (v : BV) (x : BS) : Array Value := #[.slice (some ⟨v.m, 0, none⟩) 1048576 1048576, .pointer (some ⟨v.d, 0, none⟩), v.vi, v.vo, .int .u32 x.tk, .int .u32 x.se, .int .u32 x.ad, .int .u32 x.fl]
structure BusAt (w : World) (base : Nat) (v : BV) (x : BS) : Prop where
  row : Blk w v.b (busRow v x) 74
  mem : OwnI .u8 w v.m 1048576 5 x.M
  mb : ∀ i, 0 ≤ x.M i ∧ x.M i ≤ 255
  inn : InAt w base v.vi x.q
  out : w.ownsRow base 5 1 v.vo x.o.length (bcells x.o)
  ql : x.q.length ≤ 65536
  ol : x.o.length ≤ 65536
  tkb : 0 ≤ x.tk ∧ x.tk < 4294967296
  seb : 0 ≤ x.se ∧ x.se < 4294967296
  adb : 0 ≤ x.ad ∧ x.ad < 4294967296
  flb : 0 ≤ x.fl ∧ x.fl < 4294967296
  disk : DiskAt w base v.d v.s v.vw x.N x.sec x.ws
  nd : (brow v).Nodup
  lo : base ≤ v.b ∧ base ≤ v.m
/-- Of what was there, the bus's own blocks alone may have changed; its blocks are the old ones or new. -/
structure Moves (w w' : World) (v v' : BV) : Prop where
  t : Touch w w' (brow v)
  n : ∀ g ∈ brow v', g ∈ brow v ∨ w.heap.size ≤ g
  k : v'.b = v.b ∧ v'.m = v.m ∧ v'.d = v.d ∧ v'.s = v.s
theorem Moves.refl (w : World) (v : BV) : Moves w w v v := ⟨Touch.refl _ _, fun g h => .inl h, ⟨rfl, rfl, rfl, rfl⟩⟩
theorem Moves.trans {w w' w'' : World} {v v' v'' : BV} (h : Moves w w' v v') (k : Moves w' w'' v' v'') : Moves w w'' v v'' :=
  ⟨h.t.trans k.t (fun g hg hl => (h.n g hg).elim id (fun h' => by omega)), fun g hg => (k.n g hg).elim (fun h' => h.n g h') (fun h' => .inr (Nat.le_trans h.t.size h')), ⟨k.k.1.trans h.k.1, k.k.2.1.trans h.k.2.1, k.k.2.2.1.trans h.k.2.2.1, k.k.2.2.2.trans h.k.2.2.2⟩⟩
theorem Moves.free {w w' : World} {v v' : BV} (h : Moves w w' v v') {g : Nat} (hg : g < w.heap.size) (hn : g ∉ brow v) : g ∉ brow v' := fun hm => (h.n g hm).elim hn (fun h' => by omega)
theorem Moves.of_below {w w' : World} (v : BV) (h : Below w.heap.size w w') : Moves w w' v v := ⟨Touch.of_below h _, fun g h => .inl h, ⟨rfl, rfl, rfl, rfl⟩⟩
theorem BusAt.lt {w : World} {base : Nat} {v : BV} {x : BS} (h : BusAt w base v x) (g : Nat) (hg : g ∈ brow v) : base ≤ g ∧ g < w.heap.size := by
  simp only [brow, List.mem_cons, List.mem_append, Option.mem_toList] at hg
  rcases hg with rfl | rfl | rfl | rfl | hg | hg | hg
  · exact ⟨h.lo.1, h.row.lt⟩
  · exact ⟨h.lo.2, h.mem.lt⟩
  · exact ⟨h.disk.bd, h.disk.dlt⟩
  · exact ⟨h.disk.bs, h.disk.slt⟩
  · exact h.inn.lt g hg
  · exact h.out.lt g hg
  · exact (h.disk.vlt g hg).symm
/-- Elsewhere something changed. -/
theorem BusAt.touch {w w' : World} {base : Nat} {v : BV} {x : BS} {r : List Nat} (h : BusAt w base v x) (t : Touch w w' r) (hr : ∀ g ∈ brow v, g ∉ r) : BusAt w' base v x := by
  have e : ∀ {g : Nat}, g ∈ brow v → w'.heap[g]? = w.heap[g]? := fun {g} hg => t.block g (h.lt g hg).2 (hr g hg)
  have m1 : v.b ∈ brow v := by simp [brow]
  have m2 : v.m ∈ brow v := by simp [brow]
  have m3 : v.d ∈ brow v := by simp [brow]
  have m4 : v.s ∈ brow v := by simp [brow]
  exact { h with
    row := (e m1).trans h.row
    mem := by obtain ⟨cs, h1, h2⟩ := h.mem; exact ⟨cs, (e m2).trans h1, h2⟩
    inn := h.inn.touch t (fun g hg => hr g (by simp [brow, hg]))
    out := t.owns h.out (fun g hg => hr g (by simp [brow, hg]))
    disk := h.disk.touch t (hr _ m3) (hr _ m4) (fun g hg => hr g (by simp [brow, hg])) }
theorem BusAt.below {w w' : World} {base : Nat} {v : BV} {x : BS} (h : BusAt w base v x) (b : Below w.heap.size w w') : BusAt w' base v x := h.touch (Touch.of_below b []) (by simp)
theorem BusAt.drew {w : World} {base : Nat} {v : BV} {x : BS} (h : BusAt w base v x) (n : Nat) : BusAt (w.drewN n) base v x := h.below ⟨rfl, rfl, rfl, Nat.le_refl _, fun _ _ => rfl⟩
/-- Its cells. -/
theorem BusAt.cells {w : World} {base : Nat} {v : BV} {x : BS} (h : BusAt w base v x) :
    w.cell? ⟨v.b, 0, none⟩ = some (.slice (some ⟨v.m, 0, none⟩) 1048576 1048576) ∧ w.cell? ⟨v.b, 1, none⟩ = some (.pointer (some ⟨v.d, 0, none⟩)) ∧ w.cell? ⟨v.b, 2, none⟩ = some v.vi ∧ w.cell? ⟨v.b, 3, none⟩ = some v.vo ∧
    w.cell? ⟨v.b, 4, none⟩ = some (.int .u32 x.tk) ∧ w.cell? ⟨v.b, 5, none⟩ = some (.int .u32 x.se) ∧ w.cell? ⟨v.b, 6, none⟩ = some (.int .u32 x.ad) ∧ w.cell? ⟨v.b, 7, none⟩ = some (.int .u32 x.fl) :=
  ⟨h.row.cell 0, h.row.cell 1, h.row.cell 2, h.row.cell 3, h.row.cell 4, h.row.cell 5, h.row.cell 6, h.row.cell 7⟩
end Go.Proofs.Ytmamocdkmmkkjaa
