/- The document's bus as it lies in memory. -/
import Derived.Test.YtmamocdkmmkkjaaRBusA
import Derived.Test.YtmamocdkmmkkjaaDiskQ
namespace Go.Proofs.Ytmamocdkmmkkjaa
open Go Go.RowKit Go.Lib Go.Proofs.Ytmamocdkmmkkjaa.Pl
set_option linter.unusedVariables false
set_option linter.unusedSimpArgs false
/-- What stood there ahead of each write. -/
def oldStep' (s : (Nat → ByteArray) × List (Nat × ByteArray)) (p : Nat × ByteArray) : (Nat → ByteArray) × List (Nat × ByteArray) := (upd s.1 p.1 p.2, s.2 ++ [(p.1, s.1 p.1)])
theorem oldStep'_fst (h : List (Nat × ByteArray)) : ∀ s, (h.foldl oldStep' s).1 = secOf s.1 h := by
  induction h with
  | nil => intro s; rfl
  | cons p h ih => intro s; rw [List.foldl_cons, ih]; rfl
def rolds (sec0 : Nat → ByteArray) (h : List (Nat × ByteArray)) : List (Nat × ByteArray) := (h.foldl oldStep' (sec0, [])).2
theorem rolds_snoc (sec0 : Nat → ByteArray) (h : List (Nat × ByteArray)) (p : Nat × ByteArray) : rolds sec0 (h ++ [p]) = rolds sec0 h ++ [(p.1, secOf sec0 h p.1)] := by
  unfold rolds
  rw [List.foldl_append, List.foldl_cons, List.foldl_nil]
  show (h.foldl oldStep' (sec0, [])).2 ++ [(p.1, (h.foldl oldStep' (sec0, [])).1 p.1)] = _
  rw [oldStep'_fst]
theorem rolds_length (sec0 : Nat → ByteArray) (h : List (Nat × ByteArray)) : (rolds sec0 h).length = h.length := by
  suffices ∀ s : (Nat → ByteArray) × List (Nat × ByteArray), ((h.foldl oldStep' s).2).length = s.2.length + h.length by simpa [rolds] using this (sec0, [])
  induction h with
  | nil => intro s; simp
  | cons p h ih => intro s; rw [List.foldl_cons, ih]; simp [oldStep']; omega
theorem rrow_lt' {w : World} {base r : Nat} {vf vw : Value} {N : Nat} {sec0 : Nat → ByteArray} {hist : List (Nat × ByteArray)} (R : RefAt w base r vf vw N sec0 hist) : ∀ g ∈ rrow r vf vw, base ≤ g ∧ g < w.heap.size := fun g hg => by
  simp only [rrow, List.mem_cons, List.mem_append, Option.mem_toList] at hg
  rcases hg with rfl | hg | hg
  · exact ⟨R.br, R.rlt⟩
  · exact ⟨(own_lt R.first g hg).2, (own_lt R.first g hg).1⟩
  · exact ⟨(own_lt R.writes g hg).2, (own_lt R.writes g hg).1⟩
/-- Where it lies. -/
structure RV where
  b : Nat
  m : Nat
  r : Nat
  vo : Value
  vf : Value
  vw : Value
def rbrow (v : RV) : List Nat := v.b :: v.m :: (v.vo.ownBlock.toList ++ rrow v.r v.vf v.vw)
def rbCells (v : RV) (x : BS) : Array Value := rbRow v.m v.r (ofBs x.q) v.vo x.tk x.se x.ad x.fl
structure RBusAt (w : World) (base : Nat) (v : RV) (x : BS) (sec0 : Nat → ByteArray) (hist : List (Nat × ByteArray)) : Prop where
  row : Blk w v.b (rbCells v x) 63
  mem : OwnI .u32 w v.m 262144 22 (fun i => getV x.M (4 * i))
  mb : ∀ i, 0 ≤ x.M i ∧ x.M i ≤ 255
  out : w.ownsRow base 5 1 v.vo x.o.length (bcells x.o)
  ql : x.q.length ≤ 65536
  ol : x.o.length ≤ 65536
  tkb : 0 ≤ x.tk ∧ x.tk < 4294967296
  seb : 0 ≤ x.se ∧ x.se < 4294967296
  adb : 0 ≤ x.ad ∧ x.ad < 4294967296
  flb : 0 ≤ x.fl ∧ x.fl < 4294967296
  disk : RefAt w base v.r v.vf v.vw x.N sec0 hist
  nb : 8 ≤ x.N ∧ x.N ≤ 1024
  sec : x.sec = secOf sec0 hist
  ws : x.ws = rolds sec0 hist
  few : hist.length ≤ 4096
  slen : ∀ i, i < x.N → (x.sec i).size = 1024
  nd : (rbrow v).Nodup
  lo : base ≤ v.b ∧ base ≤ v.m
/-- Of what was there, the bus's own blocks alone may have changed. -/
structure RMoves (w w' : World) (v v' : RV) : Prop where
  t : Touch w w' (rbrow v)
  n : ∀ g ∈ rbrow v', g ∈ rbrow v ∨ w.heap.size ≤ g
  k : v'.b = v.b ∧ v'.m = v.m ∧ v'.r = v.r
theorem RMoves.refl (w : World) (v : RV) : RMoves w w v v := ⟨Touch.refl _ _, fun g h => .inl h, ⟨rfl, rfl, rfl⟩⟩
theorem RMoves.trans {w w' w'' : World} {v v' v'' : RV} (h : RMoves w w' v v') (k : RMoves w' w'' v' v'') : RMoves w w'' v v'' :=
  ⟨h.t.trans k.t (fun g hg hl => (h.n g hg).elim id (fun h' => by omega)), fun g hg => (k.n g hg).elim (fun h' => h.n g h') (fun h' => .inr (Nat.le_trans h.t.size h')), ⟨k.k.1.trans h.k.1, k.k.2.1.trans h.k.2.1, k.k.2.2.trans h.k.2.2⟩⟩
theorem RMoves.of_below {w w' : World} (v : RV) (h : Below w.heap.size w w') : RMoves w w' v v := ⟨Touch.of_below h _, fun g h => .inl h, ⟨rfl, rfl, rfl⟩⟩
section
variable {w w' : World} {base : Nat} {v v' : RV} {x x' : BS} {sec0 : Nat → ByteArray} {hist : List (Nat × ByteArray)}
theorem RBusAt.lt (h : RBusAt w base v x sec0 hist) (g : Nat) (hg : g ∈ rbrow v) : base ≤ g ∧ g < w.heap.size := by
  simp only [rbrow, List.mem_cons, List.mem_append, Option.mem_toList] at hg
  rcases hg with rfl | rfl | hg | hg
  · exact ⟨h.lo.1, h.row.lt⟩
  · exact ⟨h.lo.2, h.mem.lt⟩
  · exact (own_lt h.out g hg).symm
  · exact rrow_lt' h.disk g hg
theorem RBusAt.touch {r : List Nat} (h : RBusAt w base v x sec0 hist) (t : Touch w w' r) (hr : ∀ g ∈ rbrow v, g ∉ r) : RBusAt w' base v x sec0 hist := by
  have e : ∀ {g : Nat}, g ∈ rbrow v → w'.heap[g]? = w.heap[g]? := fun {g} hg => t.block g (h.lt g hg).2 (hr g hg)
  have m1 : v.b ∈ rbrow v := by simp [rbrow]
  have m2 : v.m ∈ rbrow v := by simp [rbrow]
  have m3 : ∀ g ∈ rrow v.r v.vf v.vw, g ∈ rbrow v := fun g hg => by simp [rbrow, hg]
  exact { h with
    row := (e m1).trans h.row
    mem := by obtain ⟨cs, h1, h2⟩ := h.mem; exact ⟨cs, (e m2).trans h1, h2⟩
    out := t.owns h.out (fun g hg => hr g (by simp [rbrow, hg]))
    disk := h.disk.touch t (hr _ (m3 _ (by simp [rrow]))) (fun g hg => hr g (m3 _ (by simp [rrow, hg]))) (fun g hg => hr g (m3 _ (by simp [rrow, hg]))) }
theorem RBusAt.below (h : RBusAt w base v x sec0 hist) (b : Below w.heap.size w w') : RBusAt w' base v x sec0 hist := h.touch (Touch.of_below b []) (by simp)
theorem RBusAt.base_le (h : RBusAt w base v x sec0 hist) : base ≤ w.heap.size := Nat.le_trans h.lo.1 (Nat.le_of_lt h.row.lt)
theorem RBusAt.cells (h : RBusAt w base v x sec0 hist) :
    w.cell? ⟨v.b, 0, none⟩ = some (.slice (some ⟨v.m, 0, none⟩) 262144 262144) ∧ w.cell? ⟨v.b, 1, none⟩ = some (.pointer (some ⟨v.r, 0, none⟩)) ∧ w.cell? ⟨v.b, 2, none⟩ = some (.string (ofBs x.q)) ∧ w.cell? ⟨v.b, 3, none⟩ = some v.vo ∧
    w.cell? ⟨v.b, 4, none⟩ = some (.int .u32 x.tk) ∧ w.cell? ⟨v.b, 5, none⟩ = some (.int .u32 x.se) ∧ w.cell? ⟨v.b, 6, none⟩ = some (.int .u32 x.ad) ∧ w.cell? ⟨v.b, 7, none⟩ = some (.int .u32 x.fl) :=
  ⟨h.row.cell 0, h.row.cell 1, h.row.cell 2, h.row.cell 3, h.row.cell 4, h.row.cell 5, h.row.cell 6, h.row.cell 7⟩
theorem RBusAt.word (h : RBusAt w base v x sec0 hist) (i : Nat) (hi : i < 262144) : w.cell? ⟨v.m, i, none⟩ = some (.int .u32 (getV x.M (4 * i))) := h.mem.cell hi
theorem rmem_b (v : RV) : v.b ∈ rbrow v := by simp [rbrow]
theorem rmem_m (v : RV) : v.m ∈ rbrow v := by simp [rbrow]
theorem rmem_r (v : RV) : v.r ∈ rbrow v := by simp [rbrow, rrow]
/-- Apart from one another. -/
structure RApart (v : RV) : Prop where
  bm : v.b ≠ v.m
  br : v.b ∉ rrow v.r v.vf v.vw
  mr : v.m ∉ rrow v.r v.vf v.vw
  ob : ∀ g, v.vo.ownBlock = some g → g ≠ v.b ∧ g ≠ v.m ∧ g ∉ rrow v.r v.vf v.vw
theorem RBusAt.ap (h : RBusAt w base v x sec0 hist) : RApart v := by
  have nd := h.nd
  simp only [rbrow, List.nodup_cons, List.mem_cons, List.mem_append, not_or, Option.mem_toList, List.nodup_append] at nd
  obtain ⟨⟨n1, n2, n3⟩, ⟨n4, n5⟩, n6, n7, n8⟩ := nd
  exact ⟨n1, n3, n5, fun g hg => ⟨fun e => n2 (e ▸ hg), fun e => n4 (e ▸ hg), fun hm => n8 g hg g hm rfl⟩⟩
/-- The bus's own numbers change. -/
theorem RBusAt.setRow (B : RBusAt w base v x sec0 hist) (t : Touch w w' [v.b]) (h : Blk w' v.b (rbCells v x') 63) (hx : x' = { x with q := x'.q, tk := x'.tk, se := x'.se, ad := x'.ad, fl := x'.fl })
    (h0 : x'.q.length ≤ 65536) (h1 : 0 ≤ x'.tk ∧ x'.tk < 4294967296) (h2 : 0 ≤ x'.se ∧ x'.se < 4294967296) (h3 : 0 ≤ x'.ad ∧ x'.ad < 4294967296) (h4 : 0 ≤ x'.fl ∧ x'.fl < 4294967296) : RBusAt w' base v x' sec0 hist := by
  have A := B.ap
  have e : ∀ g, g ≠ v.b → g < w.heap.size → w'.heap[g]? = w.heap[g]? := fun g hg hl => t.block g hl (by simpa using hg)
  have B' : RBusAt w' base v { x' with tk := x'.tk } sec0 hist := by
    rw [hx] at h ⊢
    exact { B with
      row := h
      ql := h0
      tkb := h1
      seb := h2
      adb := h3
      flb := h4
      mem := by obtain ⟨cs, k1, k2⟩ := B.mem; exact ⟨cs, (e v.m (fun h => A.bm h.symm) (Array.getElem?_eq_some_iff.1 k1).1).trans k1, k2⟩
      out := t.owns B.out (fun g hg => by simpa using (A.ob g hg).1)
      disk := B.disk.touch t (fun hm => A.br ((show v.r = v.b by simpa using hm) ▸ (by simp [rrow]))) (fun g hg hm => A.br ((show g = v.b by simpa using hm) ▸ (by simp [rrow, hg]))) (fun g hg hm => A.br ((show g = v.b by simpa using hm) ▸ (by simp [rrow, hg]))) }
  exact B'
theorem RBusAt.own (B : RBusAt w base v x sec0 hist) (j : Nat) (u : Value) (h : (rbCells v x).setIfInBounds j u = rbCells v x') (hx : x' = { x with q := x'.q, tk := x'.tk, se := x'.se, ad := x'.ad, fl := x'.fl })
    (h0 : x'.q.length ≤ 65536) (h1 : 0 ≤ x'.tk ∧ x'.tk < 4294967296) (h2 : 0 ≤ x'.se ∧ x'.se < 4294967296) (h3 : 0 ≤ x'.ad ∧ x'.ad < 4294967296) (h4 : 0 ≤ x'.fl ∧ x'.fl < 4294967296) :
    RBusAt (w.setCell ⟨v.b, j, none⟩ u) base v x' sec0 hist ∧ RMoves w (w.setCell ⟨v.b, j, none⟩ u) v v :=
  ⟨B.setRow (Touch.set w ⟨v.b, j, none⟩ u) (by rw [← h]; exact B.row.set j u) hx h0 h1 h2 h3 h4, ⟨(Touch.set w ⟨v.b, j, none⟩ u).mono (by simp [rmem_b]), fun g h => .inl h, ⟨rfl, rfl, rfl⟩⟩⟩
/-- A word of memory is laid. -/
theorem RBusAt.setWord (B : RBusAt w base v x sec0 hist) (i : Nat) (y : Int) {M : Nat → Int} (hb : ∀ j, 0 ≤ M j ∧ M j ≤ 255) (hM : ∀ j, j < 262144 → getV M (4 * j) = if j = i then y else getV x.M (4 * j)) :
    RBusAt (w.setCell ⟨v.m, i, none⟩ (.int .u32 y)) base v { x with M := M } sec0 hist ∧ RMoves w (w.setCell ⟨v.m, i, none⟩ (.int .u32 y)) v v := by
  have A := B.ap
  have t := Touch.set w ⟨v.m, i, none⟩ (.int .u32 y)
  refine ⟨{ B with
    row := (t.block v.b B.row.lt (by simpa using A.bm)).trans B.row
    mem := (B.mem.set i y).congr fun j hj => (hM j hj).symm
    mb := hb
    out := t.owns B.out (fun g hg => by simpa using (A.ob g hg).2.1)
    disk := B.disk.touch t (fun hm => A.mr ((show v.r = v.m by simpa using hm) ▸ (by simp [rrow]))) (fun g hg hm => A.mr ((show g = v.m by simpa using hm) ▸ (by simp [rrow, hg]))) (fun g hg hm => A.mr ((show g = v.m by simpa using hm) ▸ (by simp [rrow, hg]))) }, ⟨t.mono (by simp [rmem_m]), fun g h => .inl h, ⟨rfl, rfl, rfl⟩⟩⟩
end
end Go.Proofs.Ytmamocdkmmkkjaa
