/- The document's bus as it lies in memory. -/
import Derived.Test.YtgcknekhimpfkaaGreatDoorRBusA
import Derived.Test.YtgcknekhimpfkaaGreatDoorDiskQ
import Derived.Test.YtgcknekhimpfkaaGreatDoorQB
import Derived.BigRegion
namespace Go.Proofs.YtgcknekhimpfkaaGreatDoor
open Go Go.RowKit Go.Lib Go.Proofs.YtgcknekhimpfkaaGreatDoor.Pl
set_option linter.unusedVariables false
set_option linter.unusedSimpArgs false
/-- What stood there ahead of each write. -/
def oldStep' (s : (Nat → ByteArray) × List (Nat × ByteArray)) (p : Nat × ByteArray) : (Nat → ByteArray) × List (Nat × ByteArray) := (upd s.1 p.1 p.2, s.2 ++ [(p.1, s.1 p.1)])
theorem oldStep'_fst (h : List (Nat × ByteArray)) : ∀ s, (h.foldl oldStep' s).1 = secOf s.1 h := by
 induction h with
 | nil => intro s; rfl
 | cons p h ih => intro s; rw [List.foldl_cons, ih]; rfl
def rolds (sec0 : Nat → ByteArray) (h : List (Nat × ByteArray)) : List (Nat × ByteArray) := (h.foldl oldStep' (sec0, [])).2
theorem rolds_snoc (sec0 : Nat → ByteArray) (h : List (Nat × ByteArray)) (p : Nat × ByteArray) : rolds sec0 (h ++ [p]) = rolds sec0 h ++ [(p.1, secOf sec0 h p.1)] := by
 unfold rolds
 rw [List.foldl_append, List.foldl_cons, List.foldl_nil]
 show (h.foldl oldStep' (sec0, [])).2 ++ [(p.1, (h.foldl oldStep' (sec0, [])).1 p.1)] = _
 rw [oldStep'_fst]
theorem rolds_length (sec0 : Nat → ByteArray) (h : List (Nat × ByteArray)) : (rolds sec0 h).length = h.length := by
 suffices ∀ s : (Nat → ByteArray) × List (Nat × ByteArray), ((h.foldl oldStep' s).2).length = s.2.length + h.length by simpa [rolds] using this (sec0, [])
 induction h with
 | nil => intro s; simp
 | cons p h ih => intro s; rw [List.foldl_cons, ih]; simp [oldStep']; omega
theorem rrow_lt' {w : World} {base r : Nat} {vf vw : Value} {N : Nat} {sec0 : Nat → ByteArray} {hist : List (Nat × ByteArray)} (R : RefAt w base r vf vw N sec0 hist) : ∀ g ∈ rrow r vf vw, base ≤ g ∧ g < w.heap.size := fun g hg => by
 simp only [rrow, List.mem_cons, List.mem_append, Option.mem_toList] at hg
 rcases hg with rfl | hg | hg
 ·exact ⟨R.br, R.rlt⟩
 ·exact ⟨(own_lt R.first g hg).2, (own_lt R.first g hg).1⟩
 ·exact ⟨(own_lt R.writes g hg).2, (own_lt R.writes g hg).1⟩
/-- Where it lies. -/
structure RV where
 b : Nat
 m : Nat
 r : Nat
 vo : Value
 vf : Value
 vw : Value
def rbrow (v : RV) : List Nat := v.b :: v.m :: (v.vo.ownBlock.toList ++ rrow v.r v.vf v.vw)
def rbCells (v : RV) (x : BS) : Array Value := rbRow v.m v.r (ofBs x.q) v.vo x.tk x.se x.ad x.fl
structure RBusAt (w : World) (base : Nat) (v : RV) (x : BS) (sec0 : Nat → ByteArray) (hist : List (Nat × ByteArray)) : Prop where
 row : Blk w v.b (rbCells v x) 71
 mem : OwnI .u32 w v.m 262144 23 (fun i => getV x.M (4 * i))
 mb : ∀ i, 0 ≤ x.M i ∧ x.M i ≤ 255
 out : w.ownsRow base 5 1 v.vo x.o.length (bcells x.o)
 ql : x.q.length ≤ 65536
 ol : x.o.length ≤ 65536
 tkb : 0 ≤ x.tk ∧ x.tk < 4294967296
 seb : 0 ≤ x.se ∧ x.se < 4294967296
 adb : 0 ≤ x.ad ∧ x.ad < 4294967296
 flb : 0 ≤ x.fl ∧ x.fl < 4294967296
 disk : RefAt w base v.r v.vf v.vw x.N sec0 hist
 nb : 8 ≤ x.N ∧ x.N ≤ 1024
 sec : x.sec = secOf sec0 hist
 ws : x.ws = rolds sec0 hist
 few : hist.length ≤ 4096
 slen : ∀ i, i < x.N → (x.sec i).size = 1024
 nd : (rbrow v).Nodup
 lo : base ≤ v.b ∧ base ≤ v.m
/-- Of what was there, the bus's own blocks alone may have changed. -/
structure RMoves (w w' : World) (v v' : RV) : Prop where
 t : Touch w w' (rbrow v)
 n : ∀ g ∈ rbrow v', g ∈ rbrow v ∨ w.heap.size ≤ g
 k : v'.b = v.b ∧ v'.m = v.m ∧ v'.r = v.r
theorem RMoves.refl (w : World) (v : RV) : RMoves w w v v := ⟨Touch.refl _ _, fun g h => .inl h, ⟨rfl, rfl, rfl⟩⟩
theorem RMoves.trans {w w' w'' : World} {v v' v'' : RV} (h : RMoves w w' v v') (k : RMoves w' w'' v' v'') : RMoves w w'' v v'' :=
 ⟨h.t.trans k.t (fun g hg hl => (h.n g hg).elim id (fun h' => by omega)), fun g hg => (k.n g hg).elim (fun h' => h.n g h') (fun h' => .inr (Nat.le_trans h.t.size h')), ⟨k.k.1.trans h.k.1, k.k.2.1.trans h.k.2.1, k.k.2.2.trans h.k.2.2⟩⟩
theorem RMoves.of_below {w w' : World} (v : RV) (h : Below w.heap.size w w') : RMoves w w' v v := ⟨Touch.of_below h _, fun g h => .inl h, ⟨rfl, rfl, rfl⟩⟩
section
variable {w w' : World} {base : Nat} {v v' : RV} {x x' : BS} {sec0 : Nat → ByteArray} {hist : List (Nat × ByteArray)}
theorem RBusAt.lt (h : RBusAt w base v x sec0 hist) (g : Nat) (hg : g ∈ rbrow v) : base ≤ g ∧ g < w.heap.size := by
 simp only [rbrow, List.mem_cons, List.mem_append, Option.mem_toList] at hg
 rcases hg with rfl | rfl | hg | hg
 ·exact ⟨h.lo.1, h.row.lt⟩
 ·exact ⟨h.lo.2, h.mem.lt⟩
 ·exact (own_lt h.out g hg).symm
 ·exact rrow_lt' h.disk g hg
theorem RBusAt.touch {r : List Nat} (h : RBusAt w base v x sec0 hist) (t : Touch w w' r) (hr : ∀ g ∈ rbrow v, g ∉ r) : RBusAt w' base v x sec0 hist := by
 have e : ∀ {g : Nat}, g ∈ rbrow v → w'.heap[g]? = w.heap[g]? := fun {g} hg => t.block g (h.lt g hg).2 (hr g hg)
 have m1 : v.b ∈ rbrow v := by simp [rbrow]
 have m2 : v.m ∈ rbrow v := by simp [rbrow]
 have m3 : ∀ g ∈ rrow v.r v.vf v.vw, g ∈ rbrow v := fun g hg => by simp [rbrow, hg]
 exact { h with
  row := (e m1).trans h.row
  mem := by obtain ⟨cs, h1, h2⟩ := h.mem; exact ⟨cs, (e m2).trans h1, h2⟩
  out := t.owns h.out (fun g hg => hr g (by simp [rbrow, hg]))
  disk := h.disk.touch t (hr _ (m3 _ (by simp [rrow]))) (fun g hg => hr g (m3 _ (by simp [rrow, hg]))) (fun g hg => hr g (m3 _ (by simp [rrow, hg]))) }
theorem RBusAt.below (h : RBusAt w base v x sec0 hist) (b : Below w.heap.size w w') : RBusAt w' base v x sec0 hist := h.touch (Touch.of_below b []) (by simp)
theorem RBusAt.base_le (h : RBusAt w base v x sec0 hist) : base ≤ w.heap.size := Nat.le_trans h.lo.1 (Nat.le_of_lt h.row.lt)
theorem RBusAt.cells (h : RBusAt w base v x sec0 hist) :
 w.cell? ⟨v.b, 0, none⟩ = some (.slice (some ⟨v.m, 0, none⟩) 262144 262144) ∧ w.cell? ⟨v.b, 1, none⟩ = some (.pointer (some ⟨v.r, 0, none⟩)) ∧ w.cell? ⟨v.b, 2, none⟩ = some (.string (ofBs x.q)) ∧ w.cell? ⟨v.b, 3, none⟩ = some v.vo ∧
 w.cell? ⟨v.b, 4, none⟩ = some (.int .u32 x.tk) ∧ w.cell? ⟨v.b, 5, none⟩ = some (.int .u32 x.se) ∧ w.cell? ⟨v.b, 6, none⟩ = some (.int .u32 x.ad) ∧ w.cell? ⟨v.b, 7, none⟩ = some (.int .u32 x.fl) :=
 ⟨h.row.cell 0, h.row.cell 1, h.row.cell 2, h.row.cell 3, h.row.cell 4, h.row.cell 5, h.row.cell 6, h.row.cell 7⟩
theorem RBusAt.word (h : RBusAt w base v x sec0 hist) (i : Nat) (hi : i < 262144) : w.cell? ⟨v.m, i, none⟩ = some (.int .u32 (getV x.M (4 * i))) := h.mem.cell hi
theorem rmem_b (v : RV) : v.b ∈ rbrow v := by simp [rbrow]
theorem rmem_m (v : RV) : v.m ∈ rbrow v := by simp [rbrow]
/-- Apart from one another. -/
structure RApart (v : RV) : Prop where
 bm : v.b ≠ v.m
 br : v.b ∉ rrow v.r v.vf v.vw
 mr : v.m ∉ rrow v.r v.vf v.vw
 ob : ∀ g, v.vo.ownBlock = some g → g ≠ v.b ∧ g ≠ v.m ∧ g ∉ rrow v.r v.vf v.vw
theorem RBusAt.ap (h : RBusAt w base v x sec0 hist) : RApart v := by
 have nd := h.nd
 simp only [rbrow, List.nodup_cons, List.mem_cons, List.mem_append, not_or, Option.mem_toList, List.nodup_append] at nd
 obtain ⟨⟨n1, n2, n3⟩, ⟨n4, n5⟩, n6, n7, n8⟩ := nd
 exact ⟨n1, n3, n5, fun g hg => ⟨fun e => n2 (e ▸ hg), fun e => n4 (e ▸ hg), fun hm => n8 g hg g hm rfl⟩⟩
/-- The bus's own numbers change. -/
theorem RBusAt.setRow (B : RBusAt w base v x sec0 hist) (t : Touch w w' [v.b]) (h : Blk w' v.b (rbCells v x') 71) (hx : x' = { x with q := x'.q, tk := x'.tk, se := x'.se, ad := x'.ad, fl := x'.fl })
 (h0 : x'.q.length ≤ 65536) (h1 : 0 ≤ x'.tk ∧ x'.tk < 4294967296) (h2 : 0 ≤ x'.se ∧ x'.se < 4294967296) (h3 : 0 ≤ x'.ad ∧ x'.ad < 4294967296) (h4 : 0 ≤ x'.fl ∧ x'.fl < 4294967296) : RBusAt w' base v x' sec0 hist := by
 have A := B.ap
 have e : ∀ g, g ≠ v.b → g < w.heap.size → w'.heap[g]? = w.heap[g]? := fun g hg hl => t.block g hl (by simpa using hg)
 have B' : RBusAt w' base v { x' with tk := x'.tk } sec0 hist := by
  rw [hx] at h ⊢
  exact { B with
   row := h
   ql := h0
   tkb := h1
   seb := h2
   adb := h3
   flb := h4
   mem := by obtain ⟨cs, k1, k2⟩ := B.mem; exact ⟨cs, (e v.m (fun h => A.bm h.symm) (Array.getElem?_eq_some_iff.1 k1).1).trans k1, k2⟩
   out := t.owns B.out (fun g hg => by simpa using (A.ob g hg).1)
   disk := B.disk.touch t (fun hm => A.br ((show v.r = v.b by simpa using hm) ▸ (by simp [rrow]))) (fun g hg hm => A.br ((show g = v.b by simpa using hm) ▸ (by simp [rrow, hg]))) (fun g hg hm => A.br ((show g = v.b by simpa using hm) ▸ (by simp [rrow, hg]))) }
 exact B'
theorem RBusAt.own (B : RBusAt w base v x sec0 hist) (j : Nat) (u : Value) (h : (rbCells v x).setIfInBounds j u = rbCells v x') (hx : x' = { x with q := x'.q, tk := x'.tk, se := x'.se, ad := x'.ad, fl := x'.fl })
 (h0 : x'.q.length ≤ 65536) (h1 : 0 ≤ x'.tk ∧ x'.tk < 4294967296) (h2 : 0 ≤ x'.se ∧ x'.se < 4294967296) (h3 : 0 ≤ x'.ad ∧ x'.ad < 4294967296) (h4 : 0 ≤ x'.fl ∧ x'.fl < 4294967296) :
 RBusAt (w.setCell ⟨v.b, j, none⟩ u) base v x' sec0 hist ∧ RMoves w (w.setCell ⟨v.b, j, none⟩ u) v v :=
 ⟨B.setRow (Touch.set w ⟨v.b, j, none⟩ u) (by rw [← h]; exact B.row.set j u) hx h0 h1 h2 h3 h4, ⟨(Touch.set w ⟨v.b, j, none⟩ u).mono (by simp [rmem_b]), fun g h => .inl h, ⟨rfl, rfl, rfl⟩⟩⟩
/-- A word of memory is laid. -/
theorem RBusAt.setWord (B : RBusAt w base v x sec0 hist) (i : Nat) (y : Int) {M : Nat → Int} (hb : ∀ j, 0 ≤ M j ∧ M j ≤ 255) (hM : ∀ j, j < 262144 → getV M (4 * j) = if j = i then y else getV x.M (4 * j)) :
 RBusAt (w.setCell ⟨v.m, i, none⟩ (.int .u32 y)) base v { x with M := M } sec0 hist ∧ RMoves w (w.setCell ⟨v.m, i, none⟩ (.int .u32 y)) v v := by
 have A := B.ap
 have t := Touch.set w ⟨v.m, i, none⟩ (.int .u32 y)
 refine ⟨{ B with
  row := (t.block v.b B.row.lt (by simpa using A.bm)).trans B.row
  mem := (B.mem.set i y).congr fun j hj => (hM j hj).symm
  mb := hb
  out := t.owns B.out (fun g hg => by simpa using (A.ob g hg).2.1)
  disk := B.disk.touch t (fun hm => A.mr ((show v.r = v.m by simpa using hm) ▸ (by simp [rrow]))) (fun g hg hm => A.mr ((show g = v.m by simpa using hm) ▸ (by simp [rrow, hg]))) (fun g hg hm => A.mr ((show g = v.m by simpa using hm) ▸ (by simp [rrow, hg]))) }, ⟨t.mono (by simp [rmem_m]), fun g h => .inl h, ⟨rfl, rfl, rfl⟩⟩⟩
end
theorem nat_andmask (W s : Nat) (hW : W < 2 ^ 32) (hs : s ≤ 24) : W &&& (2 ^ (s + 8) * (2 ^ (24 - s) - 1) + (2 ^ s - 1)) = 2 ^ (s + 8) * (W / 2 ^ (s + 8)) + W % 2 ^ s := by
 have hp : 2 ^ s ≤ 2 ^ (s + 8) := Nat.pow_le_pow_right (by decide) (by omega)
 have h1 : 2 ^ s - 1 < 2 ^ (s + 8) := by have := Nat.two_pow_pos s; omega
 have h2 : W % 2 ^ s < 2 ^ (s + 8) := Nat.lt_of_lt_of_le (Nat.mod_lt _ (Nat.two_pow_pos s)) hp
 apply Nat.eq_of_testBit_eq
 intro j
 rw [Nat.testBit_and, Nat.testBit_two_pow_mul_add _ h1, Nat.testBit_two_pow_mul_add _ h2]
 by_cases hj : j < s + 8
 ·rw [if_pos hj, if_pos hj, Nat.testBit_two_pow_sub_one, Nat.testBit_mod_two_pow, Bool.and_comm]
 ·rw [if_neg hj, if_neg hj, Nat.testBit_two_pow_sub_one, Nat.testBit_div_two_pow, show j - (s + 8) + (s + 8) = j from by omega]
  by_cases h3 : j - (s + 8) < 24 - s
  ·rw [decide_eq_true h3, Bool.and_true]
  ·rw [decide_eq_false h3, Bool.and_false, Nat.testBit_lt_two_pow (Nat.lt_of_lt_of_le hW (Nat.pow_le_pow_right (by decide) (by omega)))]
theorem nat_laybyte (W s c : Nat) (hW : W < 2 ^ 32) (hs : s ≤ 24) (hc : c < 2 ^ 8) : (W &&& (2 ^ (s + 8) * (2 ^ (24 - s) - 1) + (2 ^ s - 1))) ||| c * 2 ^ s = 2 ^ (s + 8) * (W / 2 ^ (s + 8)) + (2 ^ s * c + W % 2 ^ s) := by
 have hp : 2 ^ (s + 8) = 2 ^ s * 2 ^ 8 := Nat.pow_add _ _ _
 have hl := Nat.mod_lt W (Nat.two_pow_pos s)
 have h2 : W % 2 ^ s < 2 ^ (s + 8) := by rw [hp]; omega
 have h3 : 2 ^ s * c + W % 2 ^ s < 2 ^ (s + 8) := by
  rw [hp]
  have : 2 ^ s * (c + 1) ≤ 2 ^ s * 2 ^ 8 := Nat.mul_le_mul_left _ hc
  rw [Nat.mul_add] at this
  omega
 rw [nat_andmask W s hW hs]
 apply Nat.eq_of_testBit_eq
 intro j
 rw [Nat.testBit_or, Nat.testBit_two_pow_mul_add _ h2, Nat.testBit_two_pow_mul_add _ h3, Nat.mul_comm c, Nat.testBit_two_pow_mul]
 by_cases hj : j < s + 8
 ·rw [if_pos hj, if_pos hj, Nat.testBit_two_pow_mul_add _ hl, Nat.testBit_mod_two_pow]
  by_cases h4 : j < s
  ·rw [if_pos h4, decide_eq_true h4, decide_eq_false (by omega : ¬ s ≤ j)]; simp
  ·rw [if_neg h4, decide_eq_false h4, decide_eq_true (by omega : s ≤ j)]; simp
 ·rw [if_neg hj, if_neg hj]
  have h5 : c.testBit (j - s) = false := Nat.testBit_lt_two_pow (Nat.lt_of_lt_of_le hc (Nat.pow_le_pow_right (by decide) (by omega)))
  rw [h5]; simp
theorem lay_0 (W c : Int) (h0 : 0 ≤ W) (h1 : W < 4294967296) (c0 : 0 ≤ c) (c1 : c ≤ 255) : bits .or .u32 (bits .and .u32 W 4294967040) c = W - W / 1 % 256 * 1 + c * 1 := by
 obtain ⟨W, rfl⟩ := Int.eq_ofNat_of_zero_le h0
 obtain ⟨c, rfl⟩ := Int.eq_ofNat_of_zero_le c0
 have key : (W &&& 4294967040) ||| c = 256 * (W / 256) + (1 * c + W % 1) := by
  have := nat_laybyte W 0 c (by omega) (by omega) (by omega)
  rw [Nat.pow_zero, Nat.mul_one] at this; exact this
 have hm2 : W &&& 4294967040 = 256 * (W / 256) + W % 1 := nat_andmask W 0 (by omega) (by omega)
 have ea : bits .and .u32 (W : Int) 4294967040 = ((W &&& 4294967040 : Nat) : Int) := u32_and_nat W 4294967040 (by omega) (by omega)
 have eb : bits .or .u32 ((W &&& 4294967040 : Nat) : Int) (c : Int) = (((W &&& 4294967040) ||| c : Nat) : Int) := u32_or_nat _ _ (by omega) (by omega)
 rw [ea, eb, key]
 omega
theorem lay_8 (W c : Int) (h0 : 0 ≤ W) (h1 : W < 4294967296) (c0 : 0 ≤ c) (c1 : c ≤ 255) : bits .or .u32 (bits .and .u32 W 4294902015) (c * 256) = W - W / 256 % 256 * 256 + c * 256 := by
 obtain ⟨W, rfl⟩ := Int.eq_ofNat_of_zero_le h0
 obtain ⟨c, rfl⟩ := Int.eq_ofNat_of_zero_le c0
 have key : (W &&& 4294902015) ||| c * 256 = 65536 * (W / 65536) + (256 * c + W % 256) := by
  have := nat_laybyte W 8 c (by omega) (by omega) (by omega)
  exact this
 have hm2 : W &&& 4294902015 = 65536 * (W / 65536) + W % 256 := nat_andmask W 8 (by omega) (by omega)
 have ea : bits .and .u32 (W : Int) 4294902015 = ((W &&& 4294902015 : Nat) : Int) := u32_and_nat W 4294902015 (by omega) (by omega)
 have eb : bits .or .u32 ((W &&& 4294902015 : Nat) : Int) ((c * 256 : Nat) : Int) = (((W &&& 4294902015) ||| c * 256 : Nat) : Int) := u32_or_nat _ _ (by omega) (by omega)
 rw [ea, show (c : Int) * 256 = ((c * 256 : Nat) : Int) from by omega, eb, key]
 omega
theorem lay_16 (W c : Int) (h0 : 0 ≤ W) (h1 : W < 4294967296) (c0 : 0 ≤ c) (c1 : c ≤ 255) : bits .or .u32 (bits .and .u32 W 4278255615) (c * 65536) = W - W / 65536 % 256 * 65536 + c * 65536 := by
 obtain ⟨W, rfl⟩ := Int.eq_ofNat_of_zero_le h0
 obtain ⟨c, rfl⟩ := Int.eq_ofNat_of_zero_le c0
 have key : (W &&& 4278255615) ||| c * 65536 = 16777216 * (W / 16777216) + (65536 * c + W % 65536) := by
  have := nat_laybyte W 16 c (by omega) (by omega) (by omega)
  exact this
 have hm2 : W &&& 4278255615 = 16777216 * (W / 16777216) + W % 65536 := nat_andmask W 16 (by omega) (by omega)
 have ea : bits .and .u32 (W : Int) 4278255615 = ((W &&& 4278255615 : Nat) : Int) := u32_and_nat W 4278255615 (by omega) (by omega)
 have eb : bits .or .u32 ((W &&& 4278255615 : Nat) : Int) ((c * 65536 : Nat) : Int) = (((W &&& 4278255615) ||| c * 65536 : Nat) : Int) := u32_or_nat _ _ (by omega) (by omega)
 rw [ea, show (c : Int) * 65536 = ((c * 65536 : Nat) : Int) from by omega, eb, key]
 omega
theorem lay_24 (W c : Int) (h0 : 0 ≤ W) (h1 : W < 4294967296) (c0 : 0 ≤ c) (c1 : c ≤ 255) : bits .or .u32 (bits .and .u32 W 16777215) (c * 16777216) = W - W / 16777216 % 256 * 16777216 + c * 16777216 := by
 obtain ⟨W, rfl⟩ := Int.eq_ofNat_of_zero_le h0
 obtain ⟨c, rfl⟩ := Int.eq_ofNat_of_zero_le c0
 have key : (W &&& 16777215) ||| c * 16777216 = 4294967296 * (W / 4294967296) + (16777216 * c + W % 16777216) := by
  have := nat_laybyte W 24 c (by omega) (by omega) (by omega)
  exact this
 have hm2 : W &&& 16777215 = 4294967296 * (W / 4294967296) + W % 16777216 := nat_andmask W 24 (by omega) (by omega)
 have ea : bits .and .u32 (W : Int) 16777215 = ((W &&& 16777215 : Nat) : Int) := u32_and_nat W 16777215 (by omega) (by omega)
 have eb : bits .or .u32 ((W &&& 16777215 : Nat) : Int) ((c * 16777216 : Nat) : Int) = (((W &&& 16777215) ||| c * 16777216 : Nat) : Int) := u32_or_nat _ _ (by omega) (by omega)
 rw [ea, show (c : Int) * 16777216 = ((c * 16777216 : Nat) : Int) from by omega, eb, key]
 omega
/-- A word's bytes. -/
theorem getV_byte (M : Nat → Int) (h : ∀ i, 0 ≤ M i ∧ M i ≤ 255) (p : Nat) : 0 ≤ getV M p ∧ getV M p < 4294967296 ∧ getV M p % 256 = M p ∧ getV M p / 256 % 256 = M (p + 1) ∧ getV M p / 65536 % 256 = M (p + 2) ∧ getV M p / 16777216 % 256 = M (p + 3) := by
 unfold getV
 have h0 := h p
 have h1 := h (p + 1)
 have h2 := h (p + 2)
 have h3 := h (p + 3)
 omega
theorem setB_word (M : Nat → Int) (h : ∀ i, 0 ≤ M i ∧ M i ≤ 255) (q j : Nat) (hj : j < 4) (c : Int) (i : Nat) : getV (setB M (4 * q + j) c) (4 * i) = if i = q then getV M (4 * q) - M (4 * q + j) * 256 ^ j + c * 256 ^ j else getV M (4 * i) := by
 have hh : j = 0 ∨ j = 1 ∨ j = 2 ∨ j = 3 := by omega
 unfold getV setB
 by_cases hi : i = q
 ·subst hi
  rw [if_pos rfl]
  rcases hh with rfl | rfl | rfl | rfl
  ·rw [show 4 * i + 0 = 4 * i from rfl, if_pos rfl, if_neg (by omega), if_neg (by omega), if_neg (by omega)]; omega
  ·rw [if_neg (by omega), if_pos rfl, if_neg (by omega), if_neg (by omega)]; omega
  ·rw [if_neg (by omega), if_neg (by omega), if_pos rfl, if_neg (by omega)]; omega
  ·rw [if_neg (by omega), if_neg (by omega), if_neg (by omega), if_pos rfl]; omega
 ·rw [if_neg hi, if_neg (by omega), if_neg (by omega), if_neg (by omega), if_neg (by omega)]
theorem rret {k : IntKind} {a b : Int} (h : a = b) : Ending.returned (.int k a) = .returned (.int k b) := by rw [h]
theorem rinside_any (a : Int) (w : World) : Calls Tryz.prog 45 #[.int .u32 a] w fun e w' => e = .returned (.bool (decide (a < 1048576))) ∧ w = w' := by
 go_enter Tryz.func45, Tryz.ntmps45
 go_wp2_with fail
 go_ret
 exact ⟨rfl, rfl⟩
section
variable {w : World} {base : Nat} {v : RV} {x : BS} {sec0 : Nat → ByteArray} {hist : List (Nat × ByteArray)}
theorem rbyte_at (B : RBusAt w base v x sec0 hist) (q j : Nat) (hq : q < 262144) (hj : j < 4) (a : Int) (ha : a = 4 * q + j) :
 Calls Tryz.prog 88 #[.pointer (some ⟨v.b, 0, none⟩), .int .u32 a] w fun e w' => e = .returned (.int .u8 (x.M (4 * q + j))) ∧ w = w' := by
 obtain ⟨c0, -⟩ := B.cells
 have cw := B.word q hq
 obtain ⟨h0, h1, m0, m1, m2, m3⟩ := getV_byte x.M B.mb (4 * q)
 have e1 : a / 4 = (q : Int) := by omega
 have a0 : 0 ≤ a := by omega
 have a1 : a < 1048576 := by omega
 have q1 : (q : Int) < 262144 := by omega
 generalize getV x.M (4 * q) = W at cw h0 h1 m0 m1 m2 m3
 have hh : j = 0 ∨ j = 1 ∨ j = 2 ∨ j = 3 := by omega
 rcases hh with rfl | rfl | rfl | rfl
 ·have e2 : a % 4 = 0 := by omega
  have HM := hid m0
  clear m0 m1 m2 m3 ha
  go_enter Tryz.func88, Tryz.ntmps88
  go_wp2_with fail
  go_ret
  exact ⟨rret (by have := HM.out; first | omega | (simp only [Nat.add_zero]; omega)), rfl⟩
 ·have e2 : a % 4 = 1 := by omega
  have HM := hid m1
  clear m0 m1 m2 m3 ha
  go_enter Tryz.func88, Tryz.ntmps88
  go_wp2_with fail
  go_ret
  exact ⟨rret (by have := HM.out; first | omega | (simp only [Nat.add_zero]; omega)), rfl⟩
 ·have e2 : a % 4 = 2 := by omega
  have HM := hid m2
  clear m0 m1 m2 m3 ha
  go_enter Tryz.func88, Tryz.ntmps88
  go_wp2_with fail
  go_ret
  exact ⟨rret (by have := HM.out; first | omega | (simp only [Nat.add_zero]; omega)), rfl⟩
 ·have e2 : a % 4 = 3 := by omega
  have HM := hid m3
  clear m0 m1 m2 m3 ha
  go_enter Tryz.func88, Tryz.ntmps88
  go_wp2_with fail
  go_ret
  exact ⟨rret (by have := HM.out; first | omega | (simp only [Nat.add_zero]; omega)), rfl⟩
theorem rlay_at (B : RBusAt w base v x sec0 hist) (q j : Nat) (hq : q < 262144) (hj : j < 4) (a : Int) (ha : a = 4 * q + j) (c : Int) (y0 : 0 ≤ c) (y1 : c ≤ 255) :
 Calls Tryz.prog 89 #[.pointer (some ⟨v.b, 0, none⟩), .int .u32 a, .int .u8 c] w fun e w' => e = .returned (.tuple #[]) ∧ RBusAt w' base v { x with M := setB x.M (4 * q + j) c } sec0 hist ∧ RMoves w w' v v := by
 obtain ⟨c0, -⟩ := B.cells
 have cw := B.word q hq
 have fw := B.mem.frozen q
 obtain ⟨h0, h1, m0, m1, m2, m3⟩ := getV_byte x.M B.mb (4 * q)
 have hset := setB_word x.M B.mb q j hj c
 have hbd : ∀ i, 0 ≤ setB x.M (4 * q + j) c i ∧ setB x.M (4 * q + j) c i ≤ 255 := fun i => by unfold setB; split; exact ⟨y0, y1⟩; exact B.mb i
 have HB := hid B
 have HS := hid hset
 have HD := hid hbd
 have e1 : a / 4 = (q : Int) := by omega
 have a0 : 0 ≤ a := by omega
 have a1 : a < 1048576 := by omega
 have q1 : (q : Int) < 262144 := by omega
 obtain ⟨W, hW⟩ : ∃ W, getV x.M (4 * q) = W := ⟨_, rfl⟩
 rw [hW] at cw h0 h1 m0 m1 m2 m3
 have HW := hid hW
 clear B hset hbd hW
 have hh : j = 0 ∨ j = 1 ∨ j = 2 ∨ j = 3 := by omega
 rcases hh with rfl | rfl | rfl | rfl
 ·have e2 : a % 4 = 0 := by omega
  have HM := hid m0
  have hl := lay_0 W c h0 h1 y0 y1
  clear m0 m1 m2 m3 ha
  go_enter Tryz.func89, Tryz.ntmps89
  go_wp2_with fail
  go_region
  go_wp2_with fail
  go_end0
  obtain ⟨b1, b2⟩ := HB.out.setWord q (W - W % 256 + c) HD.out (fun i _ => by
   rw [HS.out i]
   by_cases hi : i = q
   ·have hm := HM.out
    rw [if_pos hi, if_pos hi, HW.out, show 4 * q + 0 = 4 * q from rfl, ← hm]
    omega
   ·rw [if_neg hi, if_neg hi])
  exact ⟨rfl, b1.below ((Below.refl _ _).drew), b2.trans (RMoves.of_below _ ((Below.refl _ _).drew))⟩
 ·have e2 : a % 4 = 1 := by omega
  have HM := hid m1
  have hl := lay_8 W c h0 h1 y0 y1
  clear m0 m1 m2 m3 ha
  go_enter Tryz.func89, Tryz.ntmps89
  go_wp2_with fail
  go_region
  go_wp2_with fail
  go_end0
  obtain ⟨b1, b2⟩ := HB.out.setWord q (W - W / 256 % 256 * 256 + c * 256) HD.out (fun i _ => by
   rw [HS.out i]
   by_cases hi : i = q
   ·rw [if_pos hi, if_pos hi, HW.out, ← HM.out]
    rw [show (256 : Int) ^ 1 = 256 from by decide]
   ·rw [if_neg hi, if_neg hi])
  exact ⟨rfl, b1.below ((Below.refl _ _).drew), b2.trans (RMoves.of_below _ ((Below.refl _ _).drew))⟩
 ·have e2 : a % 4 = 2 := by omega
  have HM := hid m2
  have hl := lay_16 W c h0 h1 y0 y1
  clear m0 m1 m2 m3 ha
  go_enter Tryz.func89, Tryz.ntmps89
  go_wp2_with fail
  go_region
  go_wp2_with fail
  go_end0
  obtain ⟨b1, b2⟩ := HB.out.setWord q (W - W / 65536 % 256 * 65536 + c * 65536) HD.out (fun i _ => by
   rw [HS.out i]
   by_cases hi : i = q
   ·rw [if_pos hi, if_pos hi, HW.out, ← HM.out]
    rw [show (256 : Int) ^ 2 = 65536 from by decide]
   ·rw [if_neg hi, if_neg hi])
  exact ⟨rfl, b1.below ((Below.refl _ _).drew), b2.trans (RMoves.of_below _ ((Below.refl _ _).drew))⟩
 ·have e2 : a % 4 = 3 := by omega
  have HM := hid m3
  have hl := lay_24 W c h0 h1 y0 y1
  clear m0 m1 m2 m3 ha
  go_enter Tryz.func89, Tryz.ntmps89
  go_wp2_with fail
  go_region
  go_wp2_with fail
  go_end0
  obtain ⟨b1, b2⟩ := HB.out.setWord q (W - W / 16777216 % 256 * 16777216 + c * 16777216) HD.out (fun i _ => by
   rw [HS.out i]
   by_cases hi : i = q
   ·rw [if_pos hi, if_pos hi, HW.out, ← HM.out]
    rw [show (256 : Int) ^ 3 = 16777216 from by decide]
   ·rw [if_neg hi, if_neg hi])
  exact ⟨rfl, b1.below ((Below.refl _ _).drew), b2.trans (RMoves.of_below _ ((Below.refl _ _).drew))⟩
theorem RBusAt.drew (B : RBusAt w base v x sec0 hist) : RBusAt w.drew base v x sec0 hist := B.below ((Below.refl _ _).drew)
theorem rword_yes (B : RBusAt w base v x sec0 hist) (a : Int) (h0 : 0 ≤ a) (h1 : a < 1048576) (h4 : a % 4 = 0) :
 Calls Tryz.prog 23 #[.pointer (some ⟨v.b, 0, none⟩), .int .u32 a] w fun e w' => e = .returned (.tuple #[.int .u32 (getV x.M a.toNat), .bool true]) ∧ w = w' := by
 obtain ⟨c0, -⟩ := B.cells
 obtain ⟨q, hq⟩ : ∃ q : Nat, a = ((4 * q : Nat) : Int) := ⟨(a / 4).toNat, by omega⟩
 have cw := B.word q (by omega)
 have e1 : a / 4 = (q : Int) := by omega
 have q1 : (q : Int) < 262144 := by omega
 have q2 : a.toNat = 4 * q := by omega
 rw [q2]
 have t1 : decide (a < 1048576) = true := decide_eq_true h1
 clear q2 hq
 go_enter Tryz.func23, Tryz.ntmps23
 go_wp2_with (go_at_call 45; refine (rinside_any _ _).mono ?_; rintro e w1 ⟨rfl, rfl⟩)
 go_ret2
 exact ⟨rfl, rfl⟩
theorem rword_no (B : RBusAt w base v x sec0 hist) (a : Int) (h0 : 0 ≤ a) (h1 : a < 4294967296) (h4 : ¬ (a < 1048576 ∧ a % 4 = 0)) :
 Calls Tryz.prog 23 #[.pointer (some ⟨v.b, 0, none⟩), .int .u32 a] w fun e w' => e = .returned (.tuple #[.int .u32 0, .bool false]) ∧ w = w' := by
 by_cases hh : a < 1048576
 ·have t1 : decide (a < 1048576) = true := decide_eq_true hh
  have t2 : (a % 4 != 0) = true := by have : ¬ a % 4 = 0 := fun h => h4 ⟨hh, h⟩; simpa using this
  clear h4
  go_enter Tryz.func23, Tryz.ntmps23
  go_wp2_with (go_at_call 45; refine (rinside_any _ _).mono ?_; rintro e w1 ⟨rfl, rfl⟩)
  go_ret2
  exact ⟨rfl, rfl⟩
 ·have t1 : decide (a < 1048576) = false := decide_eq_false hh
  clear h4
  go_enter Tryz.func23, Tryz.ntmps23
  go_wp2_with (go_at_call 45; refine (rinside_any _ _).mono ?_; rintro e w1 ⟨rfl, rfl⟩)
  go_ret2
  exact ⟨rfl, rfl⟩
theorem getV_laid4 (M : Nat → Int) (q : Nat) (y : Int) (y0 : 0 ≤ y) (y1 : y < 4294967296) (i : Nat) : getV (laid4 M (4 * q) y) (4 * i) = if i = q then y else getV M (4 * i) := by
 unfold getV laid4
 by_cases hi : i = q
 ·subst hi
  rw [if_pos rfl, if_pos (by omega), if_pos (by omega), if_pos (by omega), if_pos (by omega), show 4 * i - 4 * i = 0 from by omega, show 4 * i + 1 - 4 * i = 1 from by omega, show 4 * i + 2 - 4 * i = 2 from by omega, show 4 * i + 3 - 4 * i = 3 from by omega]
  have w0 : wbyte y 0 = y % 256 := rfl
  have w1 : wbyte y 1 = y / 256 % 256 := rfl
  have w2 : wbyte y 2 = y / 65536 % 256 := rfl
  have w3 : wbyte y 3 = y / 16777216 % 256 := rfl
  rw [w0, w1, w2, w3]
  omega
 ·rw [if_neg hi, if_neg (by omega), if_neg (by omega), if_neg (by omega), if_neg (by omega)]
theorem RBusAt.poke (B : RBusAt w base v x sec0 hist) (q : Nat) (y : Int) (y0 : 0 ≤ y) (y1 : y < 4294967296) : RBusAt (w.setCell ⟨v.m, q, none⟩ (.int .u32 y)) base v { x with M := laid4 x.M (4 * q) y } sec0 hist ∧ RMoves w (w.setCell ⟨v.m, q, none⟩ (.int .u32 y)) v v :=
 B.setWord q y (laid4_bd B.mb (4 * q) y) (fun i _ => getV_laid4 x.M q y y0 y1 i)
theorem rpoke_yes (B : RBusAt w base v x sec0 hist) (a y : Int) (h0 : 0 ≤ a) (h1 : a < 1048576) (h4 : a % 4 = 0) (y0 : 0 ≤ y) (y1 : y < 4294967296) :
 Calls Tryz.prog 95 #[.pointer (some ⟨v.b, 0, none⟩), .int .u32 a, .int .u32 y] w fun e w' => e = .returned (.bool true) ∧ RBusAt w' base v { x with M := laid4 x.M a.toNat y } sec0 hist ∧ RMoves w w' v v := by
 obtain ⟨c0, -⟩ := B.cells
 obtain ⟨q, hq⟩ : ∃ q : Nat, a = ((4 * q : Nat) : Int) := ⟨(a / 4).toNat, by omega⟩
 have cw := B.word q (by omega)
 have fw := B.mem.frozen q
 have e1 : a / 4 = (q : Int) := by omega
 have q1 : (q : Int) < 262144 := by omega
 have q2 : a.toNat = 4 * q := by omega
 rw [q2]
 have HB := hid (B.poke q y y0 y1)
 have t1 : decide (a < 1048576) = true := decide_eq_true h1
 clear q2 hq B
 go_enter Tryz.func95, Tryz.ntmps95
 go_wp2_with (go_at_call 45; refine (rinside_any _ _).mono ?_; rintro e w1 ⟨rfl, rfl⟩)
 go_ret
 exact ⟨rfl, HB.out⟩
theorem rtick_any (B : RBusAt w base v x sec0 hist) (n : Int) (h0 : 0 ≤ n) (h1 : n < 4294967296) :
 Calls Tryz.prog 20 #[.pointer (some ⟨v.b, 0, none⟩), .int .u32 n] w fun e w' => e = .returned (.tuple #[]) ∧ RBusAt w' base v { x with tk := (x.tk + n) % 4294967296 } sec0 hist ∧ RMoves w w' v v := by
 obtain ⟨-, -, -, -, c4, -⟩ := B.cells
 have f4 := B.row.frozen 4
 obtain ⟨b0, b1⟩ := B.tkb
 have HB := hid (B.own (x' := { x with tk := (x.tk + n) % 4294967296 }) 4 (.int .u32 ((x.tk + n) % 4294967296)) rfl rfl B.ql (by simp only; omega) B.seb B.adb B.flb)
 clear B
 go_enter Tryz.func20, Tryz.ntmps20
 go_wp2_with fail
 go_end0
 exact ⟨rfl, HB.out⟩
theorem rout_any (B : RBusAt w base v x sec0 hist) :
 Calls Tryz.prog 27 #[.pointer (some ⟨v.b, 0, none⟩)] w fun e w' => e = .returned (.string (ofBs x.o)) ∧ w = w' := by
 obtain ⟨-, -, -, c3, -⟩ := B.cells
 have hcv : (convert 69 9 v.vo).run Tryz.prog w = .ok (.string (ofBs x.o)) w := by
  rcases B.out.2 with ⟨h1, h2⟩ | ⟨g, cap, cur, h1, h2, h3, h4, h5, h6, h7⟩
  ·have : x.o = [] := List.eq_nil_of_length_eq_zero h2
   rw [h1, this]
   exact bconv_zero w none 0
  ·rw [h1]
   refine bconv_range w g 0 x.o.length cap (ofBs x.o) (ofBs_size _) (fun j u hj => ?_)
   rw [Nat.zero_add, cell_of_row w g j cur _ (0, 0) h3]
   rw [ofBs_cells, ← h7, Nat.mul_one, List.getElem?_take] at hj
   split at hj
   ·rw [← hj, Array.getElem?_toList]
   ·cases hj
 obtain ⟨oa, oc, hv⟩ : ∃ a c, v.vo = .slice a x.o.length c := by
  rcases B.out.2 with ⟨h1, h2⟩ | ⟨g, cap, cur, h1, _⟩
  ·exact ⟨none, 0, by rw [h1, h2]⟩
  ·exact ⟨_, _, h1⟩
 rw [hv] at c3 hcv
 clear hv B
 go_enter Tryz.func27, Tryz.ntmps27
 go_wp2_with fail
 go_ret
 exact ⟨rfl, rfl⟩
theorem ofBs_append (a : List UInt8) (s : ByteArray) : ofBs a ++ s = ofBs (a ++ s.data.toList) := by
 refine WideShapes.bytes_inj ?_
 unfold ofBs
 simp
theorem rfeed_yes (B : RBusAt w base v x sec0 hist) (s : ByteArray) (h : x.q.length + s.size ≤ 65536) :
 Calls Tryz.prog 18 #[.pointer (some ⟨v.b, 0, none⟩), .string s] w fun e w' => e = .returned (.int .i64 0) ∧ RBusAt w' base v { x with q := x.q ++ s.data.toList } sec0 hist ∧ RMoves w w' v v := by
 obtain ⟨-, -, c2, -⟩ := B.cells
 have f2 := B.row.frozen 2
 have hs : (ofBs x.q).size = x.q.length := ofBs_size _
 have hsl : s.data.toList.length = s.size := by rw [Array.length_toList]; rfl
 have HB := hid (B.own (x' := { x with q := x.q ++ s.data.toList }) 2 (.string (ofBs x.q ++ s)) (by rw [ofBs_append]; rfl) rfl (by simp only [List.length_append]; omega) B.tkb B.seb B.adb B.flb)
 generalize ofBs x.q = S at c2 hs HB
 have t1 : decide ((65536 : Int) - (S.size : Int) < (s.size : Int)) = false := decide_eq_false (by omega)
 have t2 : ¬ ((65536 : Int) - (S.size : Int) < (s.size : Int)) := by omega
 have b1 : S.size ≤ 65536 := by omega
 have b2 : s.size ≤ 65536 := by omega
 clear B hs
 go_enter Tryz.func18, Tryz.ntmps18
 go_wp2_with fail
 go_ret
 exact ⟨rfl, HB.out⟩
theorem rfeed_no (B : RBusAt w base v x sec0 hist) (s : ByteArray) (h : 65536 < x.q.length + s.size) (hz : s.size ≤ 140737488351232) :
 Calls Tryz.prog 18 #[.pointer (some ⟨v.b, 0, none⟩), .string s] w fun e w' => e = .returned (.int .i64 40) ∧ w = w' := by
 obtain ⟨-, -, c2, -⟩ := B.cells
 have hs : (ofBs x.q).size = x.q.length := ofBs_size _
 have hq := B.ql
 generalize ofBs x.q = S at c2 hs
 have t1 : decide ((65536 : Int) - (S.size : Int) < (s.size : Int)) = true := decide_eq_true (by omega)
 have t2 : ((65536 : Int) - (S.size : Int) < (s.size : Int)) := by omega
 have b1 : S.size ≤ 65536 := by omega
 clear B hs hq
 go_enter Tryz.func18, Tryz.ntmps18
 go_wp2_with fail
 go_ret
 exact ⟨rfl, rfl⟩
end
theorem rsectors_any {w : World} {base r : Nat} {vf vw : Value} {N : Nat} {sec0 : Nat → ByteArray} {hist : List (Nat × ByteArray)} (R : RefAt w base r vf vw N sec0 hist) :
 Calls Tryz.prog 101 #[.pointer (some ⟨r, 0, none⟩)] w fun e w' => e = .returned (.int .i64 (N : Int)) ∧ w = w' := by
 have c0 := R.c0
 obtain ⟨q, c, hv⟩ := R.fform
 rw [hv] at c0
 clear hv R
 go_enter Tryz.func101, Tryz.ntmps101
 go_wp2_with fail
 go_ret
 exact ⟨rfl, rfl⟩
theorem full_toList {s : ByteArray} (h : 0 < s.size) : s.toList.isEmpty = false := by
 cases he : s.toList with
 | nil => have := (toList_nil (s := s)).1 he; omega
 | cons a b => rfl
theorem ofBs_nil : ofBs [] = ⟨#[]⟩ := rfl
theorem ofBs_tail (c : UInt8) (r : List UInt8) : (ofBs (c :: r)).extract 1 (ofBs (c :: r)).size = ofBs r := by
 refine WideShapes.bytes_inj ?_
 rw [ByteArray.data_extract]
 unfold ofBs
 simp [ByteArray.size]
section
variable {w : World} {base : Nat} {v : RV} {x : BS} {sec0 : Nat → ByteArray} {hist : List (Nat × ByteArray)}
/-- What loading a device's word comes to. -/
def RLoads (w : World) (base : Nat) (v : RV) (x : BS) (sec0 : Nat → ByteArray) (hist : List (Nat × ByteArray)) (a : Int) : Prop :=
 Calls Tryz.prog 90 #[.pointer (some ⟨v.b, 0, none⟩), .int .u32 a] w fun e w' => e = .returned (.tuple #[.int .u32 (x.load a).1, .int .i64 (x.load a).2.1]) ∧ RBusAt w' base v (x.load a).2.2 sec0 hist ∧ RMoves w w' v v
theorem rload_timer (B : RBusAt w base v x sec0 hist) : RLoads w base v x sec0 hist 4294967232 := by
 obtain ⟨c0, c1, c2, c3, c4, c5, c6, c7⟩ := B.cells
 have HB := hid B
 clear B c0 c1 c2 c3 c5 c6 c7
 unfold RLoads
 go_enter Tryz.func90, Tryz.ntmps90
 go_wp2_with fail
 go_ret2
 exact ⟨rfl, HB.out, RMoves.refl _ _⟩
theorem rload_sector (B : RBusAt w base v x sec0 hist) : RLoads w base v x sec0 hist 4294967244 := by
 obtain ⟨c0, c1, c2, c3, c4, c5, c6, c7⟩ := B.cells
 have HB := hid B
 clear B c0 c1 c2 c3 c4 c6 c7
 unfold RLoads
 go_enter Tryz.func90, Tryz.ntmps90
 go_wp2_with fail
 go_ret2
 exact ⟨rfl, HB.out, RMoves.refl _ _⟩
theorem rload_address (B : RBusAt w base v x sec0 hist) : RLoads w base v x sec0 hist 4294967248 := by
 obtain ⟨c0, c1, c2, c3, c4, c5, c6, c7⟩ := B.cells
 have HB := hid B
 clear B c0 c1 c2 c3 c4 c5 c7
 unfold RLoads
 go_enter Tryz.func90, Tryz.ntmps90
 go_wp2_with fail
 go_ret2
 exact ⟨rfl, HB.out, RMoves.refl _ _⟩
theorem rload_command (B : RBusAt w base v x sec0 hist) : RLoads w base v x sec0 hist 4294967252 := by
 obtain ⟨c0, c1, c2, c3, c4, c5, c6, c7⟩ := B.cells
 have HB := hid B
 clear B c0 c1 c2 c3 c4 c5 c6
 unfold RLoads
 go_enter Tryz.func90, Tryz.ntmps90
 go_wp2_with fail
 go_ret2
 exact ⟨rfl, HB.out, RMoves.refl _ _⟩
theorem rload_sectors (B : RBusAt w base v x sec0 hist) : RLoads w base v x sec0 hist 4294967256 := by
 obtain ⟨-, c1, -⟩ := B.cells
 have HB := hid B
 obtain ⟨n0, n1⟩ := B.nb
 have m0 : (0 : Int) ≤ (x.N : Int) := by omega
 have m1 : (x.N : Int) ≤ 1024 := by omega
 clear B
 unfold RLoads
 go_enter Tryz.func90, Tryz.ntmps90
 go_wp2_with (go_at_call 101; refine (rsectors_any HB.out.disk).mono ?_; rintro e w1 ⟨rfl, rfl⟩)
 go_ret2
 exact ⟨rfl, HB.out, RMoves.refl _ _⟩
theorem rload_status (B : RBusAt w base v x sec0 hist) : RLoads w base v x sec0 hist 4294967240 := by
 obtain ⟨-, -, c2, -⟩ := B.cells
 have HB := hid B
 unfold RLoads
 cases hq : x.q with
 | nil =>
  have hl : x.load 4294967240 = (2, 0, x) := by unfold BS.load; simp [hq]
  rw [hl]
  rw [hq, ofBs_nil] at c2
  clear B hq hl
  go_enter Tryz.func90, Tryz.ntmps90
  go_wp2_with fail
  go_ret2
  exact ⟨rfl, HB.out, RMoves.refl _ _⟩
 | cons c r =>
  have hl : x.load 4294967240 = (3, 0, x) := by unfold BS.load; simp [hq]
  rw [hl]
  rw [hq] at c2
  have hs : (ofBs (c :: r)).size = r.length + 1 := by rw [ofBs_size]; rfl
  generalize ofBs (c :: r) = S at c2 hs
  have hS : S.toList.isEmpty = false := full_toList (by omega)
  clear B hq hl hs
  go_enter Tryz.func90, Tryz.ntmps90
  go_wp2_with fail
  go_ret2
  exact ⟨rfl, HB.out, RMoves.refl _ _⟩
theorem rload_data (B : RBusAt w base v x sec0 hist) : RLoads w base v x sec0 hist 4294967236 := by
 obtain ⟨-, -, c2, -⟩ := B.cells
 have f2 := B.row.frozen 2
 have HB := hid B
 unfold RLoads
 cases hq : x.q with
 | nil =>
  have hl : x.load 4294967236 = (0, 2, x) := by unfold BS.load; simp [hq]
  rw [hl]
  rw [hq, ofBs_nil] at c2
  clear B hq hl
  go_enter Tryz.func90, Tryz.ntmps90
  go_wp2_with fail
  go_ret2
  exact ⟨rfl, HB.out, RMoves.refl _ _⟩
 | cons c r =>
  have hl : x.load 4294967236 = ((c.toNat : Int), 0, { x with q := r }) := by unfold BS.load; simp [hq]
  rw [hl]
  have hlen := B.ql
  rw [hq] at c2 hlen
  simp only [List.length_cons] at hlen
  have HS := hid (B.own (x' := { x with q := r }) 2 (.string (ofBs r)) rfl rfl (by simp only; omega) B.tkb B.seb B.adb B.flb)
  have hs : (ofBs (c :: r)).size = r.length + 1 := by rw [ofBs_size]; rfl
  have htl := ofBs_tail c r
  have hg : ∀ h : 0 < (ofBs (c :: r)).size, ((ofBs (c :: r))[0]'h) = c := fun h => rfl
  generalize ofBs (c :: r) = S at c2 hs htl hg
  generalize ofBs r = S2 at HS htl
  have hS : S.toList.isEmpty = false := full_toList (by omega)
  have hz : (1 : Int) ≤ (S.size : Int) := by omega
  have hz1 : 0 < S.size := by omega
  have hg0 := hg hz1
  have hcm : (c.toNat : Int) % 4294967296 = (c.toNat : Int) := by have := c.toNat_lt; omega
  rw [hs] at htl
  clear B hq hl hg
  go_enter Tryz.func90, Tryz.ntmps90
  go_wp2_with fail
  go_ret2
  exact ⟨rfl, HS.out⟩
theorem rload_none (B : RBusAt w base v x sec0 hist) (a : Int) (h : ¬ (a = 4294967232 ∨ a = 4294967236 ∨ a = 4294967240 ∨ a = 4294967244 ∨ a = 4294967248 ∨ a = 4294967252 ∨ a = 4294967256)) : RLoads w base v x sec0 hist a := by
 have HB := hid B
 unfold RLoads
 have hl : x.load a = (0, 1, x) := by
  unfold BS.load
  rw [if_neg (by omega), if_neg (by omega), if_neg (by omega), if_neg (by omega), if_neg (by omega), if_neg (by omega), if_neg (by omega)]
 rw [hl]
 have t1 : (a == 4294967232) = false := by simp; omega
 have t2 : (a == 4294967236) = false := by simp; omega
 have t3 : (a == 4294967240) = false := by simp; omega
 have t4 : (a == 4294967244) = false := by simp; omega
 have t5 : (a == 4294967248) = false := by simp; omega
 have t6 : (a == 4294967252) = false := by simp; omega
 have t7 : (a == 4294967256) = false := by simp; omega
 clear B hl h
 go_enter Tryz.func90, Tryz.ntmps90
 go_wp2_with fail
 go_ret2
 exact ⟨rfl, HB.out, RMoves.refl _ _⟩
theorem rload_any (B : RBusAt w base v x sec0 hist) (a : Int) : RLoads w base v x sec0 hist a := by
 by_cases h1 : a = 4294967232
 ·rw [h1]; exact rload_timer B
 by_cases h2 : a = 4294967236
 ·rw [h2]; exact rload_data B
 by_cases h3 : a = 4294967240
 ·rw [h3]; exact rload_status B
 by_cases h4 : a = 4294967244
 ·rw [h4]; exact rload_sector B
 by_cases h5 : a = 4294967248
 ·rw [h5]; exact rload_address B
 by_cases h6 : a = 4294967252
 ·rw [h6]; exact rload_command B
 by_cases h7 : a = 4294967256
 ·rw [h7]; exact rload_sectors B
 exact rload_none B a (by omega)
end
theorem getV_words' (f : Nat → Int) (n j : Nat) (hj : j < n) (h0 : 0 ≤ f j) (h1 : f j < 4294967296) : getV (wordsM f n) (4 * j) = f j := by
 unfold getV wordsM
 rw [if_pos (by omega), if_pos (by omega), if_pos (by omega), if_pos (by omega), show 4 * j / 4 = j from by omega, show (4 * j + 1) / 4 = j from by omega, show (4 * j + 2) / 4 = j from by omega, show (4 * j + 3) / 4 = j from by omega,
  show 4 * j % 4 = 0 from by omega, show (4 * j + 1) % 4 = 1 from by omega, show (4 * j + 2) % 4 = 2 from by omega, show (4 * j + 3) % 4 = 3 from by omega]
 simp only [wbyte]
 omega
theorem getV_words0 (f : Nat → Int) (n j : Nat) (hj : ¬ j < n) : getV (wordsM f n) (4 * j) = 0 := by
 unfold getV wordsM
 rw [if_neg (by omega), if_neg (by omega), if_neg (by omega), if_neg (by omega)]
 rfl
theorem zeroB : (0 : Int) ≤ 0 ∧ (0 : Int) < 4294967296 := ⟨by decide, by decide⟩
theorem rbnew_at (A : Option Addr) (n c : Nat) (f : Nat → Int) (w : World) (base r : Nat) (vf : Value) (N : Nat) (sec0 : Nat → ByteArray) (hn : n ≤ 262144) (hf : ∀ i, 0 ≤ f i ∧ f i < 4294967296) (hr : RdI .u32 w A n f) (R : RefAt w base r vf (.slice none 0 0) N sec0 []) (hN : 8 ≤ N ∧ N ≤ 1024) (hs : ∀ i, (sec0 i).size = 1024) :
 Calls Tryz.prog 41 #[.slice A n c, .pointer (some ⟨r, 0, none⟩)] w fun e w' => ∃ u, e = .returned (.tuple #[.pointer (some ⟨u.b, 0, none⟩), .int .i64 0]) ∧ RBusAt w' base u ⟨wordsM f n, [], [], 0, 0, 0, 0, N, sec0, []⟩ sec0 [] ∧ Below w.heap.size w w' ∧ ∀ g ∈ rbrow u, g ∈ rrow r vf (.slice none 0 0) ∨ w.heap.size ≤ g := by
 refine (rbnew_yes A n c f w r hn hr).mono ?_
 rintro e w' ⟨b, mm, rfl, hb, hm, hbl, h1, h2⟩
 have hlt := rrow_lt' R
 have hbase : base ≤ w.heap.size := Nat.le_trans R.br (Nat.le_of_lt R.rlt)
 refine ⟨⟨b, mm, r, .slice none 0 0, vf, .slice none 0 0⟩, rfl, {
  row := hb
  mem := hm.congr fun i _ => by
   by_cases hi : i < n
   ·rw [if_pos hi]; exact (getV_words' f n i hi (hf i).1 (hf i).2).symm
   ·rw [if_neg hi]; exact (getV_words0 f n i hi).symm
  mb := wordsM_bd f n
  out := ⟨rfl, .inl ⟨rfl, rfl⟩⟩
  ql := Nat.zero_le _
  ol := Nat.zero_le _
  tkb := zeroB
  seb := zeroB
  adb := zeroB
  flb := zeroB
  disk := R.below hbl
  nb := hN
  sec := rfl
  ws := rfl
  few := Nat.zero_le _
  slen := fun i _ => hs i
  nd := ?_
  lo := ⟨by show base ≤ b; omega, by show base ≤ mm; omega⟩ }, hbl, fun g hg => ?_⟩
 ·have nr : (rrow r vf (.slice none 0 0)).Nodup := by
   have hrf := R.rf
   simp only [rrow, show (Value.slice none 0 0).ownBlock = none from rfl, Option.toList_none, List.append_nil]
   generalize vf.ownBlock = o at hrf
   cases o with
   | none => simp
   | some k => simp; intro e; exact hrf (by rw [e])
  simp only [rbrow, Value.ownBlock, Option.toList_none, List.nil_append, List.nodup_cons, List.mem_cons, not_or]
  exact ⟨⟨by omega, fun h => by have := (hlt b h).2; omega⟩, fun h => by have := (hlt mm h).2; omega, nr⟩
 ·simp only [rbrow, List.mem_cons, List.mem_append, Value.ownBlock, Option.toList_none, List.not_mem_nil, false_or] at hg
  rcases hg with h | h | h
  ·exact .inr (by omega)
  ·exact .inr (by omega)
  ·exact .inl h
end Go.Proofs.YtgcknekhimpfkaaGreatDoor
