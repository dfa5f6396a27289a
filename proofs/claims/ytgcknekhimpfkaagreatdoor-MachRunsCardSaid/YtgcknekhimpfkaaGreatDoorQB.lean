/- A bus as it lies in memory. -/
import Derived.Test.YtgcknekhimpfkaaGreatDoorDiskD
import Derived.Test.YtgcknekhimpfkaaGreatDoorQP
import Derived.Laws.EntriesVeiled
import Derived.Test.YtgcknekhimpfkaaGreatDoorProg
import Derived.WalkKit
import Derived.Lib.Hide
import Derived.ProofKit
import Derived.Handy
import Derived.Maps.AppendAt
import Derived.Lib.AppendStr
import Derived.Laws.BytesArg
import Derived.Lib.ConvBytes
namespace Go.Proofs.YtgcknekhimpfkaaGreatDoor
open Go Go.RowKit Go.Lib Go.Proofs.YtgcknekhimpfkaaGreatDoor.Pl
set_option linter.unusedVariables false
def bcells (q : List UInt8) : List Value := q.map fun b => Value.int .u8 b.toNat
theorem hmf_all (fn : Fn) (first cap : Array Value) (w : World) : (Instr.makeFunc fn first cap).run Tryz.prog w = .ok (.func fn first cap) w := rfl
theorem bcells_length (q : List UInt8) : (bcells q).length = q.length := by simp [bcells]
theorem bcells_append (q r : List UInt8) : bcells (q ++ r) = bcells q ++ bcells r := by simp [bcells]
theorem bcells_str (s : ByteArray) : bcells s.data.toList = strCells s := rfl
theorem bcells_get (q : List UInt8) (i : Nat) (h : i < q.length) : (bcells q)[i]? = some (.int .u8 (q[i]).toNat) := by simp [bcells, h]
/-- Input that waits: a slice that reads as q, its head at any place of its block. -/
def InAt (w : World) (base : Nat) (v : Value) (q : List UInt8) : Prop :=
 (v = .slice none 0 0 ∧ q = []) ∨ ∃ g off cap cur, v = .slice (some ⟨g, off, none⟩) q.length cap ∧ base ≤ g ∧ w.heap[g]? = some (.cells cur 5 (0, 0)) ∧ q.length ≤ cap ∧ cap ≤ maxLen ∧ off + cap ≤ cur.size ∧ ∀ i, i < q.length → cur[off + i]? = (bcells q)[i]?
theorem InAt.lt {w : World} {base : Nat} {v : Value} {q : List UInt8} (h : InAt w base v q) (g : Nat) (hg : v.ownBlock = some g) : base ≤ g ∧ g < w.heap.size := by
 rcases h with ⟨rfl, _⟩ | ⟨g', off, cap, cur, rfl, hb, hh, _⟩
 ·cases hg
 ·obtain rfl : g' = g := by simpa [Value.ownBlock] using hg
  exact ⟨hb, (Array.getElem?_eq_some_iff.1 hh).1⟩
theorem InAt.form {w : World} {base : Nat} {v : Value} {q : List UInt8} (h : InAt w base v q) : ∃ a c, v = .slice a q.length c := by
 rcases h with ⟨rfl, rfl⟩ | ⟨g', off, cap, cur, rfl, hb, hh, _⟩
 ·exact ⟨none, 0, rfl⟩
 ·exact ⟨_, _, rfl⟩
theorem InAt.touch {w w' : World} {base : Nat} {v : Value} {q : List UInt8} {r : List Nat} (h : InAt w base v q) (t : Touch w w' r) (hv : ∀ g, v.ownBlock = some g → g ∉ r) : InAt w' base v q := by
 rcases h with h | ⟨g, off, cap, cur, rfl, hb, hh, h⟩
 ·exact .inl h
 ·exact .inr ⟨g, off, cap, cur, rfl, hb, by rw [t.block g (Array.getElem?_eq_some_iff.1 hh).1 (hv g rfl)]; exact hh, h⟩
/-- What is taken off its head. -/
theorem InAt.cons {w : World} {base : Nat} {v : Value} {c : UInt8} {q : List UInt8} (h : InAt w base v (c :: q)) :
 ∃ g off cap, v = .slice (some ⟨g, off, none⟩) (q.length + 1) cap ∧ q.length + 1 ≤ cap ∧ cap ≤ maxLen ∧ w.cell? ⟨g, off, none⟩ = some (.int .u8 c.toNat) ∧ (cap ≠ 1 → InAt w base (.slice (some ⟨g, off + 1, none⟩) q.length (cap - 1)) q) ∧ (cap = 1 → InAt w base (.slice (some ⟨g, off, none⟩) q.length 0) q) := by
 rcases h with ⟨_, h⟩ | ⟨g, off, cap, cur, rfl, hb, hh, h1, h2, h3, h4⟩
 ·cases h
 ·simp only [List.length_cons] at h1 h4
  refine ⟨g, off, cap, rfl, h1, h2, ?_, fun hc => ?_, fun hc => ?_⟩
  ·rw [cell_of_row w g off cur _ (0, 0) hh]
   have := h4 0 (by omega)
   rw [Nat.add_zero] at this
   rw [this]; rfl
  ·refine .inr ⟨g, off + 1, cap - 1, cur, rfl, hb, hh, by omega, by omega, by omega, fun i hi => ?_⟩
   rw [show off + 1 + i = off + (i + 1) from by omega, h4 (i + 1) (by omega)]
   rfl
  ·subst hc
   have : q = [] := List.eq_nil_of_length_eq_zero (by omega)
   subst this
   exact .inr ⟨g, off, 0, cur, rfl, hb, hh, by simp, by unfold maxLen; omega, by omega, fun i hi => by cases hi⟩
/-- Where it lies. -/
structure BV where
 b : Nat
 m : Nat
 d : Nat
 s : Nat
 vi : Value
 vo : Value
 vw : Value
/-- What it says. -/
structure BS where
 M : Nat → Int
 q : List UInt8
 o : List UInt8
 tk : Int
 se : Int
 ad : Int
 fl : Int
 N : Nat
 sec : Nat → ByteArray
 ws : List (Nat × ByteArray)
def brow (v : BV) : List Nat := v.b :: v.m :: v.d :: v.s :: (v.vi.ownBlock.toList ++ (v.vo.ownBlock.toList ++ v.vw.ownBlock.toList))
def busRow (v : BV) (x : BS) : Array Value := #[.slice (some ⟨v.m, 0, none⟩) 1048576 1048576, .pointer (some ⟨v.d, 0, none⟩), v.vi, v.vo, .int .u32 x.tk, .int .u32 x.se, .int .u32 x.ad, .int .u32 x.fl]
structure BusAt (w : World) (base : Nat) (v : BV) (x : BS) : Prop where
 row : Blk w v.b (busRow v x) 114
 mem : OwnI .u8 w v.m 1048576 5 x.M
 mb : ∀ i, 0 ≤ x.M i ∧ x.M i ≤ 255
 inn : InAt w base v.vi x.q
 out : w.ownsRow base 5 1 v.vo x.o.length (bcells x.o)
 ql : x.q.length ≤ 65536
 ol : x.o.length ≤ 65536
 tkb : 0 ≤ x.tk ∧ x.tk < 4294967296
 seb : 0 ≤ x.se ∧ x.se < 4294967296
 adb : 0 ≤ x.ad ∧ x.ad < 4294967296
 flb : 0 ≤ x.fl ∧ x.fl < 4294967296
 disk : DiskAt w base v.d v.s v.vw x.N x.sec x.ws
 nd : (brow v).Nodup
 lo : base ≤ v.b ∧ base ≤ v.m
/-- Of what was there, the bus's own blocks alone may have changed; its blocks are the old ones or new. -/
structure Moves (w w' : World) (v v' : BV) : Prop where
 t : Touch w w' (brow v)
 n : ∀ g ∈ brow v', g ∈ brow v ∨ w.heap.size ≤ g
 k : v'.b = v.b ∧ v'.m = v.m ∧ v'.d = v.d ∧ v'.s = v.s
theorem Moves.refl (w : World) (v : BV) : Moves w w v v := ⟨Touch.refl _ _, fun g h => .inl h, ⟨rfl, rfl, rfl, rfl⟩⟩
theorem Moves.trans {w w' w'' : World} {v v' v'' : BV} (h : Moves w w' v v') (k : Moves w' w'' v' v'') : Moves w w'' v v'' :=
 ⟨h.t.trans k.t (fun g hg hl => (h.n g hg).elim id (fun h' => by omega)), fun g hg => (k.n g hg).elim (fun h' => h.n g h') (fun h' => .inr (Nat.le_trans h.t.size h')), ⟨k.k.1.trans h.k.1, k.k.2.1.trans h.k.2.1, k.k.2.2.1.trans h.k.2.2.1, k.k.2.2.2.trans h.k.2.2.2⟩⟩
theorem Moves.free {w w' : World} {v v' : BV} (h : Moves w w' v v') {g : Nat} (hg : g < w.heap.size) (hn : g ∉ brow v) : g ∉ brow v' := fun hm => (h.n g hm).elim hn (fun h' => by omega)
theorem Moves.of_below {w w' : World} (v : BV) (h : Below w.heap.size w w') : Moves w w' v v := ⟨Touch.of_below h _, fun g h => .inl h, ⟨rfl, rfl, rfl, rfl⟩⟩
theorem BusAt.lt {w : World} {base : Nat} {v : BV} {x : BS} (h : BusAt w base v x) (g : Nat) (hg : g ∈ brow v) : base ≤ g ∧ g < w.heap.size := by
 simp only [brow, List.mem_cons, List.mem_append, Option.mem_toList] at hg
 rcases hg with rfl | rfl | rfl | rfl | hg | hg | hg
 ·exact ⟨h.lo.1, h.row.lt⟩
 ·exact ⟨h.lo.2, h.mem.lt⟩
 ·exact ⟨h.disk.bd, h.disk.dlt⟩
 ·exact ⟨h.disk.bs, h.disk.slt⟩
 ·exact h.inn.lt g hg
 ·exact h.out.lt g hg
 ·exact (h.disk.vlt g hg).symm
/-- Elsewhere something changed. -/
theorem BusAt.touch {w w' : World} {base : Nat} {v : BV} {x : BS} {r : List Nat} (h : BusAt w base v x) (t : Touch w w' r) (hr : ∀ g ∈ brow v, g ∉ r) : BusAt w' base v x := by
 have e : ∀ {g : Nat}, g ∈ brow v → w'.heap[g]? = w.heap[g]? := fun {g} hg => t.block g (h.lt g hg).2 (hr g hg)
 have m1 : v.b ∈ brow v := by simp [brow]
 have m2 : v.m ∈ brow v := by simp [brow]
 have m3 : v.d ∈ brow v := by simp [brow]
 have m4 : v.s ∈ brow v := by simp [brow]
 exact { h with
  row := (e m1).trans h.row
  mem := by obtain ⟨cs, h1, h2⟩ := h.mem; exact ⟨cs, (e m2).trans h1, h2⟩
  inn := h.inn.touch t (fun g hg => hr g (by simp [brow, hg]))
  out := t.owns h.out (fun g hg => hr g (by simp [brow, hg]))
  disk := h.disk.touch t (hr _ m3) (hr _ m4) (fun g hg => hr g (by simp [brow, hg])) }
theorem BusAt.below {w w' : World} {base : Nat} {v : BV} {x : BS} (h : BusAt w base v x) (b : Below w.heap.size w w') : BusAt w' base v x := h.touch (Touch.of_below b []) (by simp)
theorem BusAt.drew {w : World} {base : Nat} {v : BV} {x : BS} (h : BusAt w base v x) (n : Nat) : BusAt (w.drewN n) base v x := h.below ⟨rfl, rfl, rfl, Nat.le_refl _, fun _ _ => rfl⟩
/-- Its cells. -/
theorem BusAt.cells {w : World} {base : Nat} {v : BV} {x : BS} (h : BusAt w base v x) :
 w.cell? ⟨v.b, 0, none⟩ = some (.slice (some ⟨v.m, 0, none⟩) 1048576 1048576) ∧ w.cell? ⟨v.b, 1, none⟩ = some (.pointer (some ⟨v.d, 0, none⟩)) ∧ w.cell? ⟨v.b, 2, none⟩ = some v.vi ∧ w.cell? ⟨v.b, 3, none⟩ = some v.vo ∧
 w.cell? ⟨v.b, 4, none⟩ = some (.int .u32 x.tk) ∧ w.cell? ⟨v.b, 5, none⟩ = some (.int .u32 x.se) ∧ w.cell? ⟨v.b, 6, none⟩ = some (.int .u32 x.ad) ∧ w.cell? ⟨v.b, 7, none⟩ = some (.int .u32 x.fl) :=
 ⟨h.row.cell 0, h.row.cell 1, h.row.cell 2, h.row.cell 3, h.row.cell 4, h.row.cell 5, h.row.cell 6, h.row.cell 7⟩
def u8Of (x : Int) : UInt8 := UInt8.ofNat (x % 256).toNat
theorem u8Of_toNat (x : Int) : ((u8Of x).toNat : Int) = x % 256 := by
 unfold u8Of
 rw [UInt8.toNat_ofNat']
 omega
def ofBs (l : List UInt8) : ByteArray := ⟨l.toArray⟩
theorem ofBs_cells (l : List UInt8) : strCells (ofBs l) = bcells l := by simp [strCells, ofBs, bcells]
theorem ofBs_size (l : List UInt8) : (ofBs l).size = l.length := by simp [ofBs, ByteArray.size]
/-- A sector's bytes in memory. -/
def memBytes (M : Nat → Int) (a n : Nat) : List UInt8 := (List.range n).map fun i => u8Of (M (a + i))
theorem memBytes_length (M : Nat → Int) (a n : Nat) : (memBytes M a n).length = n := by simp [memBytes]
def byteAt (s : ByteArray) (i : Nat) : Int := (s.data.toList.getD i 0).toNat
theorem byteAt_bd (s : ByteArray) (i : Nat) : 0 ≤ byteAt s i ∧ byteAt s i ≤ 255 := by
 unfold byteAt
 have := (s.data.toList.getD i 0).toNat_lt
 omega
def laidS (M : Nat → Int) (a n : Nat) (s : ByteArray) (i : Nat) : Int := if a ≤ i ∧ i < a + n then byteAt s (i - a) else M i
def setB (M : Nat → Int) (a : Nat) (x : Int) (i : Nat) : Int := if i = a then x else M i
def BS.may (x : BS) : Bool := decide (x.ad % 4 = 0) && decide (x.ad ≤ 1047552) && decide (x.se < x.N)
def BS.fail (x : BS) : BS := { x with fl := 1 }
def BS.cmd (x : BS) (w : Int) : BS :=
 if x.may then
  if w = 1 then { x with fl := 0, M := laidS x.M x.ad.toNat 1024 (x.sec x.se.toNat) }
  else if w = 2 then
   if x.ws.length < 4096 then { x with fl := 0, sec := upd x.sec x.se.toNat (ofBs (memBytes x.M x.ad.toNat 1024)), ws := x.ws ++ [(x.se.toNat, x.sec x.se.toNat)] }
   else x.fail
  else x.fail
 else x.fail
def BS.put (x : BS) (w : Int) : BS := if x.o.length < 65536 then { x with o := x.o ++ [u8Of w] } else x
/-- A device's word, loaded. -/
def BS.load (x : BS) (a : Int) : Int × Int × BS :=
 if a = 4294967232 then (x.tk, 0, x)
 else if a = 4294967236 then (match x.q with | [] => (0, 2, x) | c :: r => (c.toNat, 0, { x with q := r }))
 else if a = 4294967240 then (match x.q with | [] => (2, 0, x) | _ => (3, 0, x))
 else if a = 4294967244 then (x.se, 0, x)
 else if a = 4294967248 then (x.ad, 0, x)
 else if a = 4294967252 then (x.fl, 0, x)
 else if a = 4294967256 then (x.N, 0, x)
 else (0, 1, x)
/-- .. and stored. -/
def BS.store (x : BS) (a w : Int) : Int × Int × BS :=
 if a = 4294967236 then (0, 0, x.put w)
 else if a = 4294967244 then (0, 0, { x with se := w })
 else if a = 4294967248 then (0, 0, { x with ad := w })
 else if a = 4294967252 then (0, 0, x.cmd w)
 else (0, 1, x)
def BS.act (x : BS) (k a w : Int) : Int × Int × BS :=
 if k = 0 then (0, 0, x)
 else if k = 2 ∧ a < 1048576 then (x.M a.toNat, 0, x)
 else if k = 4 ∧ a < 1048576 then (0, 0, { x with M := setB x.M a.toNat (w % 256) })
 else if k = 1 ∧ a < 1048576 then (if a % 4 = 0 then (getV x.M a.toNat, 0, x) else (0, 1, x))
 else if k = 3 ∧ a < 1048576 then (if a % 4 = 0 then (0, 0, { x with M := laid4 x.M a.toNat w }) else (0, 1, x))
 else if k = 1 then x.load a
 else if k = 3 then x.store a w
 else (0, 1, x)
open Go.RowKit Pl
theorem whole_any (b off c : Nat) (x0 x1 x2 x3 : Int) (w : World) (h0 : 0 ≤ x0 ∧ x0 ≤ 255) (h1 : 0 ≤ x1 ∧ x1 ≤ 255) (h2 : 0 ≤ x2 ∧ x2 ≤ 255) (h3 : 0 ≤ x3 ∧ x3 ≤ 255)
 (c0 : w.cell? ⟨b, off, none⟩ = some (.int .u8 x0)) (c1 : w.cell? ⟨b, off + 1, none⟩ = some (.int .u8 x1)) (c2 : w.cell? ⟨b, off + 2, none⟩ = some (.int .u8 x2)) (c3 : w.cell? ⟨b, off + 3, none⟩ = some (.int .u8 x3)) :
 Calls Tryz.prog 70 #[.slice (some ⟨b, off, none⟩) 4 c] w fun e w' => e = .returned (.int .u32 (x0 + x1 * 256 + x2 * 65536 + x3 * 16777216)) ∧ w = w' := by
 go_enter Tryz.func70, Tryz.ntmps70
 go_wp2_with fail
 go_rounds 5
 go_ret
 exact ⟨one1 (whole4 x0 x1 x2 x3 h0 h1 h2 h3), rfl⟩
theorem get_yes (b off n c : Nat) (f : Nat → Int) (k : Nat) (w : World) (hn : n ≤ 9223372036854775807) (hcap : n ≤ c) (hat : k + 4 ≤ n) (hf : ∀ i, 0 ≤ f i ∧ f i ≤ 255)
 (hc : ∀ i, i < n → w.cell? ⟨b, off + i, none⟩ = some (.int .u8 (f i))) :
 Calls Tryz.prog 50 #[.slice (some ⟨b, off, none⟩) n c, .int .i64 k] w fun e w' => e = .returned (.tuple #[.int .u32 (getV f k), .bool true]) ∧ w = w' := by
 have h0 := hf k; have h1 := hf (k + 1); have h2 := hf (k + 2); have h3 := hf (k + 3)
 have HC := whole_any b (off + k) (c - k) (f k) (f (k + 1)) (f (k + 2)) (f (k + 3)) w h0 h1 h2 h3 (hc k (by omega)) (by have := hc (k + 1) (by omega); rw [← Nat.add_assoc] at this; exact this) (by have := hc (k + 2) (by omega); rw [← Nat.add_assoc] at this; exact this) (by have := hc (k + 3) (by omega); rw [← Nat.add_assoc] at this; exact this)
 have HH := hid HC
 clear HC hc hf
 go_enter Tryz.func50, Tryz.ntmps50
 go_wp2_with fail
 refine HH.out.mono ?_
 rintro e w' ⟨rfl, rfl⟩
 go_wp2_with fail
 go_ret2
 exact ⟨rfl, rfl⟩
theorem get_no (A : Option Addr) (n c : Nat) (k : Int) (w : World) (hn : n ≤ 9223372036854775807) (h : k < 0 ∨ (n : Int) < k + 4) :
 Calls Tryz.prog 50 #[.slice A n c, .int .i64 k] w fun e w' => e = .returned (.tuple #[.int .u32 0, .bool false]) ∧ w = w' := by
 by_cases h1 : k < 0
 ·go_enter Tryz.func50, Tryz.ntmps50
  go_wp2_with fail
  go_ret2
  exact ⟨rfl, rfl⟩
 ·have h2 : (n : Int) - 4 < k := by omega
  clear h
  go_enter Tryz.func50, Tryz.ntmps50
  go_wp2_with fail
  go_ret2
  exact ⟨rfl, rfl⟩
theorem get_any (A : Option Addr) (n c : Nat) (f : Nat → Int) (k : Int) (w : World) (hn : n ≤ 9223372036854775807) (hcap : n ≤ c) (hf : ∀ i, 0 ≤ f i ∧ f i ≤ 255) (hr : RdI .u8 w A n f) :
 Calls Tryz.prog 50 #[.slice A n c, .int .i64 k] w fun e w' => e = .returned (.tuple #[.int .u32 (getR n f k), .bool (getOk n k)]) ∧ w = w' := by
 by_cases h : 0 ≤ k ∧ k + 4 ≤ n
 ·obtain ⟨b, off, rfl, _, hc⟩ := hr (by omega)
  obtain ⟨m, rfl⟩ := Int.eq_ofNat_of_zero_le h.1
  unfold getR
  rw [getOk_yes h.1 h.2, if_pos rfl]
  exact get_yes b off n c f m w hn hcap (by omega) hf hc
 ·unfold getR
  rw [getOk_no (by omega), if_neg (by decide)]
  exact get_no A n c k w hn (by omega)
theorem put_yes (b off n c : Nat) (k : Nat) (x : Int) (w : World) (hn : n ≤ 9223372036854775807) (hat : k + 4 ≤ n) (hx : 0 ≤ x) (hx' : x < 4294967296) (v0 v1 v2 v3 : Value)
 (c0 : w.cell? ⟨b, off + k, none⟩ = some v0) (c1 : w.cell? ⟨b, off + (k + 1), none⟩ = some v1) (c2 : w.cell? ⟨b, off + (k + 2), none⟩ = some v2) (c3 : w.cell? ⟨b, off + (k + 3), none⟩ = some v3)
 (f0 : w.frozen? ⟨b, off + k, none⟩ = false) (f1 : w.frozen? ⟨b, off + (k + 1), none⟩ = false) (f2 : w.frozen? ⟨b, off + (k + 2), none⟩ = false) (f3 : w.frozen? ⟨b, off + (k + 3), none⟩ = false) :
 Calls Tryz.prog 49 #[.slice (some ⟨b, off, none⟩) n c, .int .i64 k, .int .u32 x] w fun e w' => e = .returned (.bool true) ∧ put4 w b (off + k) x = w' := by
 go_enter Tryz.func49, Tryz.ntmps49
 go_wp2_with fail
 go_rounds 5
 go_ret
 exact ⟨rfl, rfl⟩
theorem put_no (A : Option Addr) (n c : Nat) (k : Int) (x : Int) (w : World) (hn : n ≤ 9223372036854775807) (h : k < 0 ∨ (n : Int) < k + 4) :
 Calls Tryz.prog 49 #[.slice A n c, .int .i64 k, .int .u32 x] w fun e w' => e = .returned (.bool false) ∧ w = w' := by
 by_cases h1 : k < 0
 ·go_enter Tryz.func49, Tryz.ntmps49
  go_wp2_with fail
  go_ret
  exact ⟨rfl, rfl⟩
 ·have h2 : (n : Int) - 4 < k := by omega
  clear h
  go_enter Tryz.func49, Tryz.ntmps49
  go_wp2_with fail
  go_ret
  exact ⟨rfl, rfl⟩
/-- What Put leaves. -/
def putW (w : World) (g off n : Nat) (k x : Int) : World := if getOk n k then put4 w g (off + k.toNat) x else w
theorem put_any (g off n N c : Nat) (t : TypeId) (L : Nat → Int) (k x : Int) (w : World) (hn : n ≤ 9223372036854775807) (hx : 0 ≤ x) (hx' : x < 4294967296) (ho : OwnI .u8 w g N t L) (hN : off + n ≤ N) :
 Calls Tryz.prog 49 #[.slice (some ⟨g, off, none⟩) n c, .int .i64 k, .int .u32 x] w fun e w' => e = .returned (.bool (getOk n k)) ∧ putW w g off n k x = w' := by
 unfold putW
 by_cases h : 0 ≤ k ∧ k + 4 ≤ n
 ·obtain ⟨m, rfl⟩ := Int.eq_ofNat_of_zero_le h.1
  rw [getOk_yes h.1 h.2, if_pos rfl]
  exact put_yes g off n c m x w hn (by omega) hx hx' _ _ _ _ (ho.cell (by omega)) (ho.cell (by omega)) (ho.cell (by omega)) (ho.cell (by omega)) (ho.frozen _) (ho.frozen _) (ho.frozen _) (ho.frozen _)
 ·rw [getOk_no (by omega), if_neg (by decide)]
  exact put_no _ n c k x w hn (by omega)
section
variable {w : World} {base : Nat} {v : BV} {x : BS}
theorem BusAt.rd (B : BusAt w base v x) : RdI .u8 w (some ⟨v.m, 0, none⟩) 1048576 x.M := B.mem.rd (Nat.le_refl _)
theorem bword_yes (B : BusAt w base v x) (a : Int) (h0 : 0 ≤ a) (h1 : a < 1048576) (h4 : a % 4 = 0) :
 Calls Tryz.prog 34 #[.pointer (some ⟨v.b, 0, none⟩), .int .u32 a] w fun e w' => e = .returned (.tuple #[.int .u32 (getV x.M a.toNat), .bool true]) ∧ w = w' := by
 obtain ⟨c0, -⟩ := B.cells
 have hg := get_any (some ⟨v.m, 0, none⟩) 1048576 1048576 x.M a w (by decide) (Nat.le_refl _) B.mb B.rd
 rw [show getOk 1048576 a = true from getOk_yes h0 (by omega), show getR 1048576 x.M a = getV x.M a.toNat from by unfold getR; rw [getOk_yes h0 (by omega), if_pos rfl]] at hg
 have HG := hid hg
 clear hg
 go_enter Tryz.func34, Tryz.ntmps34
 go_wp2_with (go_at_call 50; refine HG.out.mono ?_; rintro e w' ⟨rfl, rfl⟩)
 go_ret2
 exact ⟨rfl, rfl⟩
theorem bword_no (B : BusAt w base v x) (a : Int) (h0 : 0 ≤ a) (h1 : a < 4294967296) (h4 : ¬ (a < 1048576 ∧ a % 4 = 0)) :
 Calls Tryz.prog 34 #[.pointer (some ⟨v.b, 0, none⟩), .int .u32 a] w fun e w' => e = .returned (.tuple #[.int .u32 0, .bool false]) ∧ w = w' := by
 obtain ⟨c0, -⟩ := B.cells
 by_cases hm : a % 4 = 0
 ·have hh : ¬ a < 1048576 := fun h => h4 ⟨h, hm⟩
  clear h4
  go_enter Tryz.func34, Tryz.ntmps34
  go_wp2_with fail
  go_ret2
  exact ⟨rfl, rfl⟩
 ·clear h4
  go_enter Tryz.func34, Tryz.ntmps34
  go_wp2_with fail
  go_ret2
  exact ⟨rfl, rfl⟩
theorem BusAt.setM (B : BusAt w base v x) {w' : World} {M : Nat → Int} (t : Touch w w' [v.m]) (h : OwnI .u8 w' v.m 1048576 5 M) (hb : ∀ i, 0 ≤ M i ∧ M i ≤ 255) : BusAt w' base v { x with M := M } := by
 have nd := B.nd
 simp only [brow, List.nodup_cons, List.mem_cons, List.mem_append, not_or, Option.mem_toList] at nd
 obtain ⟨⟨n1, n2, n3, n4, n5, n6⟩, ⟨n7, n8, n9, n10, n11⟩, -⟩ := nd
 exact { B with
  row := (t.block v.b B.row.lt (by simpa using n1)).trans B.row
  mem := h
  mb := hb
  inn := B.inn.touch t (fun g hg hm => n9 (by simp at hm; rw [← hm]; exact hg))
  out := t.owns B.out (fun g hg hm => n10 (by simp at hm; rw [← hm]; exact hg))
  disk := B.disk.touch t (by simp; exact fun e => n7 e.symm) (by simp; exact fun e => n8 e.symm) (fun g hg hm => n11 (by simp at hm; rw [← hm]; exact hg)) }
theorem laid4_bd {M : Nat → Int} (hb : ∀ i, 0 ≤ M i ∧ M i ≤ 255) (i : Nat) (y : Int) : ∀ j, 0 ≤ laid4 M i y j ∧ laid4 M i y j ≤ 255 := fun j => by
 unfold laid4
 split
 ·exact wbyte_bd _ _
 ·exact hb j
theorem put4_touch (w : World) (g i : Nat) (y : Int) : Touch w (put4 w g i y) [g] :=
 (((Touch.set w ⟨g, i, none⟩ _).trans (Touch.set _ ⟨g, i + 1, none⟩ _) (fun k h _ => h)).trans (Touch.set _ ⟨g, i + 2, none⟩ _) (fun k h _ => h)).trans (Touch.set _ ⟨g, i + 3, none⟩ _) (fun k h _ => h)
theorem BusAt.poke (B : BusAt w base v x) (a : Nat) (y : Int) (hy : 0 ≤ y) (hy' : y < 4294967296) : BusAt (put4 w v.m a y) base v { x with M := laid4 x.M a y } :=
 B.setM (put4_touch _ _ _ _) (put4_own B.mem a y hy hy') (laid4_bd B.mb a y)
theorem mem_m (v : BV) : v.m ∈ brow v := by simp [brow]
theorem bpoke_yes (B : BusAt w base v x) (a y : Int) (h0 : 0 ≤ a) (h1 : a < 1048576) (h4 : a % 4 = 0) (hy : 0 ≤ y) (hy' : y < 4294967296) :
 Calls Tryz.prog 54 #[.pointer (some ⟨v.b, 0, none⟩), .int .u32 a, .int .u32 y] w fun e w' => e = .returned (.bool true) ∧ BusAt w' base v { x with M := laid4 x.M a.toNat y } ∧ Moves w w' v v := by
 obtain ⟨c0, -⟩ := B.cells
 have hg := put_any v.m 0 1048576 1048576 1048576 5 x.M a y w (by decide) hy hy' B.mem (by decide)
 rw [show getOk 1048576 a = true from getOk_yes h0 (by omega), show putW w v.m 0 1048576 a y = put4 w v.m a.toNat y from by unfold putW; rw [getOk_yes h0 (by omega), if_pos rfl, Nat.zero_add]] at hg
 have HG := hid hg
 clear hg
 go_enter Tryz.func54, Tryz.ntmps54
 go_wp2_with (go_at_call 49; refine HG.out.mono ?_; rintro e w' ⟨rfl, rfl⟩)
 go_ret
 exact ⟨rfl, B.poke _ _ hy hy', (put4_touch _ _ _ _).mono (by simp [mem_m]), fun g h => .inl h, ⟨rfl, rfl, rfl, rfl⟩⟩
theorem bpoke_no (B : BusAt w base v x) (a y : Int) (h0 : 0 ≤ a) (h1 : a < 4294967296) (h4 : ¬ (a < 1048576 ∧ a % 4 = 0)) :
 Calls Tryz.prog 54 #[.pointer (some ⟨v.b, 0, none⟩), .int .u32 a, .int .u32 y] w fun e w' => e = .returned (.bool false) ∧ w = w' := by
 obtain ⟨c0, -⟩ := B.cells
 by_cases hm : a % 4 = 0
 ·have hh : ¬ a < 1048576 := fun h => h4 ⟨h, hm⟩
  clear h4
  go_enter Tryz.func54, Tryz.ntmps54
  go_wp2_with fail
  go_ret
  exact ⟨rfl, rfl⟩
 ·clear h4
  go_enter Tryz.func54, Tryz.ntmps54
  go_wp2_with fail
  go_ret
  exact ⟨rfl, rfl⟩
theorem BusAt.setRow (B : BusAt w base v x) {w' : World} {x' : BS} (t : Touch w w' [v.b]) (h : Blk w' v.b (busRow v x') 114) (hx : x' = { x with tk := x'.tk, se := x'.se, ad := x'.ad, fl := x'.fl })
 (h1 : 0 ≤ x'.tk ∧ x'.tk < 4294967296) (h2 : 0 ≤ x'.se ∧ x'.se < 4294967296) (h3 : 0 ≤ x'.ad ∧ x'.ad < 4294967296) (h4 : 0 ≤ x'.fl ∧ x'.fl < 4294967296) : BusAt w' base v x' := by
 have nd := B.nd
 simp only [brow, List.nodup_cons, List.mem_cons, List.mem_append, not_or, Option.mem_toList] at nd
 obtain ⟨⟨n1, n2, n3, n4, n5, n6⟩, ⟨n7, n8, n9, n10, n11⟩, -⟩ := nd
 have e : ∀ g, g ≠ v.b → g < w.heap.size → w'.heap[g]? = w.heap[g]? := fun g hg hl => t.block g hl (by simpa using hg)
 have B' : BusAt w' base v { x' with tk := x'.tk } := by
  rw [hx] at h ⊢
  exact { B with
   row := h
   tkb := h1
   seb := h2
   adb := h3
   flb := h4
   mem := by obtain ⟨cs, k1, k2⟩ := B.mem; exact ⟨cs, (e v.m (fun h => n1 h.symm) (Array.getElem?_eq_some_iff.1 k1).1).trans k1, k2⟩
   inn := B.inn.touch t (fun g hg hm => n4 (by simp at hm; rw [← hm]; exact hg))
   out := t.owns B.out (fun g hg hm => n5 (by simp at hm; rw [← hm]; exact hg))
   disk := B.disk.touch t (by simp; exact fun e => n2 e.symm) (by simp; exact fun e => n3 e.symm) (fun g hg hm => n6 (by simp at hm; rw [← hm]; exact hg)) }
 exact B'
theorem mem_b (v : BV) : v.b ∈ brow v := by simp [brow]
theorem btick_any (B : BusAt w base v x) (n : Int) (h0 : 0 ≤ n) (h1 : n < 4294967296) :
 Calls Tryz.prog 44 #[.pointer (some ⟨v.b, 0, none⟩), .int .u32 n] w fun e w' => e = .returned (.tuple #[]) ∧ BusAt w' base v { x with tk := (x.tk + n) % 4294967296 } ∧ Moves w w' v v := by
 obtain ⟨-, -, -, -, c4, -⟩ := B.cells
 have f4 := B.row.frozen 4
 go_enter Tryz.func44, Tryz.ntmps44
 go_wp2_with fail
 go_end0
 refine ⟨rfl, B.setRow (Touch.set _ ⟨v.b, 4, none⟩ _) (B.row.set 4 _) rfl ⟨by simp only; omega, by simp only; omega⟩ B.seb B.adb B.flb, (Touch.set _ ⟨v.b, 4, none⟩ _).mono (by simp [mem_b]), fun g h => .inl h, ⟨rfl, rfl, rfl, rfl⟩⟩
theorem bdisk_any (B : BusAt w base v x) :
 Calls Tryz.prog 48 #[.pointer (some ⟨v.b, 0, none⟩)] w fun e w' => e = .returned (.pointer (some ⟨v.d, 0, none⟩)) ∧ w = w' := by
 obtain ⟨-, c1, -⟩ := B.cells
 go_enter Tryz.func48, Tryz.ntmps48
 go_wp2_with fail
 go_ret
 exact ⟨rfl, rfl⟩
end
section
variable {P : Program} {w : World}
theorem run_append_room_off (t u ty e : TypeId) (i : TypeInfo) (ht : P.underlying t = some (.slice e)) (hu : P.underlying u = some .string) (hi : P.info? e = some i) (hs1 : i.size = 1)
 (g off sLen sCap : Nat) (cur : Array Value) (hg : w.heap[g]? = some (.cells cur e (0, 0))) (s : ByteArray)
 (hroom : sLen + s.size ≤ sCap) (hfit : off + sLen + s.size ≤ cur.size) :
 (Builtin.append_ #[t, u] ty #[.slice (some ⟨g, off, none⟩) sLen sCap, .string s]).run P w =
  .ok (.slice (some ⟨g, off, none⟩) (sLen + s.size) sCap) (w.setRow g (cur.toList.take (off + sLen) ++ strCells s ++ cur.toList.drop (off + sLen + s.size)).toArray) := by
 have hf := run_firstCells_string (P := P) w 1 s
 have hst := run_storeCells_at P g (off + sLen) e (strCells s) 0 cur w hg (by simpa [strCells_length] using hfit) (strCells_oneCell s)
 simp only [Nat.add_zero, strCells_length] at hst
 have hadd : (⟨g, off, none⟩ : Addr).add sLen = ⟨g, off + sLen, none⟩ := by unfold Addr.add; split <;> simp_all
 simp [Builtin.append_, run_underlying ht, run_underlying hu, sizeOf, typeInfo, hi, hs1, Builtin.lenOf, hroom, hf, hadd, hst]
theorem run_append_in (base : Nat) (t u ty : TypeId) (i : TypeInfo) (ht : P.underlying t = some (.slice 5)) (hu : P.underlying u = some .string) (hi : P.info? 5 = some i) (hz : i.zero = some (.int .u8 0))
 (hsize : i.size = 1) (hby : i.bytes = 1) (v : Value) (q : List UInt8) (h : InAt w base v q) (s : ByteArray) (hle : q.length + s.size ≤ 140737488351232) (hbase : base ≤ w.heap.size) :
 ∃ v' w', (Builtin.append_ #[t, u] ty #[v, .string s]).run P w = .ok v' w' ∧ InAt w' base v' (q ++ s.data.toList) ∧ w.grownBy w' v.ownBlock ∧ (∀ g, v'.ownBlock = some g → v.ownBlock = some g ∨ w.heap.size ≤ g) := by
 have hsl : s.data.toList.length = s.size := by rw [Array.length_toList]; rfl
 rcases h with ⟨rfl, rfl⟩ | ⟨g, off, cap, cur, rfl, hb, hh, h1, h2, h3, h4⟩
 ·obtain ⟨v', w', k1, k2, k3, k4⟩ := run_append_own_string (P := P) w w.heap.size t u ty 5 i ht hu hi hz hsize hby (.slice none 0 0) 0 [] (World.ownsRow_nil w w.heap.size 5 1) s (by rw [List.length_nil, Nat.zero_add] at hle; unfold maxLen; omega) (by rw [List.length_nil, Nat.zero_add] at hle; omega) (Nat.le_refl _)
  refine ⟨v', w', k1, ?_, k3, fun g hg => ?_⟩
  ·rcases k2.2 with ⟨e1, e2⟩ | ⟨g, cap, cur, e1, e2, e3, e4, e5, e6, e7⟩
   ·have : s.size = 0 := (k4.1 e1).2
    exact .inl ⟨e1, by rw [List.nil_append]; exact List.eq_nil_of_length_eq_zero (by rw [hsl]; exact this)⟩
   ·refine .inr ⟨g, 0, cap, cur, by rw [e1]; simp [hsl], Nat.le_trans hbase e2, e3, by simp [hsl]; omega, e5, by omega, fun j hj => ?_⟩
    simp only [List.nil_append, Nat.zero_add, Nat.mul_one] at e7 hj ⊢
    rw [bcells_str, ← e7]
    simp only [List.getElem?_take, Array.getElem?_toList]
    rw [if_pos (by omega)]
  ·exact .inr (k2.lt g hg).1
 ·by_cases hroom : q.length + s.size ≤ cap
  ·have hr := run_append_room_off (P := P) t u ty 5 i ht hu hi hsize g off q.length cap cur hh s hroom (by omega)
   refine ⟨_, _, hr, .inr ⟨g, off, cap, _, by simp [hsl], hb, setRow_heap w g cur _ _ _ hh, by simp [hsl]; omega, h2, ?_, fun j hj => ?_⟩, ⟨rfl, rfl, rfl, by simp, fun k _ hk => setRow_other w g k _ (fun e => hk (by simp [Value.ownBlock, e]))⟩, fun g' hg' => .inl (by simpa [Value.ownBlock] using hg')⟩
   ·simp only [List.size_toArray, List.length_append, List.length_take, List.length_drop, Array.length_toList, strCells_length]
    omega
   ·simp only [List.length_append, hsl] at hj
    rw [bcells_append, bcells_str, List.getElem?_toArray, List.append_assoc]
    by_cases hjq : j < q.length
    ·rw [List.getElem?_append_left (by simp; omega), List.getElem?_append_left (by rw [bcells_length]; exact hjq), ← h4 j hjq, List.getElem?_take, if_pos (by omega), Array.getElem?_toList]
    ·have e1 : (bcells q ++ strCells s)[j]? = (strCells s)[j - q.length]? := by rw [List.getElem?_append_right (by rw [bcells_length]; omega), bcells_length]
     have e2 : (List.take (off + q.length) cur.toList).length = off + q.length := by rw [List.length_take, show cur.toList.length = cur.size from Array.length_toList]; omega
     have e3 : off + j - (off + q.length) = j - q.length := by omega
     have e4 : j - q.length < (strCells s).length := by rw [strCells_length]; omega
     rw [e1, List.getElem?_append_right (by rw [e2]; omega), e2, e3, List.getElem?_append_left e4]
  ·have hlo : (bcells q).length = q.length * i.size := by rw [bcells_length, hsize, Nat.mul_one]
   have hadd : ∀ j, (⟨g, off, none⟩ : Addr).add j = ⟨g, off + j, none⟩ := fun j => by unfold Addr.add; split <;> simp_all
   have holds : ∀ j u, (bcells q)[j]? = some u → w.cell? ((⟨g, off, none⟩ : Addr).add j) = some u := fun j u hj => by
    have hl : j < q.length := by have := (List.getElem?_eq_some_iff.1 hj).1; rwa [bcells_length] at this
    rw [hadd, cell_of_row w g _ cur _ (0, 0) hh, h4 j hl]; exact hj
   have hr := run_append_grow_string (P := P) w t u ty 5 i (.int .u8 0) ht hu hi hz ⟨g, off, none⟩ q.length cap (bcells q) hlo holds s (by omega) (by omega) (by rw [hby]; exact growslice_fits (by omega) (by omega))
   have hge := grownCap_ge w (q.length + s.size) cap 5
   have hcm : grownCap w (q.length + s.size) cap 5 ≤ maxLen := grownCap_le_maxLen w (q.length + s.size) cap 5 (by unfold maxLen; omega)
   refine ⟨_, _, hr, .inr ⟨w.heap.size, 0, _, _, by simp [hsl], hbase, heap_alloc_new w.drew _, by simp [hsl]; exact hge, hcm, ?_, fun j hj => ?_⟩, ⟨rfl, rfl, rfl, by simp, fun k hk _ => Below.heap_alloc w.drew _ k hk⟩, fun g' hg' => .inr (by have h9 : w.heap.size = g' := (by simpa [Value.ownBlock] using hg'); omega)⟩
   ·have hz1 : (Value.int IntKind.u8 0).cells.size = 1 := rfl
    simp only [Array.size_append, List.size_toArray, size_zeroCells, hz1, bcells_length, strCells_length]
    omega
   ·simp only [List.length_append, hsl] at hj
    rw [bcells_append, bcells_str, Nat.zero_add, Array.getElem?_append_left (by simp [bcells_length, strCells_length]; omega)]
    simp
end
structure Apart (v : BV) : Prop where
 bm : v.b ≠ v.m
 bd : v.b ≠ v.d
 bs : v.b ≠ v.s
 md : v.m ≠ v.d
 ms : v.m ≠ v.s
 ds : v.d ≠ v.s
 ib : ∀ g, v.vi.ownBlock = some g → g ≠ v.b ∧ g ≠ v.m ∧ g ≠ v.d ∧ g ≠ v.s
 ob : ∀ g, v.vo.ownBlock = some g → g ≠ v.b ∧ g ≠ v.m ∧ g ≠ v.d ∧ g ≠ v.s
 wb : ∀ g, v.vw.ownBlock = some g → g ≠ v.b ∧ g ≠ v.m ∧ g ≠ v.d ∧ g ≠ v.s
 io : ∀ g, v.vi.ownBlock = some g → v.vo.ownBlock ≠ some g
 iw : ∀ g, v.vi.ownBlock = some g → v.vw.ownBlock ≠ some g
 ow : ∀ g, v.vo.ownBlock = some g → v.vw.ownBlock ≠ some g
theorem nodup_toList (o : Option Nat) : o.toList.Nodup := by cases o <;> simp
theorem apart_iff (v : BV) : (brow v).Nodup ↔ Apart v := by
 unfold brow
 simp only [List.nodup_cons, List.nodup_append, List.mem_cons, List.mem_append, not_or, Option.mem_toList, nodup_toList, true_and]
 constructor
 ·rintro ⟨⟨b1, b2, b3, b4, b5, b6⟩, ⟨m1, m2, m3, m4, m5⟩, ⟨d1, d2, d3, d4⟩, ⟨s1, s2, s3⟩, ow, i⟩
  exact ⟨b1, b2, b3, m1, m2, d1, fun g h => ⟨fun e => b4 (e ▸ h), fun e => m3 (e ▸ h), fun e => d2 (e ▸ h), fun e => s1 (e ▸ h)⟩, fun g h => ⟨fun e => b5 (e ▸ h), fun e => m4 (e ▸ h), fun e => d3 (e ▸ h), fun e => s2 (e ▸ h)⟩, fun g h => ⟨fun e => b6 (e ▸ h), fun e => m5 (e ▸ h), fun e => d4 (e ▸ h), fun e => s3 (e ▸ h)⟩,
   fun g h k => i g h g (.inl k) rfl, fun g h k => i g h g (.inr k) rfl, fun g h k => ow g h g k rfl⟩
 ·intro a
  exact ⟨⟨a.bm, a.bd, a.bs, fun h => (a.ib _ h).1 rfl, fun h => (a.ob _ h).1 rfl, fun h => (a.wb _ h).1 rfl⟩, ⟨a.md, a.ms, fun h => (a.ib _ h).2.1 rfl, fun h => (a.ob _ h).2.1 rfl, fun h => (a.wb _ h).2.1 rfl⟩, ⟨a.ds, fun h => (a.ib _ h).2.2.1 rfl, fun h => (a.ob _ h).2.2.1 rfl, fun h => (a.wb _ h).2.2.1 rfl⟩,
   ⟨fun h => (a.ib _ h).2.2.2 rfl, fun h => (a.ob _ h).2.2.2 rfl, fun h => (a.wb _ h).2.2.2 rfl⟩, fun g h k hk e => a.ow g h (e ▸ hk), fun g h k hk e => hk.elim (fun hk => a.io g h (e ▸ hk)) (fun hk => a.iw g h (e ▸ hk))⟩
section
variable {w : World} {base : Nat} {v : BV} {x : BS}
theorem BusAt.ap (B : BusAt w base v x) : Apart v := (apart_iff v).1 B.nd
theorem BusAt.ltb (B : BusAt w base v x) : v.b < w.heap.size ∧ v.m < w.heap.size ∧ v.d < w.heap.size ∧ v.s < w.heap.size := ⟨B.row.lt, B.mem.lt, B.disk.dlt, B.disk.slt⟩
theorem mem_i (v : BV) (g : Nat) (h : v.vi.ownBlock = some g) : g ∈ brow v := by simp [brow, h]
theorem mem_o (v : BV) (g : Nat) (h : v.vo.ownBlock = some g) : g ∈ brow v := by simp [brow, h]
theorem mem_w (v : BV) (g : Nat) (h : v.vw.ownBlock = some g) : g ∈ brow v := by simp [brow, h]
theorem mem_d (v : BV) : v.d ∈ brow v := by simp [brow]
theorem mem_s (v : BV) : v.s ∈ brow v := by simp [brow]
theorem BusAt.newIn (B : BusAt w base v x) {w1 : World} {u : Value} {q : List UInt8} (T : Touch w w1 v.vi.ownBlock.toList) (h : InAt w1 base u q) (hq : q.length ≤ 65536) (hu : ∀ g, u.ownBlock = some g → v.vi.ownBlock = some g ∨ w.heap.size ≤ g) :
 BusAt (w1.setCell ⟨v.b, 2, none⟩ u) base { v with vi := u } { x with q := q } ∧ Moves w (w1.setCell ⟨v.b, 2, none⟩ u) v { v with vi := u } := by
 have a := B.ap
 obtain ⟨lb, lm, ld, ls⟩ := B.ltb
 have hni : ∀ g, v.vi.ownBlock ≠ some g → g ∉ v.vi.ownBlock.toList := fun g hg hm => hg (by simpa using hm)
 have T2 : Touch w (w1.setCell ⟨v.b, 2, none⟩ u) (v.b :: v.vi.ownBlock.toList) := (T.mono (fun g hg => List.mem_cons_of_mem _ hg)).trans (Touch.set w1 ⟨v.b, 2, none⟩ u) (fun g hg _ => by simp at hg; rw [hg]; exact List.mem_cons_self)
 have far : ∀ g, g ≠ v.b → v.vi.ownBlock ≠ some g → g ∉ v.b :: v.vi.ownBlock.toList := fun g h1 h2 hm => by
  rcases List.mem_cons.1 hm with hm | hm
  ·exact h1 hm
  ·exact hni g h2 hm
 have hub : ∀ g, u.ownBlock = some g → g ≠ v.b := fun g hg => by
  rcases hu g hg with h1 | h1
  ·exact (a.ib g h1).1
  ·omega
 refine ⟨{ B with
  row := by
   have : Blk w1 v.b (busRow v x) 114 := (T.block v.b lb (hni _ (fun h => (a.ib _ h).1 rfl))).trans B.row
   exact this.set 2 u
  mem := by obtain ⟨cs, k1, k2⟩ := B.mem; exact ⟨cs, (T2.block v.m lm (far _ a.bm.symm (fun h => (a.ib _ h).2.1 rfl))).trans k1, k2⟩
  inn := h.touch (Touch.set w1 ⟨v.b, 2, none⟩ u) (fun g hg hm => hub g hg (by simpa using hm))
  ql := hq
  out := T2.owns B.out (fun g hg => far g (a.ob g hg).1 (fun h => a.io g h hg))
  disk := B.disk.touch T2 (far _ a.bd.symm (fun h => (a.ib _ h).2.2.1 rfl)) (far _ a.bs.symm (fun h => (a.ib _ h).2.2.2 rfl)) (fun g hg => far g (a.wb g hg).1 (fun h => a.iw g h hg))
  nd := (apart_iff _).2 { a with
   ib := fun g hg => (hu g hg).elim (a.ib g) (fun h1 => ⟨by simp only; omega, by simp only; omega, by simp only; omega, by simp only; omega⟩)
   io := fun g hg => (hu g hg).elim (a.io g) (fun h1 h2 => by have := (B.out.lt g h2).2; omega)
   iw := fun g hg => (hu g hg).elim (a.iw g) (fun h1 h2 => by have := (B.disk.vlt g h2).1; omega) }
  lo := B.lo }, T2.mono (fun g hg => ?_), fun g hg => ?_, ⟨rfl, rfl, rfl, rfl⟩⟩
 ·rcases List.mem_cons.1 hg with rfl | hg
  ·exact mem_b v
  ·exact mem_i v g (by simpa using hg)
 ·simp only [brow, List.mem_cons, List.mem_append, Option.mem_toList] at hg ⊢
  rcases hg with hg | hg | hg | hg | hg | hg | hg
  ·exact .inl (.inl hg)
  ·exact .inl (.inr (.inl hg))
  ·exact .inl (.inr (.inr (.inl hg)))
  ·exact .inl (.inr (.inr (.inr (.inl hg))))
  ·exact (hu g hg).imp (fun h => .inr (.inr (.inr (.inr (.inl h))))) id
  ·exact .inl (.inr (.inr (.inr (.inr (.inr (.inl hg))))))
  ·exact .inl (.inr (.inr (.inr (.inr (.inr (.inr hg))))))
theorem BusAt.newOut (B : BusAt w base v x) {w1 : World} {u : Value} {q : List UInt8} (T : Touch w w1 v.vo.ownBlock.toList) (h : w1.ownsRow base 5 1 u q.length (bcells q)) (hq : q.length ≤ 65536) (hu : ∀ g, u.ownBlock = some g → v.vo.ownBlock = some g ∨ w.heap.size ≤ g) :
 BusAt (w1.setCell ⟨v.b, 3, none⟩ u) base { v with vo := u } { x with o := q } ∧ Moves w (w1.setCell ⟨v.b, 3, none⟩ u) v { v with vo := u } := by
 have a := B.ap
 obtain ⟨lb, lm, ld, ls⟩ := B.ltb
 have hni : ∀ g, v.vo.ownBlock ≠ some g → g ∉ v.vo.ownBlock.toList := fun g hg hm => hg (by simpa using hm)
 have T2 : Touch w (w1.setCell ⟨v.b, 3, none⟩ u) (v.b :: v.vo.ownBlock.toList) := (T.mono (fun g hg => List.mem_cons_of_mem _ hg)).trans (Touch.set w1 ⟨v.b, 3, none⟩ u) (fun g hg _ => by simp at hg; rw [hg]; exact List.mem_cons_self)
 have far : ∀ g, g ≠ v.b → v.vo.ownBlock ≠ some g → g ∉ v.b :: v.vo.ownBlock.toList := fun g h1 h2 hm => by
  rcases List.mem_cons.1 hm with hm | hm
  ·exact h1 hm
  ·exact hni g h2 hm
 have hub : ∀ g, u.ownBlock = some g → g ≠ v.b := fun g hg => by
  rcases hu g hg with h1 | h1
  ·exact (a.ob g h1).1
  ·omega
 refine ⟨{ B with
  row := by
   have : Blk w1 v.b (busRow v x) 114 := (T.block v.b lb (hni _ (fun h => (a.ob _ h).1 rfl))).trans B.row
   exact this.set 3 u
  mem := by obtain ⟨cs, k1, k2⟩ := B.mem; exact ⟨cs, (T2.block v.m lm (far _ a.bm.symm (fun h => (a.ob _ h).2.1 rfl))).trans k1, k2⟩
  inn := B.inn.touch T2 (fun g hg => far g (a.ib g hg).1 (fun h => a.io g hg h))
  ol := hq
  out := (Touch.set w1 ⟨v.b, 3, none⟩ u).owns h (fun g hg hm => hub g hg (by simpa using hm))
  disk := B.disk.touch T2 (far _ a.bd.symm (fun h => (a.ob _ h).2.2.1 rfl)) (far _ a.bs.symm (fun h => (a.ob _ h).2.2.2 rfl)) (fun g hg => far g (a.wb g hg).1 (fun h => a.ow g h hg))
  nd := (apart_iff _).2 { a with
   ob := fun g hg => (hu g hg).elim (a.ob g) (fun h1 => ⟨by simp only; omega, by simp only; omega, by simp only; omega, by simp only; omega⟩)
   io := fun g hg hg2 => (hu g hg2).elim (a.io g hg) (fun h1 => by have := (B.inn.lt g hg).2; omega)
   ow := fun g hg => (hu g hg).elim (a.ow g) (fun h1 h2 => by have := (B.disk.vlt g h2).1; omega) }
  lo := B.lo }, T2.mono (fun g hg => ?_), fun g hg => ?_, ⟨rfl, rfl, rfl, rfl⟩⟩
 ·rcases List.mem_cons.1 hg with rfl | hg
  ·exact mem_b v
  ·exact mem_o v g (by simpa using hg)
 ·simp only [brow, List.mem_cons, List.mem_append, Option.mem_toList] at hg ⊢
  rcases hg with hg | hg | hg | hg | hg | hg | hg
  ·exact .inl (.inl hg)
  ·exact .inl (.inr (.inl hg))
  ·exact .inl (.inr (.inr (.inl hg)))
  ·exact .inl (.inr (.inr (.inr (.inl hg))))
  ·exact .inl (.inr (.inr (.inr (.inr (.inl hg)))))
  ·exact (hu g hg).imp (fun h => .inr (.inr (.inr (.inr (.inr (.inl h)))))) id
  ·exact .inl (.inr (.inr (.inr (.inr (.inr (.inr hg))))))
/-! The small functions. -/
theorem btake_none (B : BusAt w base v x) (hq : x.q = []) :
 Calls Tryz.prog 74 #[.pointer (some ⟨v.b, 0, none⟩)] w fun e w' => e = .returned (.tuple #[.int .u32 0, .int .i64 2]) ∧ w = w' := by
 obtain ⟨-, -, c2, -⟩ := B.cells
 obtain ⟨a, c, hv⟩ := B.inn.form
 rw [hv, hq] at c2
 simp only [List.length_nil] at c2
 go_enter Tryz.func74, Tryz.ntmps74
 go_wp2_with fail
 go_ret2
 exact ⟨rfl, rfl⟩
theorem btake_some (B : BusAt w base v x) (c : UInt8) (r : List UInt8) (hq : x.q = c :: r) :
 Calls Tryz.prog 74 #[.pointer (some ⟨v.b, 0, none⟩)] w fun e w' => e = .returned (.tuple #[.int .u32 c.toNat, .int .i64 0]) ∧ ∃ v', BusAt w' base v' { x with q := r } ∧ Moves w w' v v' := by
 obtain ⟨-, -, c2, -⟩ := B.cells
 have f2 := B.row.frozen 2
 have hin := B.inn
 rw [hq] at hin
 obtain ⟨g, off, cap, hv, hc1, hc2, hc, ht1, ht2⟩ := hin.cons
 have hr : r.length ≤ 65536 := by have := B.ql; rw [hq] at this; simp at this; omega
 have hvo : v.vi.ownBlock = some g := by rw [hv]; rfl
 rw [hv] at c2
 have hc8 := c.toNat_lt
 have HT1 := hid ht1
 have HT2 := hid ht2
 have HV := hid hv
 unfold maxLen at hc2
 clear ht1 ht2 hq hin hv
 by_cases hcap : cap = 1
 ·subst hcap
  obtain rfl : r = [] := List.eq_nil_of_length_eq_zero (by omega)
  go_enter Tryz.func74, Tryz.ntmps74
  go_wp2_with fail
  go_ret2
  have k := B.newIn (w1 := w) (u := .slice (some ⟨g, off, none⟩) 0 0) (q := []) (Touch.refl _ _) (HT2.out trivial) (by simp) (fun g' hg => .inl (by rw [hvo]; simpa [Value.ownBlock] using hg))
  exact ⟨rfl, { v with vi := .slice (some ⟨g, off, none⟩) 0 0 }, k⟩
 ·go_enter Tryz.func74, Tryz.ntmps74
  go_wp2_with fail
  go_ret2
  have k := B.newIn (w1 := w) (u := .slice (some ⟨g, off + 1, none⟩) r.length (cap - 1)) (q := r) (Touch.refl _ _) (HT1.out hcap) hr (fun g' hg => .inl (by rw [hvo]; simpa [Value.ownBlock] using hg))
  exact ⟨rfl, { v with vi := .slice (some ⟨g, off + 1, none⟩) r.length (cap - 1) }, k⟩
theorem u8_info : ∃ i : TypeInfo, Tryz.prog.info? 5 = some i ∧ i.zero = some (.int .u8 0) ∧ i.size = 1 ∧ i.bytes = 1 := by
 have h : (Tryz.prog.info? 5).map (fun i => (i.zero, i.size, i.bytes)) = some (some (.int .u8 0), 1, 1) := by kernel_rfl
 obtain ⟨i, hi, hz⟩ := Option.map_eq_some_iff.1 h
 simp only [Prod.mk.injEq] at hz
 exact ⟨i, hi, hz.1, hz.2.1, hz.2.2⟩
theorem BusAt.base_le (B : BusAt w base v x) : base ≤ w.heap.size := Nat.le_trans B.lo.1 (Nat.le_of_lt B.row.lt)
theorem wpList_append_in {ops : Array Oper} {rest : List Oper} {o : Oper} {a : Act} {Q : Exit → Act → World → Prop} (hgd : o.guard = none) (sl y : Operand) (t u : TypeId)
 (ho : o.op = .call { callee := .builtin .append, args := #[sl, y], argTypes := #[t, u] })
 (ht : Tryz.prog.underlying t = some (.slice 5)) (hu : Tryz.prog.underlying u = some .string)
 (z : Value) (q : List UInt8) (hs : a.eval sl = z) (h : InAt w base z q) (s : ByteArray) (hx : a.eval y = .string s) (hle : q.length + s.size ≤ 140737488351232) (hbase : base ≤ w.heap.size)
 (k : ∀ v' w', InAt w' base v' (q ++ s.data.toList) → Touch w w' z.ownBlock.toList → (∀ g, v'.ownBlock = some g → z.ownBlock = some g ∨ w.heap.size ≤ g) → wpList Tryz.prog ops Q rest (a.put o.dst v') w') : wpList Tryz.prog ops Q (o :: rest) a w := by
 refine wpList_plain hgd fun K hK => ?_
 obtain ⟨i, hi, hz, h1, h2⟩ := u8_info
 obtain ⟨v', w', hr, k2, k3, k4⟩ := run_append_in (P := Tryz.prog) (w := w) base t u o.type i ht hu hi hz h1 h2 z q h s hle hbase
 unfold Oper.wp execOp
 simp only [ho, resolve, invoke, builtin, Sem.run_bind, Sem.run_pure, Result.andThen_ok, List.map_toArray, List.map_cons, List.map_nil, hs, hx, hr]
 exact hK _ _ (k v' w' k2 (Touch.of_grown k3) k4)
theorem bfeed_no (B : BusAt w base v x) (s : ByteArray) (h : 65536 < x.q.length + s.size) (hs : s.size ≤ 140737488351232) :
 Calls Tryz.prog 43 #[.pointer (some ⟨v.b, 0, none⟩), .string s] w fun e w' => e = .returned (.int .i64 40) ∧ w = w' := by
 obtain ⟨-, -, c2, -⟩ := B.cells
 obtain ⟨a, c, hv⟩ := B.inn.form
 have hq := B.ql
 rw [hv] at c2
 have h1 : (65536 : Int) < (x.q.length : Int) + (s.size : Int) := by omega
 go_enter Tryz.func43, Tryz.ntmps43
 go_wp2_with fail
 go_ret
 exact ⟨rfl, rfl⟩
theorem bfeed_yes (B : BusAt w base v x) (s : ByteArray) (h : x.q.length + s.size ≤ 65536) :
 Calls Tryz.prog 43 #[.pointer (some ⟨v.b, 0, none⟩), .string s] w fun e w' => e = .returned (.int .i64 0) ∧ ∃ v', BusAt w' base v' { x with q := x.q ++ s.data.toList } ∧ Moves w w' v v' := by
 obtain ⟨-, -, c2, -⟩ := B.cells
 have f2 := B.row.frozen 2
 obtain ⟨a, c, hv⟩ := B.inn.form
 have hbl : (⟨v.b, 2, none⟩ : Addr).block ∉ v.vi.ownBlock.toList := fun hm => (B.ap.ib v.b (by simpa using hm)).1 rfl
 have HBL := hid hbl
 clear hbl
 have HV := hid hv
 rw [hv] at c2
 clear hv
 have h1 : (x.q.length : Int) + (s.size : Int) ≤ 65536 := by omega
 go_enter Tryz.func43, Tryz.ntmps43
 go_wp2_with (at_builtin; refine wpList_append_in (base := base) rfl _ _ 69 9 rfl Tryz.underlying69 Tryz.underlying9 v.vi x.q (by rw [HV.out]; rfl) B.inn s (by rfl) (Nat.le_trans h (by decide)) B.base_le ?_; intro u w1 hu1 hu2 hu3; obtain ⟨ua, uc, rfl⟩ := hu1.form; have c2' := hu2.cell c2 HBL.out; have f2' := (hu2.frozen c2 HBL.out).trans f2; have HU1 := hid hu1; have HU3 := hid hu3; clear hu1 hu3)
 all_goals
  go_ret
  have hlen : (x.q ++ s.data.toList).length = x.q.length + s.size := by rw [List.length_append]; rfl
  have k := B.newIn hu2 HU1.out (by rw [hlen]; exact h) HU3.out
  rw [hlen] at k
  exact ⟨rfl, _, k⟩
end
theorem strOf_self (s : ByteArray) : strOfNums (s.data.toList.map fun b => (b.toNat : Int)) = s := by
 unfold strOfNums
 cases s with
 | mk d =>
  congr 1
  apply Array.toList_inj.1
  simp only [List.map_map]
  rw [show ((fun x : Int => UInt8.ofNat x.toNat) ∘ fun b : UInt8 => (b.toNat : Int)) = id from by funext b; simp]
  simp
theorem bconv_range (w : World) (b o n cap : Nat) (s : ByteArray) (hs : s.size = n) (h : w.rangeAt b o (strCells s)) :
 (convert 69 9 (.slice (some ⟨b, o, none⟩) n cap)).run Tryz.prog w = .ok (.string s) w := by
 have := run_convert_bytes_arg (P := Tryz.prog) w 69 5 Tryz.underlying69 Tryz.underlying5 b o n cap (s.data.toList.map fun b => (b.toNat : Int)) (by simpa using hs) (fun i hi => by
  refine h i _ ?_
  have hi2 : i < s.data.size := by have : s.data.size = s.size := rfl; omega
  simp [strCells, List.getD, Array.getElem?_eq_getElem hi2]) 9 Tryz.underlying9
 rw [strOf_self] at this
 exact this
theorem bconv_zero (w : World) (p : Option Addr) (c : Nat) : (convert 69 9 (.slice p 0 c)).run Tryz.prog w = .ok (.string (ofBs [])) w := by
 rw [run_convert_bytes_string w 69 9 5 _ 0 c Tryz.underlying69 Tryz.underlying5 Tryz.underlying9]
 cases p <;> simp [Conv.bytesToString, loadCells]
 all_goals rfl
section
variable {w : World} {base : Nat} {v : BV} {x : BS}
theorem BusAt.oform (B : BusAt w base v x) : ∃ a c, v.vo = .slice a x.o.length c := by
 rcases B.out.2 with ⟨h1, h2⟩ | ⟨g, cap, cur, h1, _⟩
 ·exact ⟨none, 0, by rw [h1, h2]⟩
 ·exact ⟨_, _, h1⟩
theorem bput_full (B : BusAt w base v x) (y : Int) (h : ¬ x.o.length < 65536) :
 Calls Tryz.prog 75 #[.pointer (some ⟨v.b, 0, none⟩), .int .u32 y] w fun e w' => e = .returned (.tuple #[]) ∧ w = w' := by
 obtain ⟨-, -, -, c3, -⟩ := B.cells
 obtain ⟨a, c, hv⟩ := B.oform
 have hl := B.ol
 have he : x.o.length = 65536 := by omega
 rw [hv, he] at c3
 go_enter Tryz.func75, Tryz.ntmps75
 go_wp2_with fail
 go_end0
 exact ⟨rfl, rfl⟩
theorem bput_yes (B : BusAt w base v x) (y : Int) (h0 : 0 ≤ y) (h1 : y < 4294967296) (h : x.o.length < 65536) :
 Calls Tryz.prog 75 #[.pointer (some ⟨v.b, 0, none⟩), .int .u32 y] w fun e w' => e = .returned (.tuple #[]) ∧ ∃ v', BusAt w' base v' { x with o := x.o ++ [u8Of y] } ∧ Moves w w' v v' := by
 obtain ⟨-, -, -, c3, -⟩ := B.cells
 have f3 := B.row.frozen 3
 obtain ⟨a, c, hv⟩ := B.oform
 obtain ⟨i0, hi, hz0, hz1, hz2⟩ := u8_info
 have hbl : (⟨v.b, 3, none⟩ : Addr).block ∉ v.vo.ownBlock.toList := fun hm => (B.ap.ob v.b (by simpa using hm)).1 rfl
 have HBL := hid hbl
 have HB := hid B
 have HV := hid hv
 have hbb := B.base_le
 rw [hv] at c3
 clear hbl hv
 have h2 : (x.o.length : Int) < 65536 := by omega
 have hs : (⟨v.b, 3, none⟩ : Addr).block < w.heap.size := B.row.lt
 have c3a : ∀ o, (w.alloc o).cell? ⟨v.b, 3, none⟩ = some (.slice a x.o.length c) := fun o => by rw [World.cell?_alloc_lt _ _ _ hs]; exact c3
 go_enter Tryz.func75, Tryz.ntmps75
 go_wp2_with (at_builtin; refine wpList_append_lies _ rfl _ _ 69 rfl base 5 i0 (.int .u8 0) 1 1 Tryz.underlying69 hi hz0 hz1 hz2 rfl (by decide) v.vo x.o.length (bcells x.o) (by rw [HV.out]; rfl) (HB.out.out.alloc _) ⟨w.heap.size, 0, none⟩ 1 1 [.int .u8 (y % 256)] rfl rfl (World.news_of_block (heap_alloc_new _ _)) ?c2 (by decide) ?c3 ?c4 ?c5 (w.heap.size + 1) (by simp) ?_)
 case c2 => simp [Value.oneCell']
 case c3 => unfold maxLen; omega
 case c4 => omega
 case c5 => first | omega | (simp; omega)
 intro g cap w1 hown1 hgrow hat1 hlt1
 have T1 := touch_app (w := w) hgrow (by go_grown)
 have c1' := T1.cell c3 HBL.out
 have f1' := (T1.frozen c3 HBL.out).trans f3
 have HO := hid hown1
 have HT := hid T1
 clear hown1 hgrow T1
 go_wp2_with fail
 go_end0
 have hbc : bcells (x.o ++ [u8Of y]) = bcells x.o ++ [.int .u8 (y % 256)] := by
  rw [bcells_append, show bcells [u8Of y] = [Value.int .u8 ((u8Of y).toNat : Int)] from rfl, u8Of_toNat]
 have hl : (x.o ++ [u8Of y]).length = x.o.length + 1 := by simp
 have k := B.newOut (u := .slice (some ⟨g, 0, none⟩) (x.o.length + 1) cap) (q := x.o ++ [u8Of y]) HT.out (by rw [hbc, hl]; exact HO.out) (by rw [hl]; omega) (fun g' hg' => by
  obtain rfl : g = g' := by simpa [Value.ownBlock] using hg'
  exact hat1.imp id (fun h => by omega))
 exact ⟨rfl, _, k⟩
theorem bout_any (B : BusAt w base v x) :
 Calls Tryz.prog 46 #[.pointer (some ⟨v.b, 0, none⟩)] w fun e w' => e = .returned (.string (ofBs x.o)) ∧ w = w' := by
 obtain ⟨-, -, -, c3, -⟩ := B.cells
 obtain ⟨a, c, hv⟩ := B.oform
 have hcv : (convert 69 9 (.slice a x.o.length c)).run Tryz.prog w = .ok (.string (ofBs x.o)) w := by
  rcases B.out.2 with ⟨h1, h2⟩ | ⟨g, cap, cur, h1, h2, h3, h4, h5, h6, h7⟩
  ·rw [hv] at h1
   simp only [Value.slice.injEq] at h1
   obtain ⟨rfl, -, rfl⟩ := h1
   have : x.o = [] := List.eq_nil_of_length_eq_zero h2
   rw [this]
   exact bconv_zero w none 0
  ·rw [hv] at h1
   simp only [Value.slice.injEq] at h1
   obtain ⟨rfl, -, rfl⟩ := h1
   refine bconv_range w g 0 x.o.length c (ofBs x.o) (ofBs_size _) (fun j u hj => ?_)
   rw [Nat.zero_add, cell_of_row w g j cur _ (0, 0) h3]
   rw [ofBs_cells, ← h7, Nat.mul_one, List.getElem?_take] at hj
   split at hj
   ·rw [← hj, Array.getElem?_toList]
   ·cases hj
 rw [hv] at c3
 go_enter Tryz.func46, Tryz.ntmps46
 go_wp2_with fail
 go_ret
 exact ⟨rfl, rfl⟩
/-! The closures. -/
theorem bfine_any (y : Int) (h0 : 0 ≤ y) (h1 : y < 4294967296) :
 Calls Tryz.prog 73 #[.int .u32 y] w fun e w' => e = .returned (.func (.func 96) #[] #[.pointer (some ⟨w.heap.size, 0, none⟩)]) ∧ w' = w.alloc (.cells #[.int .u32 y] 23) := by
 have hmf := hmf_all
 go_enter Tryz.func73, Tryz.ntmps73
 go_wp2_with fail
 go_ret
 exact ⟨rfl, rfl⟩
theorem bfine1_any (g : Nat) (y : Int) (hc : w.cell? ⟨g, 0, none⟩ = some (.int .u32 y)) :
 Calls Tryz.prog 96 #[.pointer (some ⟨g, 0, none⟩)] w fun e w' => e = .returned (.tuple #[.int .u32 y, .int .i64 0]) ∧ w = w' := by
 go_enter Tryz.func96, Tryz.ntmps96
 go_wp2_with fail
 go_ret2
 exact ⟨rfl, rfl⟩
theorem bdev1_any (B : BusAt w base v x) (g : Nat) (y : Int) (h0 : 0 ≤ y) (h1 : y < 4294967296) (hc : w.cell? ⟨g, 0, none⟩ = some (.pointer (some ⟨v.b, 0, none⟩))) :
 Calls Tryz.prog 76 #[.int .u32 y, .pointer (some ⟨g, 0, none⟩)] w fun e w' => e = .returned (.tuple #[]) ∧ BusAt w' base v { x with se := y } ∧ Moves w w' v v := by
 obtain ⟨-, -, -, -, -, c5, -⟩ := B.cells
 have f5 := B.row.frozen 5
 go_enter Tryz.func76, Tryz.ntmps76
 go_wp2_with fail
 go_end0
 exact ⟨rfl, B.setRow (Touch.set _ ⟨v.b, 5, none⟩ _) (B.row.set 5 _) rfl B.tkb ⟨h0, h1⟩ B.adb B.flb, (Touch.set _ ⟨v.b, 5, none⟩ _).mono (by simp [mem_b]), fun g h => .inl h, ⟨rfl, rfl, rfl, rfl⟩⟩
theorem bdev2_any (B : BusAt w base v x) (g : Nat) (y : Int) (h0 : 0 ≤ y) (h1 : y < 4294967296) (hc : w.cell? ⟨g, 0, none⟩ = some (.pointer (some ⟨v.b, 0, none⟩))) :
 Calls Tryz.prog 77 #[.int .u32 y, .pointer (some ⟨g, 0, none⟩)] w fun e w' => e = .returned (.tuple #[]) ∧ BusAt w' base v { x with ad := y } ∧ Moves w w' v v := by
 obtain ⟨-, -, -, -, -, -, c6, -⟩ := B.cells
 have f6 := B.row.frozen 6
 go_enter Tryz.func77, Tryz.ntmps77
 go_wp2_with fail
 go_end0
 exact ⟨rfl, B.setRow (Touch.set _ ⟨v.b, 6, none⟩ _) (B.row.set 6 _) rfl B.tkb B.seb ⟨h0, h1⟩ B.flb, (Touch.set _ ⟨v.b, 6, none⟩ _).mono (by simp [mem_b]), fun g h => .inl h, ⟨rfl, rfl, rfl, rfl⟩⟩
end
end Go.Proofs.YtgcknekhimpfkaaGreatDoor
