/- The document's bus: a device's word, stored. -/
import Derived.Test.YtgcknekhimpfkaaGreatDoorQU
namespace Go.Proofs.YtgcknekhimpfkaaGreatDoor
open Go Go.RowKit Go.Lib Go.Proofs.YtgcknekhimpfkaaGreatDoor.Pl
set_option linter.unusedVariables false
set_option linter.unusedSimpArgs false
section
variable {w w' : World} {base : Nat} {v : RV} {x : BS} {sec0 : Nat → ByteArray} {hist : List (Nat × ByteArray)}
/-- What is put out, behind the output's own row. -/
theorem RBusAt.newOut (B : RBusAt w base v x sec0 hist) {w1 : World} {u : Value} {q : List UInt8} (T : Touch w w1 v.vo.ownBlock.toList) (h : w1.ownsRow base 5 1 u q.length (bcells q)) (hq : q.length ≤ 65536) (hu : ∀ g, u.ownBlock = some g → v.vo.ownBlock = some g ∨ w.heap.size ≤ g) :
 RBusAt (w1.setCell ⟨v.b, 3, none⟩ u) base { v with vo := u } { x with o := q } sec0 hist ∧ RMoves w (w1.setCell ⟨v.b, 3, none⟩ u) v { v with vo := u } := by
 have A := B.ap
 have hb : v.b ∉ v.vo.ownBlock.toList := fun hm => (A.ob v.b (by simpa using hm)).1 rfl
 have hm : v.m ∉ v.vo.ownBlock.toList := fun hm => (A.ob v.m (by simpa using hm)).2.1 rfl
 have hr : ∀ g ∈ rrow v.r v.vf v.vw, g ∉ v.vo.ownBlock.toList := fun g hg hm => (A.ob g (by simpa using hm)).2.2 hg
 have T2 := Touch.set w1 ⟨v.b, 3, none⟩ u
 have hrow := (T.block v.b B.row.lt hb).trans B.row
 have far : ∀ g, g < w.heap.size → g ∉ v.vo.ownBlock.toList → u.ownBlock ≠ some g := fun g hg hn e => (hu g e).elim (fun k => hn (by simpa using k)) (fun k => by omega)
 have hbm := A.bm
 have rlt := rrow_lt' B.disk
 have hd := B.disk.touch T (hr _ (by simp [rrow])) (fun g hg => hr g (by simp [rrow, hg])) (fun g hg => hr g (by simp [rrow, hg]))
 refine ⟨{ B with
  row := Blk.set hrow 3 u
  mem := by obtain ⟨cs, h1, h2⟩ := B.mem; exact ⟨cs, (T2.block v.m (by have := T.size; have := B.mem.lt; omega) (by simpa using fun e => hbm e.symm)).trans ((T.block v.m B.mem.lt hm).trans h1), h2⟩
  out := T2.owns h (fun g hg => by
   simp only [List.mem_singleton]
   intro e
   exact far v.b B.row.lt hb (by rw [hg, e]))
  ol := hq
  disk := hd.touch T2 (by simpa using fun e => A.br (by rw [← e]; simp [rrow])) (fun g hg => by simpa using fun e => A.br (by rw [← e]; simp [rrow, hg])) (fun g hg => by simpa using fun e => A.br (by rw [← e]; simp [rrow, hg]))
  nd := ?_ }, ⟨(T.mono (fun g hg => by simp only [rbrow, List.mem_cons, List.mem_append]; exact .inr (.inr (.inl hg)))).trans T2 (fun g hg _ => by simp at hg; simp [rbrow, hg]), fun g hg => ?_, ⟨rfl, rfl, rfl⟩⟩⟩
 ·have nd := B.nd
  simp only [rbrow, List.nodup_cons, List.mem_cons, List.mem_append, not_or, Option.mem_toList, List.nodup_append] at nd ⊢
  obtain ⟨⟨n1, n2, n3⟩, ⟨n4, n5⟩, n6, n7, n8⟩ := nd
  refine ⟨⟨n1, far _ B.row.lt hb, n3⟩, ⟨far _ B.mem.lt hm, n5⟩, ?_, n7, fun a ha b hb e => ?_⟩
  ·cases u.ownBlock <;> simp
  ·subst e
   exact far a (rlt a hb).2 (hr a hb) ha
 ·simp only [rbrow, List.mem_cons, List.mem_append, Option.mem_toList] at hg ⊢
  rcases hg with h | h | h | h
  ·exact .inl (.inl h)
  ·exact .inl (.inr (.inl h))
  ·exact (hu g h).imp (fun k => .inr (.inr (.inl k))) id
  ·exact .inl (.inr (.inr (.inr h)))
/-- What storing a device's word comes to. -/
def RStored (w w' : World) (base : Nat) (v : RV) (x : BS) (sec0 : Nat → ByteArray) (a y : Int) (e : Ending) : Prop :=
 e = .returned (.int .i64 (x.store a y).2.1) ∧ ∃ v' hist', RBusAt w' base v' (x.store a y).2.2 sec0 hist' ∧ RMoves w w' v v'
def RStores (w : World) (base : Nat) (v : RV) (x : BS) (sec0 : Nat → ByteArray) (a y : Int) : Prop :=
 Calls Tryz.prog 91 #[.pointer (some ⟨v.b, 0, none⟩), .int .u32 a, .int .u32 y] w fun e w' => RStored w w' base v x sec0 a y e
theorem rstore_sector (B : RBusAt w base v x sec0 hist) (y : Int) (y0 : 0 ≤ y) (y1 : y < 4294967296) : RStores w base v x sec0 4294967244 y := by
 have f5 := B.row.frozen 5
 obtain ⟨-, -, -, -, -, c5, -⟩ := B.cells
 have HB := hid (B.own (x' := { x with se := y }) 5 (.int .u32 y) rfl rfl B.ql B.tkb ⟨y0, y1⟩ B.adb B.flb)
 clear B
 unfold RStores
 go_enter Tryz.func91, Tryz.ntmps91
 go_wp2_with fail
 go_ret
 exact ⟨rfl, v, hist, HB.out⟩
theorem rstore_address (B : RBusAt w base v x sec0 hist) (y : Int) (y0 : 0 ≤ y) (y1 : y < 4294967296) : RStores w base v x sec0 4294967248 y := by
 have f6 := B.row.frozen 6
 obtain ⟨-, -, -, -, -, -, c6, -⟩ := B.cells
 have HB := hid (B.own (x' := { x with ad := y }) 6 (.int .u32 y) rfl rfl B.ql B.tkb B.seb ⟨y0, y1⟩ B.flb)
 clear B
 unfold RStores
 go_enter Tryz.func91, Tryz.ntmps91
 go_wp2_with fail
 go_ret
 exact ⟨rfl, v, hist, HB.out⟩
theorem rstore_none (B : RBusAt w base v x sec0 hist) (a y : Int) (h : ¬ (a = 4294967236 ∨ a = 4294967244 ∨ a = 4294967248 ∨ a = 4294967252)) : RStores w base v x sec0 a y := by
 have HB := hid (show RStored w w base v x sec0 a y (.returned (.int .i64 1)) from by
  unfold RStored BS.store
  rw [if_neg (by omega), if_neg (by omega), if_neg (by omega), if_neg (by omega)]
  exact ⟨rfl, v, hist, B, RMoves.refl _ _⟩)
 unfold RStores
 have t2 : (a == 4294967236) = false := by simp; omega
 have t4 : (a == 4294967244) = false := by simp; omega
 have t5 : (a == 4294967248) = false := by simp; omega
 have t6 : (a == 4294967252) = false := by simp; omega
 clear B h
 go_enter Tryz.func91, Tryz.ntmps91
 go_wp2_with fail
 go_ret
 exact HB.out
theorem rstore_full (B : RBusAt w base v x sec0 hist) (y : Int) (h : ¬ x.o.length < 65536) : RStores w base v x sec0 4294967236 y := by
 have HB := hid (show RStored w w base v x sec0 4294967236 y (.returned (.int .i64 0)) from by
  unfold RStored BS.store BS.put
  rw [if_pos rfl, if_neg h]
  exact ⟨rfl, v, hist, B, RMoves.refl _ _⟩)
 obtain ⟨-, -, -, c3, -⟩ := B.cells
 have he : x.o.length = 65536 := by have := B.ol; omega
 obtain ⟨a, c, hv⟩ : ∃ a c, v.vo = .slice a x.o.length c := by
  rcases B.out.2 with ⟨h1, h2⟩ | ⟨g, cap, cur, h1, _⟩
  ·exact ⟨none, 0, by rw [h1, h2]⟩
  ·exact ⟨_, _, h1⟩
 rw [hv, he] at c3
 unfold RStores
 clear B h he hv
 go_enter Tryz.func91, Tryz.ntmps91
 go_wp2_with fail
 go_ret
 exact HB.out
set_option maxRecDepth 100000 in
theorem rstore_put (B : RBusAt w base v x sec0 hist) (y : Int) (h0 : 0 ≤ y) (h1 : y < 4294967296) (h : x.o.length < 65536) : RStores w base v x sec0 4294967236 y := by
 obtain ⟨-, -, -, c3, -⟩ := B.cells
 have f3 := B.row.frozen 3
 obtain ⟨a, c, hv⟩ : ∃ a c, v.vo = .slice a x.o.length c := by
  rcases B.out.2 with ⟨h1, h2⟩ | ⟨g, cap, cur, h1, _⟩
  ·exact ⟨none, 0, by rw [h1, h2]⟩
  ·exact ⟨_, _, h1⟩
 obtain ⟨i0, hi, hz0, hz1, hz2⟩ := u8_info
 have hbl : (⟨v.b, 3, none⟩ : Addr).block ∉ v.vo.ownBlock.toList := fun hm => (B.ap.ob v.b (by simpa using hm)).1 rfl
 have HBL := hid hbl
 have HB := hid B
 have HV := hid hv
 have hbb := B.base_le
 rw [hv] at c3
 clear hbl hv
 have h2 : (x.o.length : Int) < 65536 := by omega
 have hs : (⟨v.b, 3, none⟩ : Addr).block < w.heap.size := B.row.lt
 have c3a : ∀ o, (w.alloc o).cell? ⟨v.b, 3, none⟩ = some (.slice a x.o.length c) := fun o => by rw [World.cell?_alloc_lt _ _ _ hs]; exact c3
 have HH := hid h
 unfold RStores
 clear B h
 go_enter Tryz.func91, Tryz.ntmps91
 go_wp2_with (at_builtin; refine wpList_append_lies _ rfl _ _ 69 rfl base 5 i0 (.int .u8 0) 1 1 Tryz.underlying69 hi hz0 hz1 hz2 rfl (by decide) v.vo x.o.length (bcells x.o) (by rw [HV.out]; rfl) (HB.out.out.alloc _) ⟨w.heap.size, 0, none⟩ 1 1 [.int .u8 (y % 256)] rfl rfl (World.news_of_block (heap_alloc_new _ _)) ?c2 (by decide) ?c3 ?c4 ?c5 (w.heap.size + 1) (by simp) ?_)
 case c2 => simp [Value.oneCell']
 case c3 => unfold maxLen; omega
 case c4 => omega
 case c5 => first | omega | (simp; omega)
 intro g cap w1 hown1 hgrow hat1 hlt1
 have T1 := touch_app (w := w) hgrow (by go_grown)
 have c1' := T1.cell c3 HBL.out
 have f1' := (T1.frozen c3 HBL.out).trans f3
 have HO := hid hown1
 have HT := hid T1
 clear hown1 hgrow T1
 go_wp2_with fail
 go_ret
 have hbc : bcells (x.o ++ [u8Of y]) = bcells x.o ++ [.int .u8 (y % 256)] := by
  rw [bcells_append, show bcells [u8Of y] = [Value.int .u8 ((u8Of y).toNat : Int)] from rfl, u8Of_toNat]
 have hl : (x.o ++ [u8Of y]).length = x.o.length + 1 := by simp
 have k := HB.out.newOut (u := .slice (some ⟨g, 0, none⟩) (x.o.length + 1) cap) (q := x.o ++ [u8Of y]) HT.out (by rw [hbc, hl]; exact HO.out) (by rw [hl]; omega) (fun g' hg' => by
  obtain rfl : g = g' := by simpa [Value.ownBlock] using hg'
  exact hat1.imp id (fun h => by omega))
 unfold RStored BS.store BS.put
 rw [if_pos rfl, if_pos HH.out]
 exact ⟨rfl, _, hist, k⟩
end
end Go.Proofs.YtgcknekhimpfkaaGreatDoor
