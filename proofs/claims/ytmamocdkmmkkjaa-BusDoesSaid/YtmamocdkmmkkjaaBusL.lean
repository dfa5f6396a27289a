/- A bus of the call's own, as a statement uses it; the document's example. -/
import Derived.Test.YtmamocdkmmkkjaaBusK
namespace Go.Proofs.Ytmamocdkmmkkjaa
open Go Go.RowKit Go.Lib Go.Proofs.Ytmamocdkmmkkjaa.Pl
set_option linter.unusedVariables false
set_option linter.unusedSimpArgs false
section
variable {w : World} {base : Nat} {v : BV} {x : BS}
theorem bwaiting_any (B : BusAt w base v x) :
    Calls Try.prog 18 #[.pointer (some ⟨v.b, 0, none⟩)] w fun e w' => e = .returned (.int .i64 x.q.length) ∧ w = w' := by
  obtain ⟨-, -, c2, -⟩ := B.cells
  obtain ⟨a, c, hv⟩ := B.inn.form
  rw [hv] at c2
  go_enter Try.func18, Try.ntmps18
  go_wp2_with fail
  go_ret
  exact ⟨rfl, rfl⟩
end
/-- A bus that was made since w0; 'keep': the call's own other blocks. -/
structure Law (w0 w : World) (b d : Nat) (x : BS) (keep : List Nat) : Prop where
  bus : ∃ v base, v.b = b ∧ v.d = d ∧ BusAt w base v x ∧ ∀ g ∈ brow v, w0.heap.size ≤ g ∧ g ∉ keep
  below : Below w0.heap.size w0 w
  kept : ∀ g ∈ keep, g < w.heap.size
section
variable {w0 w : World} {b d : Nat} {x : BS} {keep : List Nat}
theorem Law.moved {w' : World} {v v' : BV} {base : Nat} {x' : BS} (hb : v.b = b) (hd : v.d = d) (B : BusAt w base v x) (hr : ∀ g ∈ brow v, w0.heap.size ≤ g ∧ g ∉ keep) (L : Law w0 w b d x keep) (B' : BusAt w' base v' x') (M : Moves w w' v v') :
    Law w0 w' b d x' keep ∧ ∀ g ∈ keep, w'.heap[g]? = w.heap[g]? := by
  refine ⟨⟨⟨v', base, M.k.1.trans hb, M.k.2.2.1.trans hd, B', fun g hg => ?_⟩, ?_, fun g hg => Nat.lt_of_lt_of_le (L.kept g hg) M.t.size⟩, fun g hg => M.t.block g (L.kept g hg) (fun hm => (hr g hm).2 hg)⟩
  · rcases M.n g hg with h | h
    · exact hr g h
    · exact ⟨Nat.le_trans L.below.size h, fun hk => by have := L.kept g hk; omega⟩
  · exact L.below.trans (M.t.below L.below.size (fun g hg => (hr g hg).1))
theorem Law.act (L : Law w0 w b d x keep) {k a y r c : Int} {x' : BS} (h : x.act k a y = (r, c, x')) (a0 : 0 ≤ a) (a1 : a < 4294967296) (y0 : 0 ≤ y) (y1 : y < 4294967296) :
    Calls Try.prog 10 #[.pointer (some ⟨b, 0, none⟩), .agg #[.int .i64 k, .int .u32 a, .int .u32 y]] w fun e w' => e = .returned (.tuple #[.int .u32 r, .int .i64 c]) ∧ Law w0 w' b d x' keep ∧ ∀ g ∈ keep, w'.heap[g]? = w.heap[g]? := by
  obtain ⟨v, base, hb, hd, B, hr⟩ := L.bus
  have := bdo_any B k a y a0 a1 y0 y1
  rw [h, hb] at this
  refine this.mono ?_
  rintro e w' ⟨rfl, v', B', M⟩
  exact ⟨rfl, Law.moved hb hd B hr L B' M⟩
theorem Law.word_yes (L : Law w0 w b d x keep) (a : Int) (h0 : 0 ≤ a) (h1 : a < 1048576) (h4 : a % 4 = 0) :
    Calls Try.prog 11 #[.pointer (some ⟨b, 0, none⟩), .int .u32 a] w fun e w' => e = .returned (.tuple #[.int .u32 (getV x.M a.toNat), .bool true]) ∧ w = w' := by
  obtain ⟨v, base, rfl, hd, B, hr⟩ := L.bus
  exact bword_yes B a h0 h1 h4
theorem Law.word_no (L : Law w0 w b d x keep) (a : Int) (h0 : 0 ≤ a) (h1 : a < 4294967296) (h4 : ¬ (a < 1048576 ∧ a % 4 = 0)) :
    Calls Try.prog 11 #[.pointer (some ⟨b, 0, none⟩), .int .u32 a] w fun e w' => e = .returned (.tuple #[.int .u32 0, .bool false]) ∧ w = w' := by
  obtain ⟨v, base, rfl, hd, B, hr⟩ := L.bus
  exact bword_no B a h0 h1 h4
theorem Law.poke_yes (L : Law w0 w b d x keep) (a y : Int) (h0 : 0 ≤ a) (h1 : a < 1048576) (h4 : a % 4 = 0) (hy : 0 ≤ y) (hy' : y < 4294967296) :
    Calls Try.prog 13 #[.pointer (some ⟨b, 0, none⟩), .int .u32 a, .int .u32 y] w fun e w' => e = .returned (.bool true) ∧ Law w0 w' b d { x with M := laid4 x.M a.toNat y } keep ∧ ∀ g ∈ keep, w'.heap[g]? = w.heap[g]? := by
  obtain ⟨v, base, rfl, hd, B, hr⟩ := L.bus
  refine (bpoke_yes B a y h0 h1 h4 hy hy').mono ?_
  rintro e w' ⟨rfl, B', M⟩
  exact ⟨rfl, Law.moved rfl hd B hr L B' M⟩
theorem Law.poke_no (L : Law w0 w b d x keep) (a y : Int) (h0 : 0 ≤ a) (h1 : a < 4294967296) (h4 : ¬ (a < 1048576 ∧ a % 4 = 0)) :
    Calls Try.prog 13 #[.pointer (some ⟨b, 0, none⟩), .int .u32 a, .int .u32 y] w fun e w' => e = .returned (.bool false) ∧ w = w' := by
  obtain ⟨v, base, rfl, hd, B, hr⟩ := L.bus
  exact bpoke_no B a y h0 h1 h4
theorem Law.tick (L : Law w0 w b d x keep) (n : Int) (h0 : 0 ≤ n) (h1 : n < 4294967296) :
    Calls Try.prog 31 #[.pointer (some ⟨b, 0, none⟩), .int .u32 n] w fun e w' => e = .returned (.tuple #[]) ∧ Law w0 w' b d { x with tk := (x.tk + n) % 4294967296 } keep ∧ ∀ g ∈ keep, w'.heap[g]? = w.heap[g]? := by
  obtain ⟨v, base, rfl, hd, B, hr⟩ := L.bus
  refine (btick_any B n h0 h1).mono ?_
  rintro e w' ⟨rfl, B', M⟩
  exact ⟨rfl, Law.moved rfl hd B hr L B' M⟩
theorem Law.feed_yes (L : Law w0 w b d x keep) (s : ByteArray) (h : x.q.length + s.size ≤ 65536) :
    Calls Try.prog 17 #[.pointer (some ⟨b, 0, none⟩), .string s] w fun e w' => e = .returned (.int .i64 0) ∧ Law w0 w' b d { x with q := x.q ++ s.data.toList } keep ∧ ∀ g ∈ keep, w'.heap[g]? = w.heap[g]? := by
  obtain ⟨v, base, rfl, hd, B, hr⟩ := L.bus
  refine (bfeed_yes B s h).mono ?_
  rintro e w' ⟨rfl, v', B', M⟩
  exact ⟨rfl, Law.moved rfl hd B hr L B' M⟩
theorem Law.feed_no (L : Law w0 w b d x keep) (s : ByteArray) (h : 65536 < x.q.length + s.size) (hs : s.size ≤ 140737488351232) :
    Calls Try.prog 17 #[.pointer (some ⟨b, 0, none⟩), .string s] w fun e w' => e = .returned (.int .i64 40) ∧ w = w' := by
  obtain ⟨v, base, rfl, hd, B, hr⟩ := L.bus
  exact bfeed_no B s h hs
theorem Law.waiting (L : Law w0 w b d x keep) :
    Calls Try.prog 18 #[.pointer (some ⟨b, 0, none⟩)] w fun e w' => e = .returned (.int .i64 x.q.length) ∧ w = w' := by
  obtain ⟨v, base, rfl, hd, B, hr⟩ := L.bus
  exact bwaiting_any B
theorem Law.out (L : Law w0 w b d x keep) :
    Calls Try.prog 19 #[.pointer (some ⟨b, 0, none⟩)] w fun e w' => e = .returned (.string (ofBs x.o)) ∧ w = w' := by
  obtain ⟨v, base, rfl, hd, B, hr⟩ := L.bus
  exact bout_any B
/-- Elsewhere something new. -/
theorem Law.step {w' : World} (L : Law w0 w b d x keep) (h : Below w.heap.size w w') : Law w0 w' b d x keep := by
  obtain ⟨v, base, hb, hd, B, hr⟩ := L.bus
  exact ⟨⟨v, base, hb, hd, B.below h, hr⟩, L.below.trans (h.mono L.below.size), fun g hg => Nat.lt_of_lt_of_le (L.kept g hg) h.size⟩
theorem Law.drew (L : Law w0 w b d x keep) (n : Nat) : Law w0 (w.drewN n) b d x keep := L.step ⟨rfl, rfl, rfl, Nat.le_refl _, fun _ _ => rfl⟩
theorem Law.keepNew {w' : World} (L : Law w0 w b d x keep) (h : Below w.heap.size w w') (g : Nat) (hg : w.heap.size ≤ g) (hg' : g < w'.heap.size) : Law w0 w' b d x (g :: keep) := by
  obtain ⟨v, base, hb, hd, B, hr⟩ := L.bus
  refine ⟨⟨v, base, hb, hd, B.below h, fun k hk => ⟨(hr k hk).1, fun hm => ?_⟩⟩, L.below.trans (h.mono L.below.size), fun k hk => ?_⟩
  · rcases List.mem_cons.1 hm with rfl | hm
    · have := (B.lt _ hk).2; omega
    · exact (hr k hk).2 hm
  · rcases List.mem_cons.1 hk with rfl | hk
    · exact hg'
    · exact Nat.lt_of_lt_of_le (L.kept k hk) h.size
/-- A new bus over a new disk. -/
theorem Law.new (A : Option Addr) (n c : Nat) (f : Nat → Int) (w0 w : World) (hB : Below w0.heap.size w0 w) (base d s : Nat) (N : Nat) (sec : Nat → ByteArray) (hn : n ≤ 262144) (hf : ∀ i, 0 ≤ f i ∧ f i < 4294967296) (hr : RdI .u32 w A n f) (hbase : w0.heap.size ≤ base) (D : DiskAt w base d s (.slice none 0 0) N sec []) :
    Calls Try.prog 9 #[.slice A n c, .pointer (some ⟨d, 0, none⟩)] w fun e w' => ∃ b, e = .returned (.tuple #[.pointer (some ⟨b, 0, none⟩), .int .i64 0]) ∧ Law w0 w' b d ⟨wordsM f n, [], [], 0, 0, 0, 0, N, sec, []⟩ [] ∧ Below w.heap.size w w' := by
  refine (bnew_yes A n c f w base d s (.slice none 0 0) N sec [] hn hf hr D).mono ?_
  rintro e w' ⟨b, m, rfl, B, hb, h1, h2⟩
  refine ⟨b, rfl, ⟨⟨_, base, rfl, rfl, B, fun g hg => ⟨Nat.le_trans hbase (B.lt g hg).1, by simp⟩⟩, hB.trans (hb.mono hB.size), fun g hg => by cases hg⟩, hb⟩
end
/-! The example. -/
def exW (i : Nat) : Int := if i = 0 then 1 else if i = 1 then 258 else 0
theorem exW_bd (i : Nat) : 0 ≤ exW i ∧ exW i < 4294967296 := by unfold exW; split <;> (try split) <;> omega
def exX : BS := ⟨wordsM exW 2, [], [], 0, 0, 0, 0, 8, fun _ => nought, []⟩
theorem ex1 : exX.act 2 5 0 = (1, 0, exX) := rfl
theorem ex2 : exX.act 1 2 0 = (0, 1, exX) := rfl
theorem ex3 : exX.act 1 4294967236 0 = (0, 2, exX) := rfl
theorem ex4 : exX.act 1 4294967256 0 = (8, 0, exX) := rfl
theorem ex_rd (w : World) (t : TypeId) : RdI .u32 (w.alloc (.cells #[.int .u32 1, .int .u32 258] t)) (some ⟨w.heap.size, 0, none⟩) 2 exW := fun _ => ⟨w.heap.size, 0, rfl, by simp, fun i hi => by
  rw [cell_of_row _ w.heap.size _ _ t (0, 0) (heap_alloc_new w _)]
  have : i = 0 ∨ i = 1 := by omega
  rcases this with rfl | rfl <;> rfl⟩
set_option maxRecDepth 20000 in
theorem bshown_any (w : World) : Calls Try.prog 7 #[] w fun e w' => e = .returned (.bool true) ∧ Below w.heap.size w w' := by
  go_enter Try.func7, Try.ntmps7
  go_upto_region 2 with (go_at_call 8; refine (new_yes 8 _ (by decide) (by decide)).mono ?_; rintro e w1 ⟨d, s, rfl, D, hb1⟩)
  have hb2 : Below w1.heap.size w1 (w1.alloc (.cells #[.int .u32 1, .int .u32 258] 22)) := (Below.refl _ _).alloc (Nat.le_refl _) _
  have HN := Lib.hid (Law.new (some ⟨w1.heap.size, 0, none⟩) 2 2 exW w (w1.alloc (.cells #[.int .u32 1, .int .u32 258] 22)) (hb1.trans (hb2.mono hb1.size)) w.heap.size d s 8 (fun _ => nought) (by decide) exW_bd (ex_rd w1 _) (Nat.le_refl _) (D.below hb2))
  clear D hb1 hb2
  go_upto_region 3 with (go_at_call 9; refine HN.out.mono ?_; rintro e w2 ⟨b, rfl, l0, hb3⟩; have L0 := Lib.hid (show Law w w2 b d exX [] from l0); clear l0 hb3)
  clear HN
  go_wp2_with (first | (go_at_call 10; first | (refine (L0.out.act ex1 (by decide) (by decide) (by decide) (by decide)).mono ?_; rintro e w3 ⟨rfl, l1, -⟩; have L1 := Lib.hid l1; clear l1 L0) | (refine (L1.out.act ex2 (by decide) (by decide) (by decide) (by decide)).mono ?_; rintro e w4 ⟨rfl, l2, -⟩; have L2 := Lib.hid l2; clear l2 L1) | (refine (L2.out.act ex3 (by decide) (by decide) (by decide) (by decide)).mono ?_; rintro e w5 ⟨rfl, l3, -⟩; have L3 := Lib.hid l3; clear l3 L2) | (refine (L3.out.act ex4 (by decide) (by decide) (by decide) (by decide)).mono ?_; rintro e w6 ⟨rfl, l4, -⟩; have L4 := Lib.hid l4; clear l4 L3)))
  go_ret
  exact ⟨rfl, L4.out.below⟩
end Go.Proofs.Ytmamocdkmmkkjaa
