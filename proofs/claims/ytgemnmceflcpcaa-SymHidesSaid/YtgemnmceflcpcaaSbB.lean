/- The document's Encode: where it stands. -/
import Derived.Test.YtgemnmceflcpcaaSbA
namespace Go.Proofs.Ytgemnmceflcpcaa
open Go Go.RowKit Go.Lib Go.Proofs.Ytgemnmceflcpcaa.Sy
set_option linter.unusedVariables false
set_option linter.unusedSimpArgs false
/-- The symbols' box lies; u is bytes of the call's own, from block B on. -/
structure EncI (w0 : World) (X : Array Value) (B : Nat) (wx : World) (u : Value) (l : List Int) : Prop where
  box : Blk wx w0.heap.size X 26
  low : w0.heap.size < B
  own : OwnB wx B u l
  bel : Below w0.heap.size w0 wx
section
variable {w0 wx w' : World} {X : Array Value} {B : Nat} {u v : Value} {l l' : List Int}
theorem EncI.inb (h : EncI w0 X B wx u l) : InB wx u l := InB.own h.own
theorem EncI.weak {B' : Nat} (h : EncI w0 X B wx u l) (hB : B' ≤ B) (hl : w0.heap.size < B') : EncI w0 X B' wx u l := ⟨h.box, hl, own_weak h.own hB, h.bel⟩
theorem EncI.alloc (h : EncI w0 X B wx u l) (o : Obj) : EncI w0 X B (wx.alloc o) u l := ⟨h.box.old o, h.low, own_one wx h.own o, h.bel.alloc h.bel.size o⟩
theorem EncI.step (h : EncI w0 X B wx u l) (hb : Below wx.heap.size wx w') : EncI w0 X B w' u l := ⟨h.box.step hb, h.low, own_below h.own hb, h.bel.trans (hb.mono h.bel.size)⟩
theorem EncI.new (h : EncI w0 X B wx u l) (ho : OwnB w' wx.heap.size v l') (hb : Below wx.heap.size wx w') : EncI w0 X wx.heap.size w' v l' := ⟨h.box.step hb, h.box.lt, ho, h.bel.trans (hb.mono h.bel.size)⟩
theorem EncI.side (h : EncI w0 X B wx u l) (ht : Touch wx w' u.ownBlock.toList) {gc : Nat} {Y : Array Value} {t : TypeId} (hk : Blk wx gc Y t) (hg : gc < B) : Blk w' gc Y t :=
  ht.blk hk (fun hm => by simp only [Option.mem_toList, Option.mem_def] at hm; have := (own_lt h.own _ hm).2; omega)
theorem EncI.app (h : EncI w0 X B wx u l) (ho : OwnB w' B v l') (ht : Touch wx w' u.ownBlock.toList) : EncI w0 X B w' v l' :=
  ⟨h.side ht h.box h.low, h.low, ho, h.bel.trans (ht.below h.bel.size (fun g hm => by simp only [Option.mem_toList, Option.mem_def] at hm; have := (own_lt h.own _ hm).2; have := h.low; omega))⟩
end
theorem wrdB_mod (n : Int) : wrdB (n % 4294967296) = wrdB n := by
  unfold wrdB
  congr 1
  · omega
  congr 1
  · omega
  congr 1
  · omega
  congr 1
  omega
theorem own_slice {w : World} {B : Nat} {v : Value} {l : List Int} (h : OwnB w B v l) : ∃ A c, v = .slice A l.length c ∧ (A = none → c = 0) := by
  obtain ⟨A, c, e, _⟩ := bytes_form (own_bytes h)
  exact ⟨A, c, e, fun h0 => by subst h0; exact (InB.own h).none c e⟩
end Go.Proofs.Ytgemnmceflcpcaa
