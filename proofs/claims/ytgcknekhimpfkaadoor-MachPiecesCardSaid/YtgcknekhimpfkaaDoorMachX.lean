/- Two machines: made one behind the other; their disks. -/
import Derived.Test.YtgcknekhimpfkaaDoorMachO
import Derived.Test.YtgcknekhimpfkaaDoorMachL
import Derived.Test.YtgcknekhimpfkaaDoorDiskM
import Derived.Deep.QuietTactic
import Derived.BigQuiet
import Derived.Deep.RegionHeld3
namespace Go.Proofs.YtgcknekhimpfkaaDoor
open Go Go.RowKit Go.Lib Go.Proofs.YtgcknekhimpfkaaDoor.Pl
set_option linter.unusedVariables false
set_option linter.unusedSimpArgs false
theorem wpAnyH_strong2 {P : Program} {md : Region.Mode} {ops : Array Oper} {Q : Exit → Act → World → Prop} {S S' : World → Prop} (h : ∀ w, S' w → S w) :
    ∀ (fuel : Nat) (listed : Array Bool) (a : Act) (w : World), wpAnyH P md ops Q S' fuel listed a w → wpAnyH P md ops Q S fuel listed a w
  | 0, _, _, _, k => k
  | fuel + 1, _, _, _, k => ⟨k.1, fun i hi => wpOp_mono (fun a' w' hh => ⟨h w' hh.1, wpAnyH_strong2 h fuel _ a' w' hh.2⟩) (k.2 i hi)⟩
/-- A block beside both machines. -/
structure Box (w : World) (m : Nat) (v : BV) (n : Nat) (u : BV) (g : Nat) (X : Array Value) (t : TypeId) : Prop where
  blk : Blk w g X t
  fa : g ∉ m :: brow v
  fb : g ∉ n :: brow u
section
variable {w0 w w' : World} {b c m n : Nat} {v v' u u' : BV} {x x' z z' : BS} {y y' t t' : MC}
theorem Box.swap {g : Nat} {X : Array Value} {ty : TypeId} (B : Box w m v n u g X ty) : Box w n u m v g X ty := ⟨B.blk, B.fb, B.fa⟩
theorem Box.opA {g : Nat} {X : Array Value} {ty : TypeId} (B : Box w m v n u g X ty) (h : MMoves w w' m v v') : Box w' m v' n u g X ty := ⟨(h.t.block _ B.blk.lt B.fa).trans B.blk, h.free B.blk.lt B.fa, B.fb⟩
theorem Box.step {g : Nat} {X : Array Value} {ty : TypeId} (B : Box w m v n u g X ty) (h : Below w.heap.size w w') : Box w' m v n u g X ty := ⟨B.blk.step h, B.fa, B.fb⟩
theorem Box.new (T : Two w0 w b m v x y c n u z t) (X : Array Value) (ty : TypeId) : Box (w.alloc (.cells X ty)) m v n u w.heap.size X ty :=
  ⟨Blk.new w X ty, fun h => by have := (T.ma.rows _ h).2; omega, fun h => by have := (T.mb.rows _ h).2; omega⟩
theorem Two.mk2 (O : Own1 w0 w b m v x y) (M : MachAt w' c n u z t) (hb : Below w.heap.size w w') (hc : w.heap.size ≤ c) : Two w0 w' b m v x y c n u z t :=
  ⟨O.a.step hb, M, O.below.trans (hb.mono O.below.size), O.lo, Nat.le_trans O.below.size hc, fun g hg hn => by
    have := (O.a.rows g hg).2
    have := (M.rows g hn).1
    omega⟩
theorem Two.imageA (T : Two w0 w b m v x y c n u z t) : Calls Tryd.prog 21 #[.pointer (some ⟨v.d, 0, none⟩)] w fun e w' => ∃ q, e = .returned q ∧ BytesRow w' w.heap.size q (imgL x.sec x.N) ∧ Two w0 w' b m v x y c n u z t ∧ Below w.heap.size w w' :=
  (image_any T.ma.bus.disk).mono fun e w' ⟨q, h1, h2, h3⟩ => ⟨q, h1, h2, T.step h3, h3⟩
theorem Two.writesA (T : Two w0 w b m v x y c n u z t) : Calls Tryd.prog 20 #[.pointer (some ⟨v.d, 0, none⟩)] w fun e w' => ∃ a c', e = .returned (.slice a x.ws.length c') ∧ Two w0 w' b m v x y c n u z t ∧ Below w.heap.size w w' :=
  (bwrites_any T.ma.bus).mono fun e w' ⟨a, c', h1, h2⟩ => ⟨a, c', h1, T.step h2, h2⟩
theorem Two.setRow {g : Nat} {X : Array Value} {ty : TypeId} (T : Two w0 w b m v x y c n u z t) (B : Box w m v n u g X ty) (hg : w0.heap.size ≤ g) (X' : Array Value) : Two w0 (w.setRow g X') b m v x y c n u z t :=
  ⟨(T.ma.setRow g X' (fun h => B.fa (h ▸ List.mem_cons_self)) (fun h => B.fa (List.mem_cons_of_mem _ h))).1, (T.mb.setRow g X' (fun h => B.fb (h ▸ List.mem_cons_self)) (fun h => B.fb (List.mem_cons_of_mem _ h))).1,
   T.below.trans ((mtouch_row w g X').below T.below.size (fun k hk => by rw [show k = g from by simpa using hk]; exact hg)), T.la, T.lb, T.ap⟩
theorem Box.setRow {g : Nat} {X : Array Value} {ty : TypeId} (B : Box w m v n u g X ty) (X' : Array Value) : Box (w.setRow g X') m v n u g X' ty := ⟨B.blk.setRow X', B.fa, B.fb⟩
end
end Go.Proofs.YtgcknekhimpfkaaDoor
