/- CpuKeeps: nothing changes. -/
import Derived.Test.YtnghhkageiceaaaDoorKeepL
import Derived.Test.YtnghhkageiceaaaDoorCpuTwo
import Derived.Test.YtnghhkageiceaaaDoorCpuEnc
import Derived.Test.YtnghhkageiceaaaDoorCpuArg
import Derived.BigQuiet
namespace Go.Proofs.YtnghhkageiceaaaDoor
open Go Go.RowKit Go.Lib Go.Proofs.YtnghhkageiceaaaDoor.Pl
set_option linter.unusedVariables false
set_option linter.unusedSimpArgs false
attribute [local go_sem ↓] exec_load_cpu exec_store_cpu

theorem two_mk (w : World) (A B : Array Value) (ta tb : TypeId) : Blk ((w.alloc (.cells A ta)).alloc (.cells B tb)) w.heap.size A ta ∧ Blk ((w.alloc (.cells A ta)).alloc (.cells B tb)) (w.heap.size + 1) B tb ∧ w.heap.size + 2 ≤ ((w.alloc (.cells A ta)).alloc (.cells B tb)).heap.size ∧ Below w.heap.size w ((w.alloc (.cells A ta)).alloc (.cells B tb)) := by
  have h2 := Blk.new (w.alloc (.cells A ta)) B tb
  simp only [World.size_alloc] at h2
  exact ⟨(Blk.new w A ta).old _, h2, by simp, ((Below.refl _ _).alloc (Nat.le_refl _) _).alloc (by simp) _⟩
theorem kenc_ok {f : Int} {u v : Bool} {a b op c n : Int} (hr : rightB f u v a b op c n = true) (w : World) (hT : Tab w) :
    Calls Tryd.prog 16 #[.agg #[.int .i64 f, .bool u, .bool v, .int .i64 a, .int .i64 b, .int .i64 op, .int .i64 c, .int .i64 n]] w fun e w' => e = .returned (.tuple #[.int .u32 (encR f u v a b op c n), .int .i64 0]) ∧ Below w.heap.size w w' := by
  have := enc_any f u v a b op c n w hT
  rw [show encE f u v a b op c n = 0 from by unfold encE; rw [hr]; rfl] at this
  exact this
theorem kenc_no {f : Int} {u v : Bool} {a b op c n : Int} (hr : rightB f u v a b op c n = false) (w : World) (hT : Tab w) :
    Calls Tryd.prog 16 #[.agg #[.int .i64 f, .bool u, .bool v, .int .i64 a, .int .i64 b, .int .i64 op, .int .i64 c, .int .i64 n]] w fun e w' => e = .returned (.tuple #[.int .u32 (encR f u v a b op c n), .int .i64 20]) ∧ Below w.heap.size w w' := by
  have := enc_any f u v a b op c n w hT
  rw [show encE f u v a b op c n = 20 from by unfold encE; rw [hr]; rfl] at this
  exact this
theorem kexec_is {cs X : Array Value} {f : Int} {u v : Bool} {a b op c n l m : Int} {t : Bool} (hx : exV cs f u v a b op c n l = (X, m, t)) (hc : CpuOk cs) (h0 : 0 ≤ l) (h1 : l < 4294967296) (w : World) (hT : Tab w) :
    Calls Tryd.prog 18 #[.agg cs, .agg #[.int .i64 f, .bool u, .bool v, .int .i64 a, .int .i64 b, .int .i64 op, .int .i64 c, .int .i64 n], .int .u32 l] w fun e w' => e = .returned (.tuple #[.agg X, .int .i64 m, .bool t]) ∧ Below w.heap.size w w' := by
  have := exec_any cs hc f u v a b op c n l h0 h1 w hT
  unfold ExecIs at this
  rw [hx] at this
  exact this
set_option maxRecDepth 100000 in
set_option maxHeartbeats 1000000 in
theorem keeps_no (cs : Array Value) (hc : CpuOk cs) (f : Int) (u v : Bool) (a b op c n l m : Int) (h0 : 0 ≤ l) (h1 : l < 4294967296) (hr : rightB f u v a b op c n = false) (hx : exV cs f u v a b op c n l = (cs, 0, false)) (w : World) (hT : Tab w) :
    Calls Tryd.prog 9 #[.agg cs, .agg #[.int .i64 f, .bool u, .bool v, .int .i64 a, .int .i64 b, .int .i64 op, .int .i64 c, .int .i64 n], .int .u32 l] w fun e w' => e = .returned (.bool true) ∧ Below w.heap.size w w' := by
  have hxo := hc
  have HR := Lib.hid hr
  clear hr
  have HT : Hid (∀ W, Below w.heap.size w W → Tab W) := fun W hB => hT.below hB hT.lt
  have HC := Lib.hid hc
  have HXO := Lib.hid hxo
  have HX := Lib.hid hx
  clear hT hc hxo hx
  go_enter Tryd.func9, Tryd.ntmps9
  go_upto_region 1 with fail
  obtain ⟨k0, k1, ks, kb⟩ := two_mk w cs #[.int .i64 f, .bool u, .bool v, .int .i64 a, .int .i64 b, .int .i64 op, .int .i64 c, .int .i64 n] 25 33
  have K0 := Lib.hid k0
  have K1 := Lib.hid k1
  have KS := Lib.hid ks
  have KB := Lib.hid kb
  clear k0 k1 ks kb
  generalize (w.alloc (.cells cs 25)).alloc (.cells #[.int .i64 f, .bool u, .bool v, .int .i64 a, .int .i64 b, .int .i64 op, .int .i64 c, .int .i64 n] 33) = W0 at K0 K1 KS KB ⊢
  go_upto_region 2 with (go_at_call 15; refine (shown_any _ (HT.out _ KB.out)).mono ?_; rintro e w1 ⟨rfl, hb1⟩; have A0 := Lib.hid (K0.out.step hb1); have A1 := Lib.hid (K1.out.step hb1); have AS := Lib.hid (Nat.le_trans KS.out hb1.size); have AB := Lib.hid (KB.out.trans (hb1.mono KB.out.size)); clear hb1)
  clear K0 K1 KS KB
  obtain ⟨i0, i1, i2, i3, i4, i5, i6, i7⟩ := insCells A1.out
  go_upto_region 3 with (go_at_call 16; refine (kenc_no HR.out _ (HT.out _ AB.out)).mono ?_; rintro e w2 ⟨rfl, hb1⟩; have B0 := Lib.hid (A0.out.step hb1); have B1 := Lib.hid (A1.out.step hb1); have BS := Lib.hid (Nat.le_trans AS.out hb1.size); have BB := Lib.hid (AB.out.trans (hb1.mono AB.out.size)); clear hb1)
  clear A0 A1 AS AB i0 i1 i2 i3 i4 i5 i6 i7
  have hlc := load_cpu B0.out HC.out.size
  obtain ⟨i0, i1, i2, i3, i4, i5, i6, i7⟩ := insCells B1.out
  go_upto_region 4 with (go_at_call 18; refine (kexec_is HX.out HC.out h0 h1 _ (HT.out _ BB.out)).mono ?_; rintro e w3 ⟨rfl, hb1⟩; have C0 := Lib.hid ((B0.out.step hb1).old (.cells cs 25)); have C1 := Lib.hid ((B1.out.step hb1).old (.cells cs 25)); have C2 := Lib.hid (Blk.new w3 cs 25); have CS := Lib.hid (Nat.le_trans BS.out hb1.size); have CB := Lib.hid ((BB.out.trans (hb1.mono BB.out.size)).alloc (Nat.le_trans BB.out.size hb1.size) (.cells cs 25)); have hst := store_new (w := w3) (Z := #[.int .u32 0, .int .u32 0, .int .u32 0, .int .u32 0, .int .u32 0, .int .u32 0, .int .u32 0, .int .u32 0, .int .u32 0, .int .u32 0, .int .u32 0, .int .u32 0, .int .u32 0, .int .u32 0, .int .u32 0, .int .u32 0, .int .u32 0, .bool false, .bool false, .bool false, .bool false, .int .u32 0]) (t := 25) rfl HXO.out.size HXO.out.one; clear hb1)
  clear B0 B1 BS BB i0 i1 i2 i3 i4 i5 i6 i7 hlc hst
  obtain ⟨g10, hg⟩ : ∃ g, w3.heap.size = g := ⟨_, rfl⟩
  rw [hg] at C2 CS ⊢
  clear hg
  generalize w3.alloc (.cells cs 25) = W at C0 C1 C2 CB ⊢
  have hlc := load_cpu C0.out HC.out.size
  have hlx := load_cpu C2.out HC.out.size
  have heq := fun w => run_eql_cpu HC.out w
  go_wp2_with fail
  go_ret
  exact ⟨rfl, CB.out⟩
set_option maxRecDepth 100000 in
set_option maxHeartbeats 1000000 in
theorem keeps_trap (cs : Array Value) (hc : CpuOk cs) (f : Int) (u v : Bool) (a b op c n l m : Int) (h0 : 0 ≤ l) (h1 : l < 4294967296) (hr : rightB f u v a b op c n = true) (hx : exV cs f u v a b op c n l = (cs, m, true)) (w : World) (hT : Tab w) :
    Calls Tryd.prog 9 #[.agg cs, .agg #[.int .i64 f, .bool u, .bool v, .int .i64 a, .int .i64 b, .int .i64 op, .int .i64 c, .int .i64 n], .int .u32 l] w fun e w' => e = .returned (.bool true) ∧ Below w.heap.size w w' := by
  have hxo := hc
  have HR := Lib.hid hr
  clear hr
  have HT : Hid (∀ W, Below w.heap.size w W → Tab W) := fun W hB => hT.below hB hT.lt
  have HC := Lib.hid hc
  have HXO := Lib.hid hxo
  have HX := Lib.hid hx
  clear hT hc hxo hx
  go_enter Tryd.func9, Tryd.ntmps9
  go_upto_region 1 with fail
  obtain ⟨k0, k1, ks, kb⟩ := two_mk w cs #[.int .i64 f, .bool u, .bool v, .int .i64 a, .int .i64 b, .int .i64 op, .int .i64 c, .int .i64 n] 25 33
  have K0 := Lib.hid k0
  have K1 := Lib.hid k1
  have KS := Lib.hid ks
  have KB := Lib.hid kb
  clear k0 k1 ks kb
  generalize (w.alloc (.cells cs 25)).alloc (.cells #[.int .i64 f, .bool u, .bool v, .int .i64 a, .int .i64 b, .int .i64 op, .int .i64 c, .int .i64 n] 33) = W0 at K0 K1 KS KB ⊢
  go_upto_region 2 with (go_at_call 15; refine (shown_any _ (HT.out _ KB.out)).mono ?_; rintro e w1 ⟨rfl, hb1⟩; have A0 := Lib.hid (K0.out.step hb1); have A1 := Lib.hid (K1.out.step hb1); have AS := Lib.hid (Nat.le_trans KS.out hb1.size); have AB := Lib.hid (KB.out.trans (hb1.mono KB.out.size)); clear hb1)
  clear K0 K1 KS KB
  obtain ⟨i0, i1, i2, i3, i4, i5, i6, i7⟩ := insCells A1.out
  go_upto_region 3 with (go_at_call 16; refine (kenc_ok HR.out _ (HT.out _ AB.out)).mono ?_; rintro e w2 ⟨rfl, hb1⟩; have B0 := Lib.hid (A0.out.step hb1); have B1 := Lib.hid (A1.out.step hb1); have BS := Lib.hid (Nat.le_trans AS.out hb1.size); have BB := Lib.hid (AB.out.trans (hb1.mono AB.out.size)); clear hb1)
  clear A0 A1 AS AB i0 i1 i2 i3 i4 i5 i6 i7
  have hlc := load_cpu B0.out HC.out.size
  obtain ⟨i0, i1, i2, i3, i4, i5, i6, i7⟩ := insCells B1.out
  go_upto_region 4 with (go_at_call 18; refine (kexec_is HX.out HC.out h0 h1 _ (HT.out _ BB.out)).mono ?_; rintro e w3 ⟨rfl, hb1⟩; have C0 := Lib.hid ((B0.out.step hb1).old (.cells cs 25)); have C1 := Lib.hid ((B1.out.step hb1).old (.cells cs 25)); have C2 := Lib.hid (Blk.new w3 cs 25); have CS := Lib.hid (Nat.le_trans BS.out hb1.size); have CB := Lib.hid ((BB.out.trans (hb1.mono BB.out.size)).alloc (Nat.le_trans BB.out.size hb1.size) (.cells cs 25)); have hst := store_new (w := w3) (Z := #[.int .u32 0, .int .u32 0, .int .u32 0, .int .u32 0, .int .u32 0, .int .u32 0, .int .u32 0, .int .u32 0, .int .u32 0, .int .u32 0, .int .u32 0, .int .u32 0, .int .u32 0, .int .u32 0, .int .u32 0, .int .u32 0, .int .u32 0, .bool false, .bool false, .bool false, .bool false, .int .u32 0]) (t := 25) rfl HXO.out.size HXO.out.one; clear hb1)
  clear B0 B1 BS BB i0 i1 i2 i3 i4 i5 i6 i7 hlc hst
  obtain ⟨g10, hg⟩ : ∃ g, w3.heap.size = g := ⟨_, rfl⟩
  rw [hg] at C2 CS ⊢
  clear hg
  generalize w3.alloc (.cells cs 25) = W at C0 C1 C2 CB ⊢
  have hlc := load_cpu C0.out HC.out.size
  have hlx := load_cpu C2.out HC.out.size
  have heq := fun w => run_eql_cpu HC.out w
  go_wp2_with fail
  go_ret
  exact ⟨rfl, CB.out⟩
end Go.Proofs.YtnghhkageiceaaaDoor
