/- CpuKeeps: keeps_0 -/
import Derived.Test.YtnghhkageiceaaaDoorKpA
import Derived.BigQuiet
namespace Go.Proofs.YtnghhkageiceaaaDoor
open Go Go.RowKit Go.Lib Go.Proofs.YtnghhkageiceaaaDoor.Pl
set_option linter.unusedVariables false
set_option linter.unusedSimpArgs false
attribute [local go_sem ↓] exec_load_cpu exec_store_cpu
set_option maxRecDepth 100000 in
set_option maxHeartbeats 1000000 in
theorem keeps_0_8 (cs X : Array Value) (hc : CpuOk cs) (hxo : CpuOk X) (u v : Bool) (a : Nat) (ha : a ≤ 15) (b c n l : Int) (h0 : 0 ≤ l) (h1 : l < 4294967296) (hr : rightB 0 u v a b 8 c n = true) (hx : exV cs 0 u v a b 8 c n l = (X, 0, false)) (hk : Kept cs X 0 u v a 8) (w : World) (hT : Tab w) :
    Calls Tryd.prog 9 #[.agg cs, .agg #[.int .i64 0, .bool u, .bool v, .int .i64 a, .int .i64 b, .int .i64 8, .int .i64 c, .int .i64 n], .int .u32 l] w fun e w' => e = .returned (.bool true) ∧ Below w.heap.size w w' := by
  have HR := Lib.hid hr
  have HK := Lib.hid hk
  clear hr hk
  have HT : Hid (∀ W, Below w.heap.size w W → Tab W) := fun W hB => hT.below hB hT.lt
  have HC := Lib.hid hc
  have HXO := Lib.hid hxo
  have HX := Lib.hid hx
  clear hT hc hxo hx
  go_enter Tryd.func9, Tryd.ntmps9
  go_upto_region 1 with fail
  obtain ⟨k0, k1, ks, kb⟩ := two_mk w cs #[.int .i64 0, .bool u, .bool v, .int .i64 a, .int .i64 b, .int .i64 8, .int .i64 c, .int .i64 n] 25 33
  have K0 := Lib.hid k0
  have K1 := Lib.hid k1
  have KS := Lib.hid ks
  have KB := Lib.hid kb
  clear k0 k1 ks kb
  generalize (w.alloc (.cells cs 25)).alloc (.cells #[.int .i64 0, .bool u, .bool v, .int .i64 a, .int .i64 b, .int .i64 8, .int .i64 c, .int .i64 n] 33) = W0 at K0 K1 KS KB ⊢
  go_upto_region 2 with (go_at_call 15; refine (shown_any _ (HT.out _ KB.out)).mono ?_; rintro e w1 ⟨rfl, hb1⟩; have A0 := Lib.hid (K0.out.step hb1); have A1 := Lib.hid (K1.out.step hb1); have AS := Lib.hid (Nat.le_trans KS.out hb1.size); have AB := Lib.hid (KB.out.trans (hb1.mono KB.out.size)); clear hb1)
  clear K0 K1 KS KB
  obtain ⟨i0, i1, i2, i3, i4, i5, i6, i7⟩ := insCells A1.out
  go_upto_region 3 with (go_at_call 16; refine (kenc_ok HR.out _ (HT.out _ AB.out)).mono ?_; rintro e w2 ⟨rfl, hb1⟩; have B0 := Lib.hid (A0.out.step hb1); have B1 := Lib.hid (A1.out.step hb1); have BS := Lib.hid (Nat.le_trans AS.out hb1.size); have BB := Lib.hid (AB.out.trans (hb1.mono AB.out.size)); clear hb1)
  clear A0 A1 AS AB i0 i1 i2 i3 i4 i5 i6 i7
  have hlc := load_cpu B0.out HC.out.size
  obtain ⟨i0, i1, i2, i3, i4, i5, i6, i7⟩ := insCells B1.out
  go_upto_region 4 with (go_at_call 18; refine (kexec_is HX.out HC.out h0 h1 _ (HT.out _ BB.out)).mono ?_; rintro e w3 ⟨rfl, hb1⟩; have C0 := Lib.hid ((B0.out.step hb1).old (.cells X 25)); have C1 := Lib.hid ((B1.out.step hb1).old (.cells X 25)); have C2 := Lib.hid (Blk.new w3 X 25); have CS := Lib.hid (Nat.le_trans BS.out hb1.size); have CB := Lib.hid ((BB.out.trans (hb1.mono BB.out.size)).alloc (Nat.le_trans BB.out.size hb1.size) (.cells X 25)); have hst := store_new (w := w3) (Z := #[.int .u32 0, .int .u32 0, .int .u32 0, .int .u32 0, .int .u32 0, .int .u32 0, .int .u32 0, .int .u32 0, .int .u32 0, .int .u32 0, .int .u32 0, .int .u32 0, .int .u32 0, .int .u32 0, .int .u32 0, .int .u32 0, .int .u32 0, .bool false, .bool false, .bool false, .bool false, .int .u32 0]) (t := 25) rfl HXO.out.size HXO.out.one; clear hb1)
  clear B0 B1 BS BB i0 i1 i2 i3 i4 i5 i6 i7 hlc hst
  obtain ⟨g10, hg⟩ : ∃ g, w3.heap.size = g := ⟨_, rfl⟩
  rw [hg] at C2 CS ⊢
  clear hg
  generalize w3.alloc (.cells X 25) = W at C0 C1 C2 CB ⊢
  obtain ⟨i0, i1, i2, i3, i4, i5, i6, i7⟩ := insCells C1.out
  go_upto_region 14 with fail
  clear i0 i1 i2 i3 i4 i5 i6 i7
  go_loopw [14] (fun i wr => ∃ k : Nat, k ≤ 16 ∧ i = .int .i64 k ∧ Hid (Below w.heap.size w wr) ∧ Hid (Blk wr w.heap.size cs 25) ∧ Hid (Blk wr (w.heap.size + 1) #[.int .i64 0, .bool u, .bool v, .int .i64 a, .int .i64 b, .int .i64 8, .int .i64 c, .int .i64 n] 33) ∧ Hid (Blk wr g10 X 25)) (fun i _ => 16 - (intOf i).toNat)
  case atStart => exact ⟨0, by omega, rfl, CB, C0, C1, C2⟩
  case round =>
    obtain ⟨k, hkk, rfl, HB, H0, H1, H2⟩ := hrel
    by_cases hlt : k < 16
    · obtain ⟨r0, _, _⟩ := HC.out.rg hlt
      obtain ⟨r1, _, _⟩ := HXO.out.rg hlt
      have d0 := (H0.out.cell k).trans r0
      have d1 := (H2.out.cell k).trans r1
      clear r0 r1
      by_cases hq : (k : Int) = (a : Int)
      · have hd : decide ((k : Int) = (a : Int)) = true := decide_eq_true hq
        go_upto_region 16 with fail
        go_quiet (fail)
        go_wp2_with fail
        go_roundw
        case rel => exact ⟨k + 1, by omega, by go_num, belN HB.out _, H0.out.drewN _, H1.out.drewN _, H2.out.drewN _⟩
        case measure => simp [intOf]; omega
      · have hd : decide ((k : Int) = (a : Int)) = false := decide_eq_false hq
        rw [HK.out.regs k hlt (by simp [getsV]; omega)] at d1
        go_upto_region 16 with fail
        go_quiet (fail)
        go_wp2_with fail
        go_roundw
        case rel => exact ⟨k + 1, by omega, by go_num, belN HB.out _, H0.out.drewN _, H1.out.drewN _, H2.out.drewN _⟩
        case measure => simp [intOf]; omega
    · have : k = 16 := by omega
      subst this
      obtain ⟨i0, i1, i2, i3, i4, i5, i6, i7⟩ := insCells H1.out
      have e16 := (H0.out.cell 16).trans HC.out.hV.1
      have e17 := (H0.out.cell 17).trans HC.out.nV
      have e18 := (H0.out.cell 18).trans HC.out.zV
      have e19 := (H0.out.cell 19).trans HC.out.cV
      have e20 := (H0.out.cell 20).trans HC.out.vV
      have e21 := (H0.out.cell 21).trans HC.out.pcV.1
      have x16 := (H2.out.cell 16).trans HXO.out.hV.1
      have x17 := (H2.out.cell 17).trans HXO.out.nV
      have x18 := (H2.out.cell 18).trans HXO.out.zV
      have x19 := (H2.out.cell 19).trans HXO.out.cV
      have x20 := (H2.out.cell 20).trans HXO.out.vV
      have x21 := (H2.out.cell 21).trans HXO.out.pcV.1
      rw [HK.out.h (by simp)] at x16
      rw [HK.out.pc (by omega)] at x21
      unfold nextV at x21
      have km := HK.out.made (by simp)
      rw [show (a : Int).toNat = a from rfl] at km
      rw [km.1] at x17
      rw [km.2] at x18
      clear km
      obtain ⟨r1, _, _⟩ := HXO.out.rg (k := a) (by omega)
      have xa := (H2.out.cell a).trans r1
      clear r1
      go_upto_region 24 with fail
      have hz : (decide (rgV X a = 0) == (rgV X a == 0)) = true := by by_cases h : rgV X a = 0 <;> simp [h]
      go_quiet (fail)
      go_wp2_with fail
      go_ret
      exact ⟨rfl, belN HB.out _⟩
set_option maxRecDepth 100000 in
set_option maxHeartbeats 1000000 in
theorem keeps_0_9 (cs X : Array Value) (hc : CpuOk cs) (hxo : CpuOk X) (u v : Bool) (a : Nat) (ha : a ≤ 15) (b c n l : Int) (h0 : 0 ≤ l) (h1 : l < 4294967296) (hr : rightB 0 u v a b 9 c n = true) (hx : exV cs 0 u v a b 9 c n l = (X, 0, false)) (hk : Kept cs X 0 u v a 9) (w : World) (hT : Tab w) :
    Calls Tryd.prog 9 #[.agg cs, .agg #[.int .i64 0, .bool u, .bool v, .int .i64 a, .int .i64 b, .int .i64 9, .int .i64 c, .int .i64 n], .int .u32 l] w fun e w' => e = .returned (.bool true) ∧ Below w.heap.size w w' := by
  have HR := Lib.hid hr
  have HK := Lib.hid hk
  clear hr hk
  have HT : Hid (∀ W, Below w.heap.size w W → Tab W) := fun W hB => hT.below hB hT.lt
  have HC := Lib.hid hc
  have HXO := Lib.hid hxo
  have HX := Lib.hid hx
  clear hT hc hxo hx
  go_enter Tryd.func9, Tryd.ntmps9
  go_upto_region 1 with fail
  obtain ⟨k0, k1, ks, kb⟩ := two_mk w cs #[.int .i64 0, .bool u, .bool v, .int .i64 a, .int .i64 b, .int .i64 9, .int .i64 c, .int .i64 n] 25 33
  have K0 := Lib.hid k0
  have K1 := Lib.hid k1
  have KS := Lib.hid ks
  have KB := Lib.hid kb
  clear k0 k1 ks kb
  generalize (w.alloc (.cells cs 25)).alloc (.cells #[.int .i64 0, .bool u, .bool v, .int .i64 a, .int .i64 b, .int .i64 9, .int .i64 c, .int .i64 n] 33) = W0 at K0 K1 KS KB ⊢
  go_upto_region 2 with (go_at_call 15; refine (shown_any _ (HT.out _ KB.out)).mono ?_; rintro e w1 ⟨rfl, hb1⟩; have A0 := Lib.hid (K0.out.step hb1); have A1 := Lib.hid (K1.out.step hb1); have AS := Lib.hid (Nat.le_trans KS.out hb1.size); have AB := Lib.hid (KB.out.trans (hb1.mono KB.out.size)); clear hb1)
  clear K0 K1 KS KB
  obtain ⟨i0, i1, i2, i3, i4, i5, i6, i7⟩ := insCells A1.out
  go_upto_region 3 with (go_at_call 16; refine (kenc_ok HR.out _ (HT.out _ AB.out)).mono ?_; rintro e w2 ⟨rfl, hb1⟩; have B0 := Lib.hid (A0.out.step hb1); have B1 := Lib.hid (A1.out.step hb1); have BS := Lib.hid (Nat.le_trans AS.out hb1.size); have BB := Lib.hid (AB.out.trans (hb1.mono AB.out.size)); clear hb1)
  clear A0 A1 AS AB i0 i1 i2 i3 i4 i5 i6 i7
  have hlc := load_cpu B0.out HC.out.size
  obtain ⟨i0, i1, i2, i3, i4, i5, i6, i7⟩ := insCells B1.out
  go_upto_region 4 with (go_at_call 18; refine (kexec_is HX.out HC.out h0 h1 _ (HT.out _ BB.out)).mono ?_; rintro e w3 ⟨rfl, hb1⟩; have C0 := Lib.hid ((B0.out.step hb1).old (.cells X 25)); have C1 := Lib.hid ((B1.out.step hb1).old (.cells X 25)); have C2 := Lib.hid (Blk.new w3 X 25); have CS := Lib.hid (Nat.le_trans BS.out hb1.size); have CB := Lib.hid ((BB.out.trans (hb1.mono BB.out.size)).alloc (Nat.le_trans BB.out.size hb1.size) (.cells X 25)); have hst := store_new (w := w3) (Z := #[.int .u32 0, .int .u32 0, .int .u32 0, .int .u32 0, .int .u32 0, .int .u32 0, .int .u32 0, .int .u32 0, .int .u32 0, .int .u32 0, .int .u32 0, .int .u32 0, .int .u32 0, .int .u32 0, .int .u32 0, .int .u32 0, .int .u32 0, .bool false, .bool false, .bool false, .bool false, .int .u32 0]) (t := 25) rfl HXO.out.size HXO.out.one; clear hb1)
  clear B0 B1 BS BB i0 i1 i2 i3 i4 i5 i6 i7 hlc hst
  obtain ⟨g10, hg⟩ : ∃ g, w3.heap.size = g := ⟨_, rfl⟩
  rw [hg] at C2 CS ⊢
  clear hg
  generalize w3.alloc (.cells X 25) = W at C0 C1 C2 CB ⊢
  obtain ⟨i0, i1, i2, i3, i4, i5, i6, i7⟩ := insCells C1.out
  go_upto_region 14 with fail
  clear i0 i1 i2 i3 i4 i5 i6 i7
  go_loopw [14] (fun i wr => ∃ k : Nat, k ≤ 16 ∧ i = .int .i64 k ∧ Hid (Below w.heap.size w wr) ∧ Hid (Blk wr w.heap.size cs 25) ∧ Hid (Blk wr (w.heap.size + 1) #[.int .i64 0, .bool u, .bool v, .int .i64 a, .int .i64 b, .int .i64 9, .int .i64 c, .int .i64 n] 33) ∧ Hid (Blk wr g10 X 25)) (fun i _ => 16 - (intOf i).toNat)
  case atStart => exact ⟨0, by omega, rfl, CB, C0, C1, C2⟩
  case round =>
    obtain ⟨k, hkk, rfl, HB, H0, H1, H2⟩ := hrel
    by_cases hlt : k < 16
    · obtain ⟨r0, _, _⟩ := HC.out.rg hlt
      obtain ⟨r1, _, _⟩ := HXO.out.rg hlt
      have d0 := (H0.out.cell k).trans r0
      have d1 := (H2.out.cell k).trans r1
      clear r0 r1
      by_cases hq : (k : Int) = (a : Int)
      · have hd : decide ((k : Int) = (a : Int)) = true := decide_eq_true hq
        go_upto_region 16 with fail
        go_quiet (fail)
        go_wp2_with fail
        go_roundw
        case rel => exact ⟨k + 1, by omega, by go_num, belN HB.out _, H0.out.drewN _, H1.out.drewN _, H2.out.drewN _⟩
        case measure => simp [intOf]; omega
      · have hd : decide ((k : Int) = (a : Int)) = false := decide_eq_false hq
        rw [HK.out.regs k hlt (by simp [getsV]; omega)] at d1
        go_upto_region 16 with fail
        go_quiet (fail)
        go_wp2_with fail
        go_roundw
        case rel => exact ⟨k + 1, by omega, by go_num, belN HB.out _, H0.out.drewN _, H1.out.drewN _, H2.out.drewN _⟩
        case measure => simp [intOf]; omega
    · have : k = 16 := by omega
      subst this
      obtain ⟨i0, i1, i2, i3, i4, i5, i6, i7⟩ := insCells H1.out
      have e16 := (H0.out.cell 16).trans HC.out.hV.1
      have e17 := (H0.out.cell 17).trans HC.out.nV
      have e18 := (H0.out.cell 18).trans HC.out.zV
      have e19 := (H0.out.cell 19).trans HC.out.cV
      have e20 := (H0.out.cell 20).trans HC.out.vV
      have e21 := (H0.out.cell 21).trans HC.out.pcV.1
      have x16 := (H2.out.cell 16).trans HXO.out.hV.1
      have x17 := (H2.out.cell 17).trans HXO.out.nV
      have x18 := (H2.out.cell 18).trans HXO.out.zV
      have x19 := (H2.out.cell 19).trans HXO.out.cV
      have x20 := (H2.out.cell 20).trans HXO.out.vV
      have x21 := (H2.out.cell 21).trans HXO.out.pcV.1
      rw [HK.out.h (by simp)] at x16
      rw [HK.out.pc (by omega)] at x21
      unfold nextV at x21
      have km := HK.out.made (by simp)
      rw [show (a : Int).toNat = a from rfl] at km
      rw [km.1] at x17
      rw [km.2] at x18
      clear km
      obtain ⟨r1, _, _⟩ := HXO.out.rg (k := a) (by omega)
      have xa := (H2.out.cell a).trans r1
      clear r1
      go_upto_region 24 with fail
      have hz : (decide (rgV X a = 0) == (rgV X a == 0)) = true := by by_cases h : rgV X a = 0 <;> simp [h]
      go_quiet (fail)
      go_wp2_with fail
      go_ret
      exact ⟨rfl, belN HB.out _⟩
set_option maxRecDepth 100000 in
set_option maxHeartbeats 1000000 in
theorem keeps_0_10 (cs X : Array Value) (hc : CpuOk cs) (hxo : CpuOk X) (u v : Bool) (a : Nat) (ha : a ≤ 15) (b c n l : Int) (h0 : 0 ≤ l) (h1 : l < 4294967296) (hr : rightB 0 u v a b 10 c n = true) (hx : exV cs 0 u v a b 10 c n l = (X, 0, false)) (hk : Kept cs X 0 u v a 10) (w : World) (hT : Tab w) :
    Calls Tryd.prog 9 #[.agg cs, .agg #[.int .i64 0, .bool u, .bool v, .int .i64 a, .int .i64 b, .int .i64 10, .int .i64 c, .int .i64 n], .int .u32 l] w fun e w' => e = .returned (.bool true) ∧ Below w.heap.size w w' := by
  have HR := Lib.hid hr
  have HK := Lib.hid hk
  clear hr hk
  have HT : Hid (∀ W, Below w.heap.size w W → Tab W) := fun W hB => hT.below hB hT.lt
  have HC := Lib.hid hc
  have HXO := Lib.hid hxo
  have HX := Lib.hid hx
  clear hT hc hxo hx
  go_enter Tryd.func9, Tryd.ntmps9
  go_upto_region 1 with fail
  obtain ⟨k0, k1, ks, kb⟩ := two_mk w cs #[.int .i64 0, .bool u, .bool v, .int .i64 a, .int .i64 b, .int .i64 10, .int .i64 c, .int .i64 n] 25 33
  have K0 := Lib.hid k0
  have K1 := Lib.hid k1
  have KS := Lib.hid ks
  have KB := Lib.hid kb
  clear k0 k1 ks kb
  generalize (w.alloc (.cells cs 25)).alloc (.cells #[.int .i64 0, .bool u, .bool v, .int .i64 a, .int .i64 b, .int .i64 10, .int .i64 c, .int .i64 n] 33) = W0 at K0 K1 KS KB ⊢
  go_upto_region 2 with (go_at_call 15; refine (shown_any _ (HT.out _ KB.out)).mono ?_; rintro e w1 ⟨rfl, hb1⟩; have A0 := Lib.hid (K0.out.step hb1); have A1 := Lib.hid (K1.out.step hb1); have AS := Lib.hid (Nat.le_trans KS.out hb1.size); have AB := Lib.hid (KB.out.trans (hb1.mono KB.out.size)); clear hb1)
  clear K0 K1 KS KB
  obtain ⟨i0, i1, i2, i3, i4, i5, i6, i7⟩ := insCells A1.out
  go_upto_region 3 with (go_at_call 16; refine (kenc_ok HR.out _ (HT.out _ AB.out)).mono ?_; rintro e w2 ⟨rfl, hb1⟩; have B0 := Lib.hid (A0.out.step hb1); have B1 := Lib.hid (A1.out.step hb1); have BS := Lib.hid (Nat.le_trans AS.out hb1.size); have BB := Lib.hid (AB.out.trans (hb1.mono AB.out.size)); clear hb1)
  clear A0 A1 AS AB i0 i1 i2 i3 i4 i5 i6 i7
  have hlc := load_cpu B0.out HC.out.size
  obtain ⟨i0, i1, i2, i3, i4, i5, i6, i7⟩ := insCells B1.out
  go_upto_region 4 with (go_at_call 18; refine (kexec_is HX.out HC.out h0 h1 _ (HT.out _ BB.out)).mono ?_; rintro e w3 ⟨rfl, hb1⟩; have C0 := Lib.hid ((B0.out.step hb1).old (.cells X 25)); have C1 := Lib.hid ((B1.out.step hb1).old (.cells X 25)); have C2 := Lib.hid (Blk.new w3 X 25); have CS := Lib.hid (Nat.le_trans BS.out hb1.size); have CB := Lib.hid ((BB.out.trans (hb1.mono BB.out.size)).alloc (Nat.le_trans BB.out.size hb1.size) (.cells X 25)); have hst := store_new (w := w3) (Z := #[.int .u32 0, .int .u32 0, .int .u32 0, .int .u32 0, .int .u32 0, .int .u32 0, .int .u32 0, .int .u32 0, .int .u32 0, .int .u32 0, .int .u32 0, .int .u32 0, .int .u32 0, .int .u32 0, .int .u32 0, .int .u32 0, .int .u32 0, .bool false, .bool false, .bool false, .bool false, .int .u32 0]) (t := 25) rfl HXO.out.size HXO.out.one; clear hb1)
  clear B0 B1 BS BB i0 i1 i2 i3 i4 i5 i6 i7 hlc hst
  obtain ⟨g10, hg⟩ : ∃ g, w3.heap.size = g := ⟨_, rfl⟩
  rw [hg] at C2 CS ⊢
  clear hg
  generalize w3.alloc (.cells X 25) = W at C0 C1 C2 CB ⊢
  obtain ⟨i0, i1, i2, i3, i4, i5, i6, i7⟩ := insCells C1.out
  go_upto_region 14 with fail
  clear i0 i1 i2 i3 i4 i5 i6 i7
  go_loopw [14] (fun i wr => ∃ k : Nat, k ≤ 16 ∧ i = .int .i64 k ∧ Hid (Below w.heap.size w wr) ∧ Hid (Blk wr w.heap.size cs 25) ∧ Hid (Blk wr (w.heap.size + 1) #[.int .i64 0, .bool u, .bool v, .int .i64 a, .int .i64 b, .int .i64 10, .int .i64 c, .int .i64 n] 33) ∧ Hid (Blk wr g10 X 25)) (fun i _ => 16 - (intOf i).toNat)
  case atStart => exact ⟨0, by omega, rfl, CB, C0, C1, C2⟩
  case round =>
    obtain ⟨k, hkk, rfl, HB, H0, H1, H2⟩ := hrel
    by_cases hlt : k < 16
    · obtain ⟨r0, _, _⟩ := HC.out.rg hlt
      obtain ⟨r1, _, _⟩ := HXO.out.rg hlt
      have d0 := (H0.out.cell k).trans r0
      have d1 := (H2.out.cell k).trans r1
      clear r0 r1
      by_cases hq : (k : Int) = (a : Int)
      · have hd : decide ((k : Int) = (a : Int)) = true := decide_eq_true hq
        go_upto_region 16 with fail
        go_quiet (fail)
        go_wp2_with fail
        go_roundw
        case rel => exact ⟨k + 1, by omega, by go_num, belN HB.out _, H0.out.drewN _, H1.out.drewN _, H2.out.drewN _⟩
        case measure => simp [intOf]; omega
      · have hd : decide ((k : Int) = (a : Int)) = false := decide_eq_false hq
        rw [HK.out.regs k hlt (by simp [getsV]; omega)] at d1
        go_upto_region 16 with fail
        go_quiet (fail)
        go_wp2_with fail
        go_roundw
        case rel => exact ⟨k + 1, by omega, by go_num, belN HB.out _, H0.out.drewN _, H1.out.drewN _, H2.out.drewN _⟩
        case measure => simp [intOf]; omega
    · have : k = 16 := by omega
      subst this
      obtain ⟨i0, i1, i2, i3, i4, i5, i6, i7⟩ := insCells H1.out
      have e16 := (H0.out.cell 16).trans HC.out.hV.1
      have e17 := (H0.out.cell 17).trans HC.out.nV
      have e18 := (H0.out.cell 18).trans HC.out.zV
      have e19 := (H0.out.cell 19).trans HC.out.cV
      have e20 := (H0.out.cell 20).trans HC.out.vV
      have e21 := (H0.out.cell 21).trans HC.out.pcV.1
      have x16 := (H2.out.cell 16).trans HXO.out.hV.1
      have x17 := (H2.out.cell 17).trans HXO.out.nV
      have x18 := (H2.out.cell 18).trans HXO.out.zV
      have x19 := (H2.out.cell 19).trans HXO.out.cV
      have x20 := (H2.out.cell 20).trans HXO.out.vV
      have x21 := (H2.out.cell 21).trans HXO.out.pcV.1
      have kc := HK.out.cv (by simp)
      rw [kc.1] at x19
      rw [kc.2] at x20
      clear kc
      rw [HK.out.pc (by omega)] at x21
      unfold nextV at x21
      have km := HK.out.made (by simp)
      rw [show (a : Int).toNat = a from rfl] at km
      rw [km.1] at x17
      rw [km.2] at x18
      clear km
      obtain ⟨r1, _, _⟩ := HXO.out.rg (k := a) (by omega)
      have xa := (H2.out.cell a).trans r1
      clear r1
      go_upto_region 24 with fail
      have hz : (decide (rgV X a = 0) == (rgV X a == 0)) = true := by by_cases h : rgV X a = 0 <;> simp [h]
      go_quiet (fail)
      go_wp2_with fail
      go_ret
      exact ⟨rfl, belN HB.out _⟩
set_option maxRecDepth 100000 in
set_option maxHeartbeats 1000000 in
theorem keeps_0_11 (cs X : Array Value) (hc : CpuOk cs) (hxo : CpuOk X) (u v : Bool) (a : Nat) (ha : a ≤ 15) (b c n l : Int) (h0 : 0 ≤ l) (h1 : l < 4294967296) (hr : rightB 0 u v a b 11 c n = true) (hx : exV cs 0 u v a b 11 c n l = (X, 0, false)) (hk : Kept cs X 0 u v a 11) (w : World) (hT : Tab w) :
    Calls Tryd.prog 9 #[.agg cs, .agg #[.int .i64 0, .bool u, .bool v, .int .i64 a, .int .i64 b, .int .i64 11, .int .i64 c, .int .i64 n], .int .u32 l] w fun e w' => e = .returned (.bool true) ∧ Below w.heap.size w w' := by
  have HR := Lib.hid hr
  have HK := Lib.hid hk
  clear hr hk
  have HT : Hid (∀ W, Below w.heap.size w W → Tab W) := fun W hB => hT.below hB hT.lt
  have HC := Lib.hid hc
  have HXO := Lib.hid hxo
  have HX := Lib.hid hx
  clear hT hc hxo hx
  go_enter Tryd.func9, Tryd.ntmps9
  go_upto_region 1 with fail
  obtain ⟨k0, k1, ks, kb⟩ := two_mk w cs #[.int .i64 0, .bool u, .bool v, .int .i64 a, .int .i64 b, .int .i64 11, .int .i64 c, .int .i64 n] 25 33
  have K0 := Lib.hid k0
  have K1 := Lib.hid k1
  have KS := Lib.hid ks
  have KB := Lib.hid kb
  clear k0 k1 ks kb
  generalize (w.alloc (.cells cs 25)).alloc (.cells #[.int .i64 0, .bool u, .bool v, .int .i64 a, .int .i64 b, .int .i64 11, .int .i64 c, .int .i64 n] 33) = W0 at K0 K1 KS KB ⊢
  go_upto_region 2 with (go_at_call 15; refine (shown_any _ (HT.out _ KB.out)).mono ?_; rintro e w1 ⟨rfl, hb1⟩; have A0 := Lib.hid (K0.out.step hb1); have A1 := Lib.hid (K1.out.step hb1); have AS := Lib.hid (Nat.le_trans KS.out hb1.size); have AB := Lib.hid (KB.out.trans (hb1.mono KB.out.size)); clear hb1)
  clear K0 K1 KS KB
  obtain ⟨i0, i1, i2, i3, i4, i5, i6, i7⟩ := insCells A1.out
  go_upto_region 3 with (go_at_call 16; refine (kenc_ok HR.out _ (HT.out _ AB.out)).mono ?_; rintro e w2 ⟨rfl, hb1⟩; have B0 := Lib.hid (A0.out.step hb1); have B1 := Lib.hid (A1.out.step hb1); have BS := Lib.hid (Nat.le_trans AS.out hb1.size); have BB := Lib.hid (AB.out.trans (hb1.mono AB.out.size)); clear hb1)
  clear A0 A1 AS AB i0 i1 i2 i3 i4 i5 i6 i7
  have hlc := load_cpu B0.out HC.out.size
  obtain ⟨i0, i1, i2, i3, i4, i5, i6, i7⟩ := insCells B1.out
  go_upto_region 4 with (go_at_call 18; refine (kexec_is HX.out HC.out h0 h1 _ (HT.out _ BB.out)).mono ?_; rintro e w3 ⟨rfl, hb1⟩; have C0 := Lib.hid ((B0.out.step hb1).old (.cells X 25)); have C1 := Lib.hid ((B1.out.step hb1).old (.cells X 25)); have C2 := Lib.hid (Blk.new w3 X 25); have CS := Lib.hid (Nat.le_trans BS.out hb1.size); have CB := Lib.hid ((BB.out.trans (hb1.mono BB.out.size)).alloc (Nat.le_trans BB.out.size hb1.size) (.cells X 25)); have hst := store_new (w := w3) (Z := #[.int .u32 0, .int .u32 0, .int .u32 0, .int .u32 0, .int .u32 0, .int .u32 0, .int .u32 0, .int .u32 0, .int .u32 0, .int .u32 0, .int .u32 0, .int .u32 0, .int .u32 0, .int .u32 0, .int .u32 0, .int .u32 0, .int .u32 0, .bool false, .bool false, .bool false, .bool false, .int .u32 0]) (t := 25) rfl HXO.out.size HXO.out.one; clear hb1)
  clear B0 B1 BS BB i0 i1 i2 i3 i4 i5 i6 i7 hlc hst
  obtain ⟨g10, hg⟩ : ∃ g, w3.heap.size = g := ⟨_, rfl⟩
  rw [hg] at C2 CS ⊢
  clear hg
  generalize w3.alloc (.cells X 25) = W at C0 C1 C2 CB ⊢
  obtain ⟨i0, i1, i2, i3, i4, i5, i6, i7⟩ := insCells C1.out
  go_upto_region 14 with fail
  clear i0 i1 i2 i3 i4 i5 i6 i7
  go_loopw [14] (fun i wr => ∃ k : Nat, k ≤ 16 ∧ i = .int .i64 k ∧ Hid (Below w.heap.size w wr) ∧ Hid (Blk wr w.heap.size cs 25) ∧ Hid (Blk wr (w.heap.size + 1) #[.int .i64 0, .bool u, .bool v, .int .i64 a, .int .i64 b, .int .i64 11, .int .i64 c, .int .i64 n] 33) ∧ Hid (Blk wr g10 X 25)) (fun i _ => 16 - (intOf i).toNat)
  case atStart => exact ⟨0, by omega, rfl, CB, C0, C1, C2⟩
  case round =>
    obtain ⟨k, hkk, rfl, HB, H0, H1, H2⟩ := hrel
    by_cases hlt : k < 16
    · obtain ⟨r0, _, _⟩ := HC.out.rg hlt
      obtain ⟨r1, _, _⟩ := HXO.out.rg hlt
      have d0 := (H0.out.cell k).trans r0
      have d1 := (H2.out.cell k).trans r1
      clear r0 r1
      by_cases hq : (k : Int) = (a : Int)
      · have hd : decide ((k : Int) = (a : Int)) = true := decide_eq_true hq
        go_upto_region 16 with fail
        go_quiet (fail)
        go_wp2_with fail
        go_roundw
        case rel => exact ⟨k + 1, by omega, by go_num, belN HB.out _, H0.out.drewN _, H1.out.drewN _, H2.out.drewN _⟩
        case measure => simp [intOf]; omega
      · have hd : decide ((k : Int) = (a : Int)) = false := decide_eq_false hq
        rw [HK.out.regs k hlt (by simp [getsV]; omega)] at d1
        go_upto_region 16 with fail
        go_quiet (fail)
        go_wp2_with fail
        go_roundw
        case rel => exact ⟨k + 1, by omega, by go_num, belN HB.out _, H0.out.drewN _, H1.out.drewN _, H2.out.drewN _⟩
        case measure => simp [intOf]; omega
    · have : k = 16 := by omega
      subst this
      obtain ⟨i0, i1, i2, i3, i4, i5, i6, i7⟩ := insCells H1.out
      have e16 := (H0.out.cell 16).trans HC.out.hV.1
      have e17 := (H0.out.cell 17).trans HC.out.nV
      have e18 := (H0.out.cell 18).trans HC.out.zV
      have e19 := (H0.out.cell 19).trans HC.out.cV
      have e20 := (H0.out.cell 20).trans HC.out.vV
      have e21 := (H0.out.cell 21).trans HC.out.pcV.1
      have x16 := (H2.out.cell 16).trans HXO.out.hV.1
      have x17 := (H2.out.cell 17).trans HXO.out.nV
      have x18 := (H2.out.cell 18).trans HXO.out.zV
      have x19 := (H2.out.cell 19).trans HXO.out.cV
      have x20 := (H2.out.cell 20).trans HXO.out.vV
      have x21 := (H2.out.cell 21).trans HXO.out.pcV.1
      have kc := HK.out.cv (by simp)
      rw [kc.1] at x19
      rw [kc.2] at x20
      clear kc
      rw [HK.out.pc (by omega)] at x21
      unfold nextV at x21
      have km := HK.out.made (by simp)
      rw [show (a : Int).toNat = a from rfl] at km
      rw [km.1] at x17
      rw [km.2] at x18
      clear km
      obtain ⟨r1, _, _⟩ := HXO.out.rg (k := a) (by omega)
      have xa := (H2.out.cell a).trans r1
      clear r1
      go_upto_region 24 with fail
      have hz : (decide (rgV X a = 0) == (rgV X a == 0)) = true := by by_cases h : rgV X a = 0 <;> simp [h]
      go_quiet (fail)
      go_wp2_with fail
      go_ret
      exact ⟨rfl, belN HB.out _⟩
set_option maxRecDepth 100000 in
set_option maxHeartbeats 1000000 in
theorem keeps_0_op (cs X : Array Value) (hc : CpuOk cs) (hxo : CpuOk X) (u v : Bool) (a : Nat) (ha : a ≤ 15) (b op c n l : Int) (ho : ¬ (op = 8 ∨ op = 9) ∧ ¬ (op = 10 ∨ op = 11)) (h0 : 0 ≤ l) (h1 : l < 4294967296) (hr : rightB 0 u v a b op c n = true) (hx : exV cs 0 u v a b op c n l = (X, 0, false)) (hk : Kept cs X 0 u v a op) (w : World) (hT : Tab w) :
    Calls Tryd.prog 9 #[.agg cs, .agg #[.int .i64 0, .bool u, .bool v, .int .i64 a, .int .i64 b, .int .i64 op, .int .i64 c, .int .i64 n], .int .u32 l] w fun e w' => e = .returned (.bool true) ∧ Below w.heap.size w w' := by
  have HR := Lib.hid hr
  have HK := Lib.hid hk
  clear hr hk
  have HO := Lib.hid ho
  clear ho
  have HT : Hid (∀ W, Below w.heap.size w W → Tab W) := fun W hB => hT.below hB hT.lt
  have HC := Lib.hid hc
  have HXO := Lib.hid hxo
  have HX := Lib.hid hx
  clear hT hc hxo hx
  go_enter Tryd.func9, Tryd.ntmps9
  go_upto_region 1 with fail
  obtain ⟨k0, k1, ks, kb⟩ := two_mk w cs #[.int .i64 0, .bool u, .bool v, .int .i64 a, .int .i64 b, .int .i64 op, .int .i64 c, .int .i64 n] 25 33
  have K0 := Lib.hid k0
  have K1 := Lib.hid k1
  have KS := Lib.hid ks
  have KB := Lib.hid kb
  clear k0 k1 ks kb
  generalize (w.alloc (.cells cs 25)).alloc (.cells #[.int .i64 0, .bool u, .bool v, .int .i64 a, .int .i64 b, .int .i64 op, .int .i64 c, .int .i64 n] 33) = W0 at K0 K1 KS KB ⊢
  go_upto_region 2 with (go_at_call 15; refine (shown_any _ (HT.out _ KB.out)).mono ?_; rintro e w1 ⟨rfl, hb1⟩; have A0 := Lib.hid (K0.out.step hb1); have A1 := Lib.hid (K1.out.step hb1); have AS := Lib.hid (Nat.le_trans KS.out hb1.size); have AB := Lib.hid (KB.out.trans (hb1.mono KB.out.size)); clear hb1)
  clear K0 K1 KS KB
  obtain ⟨i0, i1, i2, i3, i4, i5, i6, i7⟩ := insCells A1.out
  go_upto_region 3 with (go_at_call 16; refine (kenc_ok HR.out _ (HT.out _ AB.out)).mono ?_; rintro e w2 ⟨rfl, hb1⟩; have B0 := Lib.hid (A0.out.step hb1); have B1 := Lib.hid (A1.out.step hb1); have BS := Lib.hid (Nat.le_trans AS.out hb1.size); have BB := Lib.hid (AB.out.trans (hb1.mono AB.out.size)); clear hb1)
  clear A0 A1 AS AB i0 i1 i2 i3 i4 i5 i6 i7
  have hlc := load_cpu B0.out HC.out.size
  obtain ⟨i0, i1, i2, i3, i4, i5, i6, i7⟩ := insCells B1.out
  go_upto_region 4 with (go_at_call 18; refine (kexec_is HX.out HC.out h0 h1 _ (HT.out _ BB.out)).mono ?_; rintro e w3 ⟨rfl, hb1⟩; have C0 := Lib.hid ((B0.out.step hb1).old (.cells X 25)); have C1 := Lib.hid ((B1.out.step hb1).old (.cells X 25)); have C2 := Lib.hid (Blk.new w3 X 25); have CS := Lib.hid (Nat.le_trans BS.out hb1.size); have CB := Lib.hid ((BB.out.trans (hb1.mono BB.out.size)).alloc (Nat.le_trans BB.out.size hb1.size) (.cells X 25)); have hst := store_new (w := w3) (Z := #[.int .u32 0, .int .u32 0, .int .u32 0, .int .u32 0, .int .u32 0, .int .u32 0, .int .u32 0, .int .u32 0, .int .u32 0, .int .u32 0, .int .u32 0, .int .u32 0, .int .u32 0, .int .u32 0, .int .u32 0, .int .u32 0, .int .u32 0, .bool false, .bool false, .bool false, .bool false, .int .u32 0]) (t := 25) rfl HXO.out.size HXO.out.one; clear hb1)
  clear B0 B1 BS BB i0 i1 i2 i3 i4 i5 i6 i7 hlc hst
  obtain ⟨g10, hg⟩ : ∃ g, w3.heap.size = g := ⟨_, rfl⟩
  rw [hg] at C2 CS ⊢
  clear hg
  generalize w3.alloc (.cells X 25) = W at C0 C1 C2 CB ⊢
  obtain ⟨i0, i1, i2, i3, i4, i5, i6, i7⟩ := insCells C1.out
  go_upto_region 14 with fail
  clear i0 i1 i2 i3 i4 i5 i6 i7
  go_loopw [14] (fun i wr => ∃ k : Nat, k ≤ 16 ∧ i = .int .i64 k ∧ Hid (Below w.heap.size w wr) ∧ Hid (Blk wr w.heap.size cs 25) ∧ Hid (Blk wr (w.heap.size + 1) #[.int .i64 0, .bool u, .bool v, .int .i64 a, .int .i64 b, .int .i64 op, .int .i64 c, .int .i64 n] 33) ∧ Hid (Blk wr g10 X 25)) (fun i _ => 16 - (intOf i).toNat)
  case atStart => exact ⟨0, by omega, rfl, CB, C0, C1, C2⟩
  case round =>
    obtain ⟨k, hkk, rfl, HB, H0, H1, H2⟩ := hrel
    by_cases hlt : k < 16
    · obtain ⟨r0, _, _⟩ := HC.out.rg hlt
      obtain ⟨r1, _, _⟩ := HXO.out.rg hlt
      have d0 := (H0.out.cell k).trans r0
      have d1 := (H2.out.cell k).trans r1
      clear r0 r1
      by_cases hq : (k : Int) = (a : Int)
      · have hd : decide ((k : Int) = (a : Int)) = true := decide_eq_true hq
        go_upto_region 16 with fail
        go_quiet (fail)
        go_wp2_with fail
        go_roundw
        case rel => exact ⟨k + 1, by omega, by go_num, belN HB.out _, H0.out.drewN _, H1.out.drewN _, H2.out.drewN _⟩
        case measure => simp [intOf]; omega
      · have hd : decide ((k : Int) = (a : Int)) = false := decide_eq_false hq
        rw [HK.out.regs k hlt (by simp [getsV]; omega)] at d1
        go_upto_region 16 with fail
        go_quiet (fail)
        go_wp2_with fail
        go_roundw
        case rel => exact ⟨k + 1, by omega, by go_num, belN HB.out _, H0.out.drewN _, H1.out.drewN _, H2.out.drewN _⟩
        case measure => simp [intOf]; omega
    · have : k = 16 := by omega
      subst this
      obtain ⟨i0, i1, i2, i3, i4, i5, i6, i7⟩ := insCells H1.out
      have e16 := (H0.out.cell 16).trans HC.out.hV.1
      have e17 := (H0.out.cell 17).trans HC.out.nV
      have e18 := (H0.out.cell 18).trans HC.out.zV
      have e19 := (H0.out.cell 19).trans HC.out.cV
      have e20 := (H0.out.cell 20).trans HC.out.vV
      have e21 := (H0.out.cell 21).trans HC.out.pcV.1
      have x16 := (H2.out.cell 16).trans HXO.out.hV.1
      have x17 := (H2.out.cell 17).trans HXO.out.nV
      have x18 := (H2.out.cell 18).trans HXO.out.zV
      have x19 := (H2.out.cell 19).trans HXO.out.cV
      have x20 := (H2.out.cell 20).trans HXO.out.vV
      have x21 := (H2.out.cell 21).trans HXO.out.pcV.1
      have kc := HK.out.cv (by have := HO.out; omega)
      rw [kc.1] at x19
      rw [kc.2] at x20
      clear kc
      rw [HK.out.h (by have := HO.out; omega)] at x16
      rw [HK.out.pc (by omega)] at x21
      unfold nextV at x21
      have km := HK.out.made (by simp)
      rw [show (a : Int).toNat = a from rfl] at km
      rw [km.1] at x17
      rw [km.2] at x18
      clear km
      obtain ⟨r1, _, _⟩ := HXO.out.rg (k := a) (by omega)
      have xa := (H2.out.cell a).trans r1
      clear r1
      have o8 : (op == 8) = false := by have := HO.out; simp; omega
      have o9 : (op == 9) = false := by have := HO.out; simp; omega
      have o10 : (op == 10) = false := by have := HO.out; simp; omega
      have o11 : (op == 11) = false := by have := HO.out; simp; omega
      go_upto_region 24 with fail
      have hz : (decide (rgV X a = 0) == (rgV X a == 0)) = true := by by_cases h : rgV X a = 0 <;> simp [h]
      go_quiet (fail)
      go_wp2_with fail
      go_ret
      exact ⟨rfl, belN HB.out _⟩
end Go.Proofs.YtnghhkageiceaaaDoor
