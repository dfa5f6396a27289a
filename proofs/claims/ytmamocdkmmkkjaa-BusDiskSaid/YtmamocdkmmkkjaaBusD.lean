/- What the bus stores anew: its input, its output. The small functions. -/
import Derived.Test.YtmamocdkmmkkjaaBusC
import Derived.Lib.Hide
namespace Go.Proofs.Ytmamocdkmmkkjaa
open Go Go.RowKit Go.Lib Go.Proofs.Ytmamocdkmmkkjaa.Pl
set_option linter.unusedVariables false
structure Apart (v : BV) : Prop where
  bm : v.b ≠ v.m
  bd : v.b ≠ v.d
  bs : v.b ≠ v.s
  md : v.m ≠ v.d
  ms : v.m ≠ v.s
  ds : v.d ≠ v.s
  ib : ∀ g, v.vi.ownBlock = some g → g ≠ v.b ∧ g ≠ v.m ∧ g ≠ v.d ∧ g ≠ v.s
  ob : ∀ g, v.vo.ownBlock = some g → g ≠ v.b ∧ g ≠ v.m ∧ g ≠ v.d ∧ g ≠ v.s
  wb : ∀ g, v.vw.ownBlock = some g → g ≠ v.b ∧ g ≠ v.m ∧ g ≠ v.d ∧ g ≠ v.s
  io : ∀ g, v.vi.ownBlock = some g → v.vo.ownBlock ≠ some g
  iw : ∀ g, v.vi.ownBlock = some g → v.vw.ownBlock ≠ some g
  ow : ∀ g, v.vo.ownBlock = some g → v.vw.ownBlock ≠ some g
theorem nodup_toList (o : Option Nat) : o.toList.Nodup := by cases o <;> simp
theorem apart_iff (v : BV) : (brow v).Nodup ↔ Apart v := by
  unfold brow
  simp only [List.nodup_cons, List.nodup_append, List.mem_cons, List.mem_append, not_or, Option.mem_toList, nodup_toList, true_and]
  constructor
  · rintro ⟨⟨b1, b2, b3, b4, b5, b6⟩, ⟨m1, m2, m3, m4, m5⟩, ⟨d1, d2, d3, d4⟩, ⟨s1, s2, s3⟩, ow, i⟩
    exact ⟨b1, b2, b3, m1, m2, d1, fun g h => ⟨fun e => b4 (e ▸ h), fun e => m3 (e ▸ h), fun e => d2 (e ▸ h), fun e => s1 (e ▸ h)⟩, fun g h => ⟨fun e => b5 (e ▸ h), fun e => m4 (e ▸ h), fun e => d3 (e ▸ h), fun e => s2 (e ▸ h)⟩, fun g h => ⟨fun e => b6 (e ▸ h), fun e => m5 (e ▸ h), fun e => d4 (e ▸ h), fun e => s3 (e ▸ h)⟩,
      fun g h k => i g h g (.inl k) rfl, fun g h k => i g h g (.inr k) rfl, fun g h k => ow g h g k rfl⟩
  · intro a
    exact ⟨⟨a.bm, a.bd, a.bs, fun h => (a.ib _ h).1 rfl, fun h => (a.ob _ h).1 rfl, fun h => (a.wb _ h).1 rfl⟩, ⟨a.md, a.ms, fun h => (a.ib _ h).2.1 rfl, fun h => (a.ob _ h).2.1 rfl, fun h => (a.wb _ h).2.1 rfl⟩, ⟨a.ds, fun h => (a.ib _ h).2.2.1 rfl, fun h => (a.ob _ h).2.2.1 rfl, fun h => (a.wb _ h).2.2.1 rfl⟩,
      ⟨fun h => (a.ib _ h).2.2.2 rfl, fun h => (a.ob _ h).2.2.2 rfl, fun h => (a.wb _ h).2.2.2 rfl⟩, fun g h k hk e => a.ow g h (e ▸ hk), fun g h k hk e => hk.elim (fun hk => a.io g h (e ▸ hk)) (fun hk => a.iw g h (e ▸ hk))⟩
section
variable {w : World} {base : Nat} {v : BV} {x : BS}
theorem BusAt.ap (B : BusAt w base v x) : Apart v := (apart_iff v).1 B.nd
theorem BusAt.ltb (B : BusAt w base v x) : v.b < w.heap.size ∧ v.m < w.heap.size ∧ v.d < w.heap.size ∧ v.s < w.heap.size := ⟨B.row.lt, B.mem.lt, B.disk.dlt, B.disk.slt⟩
theorem row_set2 (v : BV) (x : BS) (u : Value) : (busRow v x).setIfInBounds 2 u = busRow { v with vi := u } x := rfl
theorem row_set3 (v : BV) (x : BS) (u : Value) : (busRow v x).setIfInBounds 3 u = busRow { v with vo := u } x := rfl
theorem mem_i (v : BV) (g : Nat) (h : v.vi.ownBlock = some g) : g ∈ brow v := by simp [brow, h]
theorem mem_o (v : BV) (g : Nat) (h : v.vo.ownBlock = some g) : g ∈ brow v := by simp [brow, h]
theorem mem_w (v : BV) (g : Nat) (h : v.vw.ownBlock = some g) : g ∈ brow v := by simp [brow, h]
theorem mem_d (v : BV) : v.d ∈ brow v := by simp [brow]
theorem mem_s (v : BV) : v.s ∈ brow v := by simp [brow]
theorem BusAt.newIn (B : BusAt w base v x) {w1 : World} {u : Value} {q : List UInt8} (T : Touch w w1 v.vi.ownBlock.toList) (h : InAt w1 base u q) (hq : q.length ≤ 65536) (hu : ∀ g, u.ownBlock = some g → v.vi.ownBlock = some g ∨ w.heap.size ≤ g) :
    BusAt (w1.setCell ⟨v.b, 2, none⟩ u) base { v with vi := u } { x with q := q } ∧ Moves w (w1.setCell ⟨v.b, 2, none⟩ u) v { v with vi := u } := by
  have a := B.ap
  obtain ⟨lb, lm, ld, ls⟩ := B.ltb
  have hni : ∀ g, v.vi.ownBlock ≠ some g → g ∉ v.vi.ownBlock.toList := fun g hg hm => hg (by simpa using hm)
  have T2 : Touch w (w1.setCell ⟨v.b, 2, none⟩ u) (v.b :: v.vi.ownBlock.toList) := (T.mono (fun g hg => List.mem_cons_of_mem _ hg)).trans (Touch.set w1 ⟨v.b, 2, none⟩ u) (fun g hg _ => by simp at hg; rw [hg]; exact List.mem_cons_self)
  have far : ∀ g, g ≠ v.b → v.vi.ownBlock ≠ some g → g ∉ v.b :: v.vi.ownBlock.toList := fun g h1 h2 hm => by
    rcases List.mem_cons.1 hm with hm | hm
    · exact h1 hm
    · exact hni g h2 hm
  have hub : ∀ g, u.ownBlock = some g → g ≠ v.b := fun g hg => by
    rcases hu g hg with h1 | h1
    · exact (a.ib g h1).1
    · omega
  refine ⟨{ B with
    row := by
      have : Blk w1 v.b (busRow v x) 74 := (T.block v.b lb (hni _ (fun h => (a.ib _ h).1 rfl))).trans B.row
      exact this.set 2 u
    mem := by obtain ⟨cs, k1, k2⟩ := B.mem; exact ⟨cs, (T2.block v.m lm (far _ a.bm.symm (fun h => (a.ib _ h).2.1 rfl))).trans k1, k2⟩
    inn := h.touch (Touch.set w1 ⟨v.b, 2, none⟩ u) (fun g hg hm => hub g hg (by simpa using hm))
    ql := hq
    out := T2.owns B.out (fun g hg => far g (a.ob g hg).1 (fun h => a.io g h hg))
    disk := B.disk.touch T2 (far _ a.bd.symm (fun h => (a.ib _ h).2.2.1 rfl)) (far _ a.bs.symm (fun h => (a.ib _ h).2.2.2 rfl)) (fun g hg => far g (a.wb g hg).1 (fun h => a.iw g h hg))
    nd := (apart_iff _).2 { a with
      ib := fun g hg => (hu g hg).elim (a.ib g) (fun h1 => ⟨by simp only; omega, by simp only; omega, by simp only; omega, by simp only; omega⟩)
      io := fun g hg => (hu g hg).elim (a.io g) (fun h1 h2 => by have := (B.out.lt g h2).2; omega)
      iw := fun g hg => (hu g hg).elim (a.iw g) (fun h1 h2 => by have := (B.disk.vlt g h2).1; omega) }
    lo := B.lo }, T2.mono (fun g hg => ?_), fun g hg => ?_, ⟨rfl, rfl, rfl, rfl⟩⟩
  · rcases List.mem_cons.1 hg with rfl | hg
    · exact mem_b v
    · exact mem_i v g (by simpa using hg)
  · simp only [brow, List.mem_cons, List.mem_append, Option.mem_toList] at hg ⊢
    rcases hg with hg | hg | hg | hg | hg | hg | hg
    · exact .inl (.inl hg)
    · exact .inl (.inr (.inl hg))
    · exact .inl (.inr (.inr (.inl hg)))
    · exact .inl (.inr (.inr (.inr (.inl hg))))
    · exact (hu g hg).imp (fun h => .inr (.inr (.inr (.inr (.inl h))))) id
    · exact .inl (.inr (.inr (.inr (.inr (.inr (.inl hg))))))
    · exact .inl (.inr (.inr (.inr (.inr (.inr (.inr hg))))))
theorem BusAt.newOut (B : BusAt w base v x) {w1 : World} {u : Value} {q : List UInt8} (T : Touch w w1 v.vo.ownBlock.toList) (h : w1.ownsRow base 5 1 u q.length (bcells q)) (hq : q.length ≤ 65536) (hu : ∀ g, u.ownBlock = some g → v.vo.ownBlock = some g ∨ w.heap.size ≤ g) :
    BusAt (w1.setCell ⟨v.b, 3, none⟩ u) base { v with vo := u } { x with o := q } ∧ Moves w (w1.setCell ⟨v.b, 3, none⟩ u) v { v with vo := u } := by
  have a := B.ap
  obtain ⟨lb, lm, ld, ls⟩ := B.ltb
  have hni : ∀ g, v.vo.ownBlock ≠ some g → g ∉ v.vo.ownBlock.toList := fun g hg hm => hg (by simpa using hm)
  have T2 : Touch w (w1.setCell ⟨v.b, 3, none⟩ u) (v.b :: v.vo.ownBlock.toList) := (T.mono (fun g hg => List.mem_cons_of_mem _ hg)).trans (Touch.set w1 ⟨v.b, 3, none⟩ u) (fun g hg _ => by simp at hg; rw [hg]; exact List.mem_cons_self)
  have far : ∀ g, g ≠ v.b → v.vo.ownBlock ≠ some g → g ∉ v.b :: v.vo.ownBlock.toList := fun g h1 h2 hm => by
    rcases List.mem_cons.1 hm with hm | hm
    · exact h1 hm
    · exact hni g h2 hm
  have hub : ∀ g, u.ownBlock = some g → g ≠ v.b := fun g hg => by
    rcases hu g hg with h1 | h1
    · exact (a.ob g h1).1
    · omega
  refine ⟨{ B with
    row := by
      have : Blk w1 v.b (busRow v x) 74 := (T.block v.b lb (hni _ (fun h => (a.ob _ h).1 rfl))).trans B.row
      exact this.set 3 u
    mem := by obtain ⟨cs, k1, k2⟩ := B.mem; exact ⟨cs, (T2.block v.m lm (far _ a.bm.symm (fun h => (a.ob _ h).2.1 rfl))).trans k1, k2⟩
    inn := B.inn.touch T2 (fun g hg => far g (a.ib g hg).1 (fun h => a.io g hg h))
    ol := hq
    out := (Touch.set w1 ⟨v.b, 3, none⟩ u).owns h (fun g hg hm => hub g hg (by simpa using hm))
    disk := B.disk.touch T2 (far _ a.bd.symm (fun h => (a.ob _ h).2.2.1 rfl)) (far _ a.bs.symm (fun h => (a.ob _ h).2.2.2 rfl)) (fun g hg => far g (a.wb g hg).1 (fun h => a.ow g h hg))
    nd := (apart_iff _).2 { a with
      ob := fun g hg => (hu g hg).elim (a.ob g) (fun h1 => ⟨by simp only; omega, by simp only; omega, by simp only; omega, by simp only; omega⟩)
      io := fun g hg hg2 => (hu g hg2).elim (a.io g hg) (fun h1 => by have := (B.inn.lt g hg).2; omega)
      ow := fun g hg => (hu g hg).elim (a.ow g) (fun h1 h2 => by have := (B.disk.vlt g h2).1; omega) }
    lo := B.lo }, T2.mono (fun g hg => ?_), fun g hg => ?_, ⟨rfl, rfl, rfl, rfl⟩⟩
  · rcases List.mem_cons.1 hg with rfl | hg
    · exact mem_b v
    · exact mem_o v g (by simpa using hg)
  · simp only [brow, List.mem_cons, List.mem_append, Option.mem_toList] at hg ⊢
    rcases hg with hg | hg | hg | hg | hg | hg | hg
    · exact .inl (.inl hg)
    · exact .inl (.inr (.inl hg))
    · exact .inl (.inr (.inr (.inl hg)))
    · exact .inl (.inr (.inr (.inr (.inl hg))))
    · exact .inl (.inr (.inr (.inr (.inr (.inl hg)))))
    · exact (hu g hg).imp (fun h => .inr (.inr (.inr (.inr (.inr (.inl h)))))) id
    · exact .inl (.inr (.inr (.inr (.inr (.inr (.inr hg))))))

/-! The small functions. -/
theorem btake_none (B : BusAt w base v x) (hq : x.q = []) :
    Calls Try.prog 43 #[.pointer (some ⟨v.b, 0, none⟩)] w fun e w' => e = .returned (.tuple #[.int .u32 0, .int .i64 2]) ∧ w = w' := by
  obtain ⟨-, -, c2, -⟩ := B.cells
  obtain ⟨a, c, hv⟩ := B.inn.form
  rw [hv, hq] at c2
  simp only [List.length_nil] at c2
  go_enter Try.func43, Try.ntmps43
  go_wp2_with fail
  go_ret2
  exact ⟨rfl, rfl⟩
theorem btake_some (B : BusAt w base v x) (c : UInt8) (r : List UInt8) (hq : x.q = c :: r) :
    Calls Try.prog 43 #[.pointer (some ⟨v.b, 0, none⟩)] w fun e w' => e = .returned (.tuple #[.int .u32 c.toNat, .int .i64 0]) ∧ ∃ v', BusAt w' base v' { x with q := r } ∧ Moves w w' v v' := by
  obtain ⟨-, -, c2, -⟩ := B.cells
  have f2 := B.row.frozen 2
  have hin := B.inn
  rw [hq] at hin
  obtain ⟨g, off, cap, hv, hc1, hc2, hc, ht1, ht2⟩ := hin.cons
  have hr : r.length ≤ 65536 := by have := B.ql; rw [hq] at this; simp at this; omega
  have hvo : v.vi.ownBlock = some g := by rw [hv]; rfl
  rw [hv] at c2
  have hc8 := c.toNat_lt
  have HT1 := Lib.hid ht1
  have HT2 := Lib.hid ht2
  have HV := Lib.hid hv
  unfold maxLen at hc2
  clear ht1 ht2 hq hin hv
  by_cases hcap : cap = 1
  · subst hcap
    obtain rfl : r = [] := List.eq_nil_of_length_eq_zero (by omega)
    go_enter Try.func43, Try.ntmps43
    go_wp2_with fail
    go_ret2
    have k := B.newIn (w1 := w) (u := .slice (some ⟨g, off, none⟩) 0 0) (q := []) (Touch.refl _ _) (HT2.out trivial) (by simp) (fun g' hg => .inl (by rw [hvo]; simpa [Value.ownBlock] using hg))
    exact ⟨rfl, { v with vi := .slice (some ⟨g, off, none⟩) 0 0 }, k⟩
  · go_enter Try.func43, Try.ntmps43
    go_wp2_with fail
    go_ret2
    have k := B.newIn (w1 := w) (u := .slice (some ⟨g, off + 1, none⟩) r.length (cap - 1)) (q := r) (Touch.refl _ _) (HT1.out hcap) hr (fun g' hg => .inl (by rw [hvo]; simpa [Value.ownBlock] using hg))
    exact ⟨rfl, { v with vi := .slice (some ⟨g, off + 1, none⟩) r.length (cap - 1) }, k⟩
theorem u8_info : ∃ i : TypeInfo, Try.prog.info? 5 = some i ∧ i.zero = some (.int .u8 0) ∧ i.size = 1 ∧ i.bytes = 1 := by
  have h : (Try.prog.info? 5).map (fun i => (i.zero, i.size, i.bytes)) = some (some (.int .u8 0), 1, 1) := by kernel_rfl
  obtain ⟨i, hi, hz⟩ := Option.map_eq_some_iff.1 h
  simp only [Prod.mk.injEq] at hz
  exact ⟨i, hi, hz.1, hz.2.1, hz.2.2⟩
theorem BusAt.base_le (B : BusAt w base v x) : base ≤ w.heap.size := Nat.le_trans B.lo.1 (Nat.le_of_lt B.row.lt)
theorem wpList_append_in {ops : Array Oper} {rest : List Oper} {o : Oper} {a : Act} {Q : Exit → Act → World → Prop} (hgd : o.guard = none) (sl y : Operand) (t u : TypeId)
    (ho : o.op = .call { callee := .builtin .append, args := #[sl, y], argTypes := #[t, u] })
    (ht : Try.prog.underlying t = some (.slice 5)) (hu : Try.prog.underlying u = some .string)
    (z : Value) (q : List UInt8) (hs : a.eval sl = z) (h : InAt w base z q) (s : ByteArray) (hx : a.eval y = .string s) (hle : q.length + s.size ≤ 140737488351232) (hbase : base ≤ w.heap.size)
    (k : ∀ v' w', InAt w' base v' (q ++ s.data.toList) → Touch w w' z.ownBlock.toList → (∀ g, v'.ownBlock = some g → z.ownBlock = some g ∨ w.heap.size ≤ g) → wpList Try.prog ops Q rest (a.put o.dst v') w') : wpList Try.prog ops Q (o :: rest) a w := by
  refine wpList_plain hgd fun K hK => ?_
  obtain ⟨i, hi, hz, h1, h2⟩ := u8_info
  obtain ⟨v', w', hr, k2, k3, k4⟩ := run_append_in (P := Try.prog) (w := w) base t u o.type i ht hu hi hz h1 h2 z q h s hle hbase
  unfold Oper.wp execOp
  simp only [ho, resolve, invoke, builtin, Sem.run_bind, Sem.run_pure, Result.andThen_ok, List.map_toArray, List.map_cons, List.map_nil, hs, hx, hr]
  exact hK _ _ (k v' w' k2 (Touch.of_grown k3) k4)
theorem bfeed_no (B : BusAt w base v x) (s : ByteArray) (h : 65536 < x.q.length + s.size) (hs : s.size ≤ 140737488351232) :
    Calls Try.prog 17 #[.pointer (some ⟨v.b, 0, none⟩), .string s] w fun e w' => e = .returned (.int .i64 40) ∧ w = w' := by
  obtain ⟨-, -, c2, -⟩ := B.cells
  obtain ⟨a, c, hv⟩ := B.inn.form
  have hq := B.ql
  rw [hv] at c2
  have h1 : (65536 : Int) < (x.q.length : Int) + (s.size : Int) := by omega
  go_enter Try.func17, Try.ntmps17
  go_wp2_with fail
  go_ret
  exact ⟨rfl, rfl⟩
theorem bfeed_yes (B : BusAt w base v x) (s : ByteArray) (h : x.q.length + s.size ≤ 65536) :
    Calls Try.prog 17 #[.pointer (some ⟨v.b, 0, none⟩), .string s] w fun e w' => e = .returned (.int .i64 0) ∧ ∃ v', BusAt w' base v' { x with q := x.q ++ s.data.toList } ∧ Moves w w' v v' := by
  obtain ⟨-, -, c2, -⟩ := B.cells
  have f2 := B.row.frozen 2
  obtain ⟨a, c, hv⟩ := B.inn.form
  have hbl : (⟨v.b, 2, none⟩ : Addr).block ∉ v.vi.ownBlock.toList := fun hm => (B.ap.ib v.b (by simpa using hm)).1 rfl
  have HBL := Lib.hid hbl
  clear hbl
  have HV := Lib.hid hv
  rw [hv] at c2
  clear hv
  have h1 : (x.q.length : Int) + (s.size : Int) ≤ 65536 := by omega
  go_enter Try.func17, Try.ntmps17
  go_wp2_with (at_builtin; refine wpList_append_in (base := base) rfl _ _ 44 9 rfl Try.underlying44 Try.underlying9 v.vi x.q (by rw [HV.out]; rfl) B.inn s (by rfl) (Nat.le_trans h (by decide)) B.base_le ?_; intro u w1 hu1 hu2 hu3; obtain ⟨ua, uc, rfl⟩ := hu1.form; have c2' := hu2.cell c2 HBL.out; have f2' := (hu2.frozen c2 HBL.out).trans f2; have HU1 := Lib.hid hu1; have HU3 := Lib.hid hu3; clear hu1 hu3)
  all_goals
    go_ret
    have hlen : (x.q ++ s.data.toList).length = x.q.length + s.size := by rw [List.length_append]; rfl
    have k := B.newIn hu2 HU1.out (by rw [hlen]; exact h) HU3.out
    rw [hlen] at k
    exact ⟨rfl, _, k⟩
end
end Go.Proofs.Ytmamocdkmmkkjaa
