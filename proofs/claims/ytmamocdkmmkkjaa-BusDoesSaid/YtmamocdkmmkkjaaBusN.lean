/- A line: what was fed and what was put out lie in lists of the call's own. -/
import Derived.Test.YtmamocdkmmkkjaaBusM
namespace Go.Proofs.Ytmamocdkmmkkjaa
open Go Go.RowKit Go.Lib Go.Proofs.Ytmamocdkmmkkjaa.Pl
set_option linter.unusedVariables false
set_option linter.unusedSimpArgs false
def lineX (q o : List UInt8) : BS := ⟨wordsM (fun _ => 0) 0, q, o, 0, 0, 0, 0, 8, fun _ => nought, []⟩
section
variable {w0 w w1 : World} {b d : Nat} {x : BS} {keep : List Nat}
theorem Law.grown (L : Law w0 w b d x keep) {r : List Nat} (T : Touch w w1 r) (hr : ∀ g ∈ r, g ∈ keep ∧ w0.heap.size ≤ g) (keep' : List Nat) (hk : ∀ g ∈ keep', g ∈ keep ∨ w.heap.size ≤ g) (hl : ∀ g ∈ keep', g < w1.heap.size) : Law w0 w1 b d x keep' := by
  obtain ⟨v, base, hb, hd, B, hv⟩ := L.bus
  refine ⟨⟨v, base, hb, hd, B.touch T (fun g hg hm => (hv g hg).2 (hr g hm).1), fun g hg => ⟨(hv g hg).1, fun hm => ?_⟩⟩, L.below.trans (T.below L.below.size (fun g hg => (hr g hg).2)), hl⟩
  rcases hk g hm with h | h
  · exact (hv g hg).2 h
  · have := (B.lt g hg).2; omega
end
structure Line (w0 w : World) (b d : Nat) (vf vp : Value) (F P q o : List UInt8) : Prop where
  law : Law w0 w b d (lineX q o) (vf.ownBlock.toList ++ vp.ownBlock.toList)
  fed : InAt w w0.heap.size vf F
  put : w.ownsRow w0.heap.size 5 1 vp P.length (bcells P)
  ap : ∀ g, vf.ownBlock = some g → vp.ownBlock ≠ some g
section
variable {w0 w w1 : World} {b d : Nat} {vf vp : Value} {F P q o : List UInt8}
theorem own_same {w' : World} {base : Nat} {e : TypeId} {size : Nat} {v : Value} {n : Nat} {xs : List Value} (h : w.ownsRow base e size v n xs) (he : ∀ g, v.ownBlock = some g → w'.heap[g]? = w.heap[g]?) : w'.ownsRow base e size v n xs := by
  refine ⟨h.1, ?_⟩
  rcases h.2 with hv | ⟨g, cap, cur, rfl, h1, h2, h3⟩
  · exact .inl hv
  · exact .inr ⟨g, cap, cur, rfl, h1, (he g rfl).trans h2, h3⟩
theorem in_same {w' : World} {base : Nat} {v : Value} {q : List UInt8} (h : InAt w base v q) (he : ∀ g, v.ownBlock = some g → w'.heap[g]? = w.heap[g]?) : InAt w' base v q := by
  rcases h with h | ⟨g, off, cap, cur, rfl, h1, h2, h3⟩
  · exact .inl h
  · exact .inr ⟨g, off, cap, cur, rfl, h1, (he g rfl).trans h2, h3⟩
theorem Line.moved (L : Line w0 w b d vf vp F P q o) {q' o' : List UInt8} (l : Law w0 w1 b d (lineX q' o') (vf.ownBlock.toList ++ vp.ownBlock.toList)) (hk : ∀ g ∈ vf.ownBlock.toList ++ vp.ownBlock.toList, w1.heap[g]? = w.heap[g]?) : Line w0 w1 b d vf vp F P q' o' :=
  ⟨l, in_same L.fed (fun g hg => hk g (by simp [hg])), own_same L.put (fun g hg => hk g (by simp [hg])), L.ap⟩
theorem Line.fedGrown (L : Line w0 w b d vf vp F P q o) {u : Value} {F' : List UInt8} (h : InAt w1 w0.heap.size u F') (T : Touch w w1 vf.ownBlock.toList) (hu : ∀ g, u.ownBlock = some g → vf.ownBlock = some g ∨ w.heap.size ≤ g) : Line w0 w1 b d u vp F' P q o := by
  have hp : ∀ g, vp.ownBlock = some g → g < w.heap.size := fun g hg => (L.put.lt g hg).2
  refine ⟨L.law.grown T (fun g hg => ⟨List.mem_append_left _ hg, (L.fed.lt g (by simpa using hg)).1⟩) _ (fun g hg => ?_) (fun g hg => ?_), h, own_same L.put (fun g hg => T.block g (hp g hg) (fun hm => L.ap g (by simpa using hm) hg)), fun g hg hg2 => ?_⟩
  · rcases List.mem_append.1 hg with hg | hg
    · exact (hu g (by simpa using hg)).imp (fun h => List.mem_append_left _ (by simpa using h)) id
    · exact .inl (List.mem_append_right _ hg)
  · rcases List.mem_append.1 hg with hg | hg
    · exact (h.lt g (by simpa using hg)).2
    · exact Nat.lt_of_lt_of_le (hp g (by simpa using hg)) T.size
  · rcases hu g hg with h1 | h1
    · exact L.ap g h1 hg2
    · have := hp g hg2; omega
theorem Line.putGrown (L : Line w0 w b d vf vp F P q o) {u : Value} {P' : List UInt8} (h : w1.ownsRow w0.heap.size 5 1 u P'.length (bcells P')) (T : Touch w w1 vp.ownBlock.toList) (hu : ∀ g, u.ownBlock = some g → vp.ownBlock = some g ∨ w.heap.size ≤ g) : Line w0 w1 b d vf u F P' q o := by
  have hf : ∀ g, vf.ownBlock = some g → g < w.heap.size := fun g hg => (L.fed.lt g hg).2
  refine ⟨L.law.grown T (fun g hg => ⟨List.mem_append_right _ hg, (L.put.lt g (by simpa using hg)).1⟩) _ (fun g hg => ?_) (fun g hg => ?_), in_same L.fed (fun g hg => T.block g (hf g hg) (fun hm => L.ap g hg (by simpa using hm))), h, fun g hg hg2 => ?_⟩
  · rcases List.mem_append.1 hg with hg | hg
    · exact .inl (List.mem_append_left _ hg)
    · exact (hu g (by simpa using hg)).imp (fun h => List.mem_append_right _ (by simpa using h)) id
  · rcases List.mem_append.1 hg with hg | hg
    · exact Nat.lt_of_lt_of_le (hf g (by simpa using hg)) T.size
    · exact (h.lt g (by simpa using hg)).2
  · rcases hu g hg2 with h1 | h1
    · exact L.ap g hg h1
    · have := hf g hg; omega
theorem InAt.read {base : Nat} {v : Value} {q : List UInt8} (h : InAt w base v q) (i : Nat) (hi : i < q.length) : ∃ g off cap, v = .slice (some ⟨g, off, none⟩) q.length cap ∧ w.cell? ⟨g, off + i, none⟩ = some (.int .u8 (q[i]).toNat) := by
  rcases h with ⟨_, rfl⟩ | ⟨g, off, cap, cur, rfl, h1, h2, h3, h4, h5, h6⟩
  · cases hi
  · refine ⟨g, off, cap, rfl, ?_⟩
    rw [cell_of_row w g _ cur _ (0, 0) h2, h6 i hi, bcells_get q i hi]
theorem put_form {base : Nat} {v : Value} (h : w.ownsRow base 5 1 v P.length (bcells P)) : ∃ a c, v = .slice a P.length c := by
  rcases h.2 with ⟨h1, h2⟩ | ⟨g, cap, cur, h1, _⟩
  · exact ⟨none, 0, by rw [h1, h2]⟩
  · exact ⟨_, _, h1⟩
theorem put_conv {base : Nat} {a : Option Addr} {c : Nat} (h : w.ownsRow base 5 1 (.slice a P.length c) P.length (bcells P)) : (convert 44 9 (.slice a P.length c)).run Try.prog w = .ok (.string (ofBs P)) w := by
  rcases h.2 with ⟨h1, h2⟩ | ⟨g, cap, cur, h1, h2, h3, h4, h5, h6, h7⟩
  · simp only [Value.slice.injEq] at h1
    obtain ⟨rfl, -, rfl⟩ := h1
    have : P = [] := List.eq_nil_of_length_eq_zero h2
    subst this
    exact bconv_zero w none 0
  · simp only [Value.slice.injEq] at h1
    obtain ⟨rfl, -, rfl⟩ := h1
    refine bconv_range w g 0 P.length c (ofBs P) (ofBs_size _) (fun j u hj => ?_)
    rw [Nat.zero_add, cell_of_row w g j cur _ (0, 0) h3]
    rw [ofBs_cells, ← h7, Nat.mul_one, List.getElem?_take] at hj
    split at hj
    · rw [← hj, Array.getElem?_toList]
    · cases hj
end
/-! The acts of a line. -/
theorem act_take0 (o : List UInt8) (y : Int) : (lineX [] o).act 1 4294967236 y = (0, 2, lineX [] o) := rfl
theorem act_take1 (c : UInt8) (r o : List UInt8) (y : Int) : (lineX (c :: r) o).act 1 4294967236 y = ((c.toNat : Int), 0, lineX r o) := rfl
theorem u8Of_256 (c : UInt8) : u8Of ((c.toNat : Int) + 256) = c := by
  have h := u8Of_toNat ((c.toNat : Int) + 256)
  have hc := c.toNat_lt
  apply UInt8.toNat_inj.1
  omega
theorem act_put1 (q o : List UInt8) (c : UInt8) (h : o.length < 65536) : (lineX q o).act 3 4294967236 ((c.toNat : Int) + 256) = (0, 0, lineX q (o ++ [c])) := by
  show (0, 0, (lineX q o).put ((c.toNat : Int) + 256)) = _
  unfold BS.put
  rw [if_pos (show (lineX q o).o.length < 65536 from h), u8Of_256]
  rfl
theorem act_put0 (q o : List UInt8) (c : UInt8) (h : ¬ o.length < 65536) : (lineX q o).act 3 4294967236 ((c.toNat : Int) + 256) = (0, 0, lineX q o) := by
  show (0, 0, (lineX q o).put ((c.toNat : Int) + 256)) = _
  unfold BS.put
  rw [if_neg (show ¬ (lineX q o).o.length < 65536 from h)]
/-- Which of n things a raw number speaks of. -/
def pickV (c : Int) (n : Nat) : Nat := (if c < 0 then (-(c + 1)).toNat else c.toNat) % n
theorem pick_any (c : Int) (n : Nat) (hn : 0 < n) (hn' : n ≤ 1000000) (c0 : -9223372036854775808 ≤ c) (c1 : c ≤ 9223372036854775807) (w : World) :
    Calls Try.prog 12 #[.int .i64 c, .int .i64 (n : Int)] w fun e w' => e = .returned (.int .i64 (pickV c n)) ∧ w = w' := by
  have h0 : ¬ (n : Int) = 0 := by omega
  have h0' : ((n : Int) == 0) = false := by simpa using h0
  by_cases h : c < 0
  · have h1 : IntKind.i64.wrap (c + 1) = c + 1 := IntWalk.i64_in _ (by omega)
    have h2 : IntKind.i64.wrap (-(c + 1)) = -(c + 1) := IntWalk.i64_in _ (by omega)
    go_enter Try.func12, Try.ntmps12
    go_wp2_with fail
    go_ret
    refine ⟨?_, rfl⟩
    have e : (-(c + 1)).tmod (n : Int) = ((pickV c n : Nat) : Int) := by
      obtain ⟨k, hk⟩ := Int.eq_ofNat_of_zero_le (show 0 ≤ -(c + 1) by omega)
      rw [Int.tmod_eq_emod_of_nonneg (by omega)]
      unfold pickV
      rw [if_pos h, hk]
      simp
    rw [← e]
    simp
  · obtain ⟨k, rfl⟩ := Int.eq_ofNat_of_zero_le (show 0 ≤ c by omega)
    go_enter Try.func12, Try.ntmps12
    go_wp2_with fail
    go_ret
    refine ⟨?_, rfl⟩
    unfold pickV
    rw [if_neg (by omega)]
    simp
theorem pickV_lt (c : Int) (n : Nat) (hn : 0 < n) : pickV c n < n := by unfold pickV; exact Nat.mod_lt _ hn
/-- A list of texts, read. -/
def RdS (w : World) (A : Option Addr) (n : Nat) (f : Nat → ByteArray) : Prop := 0 < n → ∃ b off, A = some ⟨b, off, none⟩ ∧ b < w.heap.size ∧ ∀ i, i < n → w.cell? ⟨b, off + i, none⟩ = some (.string (f i))
theorem rows_str {w : World} {A : Option Addr} {cap : Nat} {V : Nat → Nat → Value} (h : Gen.Rows_ w A cap [.str] V) : ∃ f : Nat → ByteArray, RdS w A cap f ∧ ∀ i, i < cap → (f i).size ≤ reachBytes := by
  have hV : ∀ i, i < cap → ∃ s, V i 0 = .string s ∧ s.size ≤ reachBytes := fun i hi => (h.2 i 0 _ hi rfl).str_inv
  refine ⟨fun i => if hi : i < cap then (hV i hi).choose else ByteArray.empty, fun h0 => ?_, fun i hi => by simp only [hi, dif_pos]; exact (hV i hi).choose_spec.2⟩
  obtain ⟨b, off, hA, hlt, hc⟩ := h.1 h0 (by simp)
  refine ⟨b, off, hA, hlt, fun i hi => ?_⟩
  have := hc i 0 hi (by simp)
  simp only [List.length_cons, List.length_nil, Nat.zero_add, Nat.mul_one, Nat.add_zero] at this
  rw [this, (hV i hi).choose_spec.1]
  simp only [hi, dif_pos]
section
variable {w0 w w1 : World} {b d : Nat} {vf vp : Value} {F P q o : List UInt8} {keep : List Nat}
theorem Law.feed_step (L : Law w0 w b d (lineX q o) keep) (s : ByteArray) (h : q.length + s.size ≤ 65536) :
    Calls Try.prog 17 #[.pointer (some ⟨b, 0, none⟩), .string s] w fun e w' => e = .returned (.int .i64 0) ∧ Law w0 w' b d (lineX (q ++ s.data.toList) o) keep ∧ ∀ g ∈ keep, w'.heap[g]? = w.heap[g]? := L.feed_yes s h
theorem Line.take0 (L : Line w0 w b d vf vp F P [] o) :
    Calls Try.prog 10 #[.pointer (some ⟨b, 0, none⟩), .agg #[.int .i64 1, .int .u32 4294967236, .int .u32 0]] w fun e w' => e = .returned (.tuple #[.int .u32 0, .int .i64 2]) ∧ Line w0 w' b d vf vp F P [] o :=
  (L.law.act (act_take0 o 0) (by decide) (by decide) (by decide) (by decide)).mono fun e w' ⟨h1, h2, h3⟩ => ⟨h1, L.moved h2 h3⟩
theorem Line.take1 {c : UInt8} {r : List UInt8} (L : Line w0 w b d vf vp F P (c :: r) o) :
    Calls Try.prog 10 #[.pointer (some ⟨b, 0, none⟩), .agg #[.int .i64 1, .int .u32 4294967236, .int .u32 0]] w fun e w' => e = .returned (.tuple #[.int .u32 c.toNat, .int .i64 0]) ∧ Line w0 w' b d vf vp F P r o :=
  (L.law.act (act_take1 c r o 0) (by decide) (by decide) (by decide) (by decide)).mono fun e w' ⟨h1, h2, h3⟩ => ⟨h1, L.moved h2 h3⟩
/-- Put out, as far as there is room. -/
def outL (o : List UInt8) (c : UInt8) : List UInt8 := if o.length < 65536 then o ++ [c] else o
theorem Line.put1 (L : Line w0 w b d vf vp F P q o) (c : UInt8) :
    Calls Try.prog 10 #[.pointer (some ⟨b, 0, none⟩), .agg #[.int .i64 3, .int .u32 4294967236, .int .u32 ((c.toNat : Int) + 256)]] w fun e w' => e = .returned (.tuple #[.int .u32 0, .int .i64 0]) ∧ Line w0 w' b d vf vp F P q (outL o c) := by
  have hc := c.toNat_lt
  unfold outL
  by_cases h : o.length < 65536
  · rw [if_pos h]
    exact (L.law.act (act_put1 q o c h) (by decide) (by decide) (by omega) (by omega)).mono fun e w' ⟨h1, h2, h3⟩ => ⟨h1, L.moved h2 h3⟩
  · rw [if_neg h]
    exact (L.law.act (act_put0 q o c h) (by decide) (by decide) (by omega) (by omega)).mono fun e w' ⟨h1, h2, h3⟩ => ⟨h1, L.moved h2 h3⟩
theorem Line.feedYes (L : Line w0 w b d vf vp F P q o) (s : ByteArray) (h : q.length + s.size ≤ 65536) :
    Calls Try.prog 17 #[.pointer (some ⟨b, 0, none⟩), .string s] w fun e w' => e = .returned (.int .i64 0) ∧ Line w0 w' b d vf vp F P (q ++ s.data.toList) o :=
  (L.law.feed_step s h).mono fun e w' ⟨h1, h2, h3⟩ => ⟨h1, L.moved h2 h3⟩
theorem Line.feedNo (L : Line w0 w b d vf vp F P q o) (s : ByteArray) (h : 65536 < q.length + s.size) (hs : s.size ≤ 140737488351232) :
    Calls Try.prog 17 #[.pointer (some ⟨b, 0, none⟩), .string s] w fun e w' => e = .returned (.int .i64 40) ∧ w = w' := L.law.feed_no s h hs
theorem Line.waiting (L : Line w0 w b d vf vp F P q o) :
    Calls Try.prog 18 #[.pointer (some ⟨b, 0, none⟩)] w fun e w' => e = .returned (.int .i64 q.length) ∧ w = w' := L.law.waiting
theorem Line.out (L : Line w0 w b d vf vp F P q o) :
    Calls Try.prog 19 #[.pointer (some ⟨b, 0, none⟩)] w fun e w' => e = .returned (.string (ofBs o)) ∧ w = w' := L.law.out
theorem Line.size (L : Line w0 w b d vf vp F P q o) : w0.heap.size ≤ w.heap.size := L.law.below.size
theorem Line.ql (L : Line w0 w b d vf vp F P q o) : q.length ≤ 65536 := by
  obtain ⟨v, base, hb, hd, B, hv⟩ := L.law.bus
  exact B.ql
theorem Line.pl (L : Line w0 w b d vf vp F P q o) : o.length ≤ 65536 := by
  obtain ⟨v, base, hb, hd, B, hv⟩ := L.law.bus
  exact B.ol
theorem Line.rd {g off c : Nat} (L : Line w0 w b d (.slice (some ⟨g, off, none⟩) F.length c) vp F P q o) (i : Nat) (hi : i < F.length) {ch : UInt8} (hc : F[i] = ch) : w.cell? ⟨g, off + i, none⟩ = some (.int .u8 ch.toNat) := by
  obtain ⟨g', off', c', hs, hr⟩ := L.fed.read i hi
  simp only [Value.slice.injEq, Option.some.injEq, Addr.mk.injEq] at hs
  obtain ⟨⟨rfl, rfl, -⟩, -, -⟩ := hs
  rw [hr, hc]
theorem Line.puts {a : Option Addr} {c g cap : Nat} {w7 : World} {ch : UInt8} (L : Line w0 w b d vf (.slice a P.length c) F P q (outL P ch)) (h6 : P.length < 65536) (hown : w7.ownsRow w0.heap.size 5 1 (.slice (some ⟨g, 0, none⟩) (P.length + 1) cap) (P.length + 1) (bcells P ++ [.int .u8 ch.toNat])) (T : Touch w w7 (Value.slice a P.length c).ownBlock.toList)
    (hat : (Value.slice a P.length c).ownBlock = some g ∨ g = w.heap.size + 1) : Line w0 w7 b d vf (.slice (some ⟨g, 0, none⟩) (P ++ [ch]).length cap) F (P ++ [ch]) q (P ++ [ch]) := by
  have hl : (P ++ [ch]).length = P.length + 1 := by simp
  have hb : bcells (P ++ [ch]) = bcells P ++ [.int .u8 ch.toNat] := by rw [bcells_append]; rfl
  have := L.putGrown (u := .slice (some ⟨g, 0, none⟩) (P ++ [ch]).length cap) (P' := P ++ [ch]) (by rw [hb, hl]; exact hown) T (fun g' hg' => by
    obtain rfl : g = g' := by simpa [Value.ownBlock] using hg'
    exact hat.imp id (fun h => by omega))
  rw [show outL P ch = P ++ [ch] from if_pos h6] at this
  exact this
theorem Line.step {w' : World} (L : Line w0 w b d vf vp F P q o) (h : Below w.heap.size w w') : Line w0 w' b d vf vp F P q o :=
  L.moved (L.law.step h) (fun g hg => h.block g (L.law.kept g hg))
theorem Line.drew (L : Line w0 w b d vf vp F P q o) (n : Nat) : Line w0 (w.drewN n) b d vf vp F P q o := L.step ⟨rfl, rfl, rfl, Nat.le_refl _, fun _ _ => rfl⟩
theorem Line.waitQ (L : Line w0 w b d vf vp F P q o) {z : Int} (hz : (q.length : Int) = z) (n : Nat) :
    Calls Try.prog 18 #[.pointer (some ⟨b, 0, none⟩)] (w.drewN n) fun e w' => e = .returned (.int .i64 z) ∧ w' = w.drewN n :=
  (L.drew n).waiting.mono fun _ _ ⟨h1, h2⟩ => ⟨by rw [h1, hz], h2.symm⟩
theorem Line.outQ (L : Line w0 w b d vf vp F P q o) (n : Nat) :
    Calls Try.prog 19 #[.pointer (some ⟨b, 0, none⟩)] (w.drewN n) fun e w' => e = .returned (.string (ofBs o)) ∧ w' = w.drewN n :=
  (L.drew n).out.mono fun _ _ ⟨h1, h2⟩ => ⟨h1, h2.symm⟩
end
end Go.Proofs.Ytmamocdkmmkkjaa
