/- What is not exported makes no difference: the arguments. -/
import Derived.Test.YtgemnmceflcpcaaShE
namespace Go.Proofs.Ytgemnmceflcpcaa
open Go Go.RowKit Go.Lib Go.Proofs.Ytgemnmceflcpcaa.Sy
set_option linter.unusedVariables false
set_option linter.unusedSimpArgs false
theorem good_md {w : World} {nm : ByteArray} {v4 v6 v7 v8 : Value} {fs : Gen.CT} (hn : nm.size ≤ reachBytes)
    (h4 : Gen.Good w (.slice 72 [.int .i64, .int .i64, .int .i64, .int .i64, fs, .int .i64, .int .i64]) v4) (h6 : Gen.Good w (.slice 56 [.str, .int .i64, .int .i64, .str, .bool]) v6)
    (h7 : Gen.Good w (.slice 32 [.str, .int .i64, .bool, .bool]) v7) (h8 : Gen.Good w (.slice 112 [.str, .bool, .int .i64, .slice 32 [.str, .int .i64, .bool, .bool], .int .i64, .opq, .opq]) v8) :
    ∃ (m : Md) (A0 : Option Addr) (cap0 : Nat), m.name = nm ∧ v4 = .slice A0 m.types.length cap0 ∧ MdAt w m A0 cap0 v6 v7 v8 ∧ ArgL v6 m.consts.length 56 ∧ ArgL v7 m.vars.length 32 ∧ ArgL v8 m.procs.length 112 := by
  obtain ⟨A0, cap0, lt, e4, ht⟩ := good_types h4
  obtain ⟨lc, hc⟩ := good_consts h6
  obtain ⟨lv, hv⟩ := good_vds h7
  obtain ⟨lp, hp⟩ := good_pds h8
  have ac := good_arg (n := lc.length) h6 hc.1 (List.length_map _)
  have av := good_arg (n := lv.length) h7 hv.rows (List.length_map _)
  have ap : ArgL v8 lp.length 112 := by
    obtain ⟨xs, h1, h2, _⟩ := hp
    exact good_arg h8 h2 (by rw [List.length_zipWith, h1, Nat.min_self])
  refine ⟨⟨nm, lt, lc, lv, lp⟩, A0, cap0, rfl, e4, ⟨⟨reach_len hn, ht.wf, hc.2, fun v hv' => (hv.fit v hv').1, fun p hp' => ?_⟩, ht, hc, hv, hp, ?_, ?_, ?_⟩, ac, av, ap⟩
  · obtain ⟨xs, h1, _, h3⟩ := hp
    obtain ⟨k, hk⟩ := List.mem_iff_getElem?.1 hp'
    have hkl : k < lp.length := (List.getElem?_eq_some_iff.1 hk).1
    exact (h3 k p _ hk (List.getElem?_eq_getElem (by omega))).2.2.2
  · have := ac.reach; show lc.length * 56 ≤ _; omega
  · have := av.reach; show lv.length * 32 ≤ _; omega
  · have := ap.reach; show lp.length * 112 ≤ _; omega
def symHidesAts : List Gen.AT := [.agg [.str, .bool, .slice 24 [.str, .int .u32], .slice 88 [.str, .slice 56 [.str, .int .i64, .int .i64, .str, .bool], .slice 40 [.str, .int .i64, .int .i64, .bool, .bool], .slice 48 [.str, .slice 40 [.str, .int .i64, .int .i64, .bool, .bool], .int .i64]], .slice 72 [.int .i64, .int .i64, .int .i64, .int .i64, .slice 32 [.str, .int .i64, .int .i64], .int .i64, .int .i64], .slice 16 [.str], .slice 56 [.str, .int .i64, .int .i64, .str, .bool], .slice 32 [.str, .int .i64, .bool, .bool], .slice 112 [.str, .bool, .int .i64, .slice 32 [.str, .int .i64, .bool, .bool], .int .i64, .opq, .opq], .opq], .agg [.str, .int .i64, .int .i64, .str, .bool], .agg [.str, .int .i64, .bool, .bool], .agg [.str, .bool, .int .i64, .slice 32 [.str, .int .i64, .bool, .bool], .int .i64, .opq, .opq]]
theorem symHides_args (W : World) (vs : List Value) (h : Gen.ArgsGood W symHidesAts vs) :
    Calls Try.prog 4 vs.toArray W fun e W' => e = .returned (.bool true) ∧ Below W.heap.size W W' := by
  match vs, h with
  | [v0, v1, v2, v3], h =>
    obtain ⟨h0, h1, h2, h3, _⟩ := h
    obtain ⟨cs, rfl, hl, hg⟩ := h0
    match cs, hl with
    | [a0, a1, a2, a3, a4, a5, a6, a7, a8, a9], _ =>
      obtain ⟨nm, rfl, g0⟩ := (hg 0 _ a0 rfl rfl).str_inv
      obtain ⟨b1, rfl⟩ := (hg 1 _ a1 rfl rfl).bool_inv
      obtain ⟨m, A0, cap0, rfl, rfl, hM, ac, av, ap⟩ := good_md g0 (hg 4 _ a4 rfl rfl) (hg 6 _ a6 rfl rfl) (hg 7 _ a7 rfl rfl) (hg 8 _ a8 rfl rfl)
      have o2 := good_slice_one (hg 2 _ a2 rfl rfl)
      have o3 := good_slice_one (hg 3 _ a3 rfl rfl)
      have o5 := good_slice_one (hg 5 _ a5 rfl rfl)
      have o9 := good_opq (hg 9 _ a9 rfl rfl)
      obtain ⟨cs1, rfl, hl1, hg1⟩ := h1
      match cs1, hl1 with
      | [b0, b1', b2, b3, b4], _ =>
        obtain ⟨s0, rfl, q0⟩ := (hg1 0 _ b0 rfl rfl).str_inv
        obtain ⟨n1, rfl, q1⟩ := (hg1 1 _ b1' rfl rfl).int_inv
        obtain ⟨n2, rfl, q2⟩ := (hg1 2 _ b2 rfl rfl).int_inv
        obtain ⟨s3, rfl, q3⟩ := (hg1 3 _ b3 rfl rfl).str_inv
        obtain ⟨b4', rfl⟩ := (hg1 4 _ b4 rfl rfl).bool_inv
        obtain ⟨cs2, rfl, hl2, hg2⟩ := h2
        match cs2, hl2 with
        | [d0, d1, d2, d3], _ =>
          obtain ⟨t0, rfl, r0⟩ := (hg2 0 _ d0 rfl rfl).str_inv
          obtain ⟨m1, rfl, r1⟩ := (hg2 1 _ d1 rfl rfl).int_inv
          obtain ⟨e2, rfl⟩ := (hg2 2 _ d2 rfl rfl).bool_inv
          obtain ⟨e3, rfl⟩ := (hg2 3 _ d3 rfl rfl).bool_inv
          obtain ⟨cs3, rfl, hl3, hg3⟩ := h3
          match cs3, hl3 with
          | [f0, f1, f2, f3, f4, f5, f6], _ =>
            obtain ⟨u0, rfl, w0⟩ := (hg3 0 _ f0 rfl rfl).str_inv
            obtain ⟨c1, rfl⟩ := (hg3 1 _ f1 rfl rfl).bool_inv
            obtain ⟨k2, rfl, w2⟩ := (hg3 2 _ f2 rfl rfl).int_inv
            obtain ⟨lv, hlv⟩ := good_vds (hg3 3 _ f3 rfl rfl)
            obtain ⟨k4, rfl, w4⟩ := (hg3 4 _ f4 rfl rfl).int_inv
            have o5' := good_opq (hg3 5 _ f5 rfl rfl)
            have o6' := good_opq (hg3 6 _ f6 rfl rfl)
            exact hides_any hM ac av ap (sb := .bool b1) (iv := a2) (yv := a3) (gv := a5) (nv := a9) rfl o2 o3 o5 o9 ⟨s0, n1, n2, s3, b4'⟩ ⟨reach_len q0, reach_len q3, q1, q2⟩ ⟨t0, m1, e2, e3⟩ ⟨reach_len r0, r1⟩ ⟨u0, c1, k2, lv, k4⟩ hlv o5' o6' (reach_len w0)
end Go.Proofs.Ytgemnmceflcpcaa
