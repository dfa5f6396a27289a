/- Symbols: what they say; what may be shown. No memory in sight. -/
import Derived.WalkKit
namespace Go.Proofs.Ytgemnmceflcpcaa.Sy
set_option linter.unusedVariables false
structure Cst where
  name : ByteArray
  type : Int
  n : Int
  s : ByteArray
  shown : Bool
structure Vr where
  name : ByteArray
  form : Int
  len : Int
  opn : Bool
  ref : Bool
structure Pr where
  name : ByteArray
  params : List Vr
  result : Int
structure Sm where
  name : ByteArray
  consts : List Cst
  vars : List Vr
  procs : List Pr
def chr (s : ByteArray) (i : Nat) : Int := if h : i < s.size then (s[i].toNat : Int) else 0
def letN (c : Int) : Prop := (97 ≤ c ∧ c ≤ 122) ∨ (65 ≤ c ∧ c ≤ 90)
def okAt (s : ByteArray) (i : Nat) : Prop := letN (chr s i) ∨ (i ≠ 0 ∧ 48 ≤ chr s i ∧ chr s i ≤ 57)
/-- Is a text a name? -/
def isNm (s : ByteArray) : Prop := s.size ≠ 0 ∧ s.size ≤ 20 ∧ ∀ i, i < s.size → okAt s i
def plainF (f : Int) : Prop := 1 ≤ f ∧ f ≤ 5
def cstOk (c : Cst) : Prop := c.shown = true ∧
  ((c.type = 1 ∧ c.s = ⟨#[]⟩ ∧ -2147483648 ≤ c.n ∧ c.n ≤ 2147483647) ∨ (c.type = 2 ∧ c.s = ⟨#[]⟩ ∧ 0 ≤ c.n ∧ c.n ≤ 1) ∨ (c.type = 3 ∧ c.s = ⟨#[]⟩ ∧ 0 ≤ c.n ∧ c.n ≤ 255) ∨ (c.type = 5 ∧ c.s = ⟨#[]⟩ ∧ 0 ≤ c.n ∧ c.n ≤ 4294967295) ∨ (c.type = 7 ∧ c.n = 0 ∧ c.s.size ≤ 200))
def szF (f : Int) : Int := if f = 1 ∨ f = 5 then 4 else 1
def vrOk (v : Vr) : Prop := plainF v.form ∧ 0 ≤ v.len ∧ v.len * szF v.form ≤ 16384 ∧ v.opn = false ∧ v.ref = false
def prOk (p : Pr) : Prop := (∀ x ∈ p.params, plainF x.form ∧ x.name = ⟨#[]⟩ ∧ x.len = 0) ∧ p.params.length ≤ 8 ∧ (p.result = 0 ∨ plainF p.result)
/-- The names that symbols have, in their order. -/
def namesOf (s : Sm) : List ByteArray := s.consts.map Cst.name ++ s.vars.map Vr.name ++ s.procs.map Pr.name
/-- Is it what some module may show? -/
def smOk (s : Sm) : Prop := isNm s.name ∧ s.consts.length ≤ 200 ∧ s.vars.length ≤ 200 ∧ s.procs.length ≤ 100 ∧ (∀ n ∈ namesOf s, isNm n) ∧ (namesOf s).Nodup ∧ (∀ c ∈ s.consts, cstOk c) ∧ (∀ v ∈ s.vars, vrOk v) ∧ (∀ p ∈ s.procs, prOk p)
end Go.Proofs.Ytgemnmceflcpcaa.Sy
