import Derived.Test.YtpcbpljdiacbmaaJFtlN
import Derived.Test.YtpcbpljdiacbmaaJScanB
import Derived.Test.YtpcbpljdiacbmaaJFtlPool
set_option linter.unusedVariables false
set_option linter.unusedSimpArgs false
namespace Go.Proofs.Ytpcbpljdiacbmaa.Ftl
open Go.RowKit Go.Proofs.Ytpcbpljdiacbmaa.Kit Go.Proofs.Ytpcbpljdiacbmaa.Oct Go.Proofs.Ytpcbpljdiacbmaa.Sheet Go.Proofs.Ytpcbpljdiacbmaa.Nand Go.Proofs.Ytpcbpljdiacbmaa.Plan Go.Proofs.Ytpcbpljdiacbmaa.Scan Go.Proofs.Ytpcbpljdiacbmaa.Pmap Go.Proofs.Ytpcbpljdiacbmaa.Pool

/-! What the functions of ftl compute, as plain data. -/
structure FC where
 nb : Nat
 np : Nat
 S : Nat
 bad : List Int
 M : Nat
 ep : Nat
def FC.xs (c : FC) : List Int := us c.nb c.bad
structure FT where
 N : NA
 at' : List (Int × Int)
 has : List Bool
 cnt : List Int
 hs : List (Option Nat)
 seq : Nat
def FT.how (c : FC) (st : FT) (b h : Nat) : FT := { st with hs := poolSet c.xs st.hs b h }
def eraseF (c : FC) (st : FT) (b : Nat) : FT × Int :=
 if (st.N.erase (b : Int) c.ep).2 = 0 then (({ st with N := (st.N.erase (b : Int) c.ep).1 } : FT).how c b 0, 0)
 else if (st.N.erase (b : Int) c.ep).2 = 8 then (({ st with N := (st.N.erase (b : Int) c.ep).1 } : FT).how c b 3, 0)
 else ({ st with N := (st.N.erase (b : Int) c.ep).1 }, (st.N.erase (b : Int) c.ep).2)
/-- The bytes of an address's next page. -/
def FT.next (c : FC) (st : FT) (K a f : Nat) (ys : List Int) : List Int := page K c.ep (st.seq + 1) a f ys
def FT.prg (c : FC) (st : FT) (b : Nat) (K a f : Nat) (ys : List Int) : NA × Int := st.N.prog (b : Int) ((st.N.blk b).pages.length : Int) (st.next c K a f ys) c.ep
def programF (c : FC) (st : FT) (b : Nat) (K a f : Nat) (ys : List Int) : FT × Int :=
 if (st.prg c b K a f ys).2 = 8 ∨ (st.prg c b K a f ys).2 = 6 then (({ st with N := (st.prg c b K a f ys).1, seq := st.seq + 1 } : FT).how c b 3, 8)
 else if (st.prg c b K a f ys).2 = 0 then ({ st with N := (st.prg c b K a f ys).1, seq := st.seq + 1, at' := st.at'.set a ((b : Int), ((st.N.blk b).pages.length : Int)), has := st.has.set a true, cnt := scnt st.at' st.has st.cnt a b }, 0)
 else ({ st with N := (st.prg c b K a f ys).1, seq := st.seq + 1 }, (st.prg c b K a f ys).2)
def FT.ers (c : FC) (st : FT) : List Int := (List.range c.nb).map fun i => (st.N.blk i).erases
def freeF (c : FC) (st : FT) : Option Int := bestF st.hs (st.ers c) 0 c.xs
def FT.cn (st : FT) (b : Nat) : Int := st.cnt.getD b 0
/-- The addresses whose pages are on a block. -/
def FT.on (c : FC) (st : FT) (b : Nat) : List Int := outs (byL st.at' st.has b c.M)
/-- What stands on an address's page. -/
noncomputable def FT.pg (st : FT) (a : Nat) : Option Pg := rdP ((st.N.blk (st.at'.getD a (0, 0)).1.toNat).pages.getD (st.at'.getD a (0, 0)).2.toNat [])
/-- .. if it can be read. -/
noncomputable def FT.rdF (st : FT) (a : Nat) : Option Pg := if st.has.getD a false = true ∧ st.N.readE (st.at'.getD a (0, 0)).1 (st.at'.getD a (0, 0)).2 = 0 then st.pg a else none
/-- What is done behind the copying of block v. -/
noncomputable def colEnd (c : FC) (v : Nat) : Option (FT × Int × Nat) → Option (FT × Int)
 | none => none
 | some r =>
  if r.2.1 ≠ 0 then some (r.1, r.2.1)
  else if (eraseF c r.1 v).2 ≠ 0 then some (eraseF c r.1 v) else some ((eraseF c r.1 v).1.how c r.2.2 2, 0)
/-- What is done where no block is open, or the open one is full. -/
noncomputable def FT.full (c : FC) (st : FT) : FT := match fOpen c.xs st.hs with
 | none => st
 | some b => st.how c b.toNat 1
end Go.Proofs.Ytpcbpljdiacbmaa.Ftl
