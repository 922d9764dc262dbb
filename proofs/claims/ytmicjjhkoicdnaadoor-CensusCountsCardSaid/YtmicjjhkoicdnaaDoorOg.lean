/-
  The octets' readers: Row, Count, End, the program's and the document's; Read; no reader. Conditions are typed with each.
-/
import Derived.Test.YtmicjjhkoicdnaaDoorOf
namespace Go.Proofs.YtmicjjhkoicdnaaDoor
open Go.RowKit
set_option maxRecDepth 100000
/-- What Row reads. -/
def rowR (e : Int) (bs : List UInt8) (most : Int) : List UInt8 × Int × List UInt8 :=
  let r := numR e bs 4
  if r.2.1 ≠ 0 then ([], r.2) else if most < r.1 then ([], 3, r.2.2) else fixR 0 r.2.2 r.1
theorem rowR_eq (e : Int) (bs : List UInt8) (most : Int) : rowR e bs most = if (numR e bs 4).2.1 ≠ 0 then ([], (numR e bs 4).2) else if most < (numR e bs 4).1 then ([], 3, (numR e bs 4).2.2) else fixR 0 (numR e bs 4).2.2 (numR e bs 4).1 := rfl
/-- What Count reads. -/
def cntR (e : Int) (bs : List UInt8) (most : Int) : Int × Int × List UInt8 :=
  let r := numR e bs 2
  if r.2.1 = 0 ∧ most < r.1 then (0, 4, r.2.2) else ((r.1 : Int), r.2)
theorem cntR_eq (e : Int) (bs : List UInt8) (most : Int) : cntR e bs most = if (numR e bs 2).2.1 = 0 ∧ most < (numR e bs 2).1 then (0, 4, (numR e bs 2).2.2) else (((numR e bs 2).1 : Int), (numR e bs 2).2) := rfl
/-- What End says. -/
def endR (e : Int) (bs : List UInt8) : Int := if e = 0 ∧ 0 < bs.length then 2 else e
/-! no reader -/
end Go.Proofs.YtmicjjhkoicdnaaDoor
