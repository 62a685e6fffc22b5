/- The calendar of four hundred years, checked day by day. -/
import Derived.Test.YtfhdnppcookcoaaDoorLib
namespace Go.Proofs.YtfhdnppcookcoaaDoor
def civChk (d : Nat) : Bool :=
  let y := (d - d / 1460 + d / 36524 - d / 146096) / 365
  let s := 365 * y + y / 4 - y / 100
  Nat.ble 146097 d || (Nat.ble s d && Nat.ble (d - s) 365 && Nat.ble y 399 && (!(Nat.beq (d - s) 365) || (Nat.beq ((y + 1) % 4) 0 && (!(Nat.beq ((y + 1) % 100) 0) || Nat.beq ((y + 1) % 400) 0))))
theorem civ_checked : ((List.range 400).all fun i => (List.range 366).all fun j => civChk (366 * i + j)) = true := by decide +kernel
end Go.Proofs.YtfhdnppcookcoaaDoor
