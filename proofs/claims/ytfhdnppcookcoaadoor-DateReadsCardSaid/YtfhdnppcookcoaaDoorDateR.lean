/- What the reference's ReadImap says. -/
import Derived.Test.YtfhdnppcookcoaaDoorDate28
namespace Go.Proofs.YtfhdnppcookcoaaDoor
open Go.RowKit Go.PlainAid
set_option linter.unusedVariables false
set_option linter.unusedSimpArgs false
def RNumIs (s : ByteArray) (v : Int) : Prop := ∀ w, Calls Tryd.prog 39 #[.string s] w fun e w' => e = .returned (.int .i64 v) ∧ w = w'
theorem RNumIs.at_ {s : ByteArray} {v : Int} (h : RNumIs s v) (w : World) : Calls Tryd.prog 39 #[.string s] w fun e w' => e = .returned (.int .i64 v) ∧ w = w' := h w
theorem rnum_is (s : ByteArray) (hs : s.size ≤ 10) : RNumIs s (rnumV s) := fun w => rnum_any s w hs
def WhichIs (s : ByteArray) (v : Int) : Prop := ∀ w, Calls Tryd.prog 40 #[.string s] w fun e w' => e = .returned (.int .i64 v) ∧ Below w.heap.size w w'
theorem WhichIs.at_ {s : ByteArray} {v : Int} (h : WhichIs s v) (w : World) : Calls Tryd.prog 40 #[.string s] w fun e w' => e = .returned (.int .i64 v) ∧ Below w.heap.size w w' := h w
def SecIs (y m d n : Int) (o : Bool) : Prop := ∀ w, Calls Tryd.prog 38 #[.int .i64 y, .int .i64 m, .int .i64 d] w fun e w' => e = .returned (.tuple #[.int .i64 n, .bool o]) ∧ w = w'
theorem SecIs.at_ {y m d n : Int} {o : Bool} (h : SecIs y m d n o) (w : World) : Calls Tryd.prog 38 #[.int .i64 y, .int .i64 m, .int .i64 d] w fun e w' => e = .returned (.tuple #[.int .i64 n, .bool o]) ∧ w = w' := h w
theorem secV_le (y m d : Int) (y1 : y ≤ 9999) (m1 : m ≤ 9999) : -1000000000000 ≤ (secV y m d).1 ∧ (secV y m d).1 ≤ 1000000000000 := by
  unfold secV
  split
  · rename_i h
    have ha0 := ahead_mono 0 y (by omega) (by omega)
    have ha1 := ahead_mono y 10000 (by omega) (by omega)
    rw [ahead_10000] at ha1
    rw [show ahead 0 = 0 from rfl] at ha0
    have hb0 := bef_nonneg y (m - 1).toNat
    have hb1 := bef_le y (m - 1).toNat
    have hl := mdays_le y m
    show -1000000000000 ≤ 86400 * dayNum y m d ∧ 86400 * dayNum y m d ≤ 1000000000000
    unfold dayNum
    omega
  · simp
/-- what the reference makes of a date's numbers -/
def rEnd (o : Bool) (h mi se zh zm n : Int) : Int × Int :=
  if o = true ∧ 0 ≤ h ∧ h ≤ 23 ∧ 0 ≤ mi ∧ mi ≤ 59 ∧ 0 ≤ se ∧ se ≤ 59 ∧ 0 ≤ zh ∧ zh ≤ 23 ∧ 0 ≤ zm ∧ zm ≤ 59 ∧ 0 ≤ n ∧ n ≤ 253402300799 then (n, 0) else (0, 3)
def rZone (g zh zm : Int) : Int := if g = 45 then -(3600 * zh + 60 * zm) else 3600 * zh + 60 * zm
def rdayW (s : ByteArray) : ByteArray := if bt s 0 = 32 then (s.extract 0 2).extract 1 2 else s.extract 0 2
def rReadImapV (s : ByteArray) : Int × Int :=
  if s.size = 26 ∧ bt s 2 = 45 ∧ bt s 6 = 45 ∧ bt s 11 = 32 ∧ bt s 14 = 58 ∧ bt s 17 = 58 ∧ bt s 20 = 32 ∧ (bt s 21 = 43 ∨ bt s 21 = 45) then
    rEnd (secV (rnumV (s.extract 7 11)) (monV (s.extract 3 6)) (rnumV (rdayW s))).2 (rnumV (s.extract 12 14)) (rnumV (s.extract 15 17)) (rnumV (s.extract 18 20)) (rnumV (s.extract 22 24)) (rnumV (s.extract 24 26))
      ((secV (rnumV (s.extract 7 11)) (monV (s.extract 3 6)) (rnumV (rdayW s))).1 + 3600 * rnumV (s.extract 12 14) + 60 * rnumV (s.extract 15 17) + rnumV (s.extract 18 20) - rZone (bt s 21) (rnumV (s.extract 22 24)) (rnumV (s.extract 24 26)))
  else (0, 3)
end Go.Proofs.YtfhdnppcookcoaaDoor
