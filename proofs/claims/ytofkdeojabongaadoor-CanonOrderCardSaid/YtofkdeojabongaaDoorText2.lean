/- The walks of package text: Digits, both. -/
import Derived.Test.YtofkdeojabongaaDoorText1
import Derived.Test.YtofkdeojabongaaDoorShelf
import Derived.Lib.AppendIntMem
import Derived.Deep.RegionWith
namespace Go.Proofs.YtofkdeojabongaaDoor
open Go.RowKit Go.PlainAid
set_option linter.unusedVariables false
set_option linter.unusedSimpArgs false
/-- the table that the library's Itoa reads lies as its initialiser lays it -/
def TabOK (w : World) : Prop := Lib.TabIs Tryd.prog w "internal/strconv.uint64pow10" .u64 Lib.pow10Tab
theorem TabOK.below {w w1 : World} (h : TabOK w) (hb : Below w.heap.size w w1) : TabOK w1 := ((Lib.tabBelow_of_tabIs h).on hb).here
theorem TabOK.drew {w : World} (h : TabOK w) : TabOK w.drew := h.below ((Below.refl _ _).drew)
theorem TabOK.alloc {w : World} (h : TabOK w) (o : Obj) : TabOK (w.alloc o) := h.below ((Below.refl _ _).alloc (Nat.le_refl _) o)
theorem conv1s (w : World) (a : Int) (c : Nat) : (convert 40 9 (.slice (some ⟨w.heap.size, 0, none⟩) 1 c)).run Tryd.prog (w.alloc (.cells #[.int .u8 a] 5)) = .ok (.string (strOfNums [a])) (w.alloc (.cells #[.int .u8 a] 5)) :=
  conv1 40 9 5 Tryd.underlying40 Tryd.underlying5 Tryd.underlying9 w a c
theorem conv1_keep {w w2 : World} {a : Int} (h : Below (w.alloc (.cells #[.int .u8 a] 5)).heap.size (w.alloc (.cells #[.int .u8 a] 5)) w2) :
    (convert 40 9 (.slice (some ⟨w.heap.size, 0, none⟩) 1 1)).run Tryd.prog w2 = .ok (.string (strOfNums [a])) w2 := by
  refine run_convert_bytes_arg w2 40 5 Tryd.underlying40 Tryd.underlying5 w.heap.size 0 1 1 [a] rfl (fun i hi => ?_) 9 Tryd.underlying9
  obtain rfl : i = 0 := by omega
  rw [Nat.add_zero, h.cell (by simp), World.cell?_alloc_mark]
  rfl
theorem conv1_keepD {w w2 : World} {a : Int} (h : Below ((w.alloc (.cells #[.int .u8 a] 5)).drew).heap.size ((w.alloc (.cells #[.int .u8 a] 5)).drew) w2) :
    (convert 40 9 (.slice (some ⟨w.heap.size, 0, none⟩) 1 1)).run Tryd.prog w2 = .ok (.string (strOfNums [a])) w2 :=
  conv1_keep (((Below.refl (w.alloc (.cells #[.int .u8 a] 5)).heap.size (w.alloc (.cells #[.int .u8 a] 5))).drew).trans h)
theorem conv1_drew (w : World) (a : Int) (c : Nat) : (convert 40 9 (.slice (some ⟨w.heap.size, 0, none⟩) 1 c)).run Tryd.prog (w.alloc (.cells #[.int .u8 a] 5)).drew = .ok (.string (strOfNums [a])) (w.alloc (.cells #[.int .u8 a] 5)).drew :=
  conv1 40 9 5 Tryd.underlying40 Tryd.underlying5 Tryd.underlying9 w.drew a c
theorem itoa_len (n : Int) (h0 : 0 ≤ n) (h1 : n ≤ 9223372036854775807) : (digS n).size ≤ 21 := by
  have := Lib.itoa_length_le n (by omega) (by omega)
  unfold digS
  rw [Int.max_eq_left h0]
  simpa [ByteArray.size] using this
theorem digS_neg (n : Int) (h : n < 0) : digS n = digS 0 := by
  unfold digS
  rw [Int.max_eq_right (by omega)]; rfl
theorem digS_one (n : Int) (h0 : 0 ≤ n) (h1 : n < 10) : digS n = strOfNums [48 + n] := by
  obtain ⟨k, rfl⟩ := Int.eq_ofNat_of_zero_le h0
  unfold digS Lib.itoa
  rw [Int.max_eq_left h0, if_neg (by omega), Int.toNat_natCast, Lib.decDigits_one (by omega)]
  have : (48 + (k : Int)).toNat = 48 + k := by omega
  simp [strOfNums, this]
theorem ba_ext' {a b : ByteArray} (h : a.toList = b.toList) : a = b := by
  rw [ByteArray.toList_eq, ByteArray.toList_eq] at h
  exact ByteArray.ext (Array.toList_inj.1 h)
theorem nums_toList (l : List Int) : (strOfNums l).toList = l.map fun n => UInt8.ofNat n.toNat := by rw [ByteArray.toList_eq]; exact strOfNums_data l
theorem digS_toList (n : Int) (h0 : 0 ≤ n) : (digS n).toList = Lib.decDigits n.toNat := by
  unfold digS Lib.itoa
  rw [Int.max_eq_left h0, if_neg (by omega), ByteArray.toList_eq]
theorem digS_more (n : Int) (h : 10 ≤ n) : digS n = digS (n / 10) ++ strOfNums [48 + n % 10] := by
  apply ba_ext'
  rw [app_toList, digS_toList n (by omega), digS_toList (n / 10) (by omega), nums_toList]
  rw [Lib.decDigits, dif_neg (by omega)]
  have e1 : (n / 10).toNat = n.toNat / 10 := by omega
  have e2 : (48 + n % 10).toNat = 48 + n.toNat % 10 := by omega
  rw [e1, List.map_cons, List.map_nil, e2]
section
attribute [local go_sem] conv1s conv1_drew
theorem rdigits_small (n : Int) (w : World) (h : n < 10) : Calls Tryd.prog 41 #[.int .i64 n] w fun e w' => e = .returned (.string (digS n)) ∧ Below w.heap.size w w' := by
  by_cases hn : 0 ≤ n
  · have hm : max n 0 = n := Int.max_eq_left hn
    have HD := Lib.hid (digS_one n hn h)
    go_enter Tryd.func41, Tryd.ntmps41
    go_wp2
    go_ret
    exact ⟨by rw [HD.out]; rfl, (Below.refl _ _).alloc (Nat.le_refl _) _⟩
  · have HD : Hid (digS n = strOfNums [48]) := by show _ = _; rw [digS_neg n (by omega), digS_one 0 (by omega) (by omega)]; rfl
    go_enter Tryd.func41, Tryd.ntmps41
    go_wp2
    go_ret
    exact ⟨by rw [HD.out]; show Ending.returned (.string (strOfNums [48 + max n 0])) = _; rw [Int.max_eq_right (by omega)]; rfl, (Below.refl _ _).alloc (Nat.le_refl _) _⟩
set_option maxRecDepth 100000 in
set_option maxHeartbeats 1000000 in
theorem rdigits_any (k : Nat) : ∀ (n : Int) (w : World), n ≤ k → n ≤ 9223372036854775807 → Calls Tryd.prog 41 #[.int .i64 n] w fun e w' => e = .returned (.string (digS n)) ∧ Below w.heap.size w w' := by
  induction k with
  | zero => intro n w h _; exact rdigits_small n w (by omega)
  | succ k ih =>
    intro n w h h1
    by_cases hn : n < 10
    · exact rdigits_small n w hn
    · have HD := Lib.hid (digS_more n (by omega))
      have hsz := itoa_len (n / 10) (by omega) (by omega)
      have hs1 : (strOfNums [48 + n % 10]).size ≤ 1 := by rw [strOfNums_size]; simp
      have IH : Hid (∀ w, Calls Tryd.prog 41 #[.int .i64 (n / 10)] w fun e w' => e = .returned (.string (digS (n / 10))) ∧ Below w.heap.size w w') := fun w => ih (n / 10) w (by omega) (by omega)
      clear ih
      have hW := Below.refl w.heap.size w
      have g0 : IntKind.i64.wrap (48 + n % 10) = 48 + n % 10 := IntWalk.i64_in _ (by omega)
      have g4 : IntKind.i64.wrap (n / 10) = n / 10 := IntWalk.i64_in _ (by omega)
      have g1 : IntKind.u8.wrap (48 + n % 10) = 48 + n % 10 := by rw [IntKind.wrap_u8]; omega
      have g2 : n.tmod 10 = n % 10 := Int.tmod_eq_emod_of_nonneg (by omega)
      have g3 : n.tdiv 10 = n / 10 := Int.tdiv_eq_ediv_of_nonneg (by omega)
      go_enter Tryd.func41, Tryd.ntmps41
      go_wp2_with fail
      go_region_with (go_at_call 41; refine (IH.out _).mono ?_; rintro e w1 ⟨rfl, hw1⟩; (try (first | have hcv := conv1_keepD hw1 | have hcv := conv1_keep hw1)); (first | replace hW := nextB hW hw1 | replace hW := nextA hW hw1 | replace hW := nextB hW.drew hw1 | replace hW := nextAA hW hw1 | replace hW := nextAD hW hw1); clear hw1)
      all_goals
        go_wp2
        go_ret
        refine ⟨by rw [HD.out]; rfl, ?_⟩
        first | exact hW | exact hW.alloc hW.size _
end
end Go.Proofs.YtofkdeojabongaaDoor
