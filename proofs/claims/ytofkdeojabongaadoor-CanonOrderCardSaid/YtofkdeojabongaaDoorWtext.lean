/- The walk of the writer's text. -/
import Derived.Test.YtofkdeojabongaaDoorBld
import Derived.Test.YtofkdeojabongaaDoorUtf0
import Derived.Deep.RegionHeld3
namespace Go.Proofs.YtofkdeojabongaaDoor
open Go.RowKit Go.PlainAid
set_option linter.unusedVariables false
set_option linter.unusedSimpArgs false
def hexU (k : Nat) : UInt8 := ([48, 49, 50, 51, 52, 53, 54, 55, 56, 57, 97, 98, 99, 100, 101, 102] : List UInt8).getD k 0
def escU (c : UInt8) : List UInt8 :=
  if c = 34 ∨ c = 92 then [92, c] else if 32 ≤ c.toNat then [c] else if c = 8 then [92, 98] else if c = 9 then [92, 116] else if c = 10 then [92, 110] else if c = 12 then [92, 102] else if c = 13 then [92, 114]
  else [92, 117, 48, 48, hexU (c.toNat / 16), hexU (c.toNat % 16)]
def quoteU (t : List UInt8) : List UInt8 := [34] ++ t.flatMap escU ++ [34]
theorem escU_le (c : UInt8) : (escU c).length ≤ 6 := by
  unfold escU
  repeat' split
  all_goals simp
theorem flat_le (t : List UInt8) : (t.flatMap escU).length ≤ 6 * t.length := by
  induction t with
  | nil => simp
  | cons c t ih =>
    have := escU_le c
    simp only [List.flatMap_cons, List.length_append, List.length_cons]; omega
theorem flat_snoc (t : List UInt8) (i : Nat) (h : i < t.length) : (t.take (i + 1)).flatMap escU = (t.take i).flatMap escU ++ escU t[i] := by
  rw [List.take_succ_eq_append_getElem h, List.flatMap_append]
  simp
theorem byteCells_app (a b : List UInt8) : Lib.byteCells (a ++ b) = Lib.byteCells a ++ Lib.byteCells b := by simp [Lib.byteCells]
theorem byteCells_one (a : List UInt8) (c : UInt8) : Lib.byteCells a ++ [.int .u8 c.toNat] = Lib.byteCells (a ++ [c]) := by simp [Lib.byteCells]
def WbIs (b : Nat) (c : Int) (P0 : World → Prop) (Q0 : World → World → Prop) : Prop := ∀ w, P0 w → Calls Tryd.prog 60 #[.pointer (some ⟨b, 0, none⟩), .int .u8 c] w fun e w' => e = .returned .nilIface ∧ Q0 w w'
abbrev hexS : ByteArray := ⟨#[48, 49, 50, 51, 52, 53, 54, 55, 56, 57, 97, 98, 99, 100, 101, 102]⟩
theorem hexS_at (k : Nat) (h : k < 16) : bt hexS k = (hexU k).toNat := by
  have hall : (List.range 16).all (fun k => bt hexS k == ((hexU k).toNat : Int)) = true := by decide +kernel
  exact beq_iff_eq.1 (List.all_eq_true.1 hall k (List.mem_range.2 h))
theorem wraps_u8 (n : Int) (h₀ : 0 ≤ n) (h₁ : n < 2 ^ 8) : IntKind.u8.wrap n = n := by rw [IntKind.wrap_u8]; omega
theorem u8_and15 (x : Int) (h₀ : 0 ≤ x) (h₁ : x < 256) : bits .and .u8 x 15 = x % 16 := bits_mask .u8 8 (by decide) wraps_u8 4 (by omega) x h₀ h₁
/-- one byte more, as bytes -/
theorem wbyte (B b : Nat) (l : List UInt8) (c : Int) (u : UInt8) (hu : c = u.toNat) (w : World) (h : Bld B b (Lib.byteCells l) w) (hlen : l.length + 1 ≤ 140737488355328) (hBw : B ≤ w.heap.size) :
    Calls Tryd.prog 60 #[.pointer (some ⟨b, 0, none⟩), .int .u8 c] w fun e w' => e = .returned .nilIface ∧ Bld B b (Lib.byteCells (l ++ [u])) w' ∧ Kept B b w w' := by
  subst hu
  have := WriteByte_any B b (Lib.byteCells l) u.toNat w h (by rw [Lib.byteCells_length]; exact hlen) hBw
  rw [byteCells_one] at this
  exact this
theorem wstr (B b : Nat) (l : List UInt8) (s : ByteArray) (t : List UInt8) (ht : s.toList = t) (w : World) (h : Bld B b (Lib.byteCells l) w) (hlen : l.length + t.length ≤ 140737488355328) (hBw : B ≤ w.heap.size) :
    Calls Tryd.prog 36 #[.pointer (some ⟨b, 0, none⟩), .string s] w fun e w' => e = .returned (.tuple #[.int .i64 s.size, .nilIface]) ∧ Bld B b (Lib.byteCells (l ++ t)) w' ∧ Kept B b w w' := by
  subst ht
  have hl : s.toList.length = s.size := by rw [ByteArray.toList_eq]; simp
  have := WriteString_any B b (Lib.byteCells l) s w h (by rw [Lib.byteCells_length]; omega) hBw
  rw [byteCells_app]
  have e : Lib.strCells s = Lib.byteCells s.toList := by rw [ByteArray.toList_eq]; rfl
  rw [← e]
  exact this
set_option maxRecDepth 100000 in
set_option maxHeartbeats 2000000 in
theorem Wtext_any (B b : Nat) (l : List UInt8) (s : ByteArray) (w : World) (h : Bld B b (Lib.byteCells l) w) (hl : l.length ≤ 100000000000000) (hs : s.size ≤ 1000000000) (hBw : B ≤ w.heap.size) :
    Calls Tryd.prog 38 #[.pointer (some ⟨b, 0, none⟩), .string s] w fun e w' => e = .returned (.tuple #[]) ∧ Bld B b (Lib.byteCells (l ++ quoteU s.toList)) w' ∧ Kept B b w w' := by
  have hb := get_bt s
  have hsl : s.toList.length = s.size := by rw [ByteArray.toList_eq]; simp
  have HSL := Lib.hid hsl
  clear hsl
  have H0 := Lib.hid h
  clear h
  have HF : Hid (∀ i, i < s.size → ∃ u : UInt8, bt s i = u.toNat ∧ (s.toList.take (i + 1)).flatMap escU = (s.toList.take i).flatMap escU ++ escU u) := fun i hi => by
    have hi2 : i < s.toList.length := by rw [HSL.out]; exact hi
    exact ⟨s.toList[i], bt_eq s i _ (List.getElem?_eq_getElem hi2), flat_snoc s.toList i hi2⟩
  have HL : Hid (∀ i, ((s.toList.take i).flatMap escU).length ≤ 6 * s.size) := fun i => by
    have h1 := flat_le (s.toList.take i)
    have h2 : (s.toList.take i).length ≤ s.toList.length := List.length_take_le' _ _
    rw [HSL.out] at h2
    omega
  have HEND : Hid ((s.toList.take s.size).flatMap escU = s.toList.flatMap escU) := by show _ = _; rw [List.take_of_length_le (by rw [HSL.out]; omega)]
  go_enter Tryd.func38, Tryd.ntmps38
  go_wp2_with fail
  refine (wbyte B b l 34 34 rfl _ H0.out (by omega) hBw).mono ?_; rintro e w1 ⟨rfl, hb1, hk1⟩
  have HB1 := Lib.hid hb1
  clear hb1 H0
  go_wp2_with fail
  go_loopw [12] (fun t wr => ∃ i : Nat, i ≤ s.size ∧ t = .int .i64 i ∧ Hid (Bld B b (Lib.byteCells (l ++ ([34] ++ (s.toList.take i).flatMap escU))) wr) ∧ Kept B b w wr) (fun t _ => s.size - (intOf t).toNat)
  case atStart => exact ⟨0, by omega, rfl, (by show Bld B b _ _; simpa using HB1.out), hk1⟩
  case round =>
    clear HB1 hk1
    obtain ⟨i, hi, rfl, hbl, hk⟩ := hrel
    have hsz := hk.1.size
    have hll := HL.out i
    by_cases hlt : i < s.size
    · obtain ⟨u, hu, hfl⟩ := HF.out i hlt
      have HFL := Lib.hid hfl
      have HU := Lib.hid hu
      have b0 := bt_nonneg s i
      have b1 := bt_le s i
      clear hfl hu
      generalize hX : l ++ ([34] ++ (s.toList.take i).flatMap escU) = X at hbl
      have HX : Hid (∀ E, escU u = E → l ++ ([34] ++ (s.toList.take (i + 1)).flatMap escU) = X ++ E) := fun E hE => by rw [HFL.out, ← hX, hE]; simp
      have hxl : X.length ≤ 120000000000000 := by rw [← hX]; simp only [List.length_append, List.length_cons, List.length_nil]; omega
      clear hX hll HFL
      obtain ⟨wo, rfl⟩ : ∃ wo : World, wo = wr := ⟨_, rfl⟩
      by_cases q34 : bt s i = 34
      · have HE := Lib.hid (HX.out [92, 34] (by rw [show u = 34 from UInt8.toNat_inj.1 (by have := HU.out; have e : ((34 : UInt8).toNat : Int) = 34 := rfl; omega)]; rfl))
        go_wp2_with fail
        refine (wbyte B b X 92 92 rfl _ hbl.out (by omega) (by omega)).mono ?_; rintro e w1 ⟨rfl, n1, k1⟩
        have N1 := Lib.hid n1
        have z1 := k1.1.size
        clear n1
        go_wp2_with fail
        refine (wbyte B b (X ++ [92]) _ 34 (by first | rfl | omega) _ N1.out (by simp; omega) (by omega)).mono ?_; rintro e w2 ⟨rfl, n2, k2⟩
        have N2 := Lib.hid n2
        clear n2
        go_wp2_with fail
        go_roundw
        case rel => exact ⟨i + 1, by omega, by go_num, (by show Bld B b _ _; rw [HE.out]; simpa using N2.out), (hk.trans k1).trans k2⟩
        case measure => simp [intOf]; omega
      have n34 : (bt s i == 34) = false := by rw [beq_eq_false_iff_ne]; exact q34
      by_cases q92 : bt s i = 92
      · have HE := Lib.hid (HX.out [92, 92] (by rw [show u = 92 from UInt8.toNat_inj.1 (by have := HU.out; have e : ((92 : UInt8).toNat : Int) = 92 := rfl; omega)]; rfl))
        go_wp2_with fail
        refine (wbyte B b X 92 92 rfl _ hbl.out (by omega) (by omega)).mono ?_; rintro e w1 ⟨rfl, n1, k1⟩
        have N1 := Lib.hid n1
        have z1 := k1.1.size
        clear n1
        go_wp2_with fail
        refine (wbyte B b (X ++ [92]) _ 92 (by first | rfl | omega) _ N1.out (by simp; omega) (by omega)).mono ?_; rintro e w2 ⟨rfl, n2, k2⟩
        have N2 := Lib.hid n2
        clear n2
        go_wp2_with fail
        go_roundw
        case rel => exact ⟨i + 1, by omega, by go_num, (by show Bld B b _ _; rw [HE.out]; simpa using N2.out), (hk.trans k1).trans k2⟩
        case measure => simp [intOf]; omega
      have n92 : (bt s i == 92) = false := by rw [beq_eq_false_iff_ne]; exact q92
      by_cases q32 : 32 ≤ bt s i
      · have HE := Lib.hid (HX.out [u] (by unfold escU; rw [if_neg (by rintro (e | e) <;> (subst e; have := HU.out; have e1 : ((34 : UInt8).toNat : Int) = 34 := rfl; have e2 : ((92 : UInt8).toNat : Int) = 92 := rfl; omega)), if_pos (by have := HU.out; omega)]))
        go_wp2_with fail
        refine (wbyte B b X _ u HU.out _ hbl.out (by omega) (by omega)).mono ?_; rintro e w1 ⟨rfl, n1, k1⟩
        have N1 := Lib.hid n1
        clear n1
        go_wp2_with fail
        go_roundw
        case rel => exact ⟨i + 1, by omega, by go_num, (by show Bld B b _ _; rw [HE.out]; exact N1.out), hk.trans k1⟩
        case measure => simp [intOf]; omega
      by_cases q8 : bt s i = 8
      · have HE := Lib.hid (HX.out [92, 98] (by rw [show u = 8 from UInt8.toNat_inj.1 (by have := HU.out; have e : ((8 : UInt8).toNat : Int) = 8 := rfl; omega)]; rfl))
        go_wp2_with fail
        refine (wstr B b X _ [92, 98] (by decide +kernel) _ hbl.out (by simp; omega) (by omega)).mono ?_; rintro e w1 ⟨rfl, n1, k1⟩
        have N1 := Lib.hid n1
        clear n1
        go_wp2_with fail
        go_roundw
        case rel => exact ⟨i + 1, by omega, by go_num, (by show Bld B b _ _; rw [HE.out]; exact N1.out), hk.trans k1⟩
        case measure => simp [intOf]; omega
      have n8 : (bt s i == 8) = false := by rw [beq_eq_false_iff_ne]; exact q8
      by_cases q9 : bt s i = 9
      · have HE := Lib.hid (HX.out [92, 116] (by rw [show u = 9 from UInt8.toNat_inj.1 (by have := HU.out; have e : ((9 : UInt8).toNat : Int) = 9 := rfl; omega)]; rfl))
        go_wp2_with fail
        refine (wstr B b X _ [92, 116] (by decide +kernel) _ hbl.out (by simp; omega) (by omega)).mono ?_; rintro e w1 ⟨rfl, n1, k1⟩
        have N1 := Lib.hid n1
        clear n1
        go_wp2_with fail
        go_roundw
        case rel => exact ⟨i + 1, by omega, by go_num, (by show Bld B b _ _; rw [HE.out]; exact N1.out), hk.trans k1⟩
        case measure => simp [intOf]; omega
      have n9 : (bt s i == 9) = false := by rw [beq_eq_false_iff_ne]; exact q9
      by_cases q10 : bt s i = 10
      · have HE := Lib.hid (HX.out [92, 110] (by rw [show u = 10 from UInt8.toNat_inj.1 (by have := HU.out; have e : ((10 : UInt8).toNat : Int) = 10 := rfl; omega)]; rfl))
        go_wp2_with fail
        refine (wstr B b X _ [92, 110] (by decide +kernel) _ hbl.out (by simp; omega) (by omega)).mono ?_; rintro e w1 ⟨rfl, n1, k1⟩
        have N1 := Lib.hid n1
        clear n1
        go_wp2_with fail
        go_roundw
        case rel => exact ⟨i + 1, by omega, by go_num, (by show Bld B b _ _; rw [HE.out]; exact N1.out), hk.trans k1⟩
        case measure => simp [intOf]; omega
      have n10 : (bt s i == 10) = false := by rw [beq_eq_false_iff_ne]; exact q10
      by_cases q12 : bt s i = 12
      · have HE := Lib.hid (HX.out [92, 102] (by rw [show u = 12 from UInt8.toNat_inj.1 (by have := HU.out; have e : ((12 : UInt8).toNat : Int) = 12 := rfl; omega)]; rfl))
        go_wp2_with fail
        refine (wstr B b X _ [92, 102] (by decide +kernel) _ hbl.out (by simp; omega) (by omega)).mono ?_; rintro e w1 ⟨rfl, n1, k1⟩
        have N1 := Lib.hid n1
        clear n1
        go_wp2_with fail
        go_roundw
        case rel => exact ⟨i + 1, by omega, by go_num, (by show Bld B b _ _; rw [HE.out]; exact N1.out), hk.trans k1⟩
        case measure => simp [intOf]; omega
      have n12 : (bt s i == 12) = false := by rw [beq_eq_false_iff_ne]; exact q12
      by_cases q13 : bt s i = 13
      · have HE := Lib.hid (HX.out [92, 114] (by rw [show u = 13 from UInt8.toNat_inj.1 (by have := HU.out; have e : ((13 : UInt8).toNat : Int) = 13 := rfl; omega)]; rfl))
        go_wp2_with fail
        refine (wstr B b X _ [92, 114] (by decide +kernel) _ hbl.out (by simp; omega) (by omega)).mono ?_; rintro e w1 ⟨rfl, n1, k1⟩
        have N1 := Lib.hid n1
        clear n1
        go_wp2_with fail
        go_roundw
        case rel => exact ⟨i + 1, by omega, by go_num, (by show Bld B b _ _; rw [HE.out]; exact N1.out), hk.trans k1⟩
        case measure => simp [intOf]; omega
      have n13 : (bt s i == 13) = false := by rw [beq_eq_false_iff_ne]; exact q13
      go_wp2_with fail
      refine (wstr B b X _ [92, 117, 48, 48] (by decide +kernel) _ hbl.out (by simp; omega) (by omega)).mono ?_; rintro e w1 ⟨rfl, n1, k1⟩
      have N1 := Lib.hid n1
      have z1 := k1.1.size
      clear n1
      go_wp2_with fail
      have hb3 := get_bt hexS
      have ga : bits .and .u8 (bt s i) 15 = bt s i % 16 := u8_and15 _ b0 (by omega)
      have g0 : 0 ≤ bt s i / 16 := by omega
      have g1 : bt s i / 16 < 16 := by omega
      have g2 : 0 ≤ bt s i % 16 := by omega
      have g3 : bt s i % 16 < 16 := by omega
      have HE := Lib.hid (HX.out [92, 117, 48, 48, hexU (u.toNat / 16), hexU (u.toNat % 16)] (by
        have e := HU.out
        have f : ∀ (x : UInt8) (n : Int), (x.toNat : Int) = n → ¬ bt s i = n → ¬ u = x := fun x n h1 h2 h3 => h2 (by rw [e, h3]; exact h1)
        unfold escU
        rw [if_neg (by rintro (h | h); exact f 34 34 rfl q34 h; exact f 92 92 rfl q92 h), if_neg (by omega), if_neg (f 8 8 rfl q8), if_neg (f 9 9 rfl q9), if_neg (f 10 10 rfl q10), if_neg (f 12 12 rfl q12), if_neg (f 13 13 rfl q13)]))
      have HA : Hid (∀ w, Bld B b (Lib.byteCells (X ++ [92, 117, 48, 48])) w → B ≤ w.heap.size → Calls Tryd.prog 60 #[.pointer (some ⟨b, 0, none⟩), .int .u8 (bt hexS (bt s i / 16).toNat)] w fun e w' => e = .returned .nilIface ∧ Bld B b (Lib.byteCells (X ++ [92, 117, 48, 48] ++ [hexU (u.toNat / 16)])) w' ∧ Kept B b w w') :=
        fun w hw hsz => wbyte B b _ _ _ (by rw [show (bt s i / 16).toNat = u.toNat / 16 by have := HU.out; omega]; exact hexS_at _ (by have := HU.out; omega)) w hw (by simp only [List.length_append, List.length_cons, List.length_nil]; omega) hsz
      have HB : Hid (∀ w, Bld B b (Lib.byteCells (X ++ [92, 117, 48, 48] ++ [hexU (u.toNat / 16)])) w → B ≤ w.heap.size → Calls Tryd.prog 60 #[.pointer (some ⟨b, 0, none⟩), .int .u8 (bt hexS (bt s i % 16).toNat)] w fun e w' => e = .returned .nilIface ∧ Bld B b (Lib.byteCells (X ++ [92, 117, 48, 48] ++ [hexU (u.toNat / 16)] ++ [hexU (u.toNat % 16)])) w' ∧ Kept B b w w') :=
        fun w hw hsz => wbyte B b _ _ _ (by rw [show (bt s i % 16).toNat = u.toNat % 16 by have := HU.out; omega]; exact hexS_at _ (by have := HU.out; omega)) w hw (by simp only [List.length_append, List.length_cons, List.length_nil]; omega) hsz
      go_region_held3 (fun _ => True) (trivial) (first | (go_at_call 60; refine (HA.out _ (show Bld B b _ w1.drew from N1.out) (by simp; omega)).mono ?_; rintro e w2 ⟨rfl, n2, k2⟩; have N2 := Lib.hid n2; clear n2))
      have k3 : Kept B b w1 w2 := (show Kept B b w1 w1.drew from ⟨(Below.refl _ _).drew, (Lib.OthersKept.refl _ _ _).drew⟩).trans k2
      have z2 := k3.1.size
      clear k2
      go_wp2_with fail
      go_region_held3 (fun _ => True) (trivial) (first | (go_at_call 60; refine (HB.out _ (show Bld B b _ w2.drew from N2.out) (by simp; omega)).mono ?_; rintro e w3 ⟨rfl, n3, k4⟩; have N3 := Lib.hid n3; clear n3))
      have k5 : Kept B b w2 w3 := (show Kept B b w2 w2.drew from ⟨(Below.refl _ _).drew, (Lib.OthersKept.refl _ _ _).drew⟩).trans k4
      clear k4
      go_wp2_with fail
      go_roundw
      case rel => exact ⟨i + 1, by omega, by go_num, (by show Bld B b _ _; rw [HE.out]; simpa using N3.out), ((hk.trans k1).trans k3).trans k5⟩
      case measure => simp [intOf]; omega
    · obtain rfl : i = s.size := by omega
      have N0 := Lib.hid hbl.out
      rw [HEND.out] at N0
      go_wp2_with fail
      refine (wbyte B b _ 34 34 rfl _ N0.out (by rw [← HEND.out]; simp only [List.length_append, List.length_cons, List.length_nil]; omega) (by omega)).mono ?_; rintro e w2 ⟨rfl, n2, k2⟩
      have N2 := Lib.hid n2
      clear n2
      go_wp2_with fail
      go_end0
      exact ⟨rfl, by unfold quoteU; simpa using N2.out, hk.trans k2⟩
end Go.Proofs.YtofkdeojabongaaDoor
