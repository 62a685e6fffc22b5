/- The walks of ReadDay. -/
import Derived.Test.YtfhdnppcookcoaaDoorDate22
import Derived.Deep.RegionHeld3
namespace Go.Proofs.YtfhdnppcookcoaaDoor
open Go.RowKit Go.PlainAid
set_option linter.unusedVariables false
set_option linter.unusedSimpArgs false
/-- the library's limit holds some number -/
def MaxOK (w : World) : Prop := ∃ m, w.cell? ⟨0, 0, none⟩ = some (.int .i64 m)
theorem MaxOK.lt {w : World} (h : MaxOK w) : 0 < w.heap.size := by
  obtain ⟨m, hm⟩ := h
  rcases Nat.lt_or_ge 0 w.heap.size with h | h
  · exact h
  · unfold World.cell? at hm
    simp [Array.getElem?_eq_none h] at hm
theorem MaxOK.below {w w1 : World} (h : MaxOK w) (hb : Below w.heap.size w w1) : MaxOK w1 := by
  obtain ⟨m, hm⟩ := h
  exact ⟨m, (hb.cell (p := ⟨0, 0, none⟩) (MaxOK.lt ⟨m, hm⟩)).trans hm⟩
theorem maxOK {w : World} (h : w.ShapedOpen Tryd.prog) : MaxOK w :=
  Go.Proofs.cell_of_shapedOpen_int (zero := #[.int .i64 0]) (t := 3) h (of_decide_eq_true (by kernel_rfl)) (by kernel_rfl) rfl (by kernel_rfl) (by kernel_rfl) Tryd.underlying3
def BaseOK (w : World) : Prop := TabOK w ∧ MaxOK w
theorem BaseOK.tab {w w1 : World} (h : BaseOK w) (hb : Below w.heap.size w w1) : TabOK w1 := h.1.below hb
theorem BaseOK.max {w w1 : World} (h : BaseOK w) (hb : Below w.heap.size w w1) : MaxOK w1 := h.2.below hb
theorem BaseOK.below {w w1 : World} (h : BaseOK w) (hb : Below w.heap.size w w1) : BaseOK w1 := ⟨h.1.below hb, h.2.below hb⟩
def SomeNum (w : World) (e : Ending) (w' : World) : Prop := ∃ (v : Int) (b : Bool), e = .returned (.tuple #[.int .i64 v, .bool b]) ∧ w = w'
theorem number_long (s : ByteArray) (w : World) (hs : s.size ≤ 1000) : Calls Tryd.prog 41 #[.string s] w (SomeNum w) := by
  have hb := get_bt s
  go_enter Tryd.func41, Tryd.ntmps41
  go_wp2
  go_loop [4, 8] (fun n i => ∃ (k : Nat) (x : Int), k ≤ s.size ∧ i = .int .i64 k ∧ n = .int .i64 x) (fun _ i => s.size - (intOf i).toNat)
  case atStart => exact ⟨0, 0, by omega, rfl, rfl⟩
  case round =>
    obtain ⟨k, x, hk, rfl, rfl⟩ := hrel
    have b0 := bt_nonneg s k
    have b1 := bt_le s k
    by_cases hlt : k < s.size
    · by_cases h48 : 48 ≤ bt s k
      · by_cases h57 : bt s k ≤ 57
        · go_wp2
          go_round
          case rel => exact ⟨k + 1, _, by omega, by go_num, rfl⟩
          case measure => simp [intOf]; omega
        · go_wp2
          go_ret2
          exact ⟨_, _, rfl, rfl⟩
      · go_wp2
        go_ret2
        exact ⟨_, _, rfl, rfl⟩
    · obtain rfl : k = s.size := by omega
      go_wp2
      go_ret2
      exact ⟨_, _, rfl, rfl⟩
set_option maxHeartbeats 1000000 in
set_option maxRecDepth 100000 in
theorem date_long (day mon year : ByteArray) (w : World) (h1 : day.size ≤ 10) (h2 : mon.size ≤ 1000) (h3 : year.size ≤ 1000) : Calls Tryd.prog 31 #[.string day, .string mon, .string year] w (Num2Below (dateV day mon year) w) := by
  by_cases h4 : year.size ≤ 4
  · exact date_any day mon year w h1 h2 h4
  · have hv : dateV day mon year = (0, false) := by unfold dateV; exact if_neg (by omega)
    rw [hv]
    have hW := Below.refl w.heap.size w
    have N1 : Hid (∀ w, Calls Tryd.prog 41 #[.string day] w (SomeNum w)) := fun w => number_long day w (by omega)
    have N2 : Hid (∀ w, Calls Tryd.prog 41 #[.string year] w (SomeNum w)) := fun w => number_long year w (by omega)
    have N3 : Hid (∀ w, Calls Tryd.prog 47 #[.string mon] w fun e w' => e = .returned (.int .i64 (monV mon)) ∧ Below w.heap.size w w') := fun w => month_any mon w h2
    generalize monV mon = m at N3
    have c1 : ((year.size : Int) != 4) = true := by rw [bne_iff_ne]; omega
    clear hv h4
    go_enter Tryd.func31, Tryd.ntmps31
    go_wp2_with fail
    refine (N1.out _).mono ?_; rintro e w1 ⟨d, a, rfl, hw⟩; obtain rfl : _ = w1 := hw
    cases a
    · go_wp2_with fail
      refine (N2.out _).mono ?_; rintro e w1 ⟨y, b, rfl, hw⟩; obtain rfl : _ = w1 := hw
      go_wp2_with fail
      refine (N3.out _).mono ?_; rintro e w1 ⟨rfl, hw1⟩; (first | replace hW := nextB hW hw1 | replace hW := nextA hW hw1 | replace hW := nextB hW.drew hw1 | replace hW := nextAA hW hw1 | replace hW := nextAD hW hw1); clear hw1
      go_wp2_with fail
      go_ret2
      exact ⟨rfl, hW⟩
    · go_wp2_with fail
      refine (N2.out _).mono ?_; rintro e w1 ⟨y, b, rfl, hw⟩; obtain rfl : _ = w1 := hw
      cases b
      all_goals
        go_wp2_with fail
        refine (N3.out _).mono ?_; rintro e w1 ⟨rfl, hw1⟩; (first | replace hW := nextB hW hw1 | replace hW := nextA hW hw1 | replace hW := nextB hW.drew hw1 | replace hW := nextAA hW hw1 | replace hW := nextAD hW hw1); clear hw1
        go_wp2_with fail
        go_ret2
        exact ⟨rfl, hW⟩
def SplitIs (s : ByteArray) (N : Nat) (cs : Array Value) : Prop := ∀ w, MaxOK w → Calls Tryd.prog 44 #[.string s, .string ⟨#[45]⟩] w fun e w' => e = .returned (.slice (some ⟨w.heap.size, 0, none⟩) N N) ∧ w' = w.alloc (.cells cs 9)
theorem split_is (s : ByteArray) (hs : s.size ≤ 1000) (parts : List ByteArray) (h : Lib.splitB ⟨#[45]⟩ 0 (Lib.countB s ⟨#[45]⟩) s = parts) (hl : parts.length = Lib.countB s ⟨#[45]⟩ + 1) : SplitIs s parts.length (parts.map Value.string).toArray := fun w hM => by
  obtain ⟨m, hm⟩ := hM
  have := Tryd.strings_Split s ⟨#[45]⟩ m w (by omega) hm (by decide)
  rw [h, ← hl] at this
  exact this
theorem date_cases2 (o : Bool) (d : Int) (v : Int × Int) (hv : v = if o = true ∧ 0 ≤ d then (d * 86400, 0) else (0, 3)) : (o = false ∧ v = (0, 3)) ∨ (o = true ∧ d < 0 ∧ v = (0, 3)) ∨ (o = true ∧ 0 ≤ d ∧ v = (d * 86400, 0)) := by
  subst hv
  cases o with
  | false => exact .inl ⟨rfl, if_neg (by simp)⟩
  | true =>
    by_cases h : 0 ≤ d
    · exact .inr (.inr ⟨rfl, h, if_pos ⟨rfl, h⟩⟩)
    · exact .inr (.inl ⟨rfl, by omega, if_neg (by omega)⟩)
theorem dateV_le2 (a b c : ByteArray) (h1 : a.size ≤ 10) : -1000000 ≤ (dateV a b c).1 ∧ (dateV a b c).1 ≤ 10000000 := by
  by_cases h : c.size ≤ 4
  · exact dateV_le a b c h1 h
  · rw [show dateV a b c = (0, false) by unfold dateV; exact if_neg (by omega)]; simp
set_option maxHeartbeats 2000000 in
set_option maxRecDepth 100000 in
theorem readDay_any (s : ByteArray) (w : World) (hs : s.size ≤ 1000) (hM : MaxOK w) : Calls Tryd.prog 24 #[.string s] w (Read2End (readDayV s) w) := by
  have hW := Below.refl w.heap.size w
  obtain ⟨parts, hp, hl, hd⟩ := split_parts s
  have HS0 := split_is s hs parts hp hl
  have hsz : ∀ p ∈ parts, p.size ≤ 1000 := by
    intro p hm
    have h1 : ∀ (l : List UInt8), ∀ q ∈ dsplit l, q.length ≤ l.length := by
      intro l
      induction l with
      | nil => intro q hq; simp [dsplit] at hq; subst hq; simp
      | cons c l ih =>
        intro q hq
        simp only [dsplit] at hq
        by_cases hc : c = 45
        · rw [if_pos hc] at hq
          rcases List.mem_cons.1 hq with rfl | hq
          · simp
          · have := ih q hq; simp; omega
        · rw [if_neg hc] at hq
          generalize dsplit l = z at hq ih
          cases z with
          | nil => simp at hq; subst hq; simp
          | cons p ps =>
            rcases List.mem_cons.1 hq with rfl | hq
            · have := ih p (by simp); simp; omega
            · have := ih q (by simp [hq]); simp; omega
    have h2 := h1 s.toList p.toList (by rw [← hd]; exact List.mem_map_of_mem hm)
    have e1 : p.toList.length = p.size := by rw [ByteArray.toList_eq]; simp
    have e2 : s.toList.length = s.size := by rw [ByteArray.toList_eq]; simp
    omega
  by_cases h3 : parts.length = 3
  · match parts, h3, hd, HS0, hsz with
    | [a, b, c], _, hd, HS0, hsz =>
      have HS : Hid (SplitIs s 3 #[.string a, .string b, .string c]) := HS0
      clear HS0
      rw [readDay_parts s a b c hd.symm]
      have ha := hsz a (by simp)
      have hb := hsz b (by simp)
      have hc := hsz c (by simp)
      clear hsz hd hp hl
      by_cases h2 : a.size ≤ 2
      · rw [if_pos h2]
        have HD : Hid (∀ w, Calls Tryd.prog 31 #[.string a, .string b, .string c] w (Num2Below (dateV a b c) w)) := fun w => date_long a b c w (by omega) hb hc
        have hle := dateV_le2 a b c (by omega)
        generalize dateV a b c = q at *
        obtain ⟨d, o⟩ := q
        dsimp only at hle ⊢
        obtain ⟨l0, l1⟩ := hle
        generalize hv : (if o = true ∧ 0 ≤ d then (d * 86400, (0 : Int)) else (0, 3)) = v
        have hcs := date_cases2 o d v hv.symm
        clear hv
        rcases hcs with ⟨rfl, rfl⟩ | ⟨rfl, q1, rfl⟩ | ⟨rfl, q1, rfl⟩
        all_goals
          go_enter Tryd.func24, Tryd.ntmps24
          go_wp2_with fail
          refine (HS.out _ hM).mono ?_; rintro e w1 ⟨rfl, rfl⟩
          replace hW := hW.alloc hW.size (.cells #[.string a, .string b, .string c] 9)
          go_wp2_with fail
          go_region_held3 (fun w' => w'.cell? ⟨w.heap.size, 0, none⟩ = some (.string a) ∧ w'.cell? ⟨w.heap.size, 1, none⟩ = some (.string b) ∧ w'.cell? ⟨w.heap.size, 2, none⟩ = some (.string c)) (first | go_keep | exact ⟨k0, k1, k2⟩)
            (first | (go_at_call 31; refine (HD.out _).mono ?_; rintro e w1 ⟨rfl, hw1⟩; have k0 : w1.cell? ⟨w.heap.size, 0, none⟩ = some (.string a) := (hw1.cell (by simp)).trans (by simp [World.cell?_alloc_new]); have k1 : w1.cell? ⟨w.heap.size, 1, none⟩ = some (.string b) := (hw1.cell (by simp)).trans (by simp [World.cell?_alloc_new]); have k2 : w1.cell? ⟨w.heap.size, 2, none⟩ = some (.string c) := (hw1.cell (by simp)).trans (by simp [World.cell?_alloc_new]); (first | replace hW := nextB hW hw1 | replace hW := nextA hW hw1 | replace hW := nextB hW.drew hw1 | replace hW := nextAA hW hw1 | replace hW := nextAD hW hw1); clear hw1))
          all_goals
            go_wp2_with fail
            go_ret2
            exact ⟨rfl, hW⟩
      · rw [if_neg h2]
        go_enter Tryd.func24, Tryd.ntmps24
        go_wp2_with fail
        refine (HS.out _ hM).mono ?_; rintro e w1 ⟨rfl, rfl⟩
        go_wp2_with fail
        go_ret2
        exact ⟨rfl, hW.alloc hW.size _⟩
  · rw [readDay_other s (by rw [← hd, List.length_map]; exact h3)]
    have HS : Hid (SplitIs s parts.length (parts.map Value.string).toArray) := HS0
    have h33 : ((parts.length : Int) != 3) = true := by rw [bne_iff_ne]; omega
    clear HS0 hsz hd hp hl h3
    generalize parts.length = N at *
    generalize (parts.map Value.string).toArray = cs at *
    go_enter Tryd.func24, Tryd.ntmps24
    go_wp2_with fail
    refine (HS.out _ hM).mono ?_; rintro e w1 ⟨rfl, rfl⟩
    go_wp2_with fail
    go_ret2
    exact ⟨rfl, hW.alloc hW.size _⟩
end Go.Proofs.YtfhdnppcookcoaaDoor
