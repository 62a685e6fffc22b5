/- The walk of the reference's quote. -/
import Derived.Test.YtofkdeojabongaaDoorCprint
import Derived.Lib.OwnKind
namespace Go.Proofs.YtofkdeojabongaaDoor
open Go.RowKit Go.PlainAid
set_option linter.unusedVariables false
set_option linter.unusedSimpArgs false
def nums (l : List UInt8) : List Int := l.map fun c => (c.toNat : Int)
theorem nums_app (a b : List UInt8) : nums (a ++ b) = nums a ++ nums b := by simp [nums]
theorem nums_len (a : List UInt8) : (nums a).length = a.length := by simp [nums]
theorem strOfNums_nums (l : List UInt8) : strOfNums (nums l) = ⟨l.toArray⟩ := by
  unfold strOfNums nums
  congr 1
  apply Array.ext'
  simp [Function.comp_def]
def OwnU (w : World) (B : Nat) (v : Value) (l : List UInt8) : Prop := OwnB w B v (nums l)
theorem OwnU.nil (w : World) (B : Nat) : OwnU w B (.slice none 0 0) [] := OwnB.nil w B
/-- blocks below B, and blocks above that are no rows of bytes, are as they were -/
def KU (B : Nat) (w w' : World) : Prop := Below B w w' ∧ Lib.OthersKept 5 none w w'
theorem KU.refl (B : Nat) (w : World) : KU B w w := ⟨Below.refl _ _, Lib.OthersKept.refl _ _ _⟩
theorem KU.trans {B : Nat} {w w1 w2 : World} (h : KU B w w1) (k : KU B w1 w2) : KU B w w2 := ⟨h.1.trans k.1, h.2.trans k.2⟩
theorem KU.old {B : Nat} {w w' : World} (k : Below w.heap.size w w') (hB : B ≤ w.heap.size) : KU B w w' :=
  ⟨k.mono hB, fun i o hi _ _ => (k.block i (bldLt hi)).trans hi⟩
theorem KU.alloc {B : Nat} {w w' : World} (h : KU B w w') (hB : B ≤ w'.heap.size) (o : Obj) : KU B w (w'.alloc o) := ⟨h.1.alloc hB o, h.2.alloc o⟩
theorem KU.blk {B : Nat} {w w' : World} (h : KU B w w') {x : Nat} {cs : Array Value} (hx : Blk w x 25 cs) : Blk w' x 25 cs :=
  h.2 x _ hx (by simp) (fun c fz e => by injection e with _ e2; exact absurd e2 (by decide))
theorem KU.of_grown {B : Nat} {w w' : World} {v : Value} {l : List UInt8} (h : OwnU w B v l) (hB : B ≤ w.heap.size) (hg : w.grownBy w' v.ownBlock) : KU B w w' :=
  ⟨(Below.refl _ _).grown hg hB (fun k hk => (World.ownsRow.lt h k hk).1), (Lib.OthersKept.refl _ _ w).grown hg (Lib.ownsRow_kind h)⟩
theorem OwnU.old {B : Nat} {v : Value} {l : List UInt8} {w w' : World} (h : OwnU w B v l) (k : Below w.heap.size w w') : OwnU w' B v l := by
  have hg : w.grownBy w' none := ⟨k.os, k.tape, k.output, k.size, fun i hi _ => k.block i hi⟩
  exact World.ownsRow.kept h hg (by cases v.ownBlock <;> simp)
theorem OwnU.conv {w : World} {B : Nat} {v : Value} {l : List UInt8} (h : OwnU w B v l) : (convert 40 9 v).run Tryd.prog w = .ok (.string ⟨l.toArray⟩) w := by
  rw [← strOfNums_nums]; exact OwnB.conv h
def OutIs (B : Nat) (l : List UInt8) (w : World) (e : Ending) (w' : World) : Prop := ∃ v', e = .returned v' ∧ OwnU w' B v' l ∧ KU B w w'
/-- the bytes of a string, appended -/
theorem wpList_pushS (w : World) {ops : Array Oper} {rest : List Oper} {o : Oper} {a : Act} {Q : Exit → Act → World → Prop} (hgd : o.guard = none) (s x : Operand)
    (ho : o.op = .call { callee := .builtin .append, args := #[s, x], argTypes := #[40, 9] })
    (B : Nat) (v : Value) (l : List UInt8) (hs : a.eval s = v) (hown : OwnU w B v l) (t : ByteArray) (hx : a.eval x = .string t) (m : List UInt8) (hm : t.toList = m)
    (hlim : l.length + m.length ≤ 120000000000000) (hB : B ≤ w.heap.size)
    (h : ∀ v' w', OwnU w' B v' (l ++ m) → KU B w w' → wpList Tryd.prog ops Q rest (a.put o.dst v') w') : wpList Tryd.prog ops Q (o :: rest) a w := by
  obtain ⟨i0, hi0, hz0, hz1, hz2⟩ := info_parts u8Info
  have hts : t.size = m.length := by rw [← hm]; exact (tl_len' t).symm
  refine Lib.wpList_append_own_string w hgd s x 40 9 ho B 5 i0 Tryd.underlying40 Tryd.underlying9 hi0 hz0 hz1 hz2 v (nums l).length _ hs hown t hx
    (by rw [nums_len]; simp only [maxLen]; omega) (by rw [nums_len]; omega) hB (fun v' w' h1 h2 _ => h v' w' ?_ (KU.of_grown hown hB h2))
  have e : (nums (l ++ m)).map (Value.int .u8) = (nums l).map (Value.int .u8) ++ Lib.strCells t := by
    rw [nums_app, List.map_append]
    congr 1
    subst hm
    rw [ByteArray.toList_eq]
    simp [nums, Lib.strCells]
  show w'.ownsRow B 5 1 v' (nums (l ++ m)).length ((nums (l ++ m)).map (Value.int .u8))
  rw [e, nums_app, List.length_append, nums_len m, ← hts]
  exact h1
/-- bytes that stand in the newest block, appended -/
theorem wpList_pushL (w : World) {ops : Array Oper} {rest : List Oper} {o : Oper} {a : Act} {Q : Exit → Act → World → Prop} (hgd : o.guard = none) (s x : Operand)
    (ho : o.op = .call { callee := .builtin .append, args := #[s, x], argTypes := #[40, 40] })
    (B : Nat) (v : Value) (l : List UInt8) (hs : a.eval s = v) (hown : OwnU w B v l) (m : List UInt8) (n : Nat) (hn : m.length = n) (cs : Array Value) (hcs : cs = ((nums m).map (Value.int .u8)).toArray) (hx : a.eval x = .slice (some ⟨w.heap.size, 0, none⟩) n n)
    (hlim : l.length + m.length ≤ 120000000000000) (hB : B ≤ w.heap.size)
    (h : ∀ v' w', OwnU w' B v' (l ++ m) → KU B w w' → wpList Tryd.prog ops Q rest (a.put o.dst v') w') : wpList Tryd.prog ops Q (o :: rest) a (w.alloc (.cells cs 5)) := by
  subst hn; subst hcs
  obtain ⟨i0, hi0, hz0, hz1, hz2⟩ := info_parts u8Info
  have hr : Reads (w.alloc (.cells ((nums m).map (Value.int .u8)).toArray 5)) (w.heap.size + 1) 1 (some ⟨w.heap.size, 0, none⟩) m.length ((nums m).map (Value.int .u8)) := by
    refine ⟨by simp [nums], fun _ => ⟨_, rfl, by simp, fun j u hu => ?_⟩⟩
    have e : (⟨w.heap.size, 0, none⟩ : Addr).add j = ⟨w.heap.size, j, none⟩ := by unfold Addr.add; split <;> simp_all
    rw [e, World.cell?_alloc_mark]
    simpa using hu
  refine wpList_plain hgd fun K hK => ?_
  obtain ⟨v', w', h1, h2, h3, _⟩ := run_append_any (P := Tryd.prog) (w.alloc (.cells ((nums m).map (Value.int .u8)).toArray 5)) B 40 o.type 5 i0 (.int .u8 0) 1 1 Tryd.underlying40 hi0 hz0 hz1 hz2 rfl (by omega) v (nums l).length _ (World.ownsRow.alloc hown _) (w.heap.size + 1) _ m.length m.length _ hr
    (fun u hu => by obtain ⟨n, _, rfl⟩ := List.mem_map.1 hu; rfl) (by rw [nums_len]; simp only [maxLen]; omega) (by rw [nums_len]; omega) (by simp; omega)
  unfold Oper.wp execOp
  simp only [ho, resolve, invoke, builtin, Sem.run_bind, Sem.run_pure, Result.andThen_ok, List.map_toArray, List.map_cons, List.map_nil, hs, hx, h1]
  refine hK _ _ (h v' w' ?_ (((KU.refl B w).alloc hB _).trans (KU.of_grown (World.ownsRow.alloc hown _) (by simp; omega) h3)))
  show w'.ownsRow B 5 1 v' (nums (l ++ m)).length ((nums (l ++ m)).map (Value.int .u8))
  rw [nums_app, List.map_append, List.length_append, nums_len m]
  exact h2
theorem reads_lit (w : World) (m : List UInt8) (cs : Array Value) (hcs : cs = ((nums m).map (Value.int .u8)).toArray) (n : Nat) (hn : m.length = n) : Reads (w.alloc (.cells cs 5)) (w.heap.size + 1) 1 (some ⟨w.heap.size, 0, none⟩) n ((nums m).map (Value.int .u8)) := by
  subst hcs; subst hn
  refine ⟨by simp [nums], fun _ => ⟨_, rfl, by simp, fun j u hu => ?_⟩⟩
  have e : (⟨w.heap.size, 0, none⟩ : Addr).add j = ⟨w.heap.size, j, none⟩ := by unfold Addr.add; split <;> simp_all
  rw [e, World.cell?_alloc_mark]
  simpa using hu
theorem run_pushK (w : World) (B : Nat) (v : Value) (l : List UInt8) (hown : OwnU w B v l) (R : Nat) (A : Option Addr) (n c : Nat) (m : List UInt8) (hr : Reads w R 1 A n ((nums m).map (Value.int .u8))) (ty : TypeId)
    (hlim : l.length + n ≤ 120000000000000) (hB : B ≤ w.heap.size) :
    ∃ v' w', (Builtin.append_ #[40, 40] ty #[v, .slice A n c]).run Tryd.prog w = .ok v' w' ∧ OwnU w' B v' (l ++ m) ∧ KU B w w' := by
  obtain ⟨i0, hi0, hz0, hz1, hz2⟩ := info_parts u8Info
  obtain ⟨v', w', h1, h2, h3, _⟩ := run_append_any (P := Tryd.prog) w B 40 ty 5 i0 (.int .u8 0) 1 1 Tryd.underlying40 hi0 hz0 hz1 hz2 rfl (by omega) v (nums l).length _ hown R A n c _ hr
    (fun u hu => by obtain ⟨n, _, rfl⟩ := List.mem_map.1 hu; rfl) (by rw [nums_len]; simp only [maxLen]; omega) (by rw [nums_len]; omega) hB
  have hm : m.length = n := by have := hr.1; simpa [nums] using this
  refine ⟨v', w', h1, ?_, KU.of_grown hown hB h3⟩
  show w'.ownsRow B 5 1 v' (nums (l ++ m)).length ((nums (l ++ m)).map (Value.int .u8))
  rw [nums_app, List.map_append, List.length_append, nums_len m, hm]
  exact h2
/-- the same as one step of a region that draws its order -/
theorem step_push {ops : Array Oper} {o : Oper} {a : Act} {w : World} {K : Act → World → Prop} {Q : Exit → Act → World → Prop} {E : Prop}
    (hg : o.guard = none) (s x : Operand) (hop : o.op = Op.call { callee := Callee.builtin Builtin.append, args := #[s, x], argTypes := #[40, 40] })
    (B : Nat) (v : Value) (l : List UInt8) (hs : a.eval s = v) (hown : OwnU w B v l) (R : Nat) (A : Option Addr) (n c : Nat) (m : List UInt8) (hx : a.eval x = .slice A n c) (hr : Reads w R 1 A n ((nums m).map (Value.int .u8)))
    (hlim : l.length + n ≤ 120000000000000) (hB : B ≤ w.heap.size)
    (hK : ∀ v' w', OwnU w' B v' (l ++ m) → KU B w w' → K (a.put o.dst v') w') :
    if Region.wanted o (yielded ops a.tmps) = true then Oper.wp Tryd.prog o a w K Q else E := by
  have hw : Region.wanted o (yielded ops a.tmps) = true := by simp [Region.wanted, hg]
  rw [if_pos hw]
  obtain ⟨v', w', h1, h2, h3⟩ := run_pushK w B v l hown R A n c m hr o.type hlim hB
  unfold Oper.wp execOp
  simp only [hop, resolve, invoke, builtin, Sem.run_bind, Sem.run_pure, Result.andThen_ok, List.map_toArray, List.map_cons, List.map_nil, hs, hx, h1]
  exact hK _ _ h2 h3
set_option maxRecDepth 100000 in
set_option maxHeartbeats 2000000 in
theorem rquote_any (B : Nat) (v : Value) (l : List UInt8) (s : ByteArray) (w : World) (h : OwnU w B v l) (hl : l.length ≤ 100000000000000) (hs : s.size ≤ 1000000000) (hBw : B ≤ w.heap.size) :
    Calls Tryd.prog 42 #[v, .string s] w (OutIs B (l ++ quoteU s.toList) w) := by
  have hb := get_bt s
  have hsl : s.toList.length = s.size := by rw [ByteArray.toList_eq]; simp
  have HSL := Lib.hid hsl
  clear hsl
  have H0 := Lib.hid h
  clear h
  have HF : Hid (∀ i, i < s.size → ∃ u : UInt8, bt s i = u.toNat ∧ (s.toList.take (i + 1)).flatMap escU = (s.toList.take i).flatMap escU ++ escU u) := fun i hi => by
    have hi2 : i < s.toList.length := by rw [HSL.out]; exact hi
    exact ⟨s.toList[i], bt_eq s i _ (List.getElem?_eq_getElem hi2), flat_snoc s.toList i hi2⟩
  have HL : Hid (∀ i, ((s.toList.take i).flatMap escU).length ≤ 6 * s.size) := fun i => by
    have h1 := flat_le (s.toList.take i)
    have h2 : (s.toList.take i).length ≤ s.toList.length := List.length_take_le' _ _
    rw [HSL.out] at h2
    omega
  have HEND : Hid ((s.toList.take s.size).flatMap escU = s.toList.flatMap escU) := by show _ = _; rw [List.take_of_length_le (by rw [HSL.out]; omega)]
  go_enter Tryd.func42, Tryd.ntmps42
  go_wp2_with (at_builtin; refine wpList_pushL _ rfl _ _ rfl B v l rfl H0.out [34] 1 rfl _ rfl rfl (by simp; omega) hBw ?_; intro v1 w1 n1 k1; have N1 := Lib.hid n1; have K1 := Lib.hid k1; clear n1 k1)
  go_loopw [0, 5] (fun tv t wr => ∃ i : Nat, i ≤ s.size ∧ t = .int .i64 i ∧ Hid (OwnU wr B tv (l ++ ([34] ++ (s.toList.take i).flatMap escU))) ∧ Hid (KU B w wr)) (fun _ t _ => s.size - (intOf t).toNat)
  case atStart => exact ⟨0, by omega, rfl, (by show OwnU _ B _ _; simpa using N1.out), K1⟩
  case round =>
    clear N1 K1
    obtain ⟨i, hi, rfl, hbl, hk⟩ := hrel
    obtain ⟨wo, rfl⟩ : ∃ wo : World, wo = wr := ⟨_, rfl⟩
    rename_i tv _
    have hsz := hk.out.1.size
    have hll := HL.out i
    by_cases hlt : i < s.size
    · obtain ⟨u, hu, hfl⟩ := HF.out i hlt
      have HFL := Lib.hid hfl
      have HU := Lib.hid hu
      have b0 := bt_nonneg s i
      have b1 := bt_le s i
      clear hfl hu
      generalize hX : l ++ ([34] ++ (s.toList.take i).flatMap escU) = X at hbl
      have HX : Hid (∀ E, escU u = E → l ++ ([34] ++ (s.toList.take (i + 1)).flatMap escU) = X ++ E) := fun E hE => by rw [HFL.out, ← hX, hE]; simp
      have hxl : X.length ≤ 110000000000000 := by rw [← hX]; simp only [List.length_append, List.length_cons, List.length_nil]; omega
      clear hX hll HFL
      by_cases q34 : bt s i = 34
      · have HE := Lib.hid (HX.out [92, 34] (by rw [show u = 34 from UInt8.toNat_inj.1 (by have := HU.out; have e : ((34 : UInt8).toNat : Int) = 34 := rfl; omega)]; rfl))
        go_wp2_with (at_builtin; refine wpList_pushL _ rfl _ _ rfl B _ X rfl hbl.out [92, 34] 2 rfl _ (by simp [nums]; try omega) rfl (by simp; omega) (by omega) ?_; intro v1 w1 n1 k1; have N1 := Lib.hid n1; have K1 := Lib.hid k1; clear n1 k1)
        go_roundw
        case rel => exact ⟨i + 1, by omega, by go_num, (by show OwnU _ B _ _; rw [HE.out]; exact N1.out), Lib.hid (hk.out.trans K1.out)⟩
        case measure => simp [intOf]; omega
      have n34 : (bt s i == 34) = false := by rw [beq_eq_false_iff_ne]; exact q34
      by_cases q92 : bt s i = 92
      · have HE := Lib.hid (HX.out [92, 92] (by rw [show u = 92 from UInt8.toNat_inj.1 (by have := HU.out; have e : ((92 : UInt8).toNat : Int) = 92 := rfl; omega)]; rfl))
        go_wp2_with (at_builtin; refine wpList_pushL _ rfl _ _ rfl B _ X rfl hbl.out [92, 92] 2 rfl _ (by simp [nums]; try omega) rfl (by simp; omega) (by omega) ?_; intro v1 w1 n1 k1; have N1 := Lib.hid n1; have K1 := Lib.hid k1; clear n1 k1)
        go_roundw
        case rel => exact ⟨i + 1, by omega, by go_num, (by show OwnU _ B _ _; rw [HE.out]; exact N1.out), Lib.hid (hk.out.trans K1.out)⟩
        case measure => simp [intOf]; omega
      have n92 : (bt s i == 92) = false := by rw [beq_eq_false_iff_ne]; exact q92
      by_cases q8 : bt s i = 8
      · have HE := Lib.hid (HX.out [92, 98] (by rw [show u = 8 from UInt8.toNat_inj.1 (by have := HU.out; have e : ((8 : UInt8).toNat : Int) = 8 := rfl; omega)]; rfl))
        go_wp2_with (at_builtin; refine wpList_pushS _ rfl _ _ rfl B _ X rfl hbl.out _ rfl [92, 98] (by kernel_rfl) (by simp; omega) (by omega) ?_; intro v1 w1 n1 k1; have N1 := Lib.hid n1; have K1 := Lib.hid k1; clear n1 k1)
        go_roundw
        case rel => exact ⟨i + 1, by omega, by go_num, (by show OwnU _ B _ _; rw [HE.out]; exact N1.out), Lib.hid (hk.out.trans K1.out)⟩
        case measure => simp [intOf]; omega
      have n8 : (bt s i == 8) = false := by rw [beq_eq_false_iff_ne]; exact q8
      by_cases q9 : bt s i = 9
      · have HE := Lib.hid (HX.out [92, 116] (by rw [show u = 9 from UInt8.toNat_inj.1 (by have := HU.out; have e : ((9 : UInt8).toNat : Int) = 9 := rfl; omega)]; rfl))
        go_wp2_with (at_builtin; refine wpList_pushS _ rfl _ _ rfl B _ X rfl hbl.out _ rfl [92, 116] (by kernel_rfl) (by simp; omega) (by omega) ?_; intro v1 w1 n1 k1; have N1 := Lib.hid n1; have K1 := Lib.hid k1; clear n1 k1)
        go_roundw
        case rel => exact ⟨i + 1, by omega, by go_num, (by show OwnU _ B _ _; rw [HE.out]; exact N1.out), Lib.hid (hk.out.trans K1.out)⟩
        case measure => simp [intOf]; omega
      have n9 : (bt s i == 9) = false := by rw [beq_eq_false_iff_ne]; exact q9
      by_cases q10 : bt s i = 10
      · have HE := Lib.hid (HX.out [92, 110] (by rw [show u = 10 from UInt8.toNat_inj.1 (by have := HU.out; have e : ((10 : UInt8).toNat : Int) = 10 := rfl; omega)]; rfl))
        go_wp2_with (at_builtin; refine wpList_pushS _ rfl _ _ rfl B _ X rfl hbl.out _ rfl [92, 110] (by kernel_rfl) (by simp; omega) (by omega) ?_; intro v1 w1 n1 k1; have N1 := Lib.hid n1; have K1 := Lib.hid k1; clear n1 k1)
        go_roundw
        case rel => exact ⟨i + 1, by omega, by go_num, (by show OwnU _ B _ _; rw [HE.out]; exact N1.out), Lib.hid (hk.out.trans K1.out)⟩
        case measure => simp [intOf]; omega
      have n10 : (bt s i == 10) = false := by rw [beq_eq_false_iff_ne]; exact q10
      by_cases q12 : bt s i = 12
      · have HE := Lib.hid (HX.out [92, 102] (by rw [show u = 12 from UInt8.toNat_inj.1 (by have := HU.out; have e : ((12 : UInt8).toNat : Int) = 12 := rfl; omega)]; rfl))
        go_wp2_with (at_builtin; refine wpList_pushS _ rfl _ _ rfl B _ X rfl hbl.out _ rfl [92, 102] (by kernel_rfl) (by simp; omega) (by omega) ?_; intro v1 w1 n1 k1; have N1 := Lib.hid n1; have K1 := Lib.hid k1; clear n1 k1)
        go_roundw
        case rel => exact ⟨i + 1, by omega, by go_num, (by show OwnU _ B _ _; rw [HE.out]; exact N1.out), Lib.hid (hk.out.trans K1.out)⟩
        case measure => simp [intOf]; omega
      have n12 : (bt s i == 12) = false := by rw [beq_eq_false_iff_ne]; exact q12
      by_cases q13 : bt s i = 13
      · have HE := Lib.hid (HX.out [92, 114] (by rw [show u = 13 from UInt8.toNat_inj.1 (by have := HU.out; have e : ((13 : UInt8).toNat : Int) = 13 := rfl; omega)]; rfl))
        go_wp2_with (at_builtin; refine wpList_pushS _ rfl _ _ rfl B _ X rfl hbl.out _ rfl [92, 114] (by kernel_rfl) (by simp; omega) (by omega) ?_; intro v1 w1 n1 k1; have N1 := Lib.hid n1; have K1 := Lib.hid k1; clear n1 k1)
        go_roundw
        case rel => exact ⟨i + 1, by omega, by go_num, (by show OwnU _ B _ _; rw [HE.out]; exact N1.out), Lib.hid (hk.out.trans K1.out)⟩
        case measure => simp [intOf]; omega
      have n13 : (bt s i == 13) = false := by rw [beq_eq_false_iff_ne]; exact q13
      have e := HU.out
      have f : Hid (∀ (x : UInt8) (n : Int), (x.toNat : Int) = n → ¬ bt s i = n → ¬ u = x) := fun x n h1 h2 h3 => h2 (by rw [e, h3]; exact h1)
      clear e
      by_cases q32 : bt s i < 32
      · have HE := Lib.hid (HX.out [92, 117, 48, 48, hexU (u.toNat / 16), hexU (u.toNat % 16)] (by
          have e := HU.out
          unfold escU
          rw [if_neg (by rintro (h | h); exact f.out 34 34 rfl q34 h; exact f.out 92 92 rfl q92 h), if_neg (by omega), if_neg (f.out 8 8 rfl q8), if_neg (f.out 9 9 rfl q9), if_neg (f.out 10 10 rfl q10), if_neg (f.out 12 12 rfl q12), if_neg (f.out 13 13 rfl q13)]))
        have hb3 := get_bt hexS
        have g0 : 0 ≤ bt s i / 16 := by omega
        have g1 : bt s i / 16 < 16 := by omega
        have g2 : 0 ≤ bt s i % 16 := by omega
        have g3 : bt s i % 16 < 16 := by omega
        have h1 : Hid (bt hexS (bt s i / 16).toNat = (hexU (u.toNat / 16)).toNat) := by
          show _ = _
          rw [show (bt s i / 16).toNat = u.toNat / 16 by have := HU.out; omega]; exact hexS_at _ (by have := HU.out; omega)
        have h2 : Hid (bt hexS (bt s i % 16).toNat = (hexU (u.toNat % 16)).toNat) := by
          show _ = _
          rw [show (bt s i % 16).toNat = u.toNat % 16 by have := HU.out; omega]; exact hexS_at _ (by have := HU.out; omega)
        go_wp2_with (at_builtin; refine wpList_pushS _ rfl _ _ rfl B _ X rfl hbl.out _ rfl [92, 117, 48, 48] (by kernel_rfl) (by simp; omega) (by omega) ?_; intro v1 w1 n1 k1; have N1 := Lib.hid n1; have K1 := Lib.hid k1; clear n1 k1)
        have z1 := K1.out.1.size
        have d1 : (bt s i).tdiv 16 = bt s i / 16 := Int.tdiv_eq_ediv_of_nonneg b0
        have d2 : (bt s i).tmod 16 = bt s i % 16 := Int.tmod_eq_emod_of_nonneg b0
        have d3 : IntKind.u8.wrap (bt s i / 16) = bt s i / 16 := wraps_u8 _ g0 (by omega)
        have d4 : IntKind.u8.wrap (bt s i % 16) = bt s i % 16 := wraps_u8 _ g2 (by omega)
        have ha : Hid (∀ cs : Array Value, cs = #[.int .u8 (bt hexS (bt s i / 16).toNat), .int .u8 (bt hexS (bt s i % 16).toNat)] → cs = ((nums [hexU (u.toNat / 16), hexU (u.toNat % 16)]).map (Value.int .u8)).toArray) := fun cs e => by rw [e]; simp [nums]; exact ⟨h1.out, h2.out⟩
        go_region_law (refine step_push rfl _ _ rfl B _ (X ++ [92, 117, 48, 48]) rfl (by first | exact (N1.out.old ((Below.refl _ _).alloc (Nat.le_refl _) _)).old (Below.refl _ _).drew | exact N1.out.old (((Below.refl _ _).drew).alloc (Nat.le_refl _) _)) (w1.heap.size + 1) (some ⟨w1.heap.size, 0, none⟩) 2 2 [hexU (u.toNat / 16), hexU (u.toNat % 16)] (by simp [Act.eval, Act.put]) (by first | exact (reads_lit w1 _ _ (ha.out _ rfl) 2 rfl) | exact (reads_lit w1 _ _ (ha.out _ rfl) 2 rfl).drew) (by simp; omega) (by simp; omega) ?_; intro v2 w2 n2 k2; have N2 := Lib.hid n2; have K2 := Lib.hid k2; clear n2 k2)
        all_goals
          go_wp2_with fail
          go_roundw
          case rel => exact ⟨i + 1, by omega, by go_num, (by show OwnU _ B _ _; rw [HE.out]; simpa using N2.out), Lib.hid (((hk.out.trans K1.out).trans (KU.old (by first | exact ((Below.refl _ _).alloc (Nat.le_refl _) _).drew | exact ((Below.refl _ _).drew).alloc (Nat.le_refl _) _) (by omega))).trans K2.out)⟩
          case measure => simp [intOf]; omega
      · have HE := Lib.hid (HX.out [u] (by
          have e := HU.out
          unfold escU
          rw [if_neg (by rintro (h | h); exact f.out 34 34 rfl q34 h; exact f.out 92 92 rfl q92 h), if_pos (by omega)]))
        go_wp2_with (at_builtin; refine wpList_pushL _ rfl _ _ rfl B _ X rfl hbl.out [u] 1 rfl _ (by simp [nums]; exact HU.out) rfl (by simp; omega) (by omega) ?_; intro v1 w1 n1 k1; have N1 := Lib.hid n1; have K1 := Lib.hid k1; clear n1 k1)
        go_roundw
        case rel => exact ⟨i + 1, by omega, by go_num, (by show OwnU _ B _ _; rw [HE.out]; exact N1.out), Lib.hid (hk.out.trans K1.out)⟩
        case measure => simp [intOf]; omega
    · obtain rfl : i = s.size := by omega
      have N0 := Lib.hid hbl.out
      rw [HEND.out] at N0
      have hle : (s.toList.flatMap escU).length ≤ 6 * s.size := by have := HL.out s.size; rw [HEND.out] at this; exact this
      go_wp2_with (at_builtin; refine wpList_pushL _ rfl _ _ rfl B _ _ rfl N0.out [34] 1 rfl _ rfl rfl (by simp only [List.length_append, List.length_cons, List.length_nil]; omega) (by omega) ?_; intro v1 w1 n1 k1; have N1 := Lib.hid n1; have K1 := Lib.hid k1; clear n1 k1)
      go_ret
      exact ⟨_, rfl, by unfold quoteU; simpa using N1.out, hk.out.trans K1.out⟩
end Go.Proofs.YtofkdeojabongaaDoor
