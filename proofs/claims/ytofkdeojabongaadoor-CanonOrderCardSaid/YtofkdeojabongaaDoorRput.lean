/- The walk of the reference's put. -/
import Derived.Test.YtofkdeojabongaaDoorRput0
namespace Go.Proofs.YtofkdeojabongaaDoor
open Go.RowKit Go.PlainAid
set_option linter.unusedVariables false
set_option linter.unusedSimpArgs false
def PutC (B : Nat) (v : Value) (vs : Array Value) (l' : List UInt8) (w : World) : Prop := Calls Tryd.prog 25 #[v, .agg vs] w (OutIs B l' w)
def PutH (B : Nat) (ns : List Nd) : Prop := ∀ (i : Nat) (n : Nd), ns[i]? = some n → ∀ (cs : List Value) (v : Value) (l : List UInt8) (w : World), NdIs w B n cs → OwnU w B v l → B ≤ w.heap.size → l.length + gN n ≤ 99990000000000 → PutC B v cs.toArray (l ++ putU n) w
theorem KU.reads {B : Nat} {w w' : World} (h : KU B w w') {size n : Nat} {A : Option Addr} {xs : List Value} (hr : Reads w B size A n xs) : Reads w' B size A n xs := hr.keep fun p hp => h.1.cell hp
theorem KU.nds {B : Nat} {w w' : World} (h : KU B w w') {ns : List Nd} {xs : List Value} (hr : NdsIs w B ns xs) : NdsIs w' B ns xs := NdsIs.keep (fun p hp => h.1.cell hp) _ _ hr
theorem digS_itoa (n : Int) (h : 0 ≤ n) : (digS n).toList = Lib.itoa n := by
  unfold digS
  rw [ByteArray.toList_eq, show max n 0 = n by omega]
theorem itoa_neg' (n : Int) (h : n < 0) : Lib.itoa n = 45 :: Lib.itoa (-n) := by
  unfold Lib.itoa
  rw [if_pos h, if_neg (by omega)]
  congr 2
  omega
set_option maxRecDepth 100000 in
set_option maxHeartbeats 3000000 in
theorem rput_c1 (num : Int) (t : ByteArray) (ks : List ByteArray) (ns : List Nd) (A A2 : Option Addr) (ck cc : Nat) (xs : List Value) (B : Nat) (v : Value) (l : List UInt8) (w : World)
    (hO : OwnU w B v l) (hB : B ≤ w.heap.size) (hl : l.length + 100 ≤ 100000000000000) :
    PutC B v #[.int .i64 1, .int .i64 num, .string t, .slice A ks.length ck, .slice A2 ns.length cc] (l ++ putU (.mk 1 num t ks ns)) w := by
  show Calls Tryd.prog 25 #[v, .agg #[.int .i64 1, .int .i64 num, .string t, .slice A ks.length ck, .slice A2 ns.length cc]] w (OutIs B _ w)
  have K0 : Hid (KU B w (w.alloc (.cells #[.int .i64 1, .int .i64 num, .string t, .slice A ks.length ck, .slice A2 ns.length cc] 25))) := (KU.refl _ _).alloc hB _
  have HO : Hid (OwnU (w.alloc (.cells #[.int .i64 1, .int .i64 num, .string t, .slice A ks.length ck, .slice A2 ns.length cc] 25)) B v l) := hO.old ((Below.refl _ _).alloc (Nat.le_refl _) _)
  clear hO
  have HE : Hid (putU (.mk 1 num t ks ns) = [110, 117, 108, 108]) := by show _ = _; unfold putU; rfl
  generalize putU (.mk 1 num t ks ns) = X at *
  go_enter Tryd.func25, Tryd.ntmps25
  go_wp2_with (at_builtin; refine wpList_pushS _ rfl _ _ rfl B _ l rfl HO.out _ rfl [110, 117, 108, 108] (by kernel_rfl) (by simp; omega) (by simp; omega) ?_; intro v1 w1 n1 k1; have N1 := Lib.hid n1; have K1 := Lib.hid k1; clear n1 k1)
  go_ret
  exact ⟨_, rfl, by rw [HE.out]; exact N1.out, K0.out.trans K1.out⟩
set_option maxRecDepth 100000 in
set_option maxHeartbeats 3000000 in
theorem rput_c2 (num : Int) (t : ByteArray) (ks : List ByteArray) (ns : List Nd) (A A2 : Option Addr) (ck cc : Nat) (xs : List Value) (B : Nat) (v : Value) (l : List UInt8) (w : World)
    (hO : OwnU w B v l) (hB : B ≤ w.heap.size) (hl : l.length + 100 ≤ 100000000000000) :
    PutC B v #[.int .i64 2, .int .i64 num, .string t, .slice A ks.length ck, .slice A2 ns.length cc] (l ++ putU (.mk 2 num t ks ns)) w := by
  show Calls Tryd.prog 25 #[v, .agg #[.int .i64 2, .int .i64 num, .string t, .slice A ks.length ck, .slice A2 ns.length cc]] w (OutIs B _ w)
  have K0 : Hid (KU B w (w.alloc (.cells #[.int .i64 2, .int .i64 num, .string t, .slice A ks.length ck, .slice A2 ns.length cc] 25))) := (KU.refl _ _).alloc hB _
  have HO : Hid (OwnU (w.alloc (.cells #[.int .i64 2, .int .i64 num, .string t, .slice A ks.length ck, .slice A2 ns.length cc] 25)) B v l) := hO.old ((Below.refl _ _).alloc (Nat.le_refl _) _)
  clear hO
  have HE : Hid (putU (.mk 2 num t ks ns) = [102, 97, 108, 115, 101]) := by show _ = _; unfold putU; rfl
  generalize putU (.mk 2 num t ks ns) = X at *
  go_enter Tryd.func25, Tryd.ntmps25
  go_wp2_with (at_builtin; refine wpList_pushS _ rfl _ _ rfl B _ l rfl HO.out _ rfl [102, 97, 108, 115, 101] (by kernel_rfl) (by simp; omega) (by simp; omega) ?_; intro v1 w1 n1 k1; have N1 := Lib.hid n1; have K1 := Lib.hid k1; clear n1 k1)
  go_ret
  exact ⟨_, rfl, by rw [HE.out]; exact N1.out, K0.out.trans K1.out⟩
set_option maxRecDepth 100000 in
set_option maxHeartbeats 3000000 in
theorem rput_c3 (num : Int) (t : ByteArray) (ks : List ByteArray) (ns : List Nd) (A A2 : Option Addr) (ck cc : Nat) (xs : List Value) (B : Nat) (v : Value) (l : List UInt8) (w : World)
    (hO : OwnU w B v l) (hB : B ≤ w.heap.size) (hl : l.length + 100 ≤ 100000000000000) :
    PutC B v #[.int .i64 3, .int .i64 num, .string t, .slice A ks.length ck, .slice A2 ns.length cc] (l ++ putU (.mk 3 num t ks ns)) w := by
  show Calls Tryd.prog 25 #[v, .agg #[.int .i64 3, .int .i64 num, .string t, .slice A ks.length ck, .slice A2 ns.length cc]] w (OutIs B _ w)
  have K0 : Hid (KU B w (w.alloc (.cells #[.int .i64 3, .int .i64 num, .string t, .slice A ks.length ck, .slice A2 ns.length cc] 25))) := (KU.refl _ _).alloc hB _
  have HO : Hid (OwnU (w.alloc (.cells #[.int .i64 3, .int .i64 num, .string t, .slice A ks.length ck, .slice A2 ns.length cc] 25)) B v l) := hO.old ((Below.refl _ _).alloc (Nat.le_refl _) _)
  clear hO
  have HE : Hid (putU (.mk 3 num t ks ns) = [116, 114, 117, 101]) := by show _ = _; unfold putU; rfl
  generalize putU (.mk 3 num t ks ns) = X at *
  go_enter Tryd.func25, Tryd.ntmps25
  go_wp2_with (at_builtin; refine wpList_pushS _ rfl _ _ rfl B _ l rfl HO.out _ rfl [116, 114, 117, 101] (by kernel_rfl) (by simp; omega) (by simp; omega) ?_; intro v1 w1 n1 k1; have N1 := Lib.hid n1; have K1 := Lib.hid k1; clear n1 k1)
  go_ret
  exact ⟨_, rfl, by rw [HE.out]; exact N1.out, K0.out.trans K1.out⟩
set_option maxRecDepth 100000 in
set_option maxHeartbeats 3000000 in
theorem rput_str (num : Int) (t : ByteArray) (ks : List ByteArray) (ns : List Nd) (A A2 : Option Addr) (ck cc : Nat) (xs : List Value) (B : Nat) (v : Value) (l : List UInt8) (w : World)
    (hO : OwnU w B v l) (hB : B ≤ w.heap.size) (hl : l.length + 7000000000 ≤ 100000000000000) (hs : t.size ≤ 1000000000) :
    PutC B v #[.int .i64 5, .int .i64 num, .string t, .slice A ks.length ck, .slice A2 ns.length cc] (l ++ putU (.mk 5 num t ks ns)) w := by
  show Calls Tryd.prog 25 #[v, .agg #[.int .i64 5, .int .i64 num, .string t, .slice A ks.length ck, .slice A2 ns.length cc]] w (OutIs B _ w)
  have K0 : Hid (KU B w (w.alloc (.cells #[.int .i64 5, .int .i64 num, .string t, .slice A ks.length ck, .slice A2 ns.length cc] 25))) := (KU.refl _ _).alloc hB _
  have HO : Hid (OwnU (w.alloc (.cells #[.int .i64 5, .int .i64 num, .string t, .slice A ks.length ck, .slice A2 ns.length cc] 25)) B v l) := hO.old ((Below.refl _ _).alloc (Nat.le_refl _) _)
  clear hO
  have HE : Hid (putU (.mk 5 num t ks ns) = quoteU t.toList) := by show _ = _; unfold putU; rfl
  generalize putU (.mk 5 num t ks ns) = X at *
  go_enter Tryd.func25, Tryd.ntmps25
  go_wp2_with fail
  refine (rquote_any B v l t _ HO.out (by omega) hs (by simp; omega)).mono ?_; rintro e w1 ⟨v1, rfl, n1, k1⟩
  go_wp2_with fail
  go_ret
  exact ⟨_, rfl, by rw [HE.out]; exact n1, K0.out.trans k1⟩
set_option maxRecDepth 100000 in
set_option maxHeartbeats 3000000 in
theorem rput_num_neg (num : Int) (t : ByteArray) (ks : List ByteArray) (ns : List Nd) (A A2 : Option Addr) (ck cc : Nat) (xs : List Value) (B : Nat) (v : Value) (l : List UInt8) (w : World)
    (hO : OwnU w B v l) (hB : B ≤ w.heap.size) (hl : l.length + 100 ≤ 100000000000000) (h0 : num < 0) (hlo : -9007199254740991 ≤ num) (hhi : num ≤ 9007199254740991) :
    PutC B v #[.int .i64 4, .int .i64 num, .string t, .slice A ks.length ck, .slice A2 ns.length cc] (l ++ putU (.mk 4 num t ks ns)) w := by
  show Calls Tryd.prog 25 #[v, .agg #[.int .i64 4, .int .i64 num, .string t, .slice A ks.length ck, .slice A2 ns.length cc]] w (OutIs B _ w)
  have K0 : Hid (KU B w (w.alloc (.cells #[.int .i64 4, .int .i64 num, .string t, .slice A ks.length ck, .slice A2 ns.length cc] 25))) := (KU.refl _ _).alloc hB _
  have HO : Hid (OwnU (w.alloc (.cells #[.int .i64 4, .int .i64 num, .string t, .slice A ks.length ck, .slice A2 ns.length cc] 25)) B v l) := hO.old ((Below.refl _ _).alloc (Nat.le_refl _) _)
  clear hO
  have HE : Hid (putU (.mk 4 num t ks ns) = 45 :: Lib.itoa (-num)) := by show _ = _; unfold putU; exact itoa_neg' num h0
  generalize putU (.mk 4 num t ks ns) = X at *
  have HD : Hid (∀ w' : World, Calls Tryd.prog 41 #[.int .i64 (-num)] w' fun e w'' => e = .returned (.string (digS (-num))) ∧ Below w'.heap.size w' w'') := fun w' => rdigits_any 9223372036854775807 (-num) w' (by omega) (by omega)
  have hdl : (Lib.itoa (-num)).length ≤ 21 := Lib.itoa_length_le (-num) (by omega) (by omega)
  have hdt : Hid ((digS (-num)).toList = Lib.itoa (-num)) := digS_itoa (-num) (by omega)
  have hmx : max num (-num) = (-num) := by omega
  have hwr : IntKind.i64.wrap (-num) = -num := IntWalk.i64_in _ (by omega)
  have hc0 : decide (num < 0) = true := by simp; omega
  generalize Lib.itoa (-num) = D at *
  generalize digS (-num) = T at *
  go_enter Tryd.func25, Tryd.ntmps25
  go_wp2_with (at_builtin; refine wpList_pushL _ rfl _ _ rfl B _ l rfl HO.out [45] 1 rfl _ rfl (by first | rfl | (simp [Act.eval])) (by simp; omega) (by first | omega | (simp; omega)) ?_; intro v0 w0 n0 k0; have N0 := Lib.hid n0; have K00 := Lib.hid k0; have z0 := k0.1.size; have hx0 : Hid (Blk w0 w.heap.size 25 #[.int .i64 4, .int .i64 num, .string t, .slice A ks.length ck, .slice A2 ns.length cc]) := k0.blk (Blk.new w _ _); have c0 : w0.cell? ⟨w.heap.size, 0, none⟩ = some (.int .i64 4) := hx0.out.cell 0; have c1 : w0.cell? ⟨w.heap.size, 1, none⟩ = some (.int .i64 num) := hx0.out.cell 1; clear n0 k0)
  refine (HD.out _).mono ?_; rintro e w2 ⟨rfl, hw2⟩
  have HO2 : Hid (OwnU w2 B _ (l ++ [45])) := (N0.out).old hw2
  have z2 := hw2.size
  go_wp2_with (at_builtin; refine wpList_pushS _ rfl _ _ rfl B _ (l ++ [45]) rfl HO2.out _ rfl D hdt.out (by first | omega | (simp; omega)) (by first | omega | (simp at *; omega)) ?_; intro v3 w3 n3 k3)
  go_ret
  exact ⟨_, rfl, by rw [HE.out]; simpa using n3, (K0.out.trans K00.out).trans ((KU.old hw2 (by simp at *; omega)).trans k3)⟩
set_option maxRecDepth 100000 in
set_option maxHeartbeats 3000000 in
theorem rput_num_pos (num : Int) (t : ByteArray) (ks : List ByteArray) (ns : List Nd) (A A2 : Option Addr) (ck cc : Nat) (xs : List Value) (B : Nat) (v : Value) (l : List UInt8) (w : World)
    (hO : OwnU w B v l) (hB : B ≤ w.heap.size) (hl : l.length + 100 ≤ 100000000000000) (h0 : 0 ≤ num) (hlo : -9007199254740991 ≤ num) (hhi : num ≤ 9007199254740991) :
    PutC B v #[.int .i64 4, .int .i64 num, .string t, .slice A ks.length ck, .slice A2 ns.length cc] (l ++ putU (.mk 4 num t ks ns)) w := by
  show Calls Tryd.prog 25 #[v, .agg #[.int .i64 4, .int .i64 num, .string t, .slice A ks.length ck, .slice A2 ns.length cc]] w (OutIs B _ w)
  have K0 : Hid (KU B w (w.alloc (.cells #[.int .i64 4, .int .i64 num, .string t, .slice A ks.length ck, .slice A2 ns.length cc] 25))) := (KU.refl _ _).alloc hB _
  have HO : Hid (OwnU (w.alloc (.cells #[.int .i64 4, .int .i64 num, .string t, .slice A ks.length ck, .slice A2 ns.length cc] 25)) B v l) := hO.old ((Below.refl _ _).alloc (Nat.le_refl _) _)
  clear hO
  have HE : Hid (putU (.mk 4 num t ks ns) = Lib.itoa num) := by show _ = _; unfold putU; rfl
  generalize putU (.mk 4 num t ks ns) = X at *
  have HD : Hid (∀ w' : World, Calls Tryd.prog 41 #[.int .i64 num] w' fun e w'' => e = .returned (.string (digS num)) ∧ Below w'.heap.size w' w'') := fun w' => rdigits_any 9223372036854775807 num w' (by omega) (by omega)
  have hdl : (Lib.itoa num).length ≤ 21 := Lib.itoa_length_le num (by omega) (by omega)
  have hdt : Hid ((digS num).toList = Lib.itoa num) := digS_itoa num (by omega)
  have hmx : max num (-num) = num := by omega
  have hwr : IntKind.i64.wrap (-num) = -num := IntWalk.i64_in _ (by omega)
  have hc0 : decide (num < 0) = false := by simp; omega
  generalize Lib.itoa num = D at *
  generalize digS num = T at *
  go_enter Tryd.func25, Tryd.ntmps25
  go_wp2_with fail
  refine (HD.out _).mono ?_; rintro e w2 ⟨rfl, hw2⟩
  have HO2 : Hid (OwnU w2 B _ l) := (HO.out).old hw2
  have z2 := hw2.size
  go_wp2_with (at_builtin; refine wpList_pushS _ rfl _ _ rfl B _ l rfl HO2.out _ rfl D hdt.out (by first | omega | (simp; omega)) (by first | omega | (simp at *; omega)) ?_; intro v3 w3 n3 k3)
  go_ret
  exact ⟨_, rfl, by rw [HE.out]; simpa using n3, K0.out.trans ((KU.old hw2 (by simp at *; omega)).trans k3)⟩
set_option maxRecDepth 100000 in
set_option maxHeartbeats 3000000 in
theorem rput_k6 (num : Int) (t : ByteArray) (ks : List ByteArray) (ns : List Nd) (A A2 : Option Addr) (ck cc : Nat) (xs : List Value) (B : Nat) (v : Value) (l : List UInt8) (w : World)
    (hO : OwnU w B v l) (hB : B ≤ w.heap.size) (hks : Reads w B 1 A ks.length (ks.map Value.string)) (hxs : Reads w B 5 A2 ns.length xs) (hns : NdsIs w B ns xs) (hk1 : ks.length ≤ 9223372036854775807) (hk2 : ns.length ≤ 9223372036854775807)
    (hsz : ∀ s ∈ ks, s.size ≤ 1000000000)  (hgl : goodL ns) (HIH : Hid (PutH B ns)) (hl : l.length + (40 + gL ks ns) ≤ 99990000000000) :
    PutC B v #[.int .i64 6, .int .i64 num, .string t, .slice A ks.length ck, .slice A2 ns.length cc] (l ++ putU (.mk 6 num t ks ns)) w := by
  show Calls Tryd.prog 25 #[v, .agg #[.int .i64 6, .int .i64 num, .string t, .slice A ks.length ck, .slice A2 ns.length cc]] w (OutIs B _ w)
  have K0 : Hid (KU B w (w.alloc (.cells #[.int .i64 6, .int .i64 num, .string t, .slice A ks.length ck, .slice A2 ns.length cc] 25))) := (KU.refl _ _).alloc hB _
  have HO : Hid (OwnU (w.alloc (.cells #[.int .i64 6, .int .i64 num, .string t, .slice A ks.length ck, .slice A2 ns.length cc] 25)) B v l) := hO.old ((Below.refl _ _).alloc (Nat.le_refl _) _)
  clear hO
  have HE : Hid (putU (.mk 6 num t ks ns) = [91] ++ putL false ks ns true ++ [93]) := by show _ = _; unfold putU; rfl
  generalize putU (.mk 6 num t ks ns) = X at *
  have HKS := Lib.hid hks
  have HXS := Lib.hid hxs
  have HNS := Lib.hid hns
  have HSZ := Lib.hid hsz
  have HGL := Lib.hid hgl
  clear hks hxs hns hsz hgl 
  have hlp : (l ++ [91]).length + gL (ks.drop 0) (ns.drop 0) ≤ 99990000000000 := by simp only [List.length_append, List.length_cons, List.length_nil, List.drop_zero]; omega
  have HLP := Lib.hid hlp
  have hl1 : l.length + 1 ≤ 99990000000000 := by omega
  clear hlp hl
  have HV0 : Hid (l ++ X = (l ++ [91]) ++ putL false (ks.drop 0) (ns.drop 0) (decide (0 = 0)) ++ [93]) := by show _ = _; rw [HE.out]; simp
  clear HE
  go_enter Tryd.func25, Tryd.ntmps25
  go_wp2_with (at_builtin; refine wpList_pushL _ rfl _ _ rfl B _ l rfl HO.out [91] 1 rfl _ rfl (by first | rfl | (simp [Act.eval])) (by simp; omega) (by simp; omega) ?_; intro v1 w1 n1 k1)
  have K1 := Lib.hid (K0.out.trans k1)
  have HX1 : Hid (Blk w1 w.heap.size 25 #[.int .i64 6, .int .i64 num, .string t, .slice A ks.length ck, .slice A2 ns.length cc]) := k1.blk (Blk.new w _ _)
  have N1 := Lib.hid n1
  have z1 : w.heap.size < w1.heap.size := HX1.out.lt
  clear n1 k1
  go_wp2_with fail
  generalize l ++ X = V at *
  go_loopw [0, 7] (fun tv t7 wr => ∃ (i : Nat) (Y : List UInt8), i ≤ ns.length ∧ t7 = .int .i64 i ∧ Hid (V = Y ++ putL false (ks.drop i) (ns.drop i) (decide (i = 0)) ++ [93]) ∧ Hid (OwnU wr B tv Y) ∧ Hid (Blk wr w.heap.size 25 #[.int .i64 6, .int .i64 num, .string t, .slice A ks.length ck, .slice A2 ns.length cc]) ∧ Hid (KU B w wr) ∧ Y.length + gL (ks.drop i) (ns.drop i) ≤ 99990000000000 ∧ w.heap.size < wr.heap.size) (fun _ t7 _ => ns.length - (intOf t7).toNat)
  case atStart => exact ⟨0, _, by omega, rfl, HV0, N1, HX1, K1, HLP.out, z1⟩
  case round =>
    clear N1 HX1 K1 HLP HV0 z1 HO K0
    obtain ⟨i, Y, hi, rfl, hv, ho, hx, hk, hY, hz⟩ := hrel
    obtain ⟨wo, rfl⟩ : ∃ wo : World, wo = wr := ⟨_, rfl⟩
    rename_i tv _
    have c0 : wo.cell? ⟨w.heap.size, 0, none⟩ = some (.int .i64 6) := hx.out.cell 0
    have c3 : wo.cell? ⟨w.heap.size, 3, none⟩ = some (.slice A ks.length ck) := hx.out.cell 3
    have c4 : wo.cell? ⟨w.heap.size, 4, none⟩ = some (.slice A2 ns.length cc) := hx.out.cell 4
    have hBo : B ≤ wo.heap.size := by omega
    by_cases hlt : i < ns.length
    · obtain ⟨ad, n, y0, y1, y2, y3, y4, rfl, hadb, hni, hnd, e0, e1, e2, e3, e4⟩ := (hk.out.reads HXS.out).nd (hk.out.nds HNS.out) hlt
      obtain ⟨x0, x1, x2, x3, x4, x5, x6, x7, x8, rfl, rfl, rfl, rfl, rfl⟩ := hnd.form
      have hgn := goodL_at ns i n hni HGL.out
      have hgd := putU_le n hgn
      have hga := gL_at ks ns i n hni
      rw [hga] at hY
      have HAT := Lib.hid (putL_at false ks ns i n ⟨#[]⟩ (decide (i = 0)) hni (fun h => by cases h))
      have HNI := Lib.hid hni
      have HND := Lib.hid hnd
      have HGA := Lib.hid hga
      have HYY := Lib.hid hY
      have HGD := Lib.hid hgd
      have hY1 : Y.length + 10 + gN n ≤ 99990000000000 := by omega
      
      clear hni hnd hga hY hgd hgn 
      by_cases hi0 : i = 0
      · have g1 : decide (0 < i) = false := by simp; omega
        have g2 : ¬ (0 < i) := by omega
        have g3 : decide ((0 : Int) < (i : Int)) = false := by simp; omega
        have HI0 : Hid (decide (i = 0) = true) := decide_eq_true hi0
        clear hi0
        go_wp2_with fail
        have HNC := HIH.out i n HNI.out [.int .i64 x0, .int .i64 x1, .string x2, .slice x3 x4 x5, .slice x6 x7 x8] _ Y _ (NdIs.keep (fun p hp => (KU.refl B wo).1.cell hp) _ _ HND.out) ho.out (by omega) (by first | omega | (simp only [List.length_append, List.length_cons, List.length_nil]; omega))
        refine (HNC : Calls _ _ _ _ _).mono ?_; rintro e w9 ⟨v9, rfl, n9, k9⟩
        have KC9 := Lib.hid (hk.out.trans ((KU.refl B wo).trans k9))
        have HB9 : Hid (Blk w9 w.heap.size 25 #[.int .i64 6, .int .i64 num, .string t, .slice A ks.length ck, .slice (some ad) ns.length cc]) := ((KU.refl B wo).trans k9).blk hx.out
        have M9 := Lib.hid n9
        have z9 : w.heap.size < w9.heap.size := HB9.out.lt
        clear n9 k9 HNC
        have HVV : Hid (V = (Y ++ putU n) ++ putL false (ks.drop (i + 1)) (ns.drop (i + 1)) (decide (i + 1 = 0)) ++ [93]) := by
          show _ = _
          rw [hv.out, HAT.out, HI0.out, show decide (i + 1 = 0) = false by simp]
          simp
        have hln : (Y ++ putU n).length + gL (ks.drop (i + 1)) (ns.drop (i + 1)) ≤ 99990000000000 := by
          have a1 := HYY.out
          have a2 := HGD.out
          simp only [List.length_append, List.length_cons, List.length_nil]; omega
        have HLN := Lib.hid hln
        clear hln
        go_wp2_with fail
        go_roundw
        case rel => exact ⟨i + 1, _, by omega, by go_num, HVV, M9, HB9, KC9, HLN.out, z9⟩
        case measure => simp [intOf]; omega
      · have g1 : decide (0 < i) = true := by simp; omega
        have g2 : 0 < i := by omega
        have g3 : decide ((0 : Int) < (i : Int)) = true := by simp; omega
        have HI0 : Hid (decide (i = 0) = false) := decide_eq_false hi0
        clear hi0
        go_wp2_with (at_builtin; refine wpList_pushL _ rfl _ _ rfl B _ Y rfl ho.out [44] 1 rfl _ rfl rfl (by simp; omega) (by omega) ?_; intro v1 w1 n1 k1; have M1 := Lib.hid n1; have KCw1 := Lib.hid k1; clear n1; have HBw1 : Hid (Blk w1 w.heap.size 25 #[.int .i64 6, .int .i64 num, .string t, .slice A ks.length ck, .slice (some ad) ns.length cc]) := k1.blk hx.out; have d0w1 : w1.cell? ⟨w.heap.size, 0, none⟩ = some (.int .i64 6) := HBw1.out.cell 0; have d3w1 : w1.cell? ⟨w.heap.size, 3, none⟩ = some (.slice A ks.length ck) := HBw1.out.cell 3; have d4w1 : w1.cell? ⟨w.heap.size, 4, none⟩ = some (.slice (some ad) ns.length cc) := HBw1.out.cell 4; have q0w1 : w1.cell? (ad.add (i * 5)) = some (.int .i64 x0) := (KCw1.out.1.cell (by rw [block_of_add]; exact hadb)).trans e0; have q1w1 : w1.cell? ⟨(ad.add (i * 5)).block, (ad.add (i * 5)).off + 1, none⟩ = some (.int .i64 x1) := (KCw1.out.1.cell (by rw [block_of_add]; exact hadb)).trans e1; have q2w1 : w1.cell? ⟨(ad.add (i * 5)).block, (ad.add (i * 5)).off + 2, none⟩ = some (.string x2) := (KCw1.out.1.cell (by rw [block_of_add]; exact hadb)).trans e2; have q3w1 : w1.cell? ⟨(ad.add (i * 5)).block, (ad.add (i * 5)).off + 3, none⟩ = some (.slice x3 x4 x5) := (KCw1.out.1.cell (by rw [block_of_add]; exact hadb)).trans e3; have q4w1 : w1.cell? ⟨(ad.add (i * 5)).block, (ad.add (i * 5)).off + 4, none⟩ = some (.slice x6 x7 x8) := (KCw1.out.1.cell (by rw [block_of_add]; exact hadb)).trans e4; have zw1 : B ≤ w1.heap.size := (by have := KCw1.out.1.size; omega); clear k1)
        have HNC := HIH.out i n HNI.out [.int .i64 x0, .int .i64 x1, .string x2, .slice x3 x4 x5, .slice x6 x7 x8] _ (Y ++ [44]) _ (NdIs.keep (fun p hp => KCw1.out.1.cell hp) _ _ HND.out) M1.out (by omega) (by first | omega | (simp only [List.length_append, List.length_cons, List.length_nil]; omega))
        refine (HNC : Calls _ _ _ _ _).mono ?_; rintro e w9 ⟨v9, rfl, n9, k9⟩
        have KC9 := Lib.hid (hk.out.trans (KCw1.out.trans k9))
        have HB9 : Hid (Blk w9 w.heap.size 25 #[.int .i64 6, .int .i64 num, .string t, .slice A ks.length ck, .slice (some ad) ns.length cc]) := (KCw1.out.trans k9).blk hx.out
        have M9 := Lib.hid n9
        have z9 : w.heap.size < w9.heap.size := HB9.out.lt
        clear n9 k9 HNC
        have HVV : Hid (V = ((Y ++ [44]) ++ putU n) ++ putL false (ks.drop (i + 1)) (ns.drop (i + 1)) (decide (i + 1 = 0)) ++ [93]) := by
          show _ = _
          rw [hv.out, HAT.out, HI0.out, show decide (i + 1 = 0) = false by simp]
          simp
        have hln : ((Y ++ [44]) ++ putU n).length + gL (ks.drop (i + 1)) (ns.drop (i + 1)) ≤ 99990000000000 := by
          have a1 := HYY.out
          have a2 := HGD.out
          simp only [List.length_append, List.length_cons, List.length_nil]; omega
        have HLN := Lib.hid hln
        clear hln
        go_wp2_with fail
        go_roundw
        case rel => exact ⟨i + 1, _, by omega, by go_num, HVV, M9, HB9, KC9, HLN.out, z9⟩
        case measure => simp [intOf]; omega
    · have HEE : Hid (V = Y ++ [93]) := by
        show _ = _
        rw [hv.out, List.drop_eq_nil_of_le (show ns.length ≤ i by omega)]
        unfold putL; simp
      have hlx : Y.length + 1 ≤ 100000000000001 := by omega
      go_wp2_with (at_builtin; refine wpList_pushL _ rfl _ _ rfl B _ Y rfl ho.out [93] 1 rfl _ rfl rfl (by simp; omega) (by omega) ?_; intro v1 w1 n1 k1)
      go_ret
      exact ⟨_, rfl, by rw [HEE.out]; exact n1, hk.out.trans k1⟩
set_option maxRecDepth 100000 in
set_option maxHeartbeats 3000000 in
theorem rput_k7 (num : Int) (t : ByteArray) (ks : List ByteArray) (ns : List Nd) (A A2 : Option Addr) (ck cc : Nat) (xs : List Value) (B : Nat) (v : Value) (l : List UInt8) (w : World)
    (hO : OwnU w B v l) (hB : B ≤ w.heap.size) (hks : Reads w B 1 A ks.length (ks.map Value.string)) (hxs : Reads w B 5 A2 ns.length xs) (hns : NdsIs w B ns xs) (hk1 : ks.length ≤ 9223372036854775807) (hk2 : ns.length ≤ 9223372036854775807)
    (hsz : ∀ s ∈ ks, s.size ≤ 1000000000) (hkl : ks.length = ns.length) (hgl : goodL ns) (HIH : Hid (PutH B ns)) (hl : l.length + (40 + gL ks ns) ≤ 99990000000000) :
    PutC B v #[.int .i64 7, .int .i64 num, .string t, .slice A ks.length ck, .slice A2 ns.length cc] (l ++ putU (.mk 7 num t ks ns)) w := by
  show Calls Tryd.prog 25 #[v, .agg #[.int .i64 7, .int .i64 num, .string t, .slice A ks.length ck, .slice A2 ns.length cc]] w (OutIs B _ w)
  have K0 : Hid (KU B w (w.alloc (.cells #[.int .i64 7, .int .i64 num, .string t, .slice A ks.length ck, .slice A2 ns.length cc] 25))) := (KU.refl _ _).alloc hB _
  have HO : Hid (OwnU (w.alloc (.cells #[.int .i64 7, .int .i64 num, .string t, .slice A ks.length ck, .slice A2 ns.length cc] 25)) B v l) := hO.old ((Below.refl _ _).alloc (Nat.le_refl _) _)
  clear hO
  have HE : Hid (putU (.mk 7 num t ks ns) = [123] ++ putL true ks ns true ++ [125]) := by show _ = _; unfold putU; rfl
  generalize putU (.mk 7 num t ks ns) = X at *
  have HKS := Lib.hid hks
  have HXS := Lib.hid hxs
  have HNS := Lib.hid hns
  have HSZ := Lib.hid hsz
  have HGL := Lib.hid hgl
  have HKL := Lib.hid hkl
  clear hks hxs hns hsz hgl hkl
  have hlp : (l ++ [123]).length + gL (ks.drop 0) (ns.drop 0) ≤ 99990000000000 := by simp only [List.length_append, List.length_cons, List.length_nil, List.drop_zero]; omega
  have HLP := Lib.hid hlp
  have hl1 : l.length + 1 ≤ 99990000000000 := by omega
  clear hlp hl
  have HV0 : Hid (l ++ X = (l ++ [123]) ++ putL true (ks.drop 0) (ns.drop 0) (decide (0 = 0)) ++ [125]) := by show _ = _; rw [HE.out]; simp
  clear HE
  go_enter Tryd.func25, Tryd.ntmps25
  go_wp2_with (at_builtin; refine wpList_pushL _ rfl _ _ rfl B _ l rfl HO.out [123] 1 rfl _ rfl (by first | rfl | (simp [Act.eval])) (by simp; omega) (by simp; omega) ?_; intro v1 w1 n1 k1)
  have K1 := Lib.hid (K0.out.trans k1)
  have HX1 : Hid (Blk w1 w.heap.size 25 #[.int .i64 7, .int .i64 num, .string t, .slice A ks.length ck, .slice A2 ns.length cc]) := k1.blk (Blk.new w _ _)
  have N1 := Lib.hid n1
  have z1 : w.heap.size < w1.heap.size := HX1.out.lt
  clear n1 k1
  go_wp2_with fail
  generalize l ++ X = V at *
  go_loopw [0, 7] (fun tv t7 wr => ∃ (i : Nat) (Y : List UInt8), i ≤ ns.length ∧ t7 = .int .i64 i ∧ Hid (V = Y ++ putL true (ks.drop i) (ns.drop i) (decide (i = 0)) ++ [125]) ∧ Hid (OwnU wr B tv Y) ∧ Hid (Blk wr w.heap.size 25 #[.int .i64 7, .int .i64 num, .string t, .slice A ks.length ck, .slice A2 ns.length cc]) ∧ Hid (KU B w wr) ∧ Y.length + gL (ks.drop i) (ns.drop i) ≤ 99990000000000 ∧ w.heap.size < wr.heap.size) (fun _ t7 _ => ns.length - (intOf t7).toNat)
  case atStart => exact ⟨0, _, by omega, rfl, HV0, N1, HX1, K1, HLP.out, z1⟩
  case round =>
    clear N1 HX1 K1 HLP HV0 z1 HO K0
    obtain ⟨i, Y, hi, rfl, hv, ho, hx, hk, hY, hz⟩ := hrel
    obtain ⟨wo, rfl⟩ : ∃ wo : World, wo = wr := ⟨_, rfl⟩
    rename_i tv _
    have c0 : wo.cell? ⟨w.heap.size, 0, none⟩ = some (.int .i64 7) := hx.out.cell 0
    have c3 : wo.cell? ⟨w.heap.size, 3, none⟩ = some (.slice A ks.length ck) := hx.out.cell 3
    have c4 : wo.cell? ⟨w.heap.size, 4, none⟩ = some (.slice A2 ns.length cc) := hx.out.cell 4
    have hBo : B ≤ wo.heap.size := by omega
    by_cases hlt : i < ns.length
    · obtain ⟨ad, n, y0, y1, y2, y3, y4, rfl, hadb, hni, hnd, e0, e1, e2, e3, e4⟩ := (hk.out.reads HXS.out).nd (hk.out.nds HNS.out) hlt
      obtain ⟨x0, x1, x2, x3, x4, x5, x6, x7, x8, rfl, rfl, rfl, rfl, rfl⟩ := hnd.form
      have hgn := goodL_at ns i n hni HGL.out
      have hgd := putU_le n hgn
      have hga := gL_at ks ns i n hni
      rw [hga] at hY
      have hik : i < ks.length := by have := HKL.out; omega
      obtain ⟨adk, s, rfl, hadk, hks, hcs⟩ := (hk.out.reads HKS.out).str (show i < ks.length by have := HKL.out; omega)
      have hss := HSZ.out s (List.mem_of_getElem? hks)
      have hqh : ((ks.drop i).headD ⟨#[]⟩).size = s.size := by
        rw [List.drop_eq_getElem_cons (List.getElem?_eq_some_iff.1 hks).1, (List.getElem?_eq_some_iff.1 hks).2]; rfl
      have hq := quoteU_le s.toList
      rw [tl_len'] at hq
      rw [hqh] at hY
      have HAT := Lib.hid (putL_at true ks ns i n s (decide (i = 0)) hni (fun _ => hks))
      clear hks
      have HNI := Lib.hid hni
      have HND := Lib.hid hnd
      have HGA := Lib.hid hga
      have HYY := Lib.hid hY
      have HGD := Lib.hid hgd
      have hY1 : Y.length + 10 + gN n ≤ 99990000000000 := by omega
      have hY2 : Y.length + 4 + (quoteU s.toList).length + gN n ≤ 99990000000000 := by omega
      have HQ := Lib.hid hq
      clear hni hnd hga hY hgd hgn hq hqh
      by_cases hi0 : i = 0
      · have g1 : decide (0 < i) = false := by simp; omega
        have g2 : ¬ (0 < i) := by omega
        have g3 : decide ((0 : Int) < (i : Int)) = false := by simp; omega
        have HI0 : Hid (decide (i = 0) = true) := decide_eq_true hi0
        clear hi0
        go_wp2_with fail
        refine (rquote_any B _ Y s _ ho.out (by first | omega | (simp; omega)) hss (by omega)).mono ?_; rintro e w2 ⟨v2, rfl, n2, k2⟩
        have M2 := Lib.hid n2
        have KCw2 := Lib.hid ((KU.refl B wo).trans k2)
        clear n2
        have HBw2 : Hid (Blk w2 w.heap.size 25 #[.int .i64 7, .int .i64 num, .string t, .slice (some adk) ks.length ck, .slice (some ad) ns.length cc]) := KCw2.out.blk hx.out
        have d0w2 : w2.cell? ⟨w.heap.size, 0, none⟩ = some (.int .i64 7) := HBw2.out.cell 0
        have d3w2 : w2.cell? ⟨w.heap.size, 3, none⟩ = some (.slice (some adk) ks.length ck) := HBw2.out.cell 3
        have d4w2 : w2.cell? ⟨w.heap.size, 4, none⟩ = some (.slice (some ad) ns.length cc) := HBw2.out.cell 4
        have q0w2 : w2.cell? (ad.add (i * 5)) = some (.int .i64 x0) := (KCw2.out.1.cell (by rw [block_of_add]; exact hadb)).trans e0
        have q1w2 : w2.cell? ⟨(ad.add (i * 5)).block, (ad.add (i * 5)).off + 1, none⟩ = some (.int .i64 x1) := (KCw2.out.1.cell (by rw [block_of_add]; exact hadb)).trans e1
        have q2w2 : w2.cell? ⟨(ad.add (i * 5)).block, (ad.add (i * 5)).off + 2, none⟩ = some (.string x2) := (KCw2.out.1.cell (by rw [block_of_add]; exact hadb)).trans e2
        have q3w2 : w2.cell? ⟨(ad.add (i * 5)).block, (ad.add (i * 5)).off + 3, none⟩ = some (.slice x3 x4 x5) := (KCw2.out.1.cell (by rw [block_of_add]; exact hadb)).trans e3
        have q4w2 : w2.cell? ⟨(ad.add (i * 5)).block, (ad.add (i * 5)).off + 4, none⟩ = some (.slice x6 x7 x8) := (KCw2.out.1.cell (by rw [block_of_add]; exact hadb)).trans e4
        have zw2 : B ≤ w2.heap.size := (by have := KCw2.out.1.size; omega)
        have qsw2 : w2.cell? (adk.add i) = some (.string s) := (KCw2.out.1.cell (by rw [block_of_add]; exact hadk)).trans hcs
        clear k2
        go_wp2_with (at_builtin; refine wpList_pushL _ rfl _ _ rfl B _ (Y ++ quoteU s.toList) rfl M2.out [58] 1 rfl _ rfl rfl (by simp; omega) (by omega) ?_; intro v3 w3 n3 k3; have M3 := Lib.hid n3; have KCw3 := Lib.hid (KCw2.out.trans k3); clear n3; have HBw3 : Hid (Blk w3 w.heap.size 25 #[.int .i64 7, .int .i64 num, .string t, .slice (some adk) ks.length ck, .slice (some ad) ns.length cc]) := KCw3.out.blk hx.out; have d0w3 : w3.cell? ⟨w.heap.size, 0, none⟩ = some (.int .i64 7) := HBw3.out.cell 0; have d3w3 : w3.cell? ⟨w.heap.size, 3, none⟩ = some (.slice (some adk) ks.length ck) := HBw3.out.cell 3; have d4w3 : w3.cell? ⟨w.heap.size, 4, none⟩ = some (.slice (some ad) ns.length cc) := HBw3.out.cell 4; have q0w3 : w3.cell? (ad.add (i * 5)) = some (.int .i64 x0) := (KCw3.out.1.cell (by rw [block_of_add]; exact hadb)).trans e0; have q1w3 : w3.cell? ⟨(ad.add (i * 5)).block, (ad.add (i * 5)).off + 1, none⟩ = some (.int .i64 x1) := (KCw3.out.1.cell (by rw [block_of_add]; exact hadb)).trans e1; have q2w3 : w3.cell? ⟨(ad.add (i * 5)).block, (ad.add (i * 5)).off + 2, none⟩ = some (.string x2) := (KCw3.out.1.cell (by rw [block_of_add]; exact hadb)).trans e2; have q3w3 : w3.cell? ⟨(ad.add (i * 5)).block, (ad.add (i * 5)).off + 3, none⟩ = some (.slice x3 x4 x5) := (KCw3.out.1.cell (by rw [block_of_add]; exact hadb)).trans e3; have q4w3 : w3.cell? ⟨(ad.add (i * 5)).block, (ad.add (i * 5)).off + 4, none⟩ = some (.slice x6 x7 x8) := (KCw3.out.1.cell (by rw [block_of_add]; exact hadb)).trans e4; have zw3 : B ≤ w3.heap.size := (by have := KCw3.out.1.size; omega); have qsw3 : w3.cell? (adk.add i) = some (.string s) := (KCw3.out.1.cell (by rw [block_of_add]; exact hadk)).trans hcs; clear k3)
        have HNC := HIH.out i n HNI.out [.int .i64 x0, .int .i64 x1, .string x2, .slice x3 x4 x5, .slice x6 x7 x8] _ ((Y ++ quoteU s.toList) ++ [58]) _ (NdIs.keep (fun p hp => KCw3.out.1.cell hp) _ _ HND.out) M3.out (by omega) (by first | omega | (simp only [List.length_append, List.length_cons, List.length_nil]; omega))
        refine (HNC : Calls _ _ _ _ _).mono ?_; rintro e w9 ⟨v9, rfl, n9, k9⟩
        have KC9 := Lib.hid (hk.out.trans (KCw3.out.trans k9))
        have HB9 : Hid (Blk w9 w.heap.size 25 #[.int .i64 7, .int .i64 num, .string t, .slice (some adk) ks.length ck, .slice (some ad) ns.length cc]) := (KCw3.out.trans k9).blk hx.out
        have M9 := Lib.hid n9
        have z9 : w.heap.size < w9.heap.size := HB9.out.lt
        clear n9 k9 HNC
        have HVV : Hid (V = (((Y ++ quoteU s.toList) ++ [58]) ++ putU n) ++ putL true (ks.drop (i + 1)) (ns.drop (i + 1)) (decide (i + 1 = 0)) ++ [125]) := by
          show _ = _
          rw [hv.out, HAT.out, HI0.out, show decide (i + 1 = 0) = false by simp]
          simp
        have hln : (((Y ++ quoteU s.toList) ++ [58]) ++ putU n).length + gL (ks.drop (i + 1)) (ns.drop (i + 1)) ≤ 99990000000000 := by
          have a1 := HYY.out
          have a2 := HGD.out
          have a3 := HQ.out
          simp only [List.length_append, List.length_cons, List.length_nil]; omega
        have HLN := Lib.hid hln
        clear hln
        go_wp2_with fail
        go_roundw
        case rel => exact ⟨i + 1, _, by omega, by go_num, HVV, M9, HB9, KC9, HLN.out, z9⟩
        case measure => simp [intOf]; omega
      · have g1 : decide (0 < i) = true := by simp; omega
        have g2 : 0 < i := by omega
        have g3 : decide ((0 : Int) < (i : Int)) = true := by simp; omega
        have HI0 : Hid (decide (i = 0) = false) := decide_eq_false hi0
        clear hi0
        go_wp2_with (at_builtin; refine wpList_pushL _ rfl _ _ rfl B _ Y rfl ho.out [44] 1 rfl _ rfl rfl (by simp; omega) (by omega) ?_; intro v1 w1 n1 k1; have M1 := Lib.hid n1; have KCw1 := Lib.hid k1; clear n1; have HBw1 : Hid (Blk w1 w.heap.size 25 #[.int .i64 7, .int .i64 num, .string t, .slice (some adk) ks.length ck, .slice (some ad) ns.length cc]) := k1.blk hx.out; have d0w1 : w1.cell? ⟨w.heap.size, 0, none⟩ = some (.int .i64 7) := HBw1.out.cell 0; have d3w1 : w1.cell? ⟨w.heap.size, 3, none⟩ = some (.slice (some adk) ks.length ck) := HBw1.out.cell 3; have d4w1 : w1.cell? ⟨w.heap.size, 4, none⟩ = some (.slice (some ad) ns.length cc) := HBw1.out.cell 4; have q0w1 : w1.cell? (ad.add (i * 5)) = some (.int .i64 x0) := (KCw1.out.1.cell (by rw [block_of_add]; exact hadb)).trans e0; have q1w1 : w1.cell? ⟨(ad.add (i * 5)).block, (ad.add (i * 5)).off + 1, none⟩ = some (.int .i64 x1) := (KCw1.out.1.cell (by rw [block_of_add]; exact hadb)).trans e1; have q2w1 : w1.cell? ⟨(ad.add (i * 5)).block, (ad.add (i * 5)).off + 2, none⟩ = some (.string x2) := (KCw1.out.1.cell (by rw [block_of_add]; exact hadb)).trans e2; have q3w1 : w1.cell? ⟨(ad.add (i * 5)).block, (ad.add (i * 5)).off + 3, none⟩ = some (.slice x3 x4 x5) := (KCw1.out.1.cell (by rw [block_of_add]; exact hadb)).trans e3; have q4w1 : w1.cell? ⟨(ad.add (i * 5)).block, (ad.add (i * 5)).off + 4, none⟩ = some (.slice x6 x7 x8) := (KCw1.out.1.cell (by rw [block_of_add]; exact hadb)).trans e4; have zw1 : B ≤ w1.heap.size := (by have := KCw1.out.1.size; omega); have qsw1 : w1.cell? (adk.add i) = some (.string s) := (KCw1.out.1.cell (by rw [block_of_add]; exact hadk)).trans hcs; clear k1)
        refine (rquote_any B _ (Y ++ [44]) s _ M1.out (by first | omega | (simp; omega)) hss (by omega)).mono ?_; rintro e w2 ⟨v2, rfl, n2, k2⟩
        have M2 := Lib.hid n2
        have KCw2 := Lib.hid (KCw1.out.trans k2)
        clear n2
        have HBw2 : Hid (Blk w2 w.heap.size 25 #[.int .i64 7, .int .i64 num, .string t, .slice (some adk) ks.length ck, .slice (some ad) ns.length cc]) := KCw2.out.blk hx.out
        have d0w2 : w2.cell? ⟨w.heap.size, 0, none⟩ = some (.int .i64 7) := HBw2.out.cell 0
        have d3w2 : w2.cell? ⟨w.heap.size, 3, none⟩ = some (.slice (some adk) ks.length ck) := HBw2.out.cell 3
        have d4w2 : w2.cell? ⟨w.heap.size, 4, none⟩ = some (.slice (some ad) ns.length cc) := HBw2.out.cell 4
        have q0w2 : w2.cell? (ad.add (i * 5)) = some (.int .i64 x0) := (KCw2.out.1.cell (by rw [block_of_add]; exact hadb)).trans e0
        have q1w2 : w2.cell? ⟨(ad.add (i * 5)).block, (ad.add (i * 5)).off + 1, none⟩ = some (.int .i64 x1) := (KCw2.out.1.cell (by rw [block_of_add]; exact hadb)).trans e1
        have q2w2 : w2.cell? ⟨(ad.add (i * 5)).block, (ad.add (i * 5)).off + 2, none⟩ = some (.string x2) := (KCw2.out.1.cell (by rw [block_of_add]; exact hadb)).trans e2
        have q3w2 : w2.cell? ⟨(ad.add (i * 5)).block, (ad.add (i * 5)).off + 3, none⟩ = some (.slice x3 x4 x5) := (KCw2.out.1.cell (by rw [block_of_add]; exact hadb)).trans e3
        have q4w2 : w2.cell? ⟨(ad.add (i * 5)).block, (ad.add (i * 5)).off + 4, none⟩ = some (.slice x6 x7 x8) := (KCw2.out.1.cell (by rw [block_of_add]; exact hadb)).trans e4
        have zw2 : B ≤ w2.heap.size := (by have := KCw2.out.1.size; omega)
        have qsw2 : w2.cell? (adk.add i) = some (.string s) := (KCw2.out.1.cell (by rw [block_of_add]; exact hadk)).trans hcs
        clear k2
        go_wp2_with (at_builtin; refine wpList_pushL _ rfl _ _ rfl B _ ((Y ++ [44]) ++ quoteU s.toList) rfl M2.out [58] 1 rfl _ rfl rfl (by simp; omega) (by omega) ?_; intro v3 w3 n3 k3; have M3 := Lib.hid n3; have KCw3 := Lib.hid (KCw2.out.trans k3); clear n3; have HBw3 : Hid (Blk w3 w.heap.size 25 #[.int .i64 7, .int .i64 num, .string t, .slice (some adk) ks.length ck, .slice (some ad) ns.length cc]) := KCw3.out.blk hx.out; have d0w3 : w3.cell? ⟨w.heap.size, 0, none⟩ = some (.int .i64 7) := HBw3.out.cell 0; have d3w3 : w3.cell? ⟨w.heap.size, 3, none⟩ = some (.slice (some adk) ks.length ck) := HBw3.out.cell 3; have d4w3 : w3.cell? ⟨w.heap.size, 4, none⟩ = some (.slice (some ad) ns.length cc) := HBw3.out.cell 4; have q0w3 : w3.cell? (ad.add (i * 5)) = some (.int .i64 x0) := (KCw3.out.1.cell (by rw [block_of_add]; exact hadb)).trans e0; have q1w3 : w3.cell? ⟨(ad.add (i * 5)).block, (ad.add (i * 5)).off + 1, none⟩ = some (.int .i64 x1) := (KCw3.out.1.cell (by rw [block_of_add]; exact hadb)).trans e1; have q2w3 : w3.cell? ⟨(ad.add (i * 5)).block, (ad.add (i * 5)).off + 2, none⟩ = some (.string x2) := (KCw3.out.1.cell (by rw [block_of_add]; exact hadb)).trans e2; have q3w3 : w3.cell? ⟨(ad.add (i * 5)).block, (ad.add (i * 5)).off + 3, none⟩ = some (.slice x3 x4 x5) := (KCw3.out.1.cell (by rw [block_of_add]; exact hadb)).trans e3; have q4w3 : w3.cell? ⟨(ad.add (i * 5)).block, (ad.add (i * 5)).off + 4, none⟩ = some (.slice x6 x7 x8) := (KCw3.out.1.cell (by rw [block_of_add]; exact hadb)).trans e4; have zw3 : B ≤ w3.heap.size := (by have := KCw3.out.1.size; omega); have qsw3 : w3.cell? (adk.add i) = some (.string s) := (KCw3.out.1.cell (by rw [block_of_add]; exact hadk)).trans hcs; clear k3)
        have HNC := HIH.out i n HNI.out [.int .i64 x0, .int .i64 x1, .string x2, .slice x3 x4 x5, .slice x6 x7 x8] _ (((Y ++ [44]) ++ quoteU s.toList) ++ [58]) _ (NdIs.keep (fun p hp => KCw3.out.1.cell hp) _ _ HND.out) M3.out (by omega) (by first | omega | (simp only [List.length_append, List.length_cons, List.length_nil]; omega))
        refine (HNC : Calls _ _ _ _ _).mono ?_; rintro e w9 ⟨v9, rfl, n9, k9⟩
        have KC9 := Lib.hid (hk.out.trans (KCw3.out.trans k9))
        have HB9 : Hid (Blk w9 w.heap.size 25 #[.int .i64 7, .int .i64 num, .string t, .slice (some adk) ks.length ck, .slice (some ad) ns.length cc]) := (KCw3.out.trans k9).blk hx.out
        have M9 := Lib.hid n9
        have z9 : w.heap.size < w9.heap.size := HB9.out.lt
        clear n9 k9 HNC
        have HVV : Hid (V = ((((Y ++ [44]) ++ quoteU s.toList) ++ [58]) ++ putU n) ++ putL true (ks.drop (i + 1)) (ns.drop (i + 1)) (decide (i + 1 = 0)) ++ [125]) := by
          show _ = _
          rw [hv.out, HAT.out, HI0.out, show decide (i + 1 = 0) = false by simp]
          simp
        have hln : ((((Y ++ [44]) ++ quoteU s.toList) ++ [58]) ++ putU n).length + gL (ks.drop (i + 1)) (ns.drop (i + 1)) ≤ 99990000000000 := by
          have a1 := HYY.out
          have a2 := HGD.out
          have a3 := HQ.out
          simp only [List.length_append, List.length_cons, List.length_nil]; omega
        have HLN := Lib.hid hln
        clear hln
        go_wp2_with fail
        go_roundw
        case rel => exact ⟨i + 1, _, by omega, by go_num, HVV, M9, HB9, KC9, HLN.out, z9⟩
        case measure => simp [intOf]; omega
    · have HEE : Hid (V = Y ++ [125]) := by
        show _ = _
        rw [hv.out, List.drop_eq_nil_of_le (show ns.length ≤ i by omega)]
        unfold putL; simp
      have hlx : Y.length + 1 ≤ 100000000000001 := by omega
      go_wp2_with (at_builtin; refine wpList_pushL _ rfl _ _ rfl B _ Y rfl ho.out [125] 1 rfl _ rfl rfl (by simp; omega) (by omega) ?_; intro v1 w1 n1 k1)
      go_ret
      exact ⟨_, rfl, by rw [HEE.out]; exact n1, hk.out.trans k1⟩
theorem rputn_any : ∀ (m : Nat) (n : Nd), n.count ≤ m → ∀ (B : Nat) (cs : List Value) (v : Value) (l : List UInt8) (w : World) (deep : Int), NdIs w B n cs → OwnU w B v l → B ≤ w.heap.size → goodN n → rightD n deep = true → l.length + gN n ≤ 99990000000000 → PutC B v cs.toArray (l ++ putU n) w := by
  intro m
  induction m with
  | zero => intro n hm; have := n.count_pos; omega
  | succ m ih =>
    intro n hm B cs v l w deep hn hO hB hg hr hl
    cases n with
    | mk k num t ks ns =>
      have h := hn
      unfold NdIs at h
      obtain ⟨A, ck, A2, cc, xs, rfl, hks, hxs, hns, ik, inn, ht, hkl, hk, hmm⟩ := h
      unfold maxLen at *
      unfold goodN at hg
      obtain ⟨g1, g2, g3, g4, g5⟩ := hg
      rw [rightD_eq, Bool.and_eq_true] at hr
      obtain ⟨_, hr⟩ := hr
      have hgn : gN (.mk k num t ks ns) = 40 + 6 * t.size + gL ks ns := by unfold gN; rfl
      rw [hgn] at hl
      by_cases h1 : k = 1
      · subst h1; exact rput_c1 num t ks ns A A2 ck cc xs B v l w hO hB (by omega)
      by_cases h2 : k = 2
      · subst h2; exact rput_c2 num t ks ns A A2 ck cc xs B v l w hO hB (by omega)
      by_cases h3 : k = 3
      · subst h3; exact rput_c3 num t ks ns A A2 ck cc xs B v l w hO hB (by omega)
      by_cases h4 : k = 4
      · subst h4
        have hb : -9007199254740991 ≤ num ∧ num ≤ 9007199254740991 := by simpa using hr
        by_cases h0 : num < 0
        · exact rput_num_neg num t ks ns A A2 ck cc xs B v l w hO hB (by omega) h0 hb.1 hb.2
        · exact rput_num_pos num t ks ns A A2 ck cc xs B v l w hO hB (by omega) (by omega) hb.1 hb.2
      by_cases h5 : k = 5
      · subst h5; exact rput_str num t ks ns A A2 ck cc xs B v l w hO hB (by omega) g3
      have hrl : rightLD ns (deep + 1) = true := by
        simp only [h1, h2, h3, h4, h5, Bool.or_eq_true, Bool.and_eq_true, beq_iff_eq, decide_eq_true_eq, false_and, false_or, or_false] at hr
        exact hr.2
      have HIH : Hid (PutH B ns) := by
        intro i n hi cs v l w e1 e2 e3 e4
        refine ih n ?_ B cs v l w (deep + 1) e1 e2 e3 (goodL_at ns i n hi g5) (rightLD_get ns _ i n hi hrl) e4
        have := Nd.counts_get ns i n hi
        simp only [Nd.count] at hm; omega
      by_cases h6 : k = 6
      · subst h6; exact rput_k6 num t ks ns A A2 ck cc xs B v l w hO hB hks hxs hns hk hmm g4 g5 HIH (by omega)
      by_cases h7 : k = 7
      · subst h7; exact rput_k7 num t ks ns A A2 ck cc xs B v l w hO hB hks hxs hns hk hmm g4 (g2 rfl) g5 HIH (by omega)
      simp [h1, h2, h3, h4, h5, h6, h7] at hr
end Go.Proofs.YtofkdeojabongaaDoor
