/- Texts of one seat, one behind the other: Rz1, Cl0, Rz2, Rq1, Cq0, Ck2, Ck3, Ck4, Ck5, Ob2. No condition. -/
import Derived.Test.YthbjehbpanhdoaaDoorL9
import Derived.Deep.DeepCutAuto
import Derived.Deep.RegionWith
namespace Go.Proofs.YthbjehbpanhdoaaDoor
open Go.RowKit Go.PlainAid
set_option linter.unusedVariables false
set_option linter.unusedSimpArgs false
theorem ResP.bad {r : Except ByteArray Nd} {s : ByteArray} {w w' : World} (h : r = .error s) (hb : Below w.heap.size w w') : ResP r w (.returned (.tuple #[.agg #[.int .i64 0, .int .i64 0, .string ⟨#[]⟩, .slice none 0 0, .slice none 0 0], .string s])) w' := by
  subst h
  exact ⟨_, _, _, _, _, _, _, _, _, rfl, NdIn.is (S := fun _ => False) (fun _ h => h.elim) _ _ (nd0_in 0 (by unfold I64; omega) _ _), hb⟩
theorem set_mid {α : Type} : ∀ (a : List α) (k x : α) (r : List α), (a ++ k :: r).set a.length x = (a ++ [x]) ++ r
  | [], k, x, r => rfl
  | b :: a, k, x, r => by show b :: ((a ++ k :: r).set a.length x) = _; rw [set_mid a k x r]; rfl

set_option maxRecDepth 100000 in
theorem kres_kind (k num : Int) (t : ByteArray) (K : Option Addr) (kl kc : Nat) (A : Option Addr) (al c : Nat) (w : World) (D : Option Addr) (ln dc : Nat) (h7 : k ≠ 7) :
    Calls Tryd.prog 9 #[.agg #[.int .i64 k, .int .i64 num, .string t, .slice K kl kc, .slice A al c], .slice D ln dc] w fun e w' => e = .returned (.tuple #[.agg #[.int .i64 0, .int .i64 0, .string ⟨#[]⟩, .slice none 0 0, .slice none 0 0], .string badA]) ∧ Below w.heap.size w w' := by
  have n7 : (k != 7) = true := by rw [bne_iff_ne]; exact h7
  have HA0 : Below w.heap.size w ((w.alloc (.cells #[.int .i64 k, .int .i64 num, .string t, .slice K kl kc, .slice A al c] 25)).alloc (.cells #[.int .i64 0, .int .i64 0, .string ⟨#[]⟩, .slice none 0 0, .slice none 0 0] 25)) := ((Below.refl _ _).alloc (Nat.le_refl _) _).alloc (by simp) _
  have HX4 : Blk ((w.alloc (.cells #[.int .i64 k, .int .i64 num, .string t, .slice K kl kc, .slice A al c] 25)).alloc (.cells #[.int .i64 0, .int .i64 0, .string ⟨#[]⟩, .slice none 0 0, .slice none 0 0] 25)) (w.heap.size + 1) 25 #[.int .i64 0, .int .i64 0, .string ⟨#[]⟩, .slice none 0 0, .slice none 0 0] := by
    have h := Blk.new (w.alloc (.cells #[.int .i64 k, .int .i64 num, .string t, .slice K kl kc, .slice A al c] 25)) 25 #[.int .i64 0, .int .i64 0, .string ⟨#[]⟩, .slice none 0 0, .slice none 0 0]
    rw [World.size_alloc] at h; exact h
  have HFB := Lib.hid HA0
  have HF4 := Lib.hid HX4
  clear HA0 HX4
  unfold badA
  go_enter Tryd.func9, Tryd.ntmps9
  go_wp2_with fail
  obtain ⟨q0, q1, q2, q3, q4⟩ := HF4.out.cells5
  refine bodyPost_ret (v := .tuple #[.agg #[.int .i64 0, .int .i64 0, .string ⟨#[]⟩, .slice none 0 0, .slice none 0 0], .string ⟨#[105, 110, 118, 97, 108, 105, 100, 65, 114, 103, 117, 109, 101, 110, 116, 115]⟩]) (by simp [results, Tryd.results9, go_sem, q0, q1, q2, q3, q4]) rfl ?_
  exact ⟨rfl, HFB.out⟩
set_option maxRecDepth 100000 in
theorem kres_len (num : Int) (t : ByteArray) (K : Option Addr) (kl kc : Nat) (A : Option Addr) (al c : Nat) (w : World) (D : Option Addr) (ln dc : Nat) (hl : kl ≠ al) :
    Calls Tryd.prog 9 #[.agg #[.int .i64 7, .int .i64 num, .string t, .slice K kl kc, .slice A al c], .slice D ln dc] w fun e w' => e = .returned (.tuple #[.agg #[.int .i64 0, .int .i64 0, .string ⟨#[]⟩, .slice none 0 0, .slice none 0 0], .string badA]) ∧ Below w.heap.size w w' := by
  have n7 : ((kl : Int) != (al : Int)) = true := by rw [bne_iff_ne]; omega
  have HA0 : Below w.heap.size w ((w.alloc (.cells #[.int .i64 7, .int .i64 num, .string t, .slice K kl kc, .slice A al c] 25)).alloc (.cells #[.int .i64 0, .int .i64 0, .string ⟨#[]⟩, .slice none 0 0, .slice none 0 0] 25)) := ((Below.refl _ _).alloc (Nat.le_refl _) _).alloc (by simp) _
  have HX4 : Blk ((w.alloc (.cells #[.int .i64 7, .int .i64 num, .string t, .slice K kl kc, .slice A al c] 25)).alloc (.cells #[.int .i64 0, .int .i64 0, .string ⟨#[]⟩, .slice none 0 0, .slice none 0 0] 25)) (w.heap.size + 1) 25 #[.int .i64 0, .int .i64 0, .string ⟨#[]⟩, .slice none 0 0, .slice none 0 0] := by
    have h := Blk.new (w.alloc (.cells #[.int .i64 7, .int .i64 num, .string t, .slice K kl kc, .slice A al c] 25)) 25 #[.int .i64 0, .int .i64 0, .string ⟨#[]⟩, .slice none 0 0, .slice none 0 0]
    rw [World.size_alloc] at h; exact h
  have HFB := Lib.hid HA0
  have HF4 := Lib.hid HX4
  clear HA0 HX4
  unfold badA
  go_enter Tryd.func9, Tryd.ntmps9
  go_wp2_with fail
  obtain ⟨q0, q1, q2, q3, q4⟩ := HF4.out.cells5
  refine bodyPost_ret (v := .tuple #[.agg #[.int .i64 0, .int .i64 0, .string ⟨#[]⟩, .slice none 0 0, .slice none 0 0], .string ⟨#[105, 110, 118, 97, 108, 105, 100, 65, 114, 103, 117, 109, 101, 110, 116, 115]⟩]) (by simp [results, Tryd.results9, go_sem, q0, q1, q2, q3, q4]) rfl ?_
  exact ⟨rfl, HFB.out⟩
set_option maxRecDepth 100000 in
set_option maxHeartbeats 1000000 in
theorem kres_walk (num : Int) (t : ByteArray) (ks : List ByteArray) (ns : List Nd) (K : Option Addr) (kc : Nat) (A : Option Addr) (c : Nat) (w : World) (n : Nat) (hkl : ks.length = n) (hnl : ns.length = n) (hn2 : n ≤ 1000000) (D : Option Addr) (ln dc : Nat) (R : Nd → Option Nd)
    (HKO : Hid (∀ w', Below w.heap.size w w' → Calls Tryd.prog 22 #[.slice (some ⟨w'.heap.size, 0, none⟩) 2 2] (w'.alloc (.cells #[.int .i64 5, .int .i64 0, .string ⟨#[]⟩, .slice none 0 0, .slice none 0 0, .int .i64 7, .int .i64 0, .string ⟨#[]⟩, .slice K n kc, .slice A n c] 25)) (ObjP (.mk 7 0 ⟨#[]⟩ [⟨#[]⟩] [.mk 7 0 ⟨#[]⟩ ks ns]) (w'.alloc (.cells #[.int .i64 5, .int .i64 0, .string ⟨#[]⟩, .slice none 0 0, .slice none 0 0, .int .i64 7, .int .i64 0, .string ⟨#[]⟩, .slice K n kc, .slice A n c] 25)))))
    (HFI : Hid (∀ w' cs, NdIs w' w'.heap.size (.mk 7 0 ⟨#[]⟩ [⟨#[]⟩] [.mk 7 0 ⟨#[]⟩ ks ns]) cs → Calls Tryd.prog 21 #[.agg cs.toArray, .string ⟨#[]⟩] w' (FindTop 7 0 ⟨#[]⟩ ks ns w')))
    (HCN : Hid (∀ w' x, Below w.heap.size w w' → Calls Tryd.prog 24 #[.slice K n kc, .string x] w' fun e w'' => e = .returned (.bool (idxK ks x).isSome) ∧ w' = w''))
    (HCP : Hid (∀ k w', Calls Tryd.prog 23 #[.string k, .string ⟨#[35]⟩] w' fun e w'' => e = .returned (.tuple #[.string (tlS k), .bool (hashB k)]) ∧ w'' = w'))
    (HRF : Hid (∀ (i : Nat) (m : Nd) (cs : List Value) (w' : World), ns[i]? = some m → NdIs w' w'.heap.size m cs → Below w.heap.size w w' → Calls Tryd.prog 25 #[.agg cs.toArray, .slice D ln dc] w' (RfP (R m) w')))
    (HKS : Hid (∀ s ∈ ks, s.size ≤ maxLen)) :
    Calls Tryd.prog 9 #[.agg #[.int .i64 7, .int .i64 num, .string t, .slice K n kc, .slice A n c], .slice D ln dc] w (ResP (resAcc R ks ks ns [] []) w) := by
  have HA0 : Hid (Below w.heap.size w ((w.alloc (.cells #[.int .i64 7, .int .i64 num, .string t, .slice K n kc, .slice A n c] 25)).alloc (.cells #[.int .i64 0, .int .i64 0, .string ⟨#[]⟩, .slice none 0 0, .slice none 0 0] 25))) := ((Below.refl _ _).alloc (Nat.le_refl _) _).alloc (by simp) _
  have X2 : Hid (Blk ((w.alloc (.cells #[.int .i64 7, .int .i64 num, .string t, .slice K n kc, .slice A n c] 25)).alloc (.cells #[.int .i64 0, .int .i64 0, .string ⟨#[]⟩, .slice none 0 0, .slice none 0 0] 25)) w.heap.size 25 #[.int .i64 7, .int .i64 num, .string t, .slice K n kc, .slice A n c]) := (Blk.new w _ _).alloc _
  have X4 : Hid (Blk ((w.alloc (.cells #[.int .i64 7, .int .i64 num, .string t, .slice K n kc, .slice A n c] 25)).alloc (.cells #[.int .i64 0, .int .i64 0, .string ⟨#[]⟩, .slice none 0 0, .slice none 0 0] 25)) (w.heap.size + 1) 25 #[.int .i64 0, .int .i64 0, .string ⟨#[]⟩, .slice none 0 0, .slice none 0 0]) := by
    have h := Blk.new (w.alloc (.cells #[.int .i64 7, .int .i64 num, .string t, .slice K n kc, .slice A n c] 25)) 25 #[.int .i64 0, .int .i64 0, .string ⟨#[]⟩, .slice none 0 0, .slice none 0 0]
    rw [World.size_alloc] at h; exact h
  have HKL := Lib.hid hkl
  have HNL := Lib.hid hnl
  clear hkl hnl
  go_enter Tryd.func9, Tryd.ntmps9
  go_wp2_with fail
  have HK1 := HKO.out _ HA0.out
  simp only [World.size_alloc] at HK1
  refine (HK1 : Calls _ _ _ _ _).mono ?_
  rintro e w1 ⟨p0, p1, p2, p3, p4, p5, p6, p7, p8, rfl, hn, hb⟩
  have HA1 := Lib.hid (nextB (HA0.out.alloc HA0.out.size (.cells #[.int .i64 5, .int .i64 0, .string ⟨#[]⟩, .slice none 0 0, .slice none 0 0, .int .i64 7, .int .i64 0, .string ⟨#[]⟩, .slice K n kc, .slice A n c] 25)) hb)
  have Y2 := Lib.hid ((X2.out.alloc (.cells #[.int .i64 5, .int .i64 0, .string ⟨#[]⟩, .slice none 0 0, .slice none 0 0, .int .i64 7, .int .i64 0, .string ⟨#[]⟩, .slice K n kc, .slice A n c] 25)).below hb (X2.out.alloc (.cells #[.int .i64 5, .int .i64 0, .string ⟨#[]⟩, .slice none 0 0, .slice none 0 0, .int .i64 7, .int .i64 0, .string ⟨#[]⟩, .slice K n kc, .slice A n c] 25)).lt)
  have Y4 := Lib.hid ((X4.out.alloc (.cells #[.int .i64 5, .int .i64 0, .string ⟨#[]⟩, .slice none 0 0, .slice none 0 0, .int .i64 7, .int .i64 0, .string ⟨#[]⟩, .slice K n kc, .slice A n c] 25)).below hb (X4.out.alloc (.cells #[.int .i64 5, .int .i64 0, .string ⟨#[]⟩, .slice none 0 0, .slice none 0 0, .int .i64 7, .int .i64 0, .string ⟨#[]⟩, .slice K n kc, .slice A n c] 25)).lt)
  have HF1 := Lib.hid (HFI.out w1 _ hn)
  have hs1 := hb.size
  simp only [World.size_alloc] at hs1
  clear HK1 HKO HFI HA0 X2 X4 hn hb
  go_wp2_with fail
  refine (HF1.out : Calls _ _ _ _ _).mono ?_
  rintro e w2 ⟨K2, kc2, A2, c2, ys, rfl, hri, hb⟩
  rw [HKL.out, HNL.out]
  have hb6 : Below w2.heap.size w2 (w2.alloc (.cells #[.int .i64 7, .int .i64 0, .string ⟨#[]⟩, .slice K2 n kc2, .slice A2 n c2] 25)) := (Below.refl _ _).alloc (Nat.le_refl _) _
  have hs2 := hb.size
  have HA2 := Lib.hid (nextB (nextB HA1.out hb) hb6)
  have V2 := Lib.hid ((Y2.out.below hb Y2.out.lt).alloc (.cells #[.int .i64 7, .int .i64 0, .string ⟨#[]⟩, .slice K2 n kc2, .slice A2 n c2] 25))
  have V4 := Lib.hid ((Y4.out.below hb Y4.out.lt).alloc (.cells #[.int .i64 7, .int .i64 0, .string ⟨#[]⟩, .slice K2 n kc2, .slice A2 n c2] 25))
  have V6 := Lib.hid (Blk.new w2 25 #[.int .i64 7, .int .i64 0, .string ⟨#[]⟩, .slice K2 n kc2, .slice A2 n c2])
  have HRI := Lib.hid (hri.below hb6)
  have HEQ : Hid (resAcc R ks ks ns [] [] = resAcc R ks (ks.drop 0) (ns.drop 0) [] []) := rfl
  have HK0 : Hid (∀ s ∈ [] ++ ks.drop 0, s.size ≤ maxLen) := HKS.out
  have HLK : Hid (∀ g, (Value.slice K2 n kc2).ownBlock = some g → g < w2.heap.size) := fun g hg => by have h := hri.keys; rw [HKL.out] at h; exact (own_lt h hg).2
  have HLA : Hid (∀ g, (Value.slice A2 n c2).ownBlock = some g → g < w2.heap.size) := fun g hg => by have h := hri.own; rw [HNL.out] at h; exact (own_lt h hg).2
  clear HF1 HA1 Y2 Y4 hb hb6 hri
  obtain ⟨v0, v1, v2, v3, v4⟩ := V6.out.cells5
  go_wp2_with fail
  obtain ⟨b6, hb6⟩ : ∃ b6, b6 = w2.heap.size := ⟨_, rfl⟩
  rw [← hb6] at V6 hs2 HLK HLA ⊢
  clear hb6 v0 v1 v2 v3 v4
  generalize w2.alloc (.cells #[.int .i64 7, .int .i64 0, .string ⟨#[]⟩, .slice K2 n kc2, .slice A2 n c2] 25) = W2 at *
  obtain ⟨hi, hhi⟩ : ∃ hi, hi = w1.heap.size := ⟨_, rfl⟩
  rw [← hhi] at HRI hs1 hs2
  clear hhi
  go_loopw [42] (fun t42 wr => ∃ (i : Nat) (aK : List ByteArray) (aN : List Nd) (ys : List Value), i ≤ n ∧ aK.length = i ∧ aN.length = i ∧ t42 = .int .i64 i ∧ Hid (resAcc R ks ks ns [] [] = resAcc R ks (ks.drop i) (ns.drop i) aK aN) ∧ Hid (∀ s ∈ aK ++ ks.drop i, s.size ≤ maxLen) ∧ Hid (RI 0 hi wr (aK ++ ks.drop i) (aN ++ ns.drop i) K2 kc2 A2 c2 ys) ∧ Hid (Blk wr b6 25 #[.int .i64 7, .int .i64 0, .string ⟨#[]⟩, .slice K2 n kc2, .slice A2 n c2]) ∧ Hid (Blk wr w.heap.size 25 #[.int .i64 7, .int .i64 num, .string t, .slice K n kc, .slice A n c]) ∧ Hid (Blk wr (w.heap.size + 1) 25 #[.int .i64 0, .int .i64 0, .string ⟨#[]⟩, .slice none 0 0, .slice none 0 0]) ∧ Hid (Below w.heap.size w wr)) (fun t42 _ => n - (intOf t42).toNat)
  case atStart => exact ⟨0, [], [], ys, Nat.zero_le _, rfl, rfl, rfl, HEQ, HK0, HRI, V6, V2, V4, HA2⟩
  case round =>
    clear HRI V6 V2 V4 HA2 HEQ HK0
    obtain ⟨i, aK, aN, ys, hin, ha, hb', rfl, HEQ, HKZ, HRI, B6, B2, B4, HB⟩ := hrel
    obtain ⟨wo, rfl⟩ : ∃ wo : World, wo = wr := ⟨_, rfl⟩
    have hLK : (aK ++ ks.drop i).length = n := by rw [List.length_append, List.length_drop, HKL.out]; omega
    have hLN : (aN ++ ns.drop i).length = n := by rw [List.length_append, List.length_drop, HNL.out]; omega
    have ok := HRI.out.keys
    rw [hLK] at ok
    have ow := HRI.out.own
    rw [hLN] at ow
    by_cases hlt : i < n
    · obtain ⟨k, hk⟩ : ∃ k, ks[i]? = some k := ⟨ks[i]'(by rw [HKL.out]; exact hlt), List.getElem?_eq_getElem _⟩
      obtain ⟨m, hm⟩ : ∃ m, ns[i]? = some m := ⟨ns[i]'(by rw [HNL.out]; exact hlt), List.getElem?_eq_getElem _⟩
      have hdk : ks.drop i = k :: ks.drop (i + 1) := by rw [List.drop_eq_getElem_cons (by rw [HKL.out]; exact hlt)]; congr 1; exact Option.some.inj ((List.getElem?_eq_getElem _).symm.trans hk)
      have hdn : ns.drop i = m :: ns.drop (i + 1) := by rw [List.drop_eq_getElem_cons (by rw [HNL.out]; exact hlt)]; congr 1; exact Option.some.inj ((List.getElem?_eq_getElem _).symm.trans hm)
      obtain ⟨gk, ck, hv, gk1, gk2⟩ := World.ownsRow.form ok (by omega)
      injection hv with e1 _ e2
      subst e1
      subst e2
      obtain ⟨ga, ca, hv, ga1, ga2⟩ := World.ownsRow.form ow (by omega)
      injection hv with e1 _ e2
      subst e1
      subst e2
      have hgb : gk < b6 := HLK.out gk rfl
      have hab : ga < b6 := HLA.out ga rfl
      have hkg : gk ≠ ga := fun e => own_apart ok ow (by decide) (g := gk) rfl (by rw [e]; rfl)
      have kcell : wo.cell? ⟨gk, i, none⟩ = some (.string k) := by
        rw [ok.cellAt i (by omega), hdk, List.getElem?_map, List.getElem?_append_right (by omega), ha, Nat.sub_self]; rfl
      obtain ⟨cs, hnd, hcs⟩ := NdsIs.at_ _ _ i m (NdsIn.is (B := wo.heap.size) (fun b hb => hb.2.1) _ _ HRI.out.kids) (by rw [hdn, List.getElem?_append_right (by omega), hb', Nat.sub_self]; rfl)
      obtain ⟨x0, x1, x2, x3, x4, x5, x6, x7, x8, rfl⟩ := (NdIs.in_ _ _ hnd).form
      have n0 : wo.cell? ⟨ga, i * 5, none⟩ = some (.int .i64 x0) := (ow.cellAt (i * 5) (by omega)).trans (hcs 0 (by omega))
      have n1 : wo.cell? ⟨ga, i * 5 + 1, none⟩ = some (.int .i64 x1) := (ow.cellAt (i * 5 + 1) (by omega)).trans (hcs 1 (by omega))
      have n2 : wo.cell? ⟨ga, i * 5 + 2, none⟩ = some (.string x2) := (ow.cellAt (i * 5 + 2) (by omega)).trans (hcs 2 (by omega))
      have n3 : wo.cell? ⟨ga, i * 5 + 3, none⟩ = some (.slice x3 x4 x5) := (ow.cellAt (i * 5 + 3) (by omega)).trans (hcs 3 (by omega))
      have n4 : wo.cell? ⟨ga, i * 5 + 4, none⟩ = some (.slice x6 x7 x8) := (ow.cellAt (i * 5 + 4) (by omega)).trans (hcs 4 (by omega))
      have v63 : wo.cell? ⟨b6, 3, none⟩ = some (.slice (some ⟨gk, 0, none⟩) n kc2) := B6.out.cell 3
      have v64 : wo.cell? ⟨b6, 4, none⟩ = some (.slice (some ⟨ga, 0, none⟩) n c2) := B6.out.cell 4
      have v23 : wo.cell? ⟨w.heap.size, 3, none⟩ = some (.slice K n kc) := B2.out.cell 3
      have i0 : (0 : Int) ≤ (i : Int) := by omega
      have i1 : (i : Int) < (n : Int) := by omega
      have HND := Lib.hid hnd
      have HDK := Lib.hid hdk
      have HDN := Lib.hid hdn
      have HHM := Lib.hid hm
      clear ok ow hcs hnd hdk hdn hm hk
      cases hq : hashB k with
      | false =>
        have HQ := Lib.hid hq
        clear hq
        go_wp2_with fail
        refine (HCP.out k wo : Calls _ _ _ _ _).mono ?_
        rintro e w3 ⟨rfl, rfl⟩
        rw [HQ.out]
        have eK : (aK ++ [k]) ++ ks.drop (i + 1) = aK ++ ks.drop i := by rw [HDK.out]; simp
        have eN : (aN ++ [m]) ++ ns.drop (i + 1) = aN ++ ns.drop i := by rw [HDN.out]; simp
        have HEQ2 : Hid (resAcc R ks ks ns [] [] = resAcc R ks (ks.drop (i + 1)) (ns.drop (i + 1)) (aK ++ [k]) (aN ++ [m])) := by show _ = _; rw [HEQ.out, HDK.out, HDN.out, resAcc_no HQ.out]
        rw [← eK] at HKZ
        rw [← eK, ← eN] at HRI
        clear eK eN hLK hLN
        go_wp2_with fail
        go_roundw
        case rel => exact ⟨i + 1, aK ++ [k], aN ++ [m], ys, by omega, by simp [ha], by simp [hb'], by go_num, HEQ2, HKZ, HRI, B6, B2, B4, HB⟩
        case measure => simp [intOf]; omega
      | true =>
        have HQ := Lib.hid hq
        clear hq
        go_wp2_with fail
        refine (HCP.out k wo : Calls _ _ _ _ _).mono ?_
        rintro e w3 ⟨rfl, rfl⟩
        rw [HQ.out]
        cases hd : (idxK ks (tlS k)).isSome with
        | true =>
          have HD := Lib.hid hd
          have HV : Hid (resAcc R ks ks ns [] [] = .error badA) := by show _ = _; rw [HEQ.out, HDK.out, HDN.out, resAcc_twice HQ.out hd]
          have HCNI := HCN.out w3 (tlS k) HB.out
          rw [hd] at HCNI
          have HCNJ := Lib.hid HCNI
          clear hd HCNI HRF HCN HCP
          obtain ⟨p0, p1, p2, p3, p4⟩ := B4.out.cells5
          have f0 := B4.out.frozen 0
          have f1 := B4.out.frozen 1
          have f2 := B4.out.frozen 2
          have f3 := B4.out.frozen 3
          have f4 := B4.out.frozen 4
          go_wp2_with fail
          refine (HCNJ.out : Calls _ _ _ _ _).mono ?_
          rintro e w4 ⟨rfl, rfl⟩
          go_wp2_with fail
          clear p0 p1 p2 p3 p4 f0 f1 f2 f3 f4
          have HFB := Lib.hid (((((HB.out.setCell (p := ⟨w.heap.size + 1, 0, none⟩) (by show w.heap.size ≤ w.heap.size + 1; omega) (.int .i64 0)).setCell (p := ⟨w.heap.size + 1, 1, none⟩) (by show w.heap.size ≤ w.heap.size + 1; omega) (.int .i64 0)).setCell (p := ⟨w.heap.size + 1, 2, none⟩) (by show w.heap.size ≤ w.heap.size + 1; omega) (.string ⟨#[]⟩)).setCell (p := ⟨w.heap.size + 1, 3, none⟩) (by show w.heap.size ≤ w.heap.size + 1; omega) (.slice none 0 0)).setCell (p := ⟨w.heap.size + 1, 4, none⟩) (by show w.heap.size ≤ w.heap.size + 1; omega) (.slice none 0 0))
          have HF4 := Lib.hid (((((B4.out.set_ 0 (.int .i64 0)).set_ 1 (.int .i64 0)).set_ 2 (.string ⟨#[]⟩)).set_ 3 (.slice none 0 0)).set_ 4 (.slice none 0 0))
          generalize (((((w3.setCell ⟨w.heap.size + 1, 0, none⟩ (.int .i64 0)).setCell ⟨w.heap.size + 1, 1, none⟩ (.int .i64 0)).setCell ⟨w.heap.size + 1, 2, none⟩ (.string ⟨#[]⟩)).setCell ⟨w.heap.size + 1, 3, none⟩ (.slice none 0 0)).setCell ⟨w.heap.size + 1, 4, none⟩ (.slice none 0 0)) = WF at *
          obtain ⟨q0, q1, q2, q3, q4⟩ := HF4.out.cells5
          refine bodyPost_ret (v := .tuple #[.agg #[.int .i64 0, .int .i64 0, .string ⟨#[]⟩, .slice none 0 0, .slice none 0 0], .string ⟨#[105, 110, 118, 97, 108, 105, 100, 65, 114, 103, 117, 109, 101, 110, 116, 115]⟩]) (by simp [results, Tryd.results9, go_sem, q0, q1, q2, q3, q4]) rfl ?_
          exact ResP.bad HV.out HFB.out
        | false =>
          have HD := Lib.hid hd
          have HCNI := HCN.out w3 (tlS k) HB.out
          rw [hd] at HCNI
          have HCNJ := Lib.hid HCNI
          have HRI0 := Lib.hid (HRF.out i m [.int .i64 x0, .int .i64 x1, .string x2, .slice x3 x4 x5, .slice x6 x7 x8] w3 HHM.out HND.out HB.out)
          clear hd HCNI HRF HCN HCP
          go_wp2_with fail
          refine (HCNJ.out : Calls _ _ _ _ _).mono ?_
          rintro e w4 ⟨rfl, rfl⟩
          go_wp2_with fail
          refine (HRI0.out : Calls _ _ _ _ _).mono ?_
          rintro e w4 ⟨c0, c1, c2', c3, c4, c5, c6, c7, c8, rfl, hrn, hb4⟩
          have hal : Below w4.heap.size w4 (w4.alloc (.cells #[.int .i64 c0, .int .i64 c1, .string c2', .slice c3 c4 c5, .slice c6 c7 c8] 25)) := (Below.refl _ _).alloc (Nat.le_refl _) _
          have hs4 := hb4.size
          have G6 := Lib.hid ((B6.out.below hb4 B6.out.lt).alloc (.cells #[.int .i64 c0, .int .i64 c1, .string c2', .slice c3 c4 c5, .slice c6 c7 c8] 25))
          have G2 := Lib.hid ((B2.out.below hb4 B2.out.lt).alloc (.cells #[.int .i64 c0, .int .i64 c1, .string c2', .slice c3 c4 c5, .slice c6 c7 c8] 25))
          have G4 := Lib.hid ((B4.out.below hb4 B4.out.lt).alloc (.cells #[.int .i64 c0, .int .i64 c1, .string c2', .slice c3 c4 c5, .slice c6 c7 c8] 25))
          have G12 := Lib.hid (Blk.new w4 25 #[.int .i64 c0, .int .i64 c1, .string c2', .slice c3 c4 c5, .slice c6 c7 c8])
          have GB := Lib.hid (nextB (nextB HB.out hb4) hal)
          have hlt6 := B6.out.lt
          clear HCNJ HRI0 n0 n1 n2 n3 n4 v63 v64 v23 kcell
          cases hr : R m with
          | none =>
            have HV : Hid (resAcc R ks ks ns [] [] = .error badR) := by show _ = _; rw [HEQ.out, HDK.out, HDN.out, resAcc_bad HQ.out HD.out hr]
            clear hr hrn hb4 hal HRI
            obtain ⟨p0, p1, p2, p3, p4⟩ := G4.out.cells5
            have f0 := G4.out.frozen 0
            have f1 := G4.out.frozen 1
            have f2 := G4.out.frozen 2
            have f3 := G4.out.frozen 3
            have f4 := G4.out.frozen 4
            go_wp2_with fail
            clear p0 p1 p2 p3 p4 f0 f1 f2 f3 f4
            generalize w4.alloc (.cells #[.int .i64 c0, .int .i64 c1, .string c2', .slice c3 c4 c5, .slice c6 c7 c8] 25) = W5 at *
            have HFB := Lib.hid (((((GB.out.setCell (p := ⟨w.heap.size + 1, 0, none⟩) (by show w.heap.size ≤ w.heap.size + 1; omega) (.int .i64 0)).setCell (p := ⟨w.heap.size + 1, 1, none⟩) (by show w.heap.size ≤ w.heap.size + 1; omega) (.int .i64 0)).setCell (p := ⟨w.heap.size + 1, 2, none⟩) (by show w.heap.size ≤ w.heap.size + 1; omega) (.string ⟨#[]⟩)).setCell (p := ⟨w.heap.size + 1, 3, none⟩) (by show w.heap.size ≤ w.heap.size + 1; omega) (.slice none 0 0)).setCell (p := ⟨w.heap.size + 1, 4, none⟩) (by show w.heap.size ≤ w.heap.size + 1; omega) (.slice none 0 0))
            have HF4 := Lib.hid (((((G4.out.set_ 0 (.int .i64 0)).set_ 1 (.int .i64 0)).set_ 2 (.string ⟨#[]⟩)).set_ 3 (.slice none 0 0)).set_ 4 (.slice none 0 0))
            generalize (((((W5.setCell ⟨w.heap.size + 1, 0, none⟩ (.int .i64 0)).setCell ⟨w.heap.size + 1, 1, none⟩ (.int .i64 0)).setCell ⟨w.heap.size + 1, 2, none⟩ (.string ⟨#[]⟩)).setCell ⟨w.heap.size + 1, 3, none⟩ (.slice none 0 0)).setCell ⟨w.heap.size + 1, 4, none⟩ (.slice none 0 0)) = WF at *
            obtain ⟨q0, q1, q2, q3, q4⟩ := HF4.out.cells5
            refine bodyPost_ret (v := .tuple #[.agg #[.int .i64 0, .int .i64 0, .string ⟨#[]⟩, .slice none 0 0, .slice none 0 0], .string ⟨#[105, 110, 118, 97, 108, 105, 100, 82, 101, 115, 117, 108, 116, 82, 101, 102, 101, 114, 101, 110, 99, 101]⟩]) (by simp [results, Tryd.results9, go_sem, q0, q1, q2, q3, q4]) rfl ?_
            exact ResP.bad HV.out HFB.out
          | some x =>
            have HR := Lib.hid hr
            have HEQ2 : Hid (resAcc R ks ks ns [] [] = resAcc R ks (ks.drop (i + 1)) (ns.drop (i + 1)) (aK ++ [tlS k]) (aN ++ [x])) := by show _ = _; rw [HEQ.out, HDK.out, HDN.out, resAcc_yes HQ.out HD.out hr]
            have hnx : NdIn (w4.alloc (.cells #[.int .i64 c0, .int .i64 c1, .string c2', .slice c3 c4 c5, .slice c6 c7 c8] 25)) (Since w3 w4) x [.int .i64 c0, .int .i64 c1, .string c2', .slice c3 c4 c5, .slice c6 c7 c8] := NdIn.keep (fun p hp => World.cell?_alloc_lt _ _ _ hp.2) (fun _ h => h) _ _ (hrn x hr)
            have hri5 := (HRI.out.below hb4).below hal
            have HKZ2 : Hid (∀ s ∈ (aK ++ [tlS k]) ++ ks.drop (i + 1), s.size ≤ maxLen) := fun s hs => by
              rw [List.append_assoc, List.mem_append, List.singleton_append, List.mem_cons] at hs
              have hz := HKZ.out
              rw [HDK.out] at hz
              rcases hs with h | rfl | h
              · exact hz s (List.mem_append.2 (.inl h))
              · exact Nat.le_trans (tlS_size k) (hz k (by simp))
              · exact hz s (by simp [h])
            have eK : (aK ++ ks.drop i).set i (tlS k) = (aK ++ [tlS k]) ++ ks.drop (i + 1) := by rw [HDK.out, ← ha]; exact set_mid aK k (tlS k) _
            have eN : (aN ++ ns.drop i).set i x = (aN ++ [x]) ++ ns.drop (i + 1) := by rw [HDN.out, ← hb']; exact set_mid aN m x _
            have hsal : (w4.alloc (.cells #[.int .i64 c0, .int .i64 c1, .string c2', .slice c3 c4 c5, .slice c6 c7 c8] 25)).heap.size = w4.heap.size + 1 := by simp
            obtain ⟨b12, hb12⟩ : ∃ b12, b12 = w4.heap.size := ⟨_, rfl⟩
            have G12' : Hid (Blk (w4.alloc (.cells #[.int .i64 c0, .int .i64 c1, .string c2', .slice c3 c4 c5, .slice c6 c7 c8] 25)) b12 25 #[.int .i64 c0, .int .i64 c1, .string c2', .slice c3 c4 c5, .slice c6 c7 c8]) := by rw [hb12]; exact G12.out
            have hS : ∀ b, Since w3 w4 b → SZ 0 hi (w4.alloc (.cells #[.int .i64 c0, .int .i64 c1, .string c2', .slice c3 c4 c5, .slice c6 c7 c8] 25)) (.slice (some ⟨gk, 0, none⟩) (aK ++ ks.drop i).length kc2) (.slice (some ⟨ga, 0, none⟩) (aN ++ ns.drop i).length c2) b := fun b hb => ⟨.inr (by have := hb.1; omega), by rw [hsal]; have := hb.2; omega, fun e => by have e : gk = b := Option.some.inj e; have := hb.1; omega, fun e => by have e : ga = b := Option.some.inj e; have := hb.1; omega⟩
            have hS2 : ∀ b, Since w3 w4 b → SZ 0 hi ((w4.alloc (.cells #[.int .i64 c0, .int .i64 c1, .string c2', .slice c3 c4 c5, .slice c6 c7 c8] 25)).setCell ⟨gk, i, none⟩ (.string (tlS k))) (.slice (some ⟨gk, 0, none⟩) ((aK ++ ks.drop i).set i (tlS k)).length kc2) (.slice (some ⟨ga, 0, none⟩) (aN ++ ns.drop i).length c2) b := fun b hb => ⟨.inr (by have := hb.1; omega), by rw [World.size_setCell, hsal]; have := hb.2; omega, fun e => by have e : gk = b := Option.some.inj e; have := hb.1; omega, fun e => by have e : ga = b := Option.some.inj e; have := hb.1; omega⟩
            have hnx2 : NdIn ((w4.alloc (.cells #[.int .i64 c0, .int .i64 c1, .string c2', .slice c3 c4 c5, .slice c6 c7 c8] 25)).setCell ⟨gk, i, none⟩ (.string (tlS k))) (Since w3 w4) x [.int .i64 c0, .int .i64 c1, .string c2', .slice c3 c4 c5, .slice c6 c7 c8] := NdIn.keep (fun p hp => World.cell?_setCell_other _ _ _ _ (by intro e; subst e; have h : w3.heap.size ≤ gk := hp.1; omega)) (fun _ h => h) _ _ hnx
            have P1 := (hri5.putKey i (tlS k)).putKid i (by rw [hLN]; exact hlt) hnx2 hS2
            have P2 := (hri5.putKid i (by rw [hLN]; exact hlt) hnx hS).putKey i (tlS k)
            rw [eK, eN] at P1 P2
            have P1 := Lib.hid P1
            have P2 := Lib.hid P2
            have ok5 := hri5.keys
            rw [hLK] at ok5
            have ow5 := hri5.own
            rw [hLN] at ow5
            have k0 : (w4.alloc (.cells #[.int .i64 c0, .int .i64 c1, .string c2', .slice c3 c4 c5, .slice c6 c7 c8] 25)).cell? ⟨gk, i, none⟩ = some (.string k) := by
              rw [ok5.cellAt i (by omega), HDK.out, List.getElem?_map, List.getElem?_append_right (by omega), ha, Nat.sub_self]; rfl
            obtain ⟨cs5, hnd5, hcs5⟩ := NdsIs.at_ _ _ i m (NdsIn.is (B := (w4.alloc (.cells #[.int .i64 c0, .int .i64 c1, .string c2', .slice c3 c4 c5, .slice c6 c7 c8] 25)).heap.size) (fun b hb => hb.2.1) _ _ hri5.kids) (by rw [HDN.out, List.getElem?_append_right (by omega), hb', Nat.sub_self]; rfl)
            obtain ⟨y0, y1, y2, y3, y4, y5, y6, y7, y8, rfl⟩ := (NdIs.in_ _ _ hnd5).form
            have m0 : (w4.alloc (.cells #[.int .i64 c0, .int .i64 c1, .string c2', .slice c3 c4 c5, .slice c6 c7 c8] 25)).cell? ⟨ga, i * 5, none⟩ = some (.int .i64 y0) := (ow5.cellAt (i * 5) (by omega)).trans (hcs5 0 (by omega))
            have m1 : (w4.alloc (.cells #[.int .i64 c0, .int .i64 c1, .string c2', .slice c3 c4 c5, .slice c6 c7 c8] 25)).cell? ⟨ga, i * 5 + 1, none⟩ = some (.int .i64 y1) := (ow5.cellAt (i * 5 + 1) (by omega)).trans (hcs5 1 (by omega))
            have m2 : (w4.alloc (.cells #[.int .i64 c0, .int .i64 c1, .string c2', .slice c3 c4 c5, .slice c6 c7 c8] 25)).cell? ⟨ga, i * 5 + 2, none⟩ = some (.string y2) := (ow5.cellAt (i * 5 + 2) (by omega)).trans (hcs5 2 (by omega))
            have m3 : (w4.alloc (.cells #[.int .i64 c0, .int .i64 c1, .string c2', .slice c3 c4 c5, .slice c6 c7 c8] 25)).cell? ⟨ga, i * 5 + 3, none⟩ = some (.slice y3 y4 y5) := (ow5.cellAt (i * 5 + 3) (by omega)).trans (hcs5 3 (by omega))
            have m4 : (w4.alloc (.cells #[.int .i64 c0, .int .i64 c1, .string c2', .slice c3 c4 c5, .slice c6 c7 c8] 25)).cell? ⟨ga, i * 5 + 4, none⟩ = some (.slice y6 y7 y8) := (ow5.cellAt (i * 5 + 4) (by omega)).trans (hcs5 4 (by omega))
            have fk := ok5.frozenAt i
            have fa0 := ow5.frozenAt (i * 5)
            have fa1 := ow5.frozenAt (i * 5 + 1)
            have fa2 := ow5.frozenAt (i * 5 + 2)
            have fa3 := ow5.frozenAt (i * 5 + 3)
            have fa4 := ow5.frozenAt (i * 5 + 4)
            have v63 : (w4.alloc (.cells #[.int .i64 c0, .int .i64 c1, .string c2', .slice c3 c4 c5, .slice c6 c7 c8] 25)).cell? ⟨b6, 3, none⟩ = some (.slice (some ⟨gk, 0, none⟩) n kc2) := G6.out.cell 3
            have v64 : (w4.alloc (.cells #[.int .i64 c0, .int .i64 c1, .string c2', .slice c3 c4 c5, .slice c6 c7 c8] 25)).cell? ⟨b6, 4, none⟩ = some (.slice (some ⟨ga, 0, none⟩) n c2) := G6.out.cell 4
            obtain ⟨d0, d1, d2, d3, d4⟩ := G12'.out.cells5
            have hw0 := HB.out.size
            have q1 : ¬ gk = b6 := by omega
            have q2 : ¬ ga = b6 := by omega
            have q3 : ¬ gk = b12 := by omega
            have q4 : ¬ ga = b12 := by omega
            have q5 : ¬ gk = ga := hkg
            have q6 : ¬ ga = gk := fun e => hkg e.symm
            have E1 := Lib.hid ((((((G6.out.far (p := ⟨gk, i, none⟩) (by show _ ≠ gk; omega) (.string (tlS k))).far (p := ⟨ga, i * 5, none⟩) (by show _ ≠ ga; omega) (.int .i64 c0)).far (p := ⟨ga, i * 5 + 1, none⟩) (by show _ ≠ ga; omega) (.int .i64 c1)).far (p := ⟨ga, i * 5 + 2, none⟩) (by show _ ≠ ga; omega) (.string c2')).far (p := ⟨ga, i * 5 + 3, none⟩) (by show _ ≠ ga; omega) (.slice c3 c4 c5)).far (p := ⟨ga, i * 5 + 4, none⟩) (by show _ ≠ ga; omega) (.slice c6 c7 c8))
            have E2 := Lib.hid ((((((G6.out.far (p := ⟨ga, i * 5, none⟩) (by show _ ≠ ga; omega) (.int .i64 c0)).far (p := ⟨ga, i * 5 + 1, none⟩) (by show _ ≠ ga; omega) (.int .i64 c1)).far (p := ⟨ga, i * 5 + 2, none⟩) (by show _ ≠ ga; omega) (.string c2')).far (p := ⟨ga, i * 5 + 3, none⟩) (by show _ ≠ ga; omega) (.slice c3 c4 c5)).far (p := ⟨ga, i * 5 + 4, none⟩) (by show _ ≠ ga; omega) (.slice c6 c7 c8)).far (p := ⟨gk, i, none⟩) (by show _ ≠ gk; omega) (.string (tlS k)))
            have E3 := Lib.hid ((((((G2.out.far (p := ⟨gk, i, none⟩) (by show _ ≠ gk; omega) (.string (tlS k))).far (p := ⟨ga, i * 5, none⟩) (by show _ ≠ ga; omega) (.int .i64 c0)).far (p := ⟨ga, i * 5 + 1, none⟩) (by show _ ≠ ga; omega) (.int .i64 c1)).far (p := ⟨ga, i * 5 + 2, none⟩) (by show _ ≠ ga; omega) (.string c2')).far (p := ⟨ga, i * 5 + 3, none⟩) (by show _ ≠ ga; omega) (.slice c3 c4 c5)).far (p := ⟨ga, i * 5 + 4, none⟩) (by show _ ≠ ga; omega) (.slice c6 c7 c8))
            have E4 := Lib.hid ((((((G2.out.far (p := ⟨ga, i * 5, none⟩) (by show _ ≠ ga; omega) (.int .i64 c0)).far (p := ⟨ga, i * 5 + 1, none⟩) (by show _ ≠ ga; omega) (.int .i64 c1)).far (p := ⟨ga, i * 5 + 2, none⟩) (by show _ ≠ ga; omega) (.string c2')).far (p := ⟨ga, i * 5 + 3, none⟩) (by show _ ≠ ga; omega) (.slice c3 c4 c5)).far (p := ⟨ga, i * 5 + 4, none⟩) (by show _ ≠ ga; omega) (.slice c6 c7 c8)).far (p := ⟨gk, i, none⟩) (by show _ ≠ gk; omega) (.string (tlS k)))
            have E5 := Lib.hid ((((((G4.out.far (p := ⟨gk, i, none⟩) (by show _ ≠ gk; omega) (.string (tlS k))).far (p := ⟨ga, i * 5, none⟩) (by show _ ≠ ga; omega) (.int .i64 c0)).far (p := ⟨ga, i * 5 + 1, none⟩) (by show _ ≠ ga; omega) (.int .i64 c1)).far (p := ⟨ga, i * 5 + 2, none⟩) (by show _ ≠ ga; omega) (.string c2')).far (p := ⟨ga, i * 5 + 3, none⟩) (by show _ ≠ ga; omega) (.slice c3 c4 c5)).far (p := ⟨ga, i * 5 + 4, none⟩) (by show _ ≠ ga; omega) (.slice c6 c7 c8))
            have E6 := Lib.hid ((((((G4.out.far (p := ⟨ga, i * 5, none⟩) (by show _ ≠ ga; omega) (.int .i64 c0)).far (p := ⟨ga, i * 5 + 1, none⟩) (by show _ ≠ ga; omega) (.int .i64 c1)).far (p := ⟨ga, i * 5 + 2, none⟩) (by show _ ≠ ga; omega) (.string c2')).far (p := ⟨ga, i * 5 + 3, none⟩) (by show _ ≠ ga; omega) (.slice c3 c4 c5)).far (p := ⟨ga, i * 5 + 4, none⟩) (by show _ ≠ ga; omega) (.slice c6 c7 c8)).far (p := ⟨gk, i, none⟩) (by show _ ≠ gk; omega) (.string (tlS k)))
            have E7 := Lib.hid ((((((GB.out.setCell (p := ⟨gk, i, none⟩) (by show w.heap.size ≤ gk; omega) (.string (tlS k))).setCell (p := ⟨ga, i * 5, none⟩) (by show w.heap.size ≤ ga; omega) (.int .i64 c0)).setCell (p := ⟨ga, i * 5 + 1, none⟩) (by show w.heap.size ≤ ga; omega) (.int .i64 c1)).setCell (p := ⟨ga, i * 5 + 2, none⟩) (by show w.heap.size ≤ ga; omega) (.string c2')).setCell (p := ⟨ga, i * 5 + 3, none⟩) (by show w.heap.size ≤ ga; omega) (.slice c3 c4 c5)).setCell (p := ⟨ga, i * 5 + 4, none⟩) (by show w.heap.size ≤ ga; omega) (.slice c6 c7 c8))
            have E8 := Lib.hid ((((((GB.out.setCell (p := ⟨ga, i * 5, none⟩) (by show w.heap.size ≤ ga; omega) (.int .i64 c0)).setCell (p := ⟨ga, i * 5 + 1, none⟩) (by show w.heap.size ≤ ga; omega) (.int .i64 c1)).setCell (p := ⟨ga, i * 5 + 2, none⟩) (by show w.heap.size ≤ ga; omega) (.string c2')).setCell (p := ⟨ga, i * 5 + 3, none⟩) (by show w.heap.size ≤ ga; omega) (.slice c3 c4 c5)).setCell (p := ⟨ga, i * 5 + 4, none⟩) (by show w.heap.size ≤ ga; omega) (.slice c6 c7 c8)).setCell (p := ⟨gk, i, none⟩) (by show w.heap.size ≤ gk; omega) (.string (tlS k)))
            clear hrn hnx hnx2 hS hS2 eK eN ok5 ow5 hnd5 hcs5 hri5 hr hal hb4 HRI hLK hLN
            clear B6 B2 B4 G6 G2 G4 G12 HB GB HEQ HKZ
            rw [← hb12] at hsal hs4
            go_wp2_with fail
            rw [← hb12]
            clear hb12
            generalize w4.alloc (.cells #[.int .i64 c0, .int .i64 c1, .string c2', .slice c3 c4 c5, .slice c6 c7 c8] 25) = W5 at *
            go_region
            all_goals
              go_wp2_with fail
              go_roundw
              case rel => exact ⟨i + 1, aK ++ [tlS k], aN ++ [x], _, by omega, by simp [ha], by simp [hb'], by go_num, HEQ2, HKZ2, P1.out.below (Below.refl _ _).drew, E1.out.drew, E3.out.drew, E5.out.drew, E7.out.drew⟩
              case measure => simp [intOf]; omega
    · obtain rfl : i = n := by omega
      have HV : Hid (resAcc R ks ks ns [] [] = .ok (.mk 7 0 ⟨#[]⟩ aK aN)) := by show _ = _; rw [HEQ.out]; exact resAcc_end _ _ _ _ _ _ (.inl (List.drop_eq_nil_of_le (by rw [HKL.out]; exact Nat.le_refl _)))
      have e1 : aK ++ ks.drop i = aK := by rw [List.drop_eq_nil_of_le (by rw [HKL.out]; exact Nat.le_refl _), List.append_nil]
      have e2 : aN ++ ns.drop i = aN := by rw [List.drop_eq_nil_of_le (by rw [HNL.out]; exact Nat.le_refl _), List.append_nil]
      rw [e1] at HRI HKZ
      rw [e2] at HRI
      have i1 : ¬ (i : Int) < (i : Int) := by omega
      obtain ⟨v0, v1, v2, v3, v4⟩ := B6.out.cells5
      obtain ⟨p0', p1', p2', p3', p4'⟩ := B4.out.cells5
      have f0 := B4.out.frozen 0
      have f1 := B4.out.frozen 1
      have f2 := B4.out.frozen 2
      have f3 := B4.out.frozen 3
      have f4 := B4.out.frozen 4
      clear ok ow hLK hLN e1 e2 HRF HCN HCP HKS HLK HLA
      go_wp2_with fail
      clear p0' p1' p2' p3' p4' f0 f1 f2 f3 f4 v0 v1 v2 v3 v4
      have HFB := Lib.hid (((((HB.out.setCell (p := ⟨w.heap.size + 1, 0, none⟩) (by show w.heap.size ≤ w.heap.size + 1; omega) (.int .i64 7)).setCell (p := ⟨w.heap.size + 1, 1, none⟩) (by show w.heap.size ≤ w.heap.size + 1; omega) (.int .i64 0)).setCell (p := ⟨w.heap.size + 1, 2, none⟩) (by show w.heap.size ≤ w.heap.size + 1; omega) (.string ⟨#[]⟩)).setCell (p := ⟨w.heap.size + 1, 3, none⟩) (by show w.heap.size ≤ w.heap.size + 1; omega) (.slice K2 i kc2)).setCell (p := ⟨w.heap.size + 1, 4, none⟩) (by show w.heap.size ≤ w.heap.size + 1; omega) (.slice A2 i c2))
      have HF4 := Lib.hid (((((B4.out.set_ 0 (.int .i64 7)).set_ 1 (.int .i64 0)).set_ 2 (.string ⟨#[]⟩)).set_ 3 (.slice K2 i kc2)).set_ 4 (.slice A2 i c2))
      have HFR := Lib.hid (((((HRI.out.box (b := w.heap.size + 1) 0 (.int .i64 7) (Nat.zero_le _) (by omega)).box (b := w.heap.size + 1) 1 (.int .i64 0) (Nat.zero_le _) (by omega)).box (b := w.heap.size + 1) 2 (.string ⟨#[]⟩) (Nat.zero_le _) (by omega)).box (b := w.heap.size + 1) 3 (.slice K2 i kc2) (Nat.zero_le _) (by omega)).box (b := w.heap.size + 1) 4 (.slice A2 i c2) (Nat.zero_le _) (by omega))
      generalize (((((wo.setCell ⟨w.heap.size + 1, 0, none⟩ (.int .i64 7)).setCell ⟨w.heap.size + 1, 1, none⟩ (.int .i64 0)).setCell ⟨w.heap.size + 1, 2, none⟩ (.string ⟨#[]⟩)).setCell ⟨w.heap.size + 1, 3, none⟩ (.slice K2 i kc2)).setCell ⟨w.heap.size + 1, 4, none⟩ (.slice A2 i c2)) = WF at *
      obtain ⟨q0, q1, q2, q3, q4⟩ := HF4.out.cells5
      refine bodyPost_ret (v := .tuple #[.agg #[.int .i64 7, .int .i64 0, .string ⟨#[]⟩, .slice K2 i kc2, .slice A2 i c2], .string ⟨#[]⟩]) (by simp [results, Tryd.results9, go_sem, q0, q1, q2, q3, q4]) rfl ?_
      rw [HV.out]
      have hfin := HFR.out.is HKZ.out
      rw [ha, hb'] at hfin
      exact ⟨_, _, _, _, _, _, _, _, _, rfl, hfin, HFB.out⟩
theorem ClsIs.at_ {w : World} {B : Nat} : ∀ (l : List Cl) (xs : List Value) (i : Nat) (cl : Cl), ClsIs w B l xs → l[i]? = some cl → ∃ cs, NdIs w B cl.args cs ∧ ∀ j, j < 7 → xs[i * 7 + j]? = (.string cl.name :: (cs ++ [.string cl.id]))[j]?
  | [], xs, i, n, h, hi => by simp at hi
  | a :: l, xs, i, cl, h, hi => by
    unfold ClsIs at h
    obtain ⟨cs, ys, rfl, h2, h3⟩ := h
    have hl := h2.len
    cases i with
    | zero =>
      simp at hi; subst hi
      refine ⟨cs, h2, fun j hj => ?_⟩
      rw [Nat.zero_mul, Nat.zero_add, show (Value.string a.name :: (cs ++ Value.string a.id :: ys)) = (Value.string a.name :: (cs ++ [Value.string a.id])) ++ ys by simp]
      exact List.getElem?_append_left (by simp; omega)
    | succ i =>
      obtain ⟨cs', k1, k2⟩ := ClsIs.at_ l ys i cl h3 (by simpa using hi)
      refine ⟨cs', k1, fun j hj => ?_⟩
      rw [← k2 j hj, show (Value.string a.name :: (cs ++ Value.string a.id :: ys)) = (Value.string a.name :: (cs ++ [Value.string a.id])) ++ ys by simp, List.getElem?_append_right (by simp; omega)]
      congr 1
      simp; omega
theorem sizeOk_txt {n : Nd} (h : sizeOk n) : n.text.size ≤ 1000000000 := by
  cases n; unfold sizeOk at h; exact h.2.1
theorem textO_size {n : Nd} {x t : ByteArray} (hs : sizeOk n) (h : textO n x = some t) : t.size ≤ 1000000000 := by
  unfold textO at h
  split at h
  · cases h
  · rename_i k hk
    split at h
    · injection h with h
      subst h
      obtain ⟨i, hi⟩ := findN_kid hk
      exact sizeOk_txt (kid_ok hi hs).1
    · cases h
theorem resN_bad {n : Nd} {l : List Cl} (h : n.kind ≠ 7 ∨ n.keys.length ≠ n.kids.length) : resN n l = .error badA := by unfold resN; rw [if_pos h]
theorem resN_ok {n : Nd} {l : List Cl} (h : n.kind = 7) (h2 : n.keys.length = n.kids.length) : resN n l = resAcc (fun m => referO m.kids.length m l) n.keys n.keys n.kids [] [] := by unfold resN; rw [if_neg (by rw [h, h2]; simp)]
def clJ (l : List Cl) (j : Nat) : Cl := l.getD j ⟨⟨#[]⟩, nd0 0, ⟨#[]⟩⟩
theorem clJ_at {l : List Cl} {j : Nat} (h : j < l.length) : l[j]? = some (clJ l j) := by
  unfold clJ; rw [List.getD_eq_getElem?_getD, List.getElem?_eq_getElem h]; rfl
theorem clJ_eq {l : List Cl} {j : Nat} {c : Cl} (h : l[j]? = some c) : clJ l j = c := by
  unfold clJ; rw [List.getD_eq_getElem?_getD, h]; rfl
theorem kreferred_any (n : Nd) (l : List Cl) (A : Option Addr) (cap : Nat) (xs cs : List Value) (w : World) (B : Nat) (hn : NdIs w B n cs) (hB : B ≤ w.heap.size) (hs : sizeOk n) (hL : Reads w w.heap.size 7 A l.length xs) (hC : ClsIs w w.heap.size l xs) (hl : l.length ≤ 1000000)
    (hok : ∀ d ∈ l, sizeOk d.args ∧ d.args.count ≤ 1000000) (hM : MaxOK w) : Calls Tryd.prog 25 #[.agg cs.toArray, .slice A l.length cap] w (RfP (referO n.kids.length n l) w) := by
  obtain ⟨A1, ck, A2, c, ys, rfl, -⟩ := hn.open_
  have hT : ∀ (x : ByteArray) (V : Option ByteArray), textO n x = V → Hid (∀ w', Below w.heap.size w w' → Calls Tryd.prog 38 #[.agg #[.int .i64 n.kind, .int .i64 n.num, .string n.text, .slice A1 n.keys.length ck, .slice A2 n.kids.length c], .string x] w' (TextP V w')) := fun x V hV w' h => by
    have h1 := kText_any n x _ w' B (hn.below (h.mono hB)) (Nat.le_trans hB h.size) hs
    rw [hV] at h1
    exact h1
  cases h1 : textO n rofS with
  | none =>
    rw [refer_a h1]
    exact refer_no1 ⟨#[]⟩ _ _ _ _ _ _ _ _ _ _ _ _ _ w _ _ _ (hT _ _ h1) (hT _ _ rfl) (hT _ _ rfl)
  | some id =>
    cases h2 : textO n rnmS with
    | none =>
      rw [refer_b h2]
      exact refer_no2 id ⟨#[]⟩ _ true _ _ _ _ _ _ _ _ _ _ w _ _ _ (hT _ _ h1) (hT _ _ h2) (hT _ _ rfl)
    | some nm =>
      cases h3 : textO n rpaS with
      | none =>
        rw [refer_c h3]
        exact refer_no3 id nm ⟨#[]⟩ true true _ _ _ _ _ _ _ _ _ w _ _ _ (hT _ _ h1) (hT _ _ h2) (hT _ _ h3)
      | some pa =>
        by_cases h4 : n.kids.length = 3
        case neg =>
          rw [refer_m h4]
          exact refer_no4 id nm pa true true _ _ _ _ _ _ _ _ _ w _ _ _ (hT _ _ h1) (hT _ _ h2) (hT _ _ h3) h4
        have hps := textO_size hs h3
        have t1 := hT _ _ h1
        have t2 := hT _ _ h2
        have t3 := hT _ _ h3
        rw [refer_3 h1 h2 h3 h4]
        rw [h4] at t1 t2 t3 ⊢
        have hA : 0 < l.length → ∃ b off, A = some ⟨b, off, none⟩ ∧ b < w.heap.size ∧ ∀ j, j < l.length * 7 → w.cell? ⟨b, off + j, none⟩ = some (xs.getD j undef) := fun h0 => by
          obtain ⟨ad, e, hb, hc⟩ := hL.2 h0
          have hx : 0 < xs.length := by rw [hL.1]; omega
          have hsp := spot_none (hc 0 xs[0] (List.getElem?_eq_getElem hx))
          obtain ⟨b, off, sp⟩ := ad
          have hs0 : sp = none := by
            unfold Addr.add at hsp
            split at hsp <;> simp_all
          subst hs0
          refine ⟨b, off, e, hb, fun j hj => ?_⟩
          have hjx : j < xs.length := by rw [hL.1]; exact hj
          have h := hc j _ (List.getElem?_eq_getElem hjx)
          rw [show (⟨b, off, none⟩ : Addr).add j = ⟨b, off + j, none⟩ by unfold Addr.add; split <;> simp_all] at h
          rw [h, List.getD_eq_getElem?_getD, List.getElem?_eq_getElem hjx]; rfl
        refine refer_walk id nm pa _ _ _ _ _ _ _ _ w l.length cap A (fun j => xs.getD j undef) (fun j => (clJ l j).id) (fun j => (clJ l j).name) (fun j => (clJ l j).args) (fun j => pointN (clJ l j).args pa) (backO id nm pa l) t1 t2 t3 hl ?_ ?_ ?_ ?_ (fun j => pointN_iff _ _) ?_ ?_
        · exact fun h0 => by obtain ⟨b, off, e, hb, _⟩ := hA h0; exact ⟨b, off, e, hb⟩
        · intro b off e j hj
          obtain ⟨b', off', e', _, hc⟩ := hA (by omega)
          rw [e] at e'
          injection e' with e'
          injection e' with e1 e2 _
          subst e1
          subst e2
          exact hc j hj
        · intro j hj
          obtain ⟨cs, k1, k2⟩ := ClsIs.at_ l xs j (clJ l j) hC (clJ_at hj)
          obtain ⟨x0, x1, x2, x3, x4, x5, x6, x7, x8, rfl⟩ := (NdIs.in_ _ _ k1).form
          have g : ∀ i v, i < 7 → (Value.string (clJ l j).name :: ([.int .i64 x0, .int .i64 x1, .string x2, .slice x3 x4 x5, .slice x6 x7 x8] ++ [Value.string (clJ l j).id]))[i]? = some v → xs.getD (j * 7 + i) undef = v := fun i v hi hv => by
            rw [List.getD_eq_getElem?_getD, k2 i hi, hv]; rfl
          exact ⟨x0, x1, x2, x3, x4, x5, x6, x7, x8, k1, g 0 _ (by omega) rfl, g 1 _ (by omega) rfl, g 2 _ (by omega) rfl, g 3 _ (by omega) rfl, g 4 _ (by omega) rfl, g 5 _ (by omega) rfl, g 6 _ (by omega) rfl⟩
        · intro j cs w' hj k1 k2
          obtain ⟨o1, o2⟩ := hok (clJ l j) (List.mem_of_getElem? (clJ_at hj))
          exact pGet_any _ pa cs w' w.heap.size k1 k2.size o1 o2 (by omega) (hM.below k2)
        · exact fun h => back_none fun j c hj => by
            have h5 : hitB id nm (clJ l j) = false := h j (List.getElem?_eq_some_iff.1 hj).1
            rw [clJ_eq hj] at h5
            exact h5
        · exact fun i hi h5 h6 => back_some (clJ_at hi) h5 fun j c hij hj => by
            have h7 : hitB id nm (clJ l j) = false := h6 j hij (List.getElem?_eq_some_iff.1 hj).1
            rw [clJ_eq hj] at h7
            exact h7
set_option maxRecDepth 100000 in
theorem kResolve_any (n : Nd) (l : List Cl) (A : Option Addr) (cap : Nat) (xs cs : List Value) (w : World) (B : Nat) (hn : NdIs w B n cs) (hB : B ≤ w.heap.size) (hs : sizeOk n) (hL : Reads w w.heap.size 7 A l.length xs) (hC : ClsIs w w.heap.size l xs) (hl : l.length ≤ 1000000)
    (hok : ∀ d ∈ l, sizeOk d.args ∧ d.args.count ≤ 1000000) (hM : MaxOK w) : Calls Tryd.prog 9 #[.agg cs.toArray, .slice A l.length cap] w (ResP (resN n l) w) := by
  cases n with
  | mk k num t ks ns =>
    unfold NdIs at hn
    obtain ⟨K, kc, A2, c, ys, rfl, hks, hxs, hns, ik, inn, ht, hkl, hk1, hk2⟩ := hn
    unfold sizeOk at hs
    obtain ⟨s1, s2, s3, s4, s5⟩ := hs
    by_cases h7 : k = 7
    case neg =>
      rw [resN_bad (n := .mk k num t ks ns) (.inl h7)]
      exact (kres_kind k num t K ks.length kc A2 ns.length c w A l.length cap h7).mono (fun e w' ⟨he, hb⟩ => by rw [he]; exact ResP.bad rfl hb)
    subst h7
    by_cases hll : ks.length = ns.length
    case neg =>
      rw [resN_bad (n := .mk 7 num t ks ns) (.inr hll)]
      exact (kres_len num t K ks.length kc A2 ns.length c w A l.length cap hll).mono (fun e w' ⟨he, hb⟩ => by rw [he]; exact ResP.bad rfl hb)
    rw [resN_ok (n := .mk 7 num t ks ns) rfl hll]
    have hobj : sizeOk (.mk 7 0 ⟨#[]⟩ [⟨#[]⟩] [.mk 7 0 ⟨#[]⟩ ks ns]) := by
      have hin : sizeOk (.mk 7 0 ⟨#[]⟩ ks ns) := by unfold sizeOk; exact ⟨by omega, by decide, s3, s4, s5⟩
      unfold sizeOk
      exact ⟨by omega, by decide, (by intro s hs; simp at hs; subst hs; decide), by simp, (by unfold sizeOkL; exact ⟨hin, by unfold sizeOkL; trivial⟩)⟩
    have hIs : ∀ w', Below w.heap.size w w' → NdIs w' w.heap.size (.mk 7 0 ⟨#[]⟩ ks ns) [.int .i64 7, .int .i64 0, .string ⟨#[]⟩, .slice K ks.length kc, .slice A2 ns.length c] := fun w' hb => by
      refine NdIs.below (NdIs.more hB _ _ ?_) hb
      unfold NdIs
      exact ⟨K, kc, A2, c, ys, rfl, hks, hxs, hns, by unfold I64; omega, by unfold I64; omega, by decide, hkl, hk1, hk2⟩
    have hW := kres_walk num t ks ns K kc A2 c w ks.length rfl hll.symm s4.1 A l.length cap (fun m => referO m.kids.length m l) ?_ ?_ ?_ ?_ ?_ (Lib.hid hkl)
    · rw [hll] at hW ⊢
      exact hW
    · intro w' hb
      have hsz := hb.size
      have hal : Below w'.heap.size w' (w'.alloc (.cells #[.int .i64 5, .int .i64 0, .string ⟨#[]⟩, .slice none 0 0, .slice none 0 0, .int .i64 7, .int .i64 0, .string ⟨#[]⟩, .slice K ks.length kc, .slice A2 ks.length c] 25)) := (Below.refl _ _).alloc (Nat.le_refl _) _
      refine kObj_any [.mk 5 0 ⟨#[]⟩ [] [], .mk 7 0 ⟨#[]⟩ ks ns] (some ⟨w'.heap.size, 0, none⟩) 2 [.int .i64 5, .int .i64 0, .string ⟨#[]⟩, .slice none 0 0, .slice none 0 0, .int .i64 7, .int .i64 0, .string ⟨#[]⟩, .slice K ks.length kc, .slice A2 ks.length c] _ ?_ ?_ (by simp)
      · refine ⟨rfl, fun _ => ⟨_, rfl, by simp, fun j u hj => ?_⟩⟩
        have e : (⟨w'.heap.size, 0, none⟩ : Addr).add j = ⟨w'.heap.size, j, none⟩ := by unfold Addr.add; split <;> simp_all
        rw [e, World.cell?_alloc_mark]
        simpa using hj
      · unfold NdsIs
        refine ⟨[.int .i64 5, .int .i64 0, .string ⟨#[]⟩, .slice none 0 0, .slice none 0 0], [.int .i64 7, .int .i64 0, .string ⟨#[]⟩, .slice K ks.length kc, .slice A2 ks.length c], rfl, NdIn.is (S := fun _ => False) (fun _ h => h.elim) _ _ (nd0_in 5 (by unfold I64; omega) _ _), ?_⟩
        unfold NdsIs
        refine ⟨[.int .i64 7, .int .i64 0, .string ⟨#[]⟩, .slice K ks.length kc, .slice A2 ks.length c], [], rfl, ?_, by unfold NdsIs; rfl⟩
        have h := hIs w' hb
        rw [← hll] at h
        exact NdIs.more (by simp; omega) _ _ (h.below (hal.mono hsz))
    · intro w' cs' hcs
      exact cFind_own _ ⟨#[]⟩ cs' w' w'.heap.size hcs (Nat.le_refl _) hobj 7 0 ⟨#[]⟩ ks ns (by simp [findN, idxK, List.findIdx?_cons])
    · intro w' x hb
      have h := contains_any ks x K kc B w' (hks.keep fun p hp => hb.cell (by omega)) (by omega)
      rw [idxI_some] at h
      exact h
    · exact fun k w' => Tryd.strings_CutPrefix k ⟨#[35]⟩ w'
    · intro i m cs' w' hi hm hb
      have hsm := sizeOkL_get ns i m hi s5
      exact kreferred_any m l A cap xs cs' w' w'.heap.size hm (Nat.le_refl _) hsm (RS.reads (S := (· < w.heap.size)) (hL.keep fun p hp => hb.cell hp) (fun b h => Nat.lt_of_lt_of_le h hb.size)) (ClsIs.more hb.size _ _ (ClsIs.keep (fun p hp => hb.cell hp) _ _ hC)) hl hok (hM.below hb)
theorem strN_is (s : ByteArray) (hs : s.size ≤ maxLen) (w : World) (B : Nat) : NdIs w B (strN s) [.int .i64 5, .int .i64 0, .string s, .slice none 0 0, .slice none 0 0] := by
  unfold strN NdIs
  exact ⟨none, 0, none, 0, [], rfl, ⟨rfl, fun h => absurd h (by simp)⟩, ⟨rfl, fun h => absurd h (by simp)⟩, (by unfold NdsIs; rfl), by unfold I64; omega, by unfold I64; omega, hs, by simp, by simp, by simp⟩
theorem leaf_is {k n : Int} {t : ByteArray} {w w' : World} {B B' : Nat} {cs : List Value} (h : NdIs w B (.mk k n t [] []) cs) : NdIs w' B' (.mk k n t [] []) cs := by
  unfold NdIs at h ⊢
  obtain ⟨K, kc, A, c, xs, rfl, h1, h2, h3, h4⟩ := h
  exact ⟨K, kc, A, c, [], rfl, ⟨rfl, fun h => absurd h (by simp)⟩, ⟨rfl, fun h => absurd h (by simp)⟩, by unfold NdsIs; rfl, h4⟩
theorem leaves_is {w w' : World} {B B' : Nat} : ∀ (ns : List Nd) (xs : List Value), (∀ m ∈ ns, m.keys = [] ∧ m.kids = []) → NdsIs w B ns xs → NdsIs w' B' ns xs
  | [], xs, _, h => by unfold NdsIs at h ⊢; exact h
  | m :: ns, xs, hm, h => by
    unfold NdsIs at h ⊢
    obtain ⟨cs, ys, rfl, h2, h3⟩ := h
    refine ⟨cs, ys, rfl, ?_, leaves_is ns ys (fun m hm' => hm m (by simp [hm'])) h3⟩
    obtain ⟨e1, e2⟩ := hm m (by simp)
    cases m with
    | mk k n t ks ns =>
      simp only [Nd.keys, Nd.kids] at e1 e2
      subst e1; subst e2
      exact leaf_is h2
theorem NdIs.step {w w' : World} {n : Nd} {cs : List Value} (h : NdIs w w.heap.size n cs) (hb : Below w.heap.size w w') : NdIs w' w'.heap.size n cs := NdIs.more hb.size _ _ (h.below hb)
theorem fresh_rows (w : World) (t : TypeId) (z k : Nat) (xs : List Value) (hl : xs.length = k * z) (B : Nat) (hB : w.heap.size < B) : Reads (w.alloc (.cells xs.toArray t)) B z (some ⟨w.heap.size, 0, none⟩) k xs := by
  refine ⟨hl, fun _ => ⟨_, rfl, by simpa using hB, fun j u hj => ?_⟩⟩
  have e : (⟨w.heap.size, 0, none⟩ : Addr).add j = ⟨w.heap.size, j, none⟩ := by unfold Addr.add; split <;> simp_all
  rw [e, World.cell?_alloc_mark]
  simpa using hj
theorem bel_alloc {W w' : World} {o : Obj} (h : Below W.heap.size W w') : Below W.heap.size W (w'.alloc o) := h.alloc h.size _
theorem bel_drew {W w' : World} (h : Below W.heap.size W w') : Below W.heap.size W w'.drew := h.drew
theorem bel_set {W w' : World} {b k : Nat} {v : Value} (h : Below W.heap.size W w') (hb : W.heap.size ≤ b) : Below W.heap.size W (w'.setCell ⟨b, k, none⟩ v) := h.setCell (p := ⟨b, k, none⟩) hb v
def N5 (a : Addr) (v0 v1 v2 v3 v4 : Value) (w : World) : Prop := w.cell? a = some v0 ∧ w.cell? ⟨a.block, a.off + 1, none⟩ = some v1 ∧ w.cell? ⟨a.block, a.off + 2, none⟩ = some v2 ∧ w.cell? ⟨a.block, a.off + 3, none⟩ = some v3 ∧ w.cell? ⟨a.block, a.off + 4, none⟩ = some v4
theorem n5_below {a : Addr} {v0 v1 v2 v3 v4 : Value} {w w' : World} (h : N5 a v0 v1 v2 v3 v4 w) (hb : Below w.heap.size w w') : N5 a v0 v1 v2 v3 v4 w' := by
  obtain ⟨h1, h2, h3, h4, h5⟩ := h
  have f : ∀ (p : Addr) (v : Value), w.cell? p = some v → w'.cell? p = some v := fun p v h => (hb.cell (World.block_lt_of_cell? _ _ h)).trans h
  exact ⟨f _ _ h1, f _ _ h2, f _ _ h3, f _ _ h4, f _ _ h5⟩
def ZB (W w : World) (zb : Nat) : Prop := W.heap.size ≤ zb ∧ Blk w zb 25 #[.int .i64 0, .int .i64 0, .string ⟨#[]⟩, .slice none 0 0, .slice none 0 0]
def DoneAt (w : World) (D : Nat) : Prop := ∃ xs, Reads w w.heap.size 7 (some ⟨D, 0, none⟩) doneL.length xs ∧ ClsIs w w.heap.size doneL xs
def ReT (r : ByteArray) (w : World) (e : Ending) (w' : World) : Prop := ∃ (c0 c1 : Int) (c2 : ByteArray) (c3 : Option Addr) (c4 c5 : Nat) (c6 : Option Addr) (c7 c8 : Nat),
  e = .returned (.tuple #[.agg #[.int .i64 c0, .int .i64 c1, .string c2, .slice c3 c4 c5, .slice c6 c7 c8], .string r]) ∧ Below w.heap.size w w'
theorem obj_fresh (ns : List Nd) (xs : List Value) (w : World) (hns : NdsIs w w.heap.size ns xs) (hl : xs.length = ns.length * 5) (hlen : ns.length ≤ 1000000) (cc : Nat) :
    Calls Tryd.prog 12 #[.slice (some ⟨w.heap.size, 0, none⟩) ns.length cc] (w.alloc (.cells xs.toArray 25)) (ObjP (objO ns) (w.alloc (.cells xs.toArray 25))) := by
  have hal : Below w.heap.size w (w.alloc (.cells xs.toArray 25)) := (Below.refl _ _).alloc (Nat.le_refl _) _
  exact rObj_any ns _ cc xs _ (fresh_rows w 25 5 ns.length xs hl _ (by simp)) (NdsIs.more hal.size _ _ (NdsIs.keep (fun p hp => hal.cell hp) _ _ hns)) hlen
set_option maxRecDepth 100000 in
theorem rStr_any (s : ByteArray) (w : World) : Calls Tryd.prog 13 #[.string s] w fun e w' => e = .returned (.agg #[.int .i64 5, .int .i64 0, .string s, .slice none 0 0, .slice none 0 0]) ∧ Below w.heap.size w w' := by
  have hA : Below w.heap.size w (w.alloc (.cells #[.int .i64 5, .int .i64 0, .string s, .slice none 0 0, .slice none 0 0] 25)) := (Below.refl _ _).alloc (Nat.le_refl _) _
  go_enter Tryd.func13, Tryd.ntmps13
  go_wp2_with fail
  exact bodyPost_ret (v := .agg #[.int .i64 5, .int .i64 0, .string s, .slice none 0 0, .slice none 0 0]) (by simp [results, Tryd.results13, go_sem]) rfl ⟨rfl, hA⟩
set_option maxRecDepth 100000 in
theorem rNum_any (n : Int) (w : World) : Calls Tryd.prog 15 #[.int .i64 n] w fun e w' => e = .returned (.agg #[.int .i64 4, .int .i64 n, .string ⟨#[]⟩, .slice none 0 0, .slice none 0 0]) ∧ Below w.heap.size w w' := by
  have hA : Below w.heap.size w (w.alloc (.cells #[.int .i64 4, .int .i64 n, .string ⟨#[]⟩, .slice none 0 0, .slice none 0 0] 25)) := (Below.refl _ _).alloc (Nat.le_refl _) _
  go_enter Tryd.func15, Tryd.ntmps15
  go_wp2_with fail
  exact bodyPost_ret (v := .agg #[.int .i64 4, .int .i64 n, .string ⟨#[]⟩, .slice none 0 0, .slice none 0 0]) (by simp [results, Tryd.results15, go_sem]) rfl ⟨rfl, hA⟩
set_option maxRecDepth 100000 in
theorem rArr_any (A : Option Addr) (l c : Nat) (w : World) : Calls Tryd.prog 14 #[.slice A l c] w fun e w' => e = .returned (.agg #[.int .i64 6, .int .i64 0, .string ⟨#[]⟩, .slice none 0 0, .slice A l c]) ∧ Below w.heap.size w w' := by
  have hA : Below w.heap.size w (w.alloc (.cells #[.int .i64 6, .int .i64 0, .string ⟨#[]⟩, .slice none 0 0, .slice A l c] 25)) := (Below.refl _ _).alloc (Nat.le_refl _) _
  go_enter Tryd.func14, Tryd.ntmps14
  go_wp2_with fail
  exact bodyPost_ret (v := .agg #[.int .i64 6, .int .i64 0, .string ⟨#[]⟩, .slice none 0 0, .slice A l c]) (by simp [results, Tryd.results14, go_sem]) rfl ⟨rfl, hA⟩
end Go.Proofs.YthbjehbpanhdoaaDoor
namespace Go.Proofs.YthbjehbpanhdoaaDoor
open Go.RowKit Go.PlainAid
set_option linter.unusedVariables false
set_option linter.unusedSimpArgs false
set_option maxRecDepth 100000
theorem resAcc_plain (R : Nd → Option Nd) (all : List ByteArray) : ∀ (ks : List ByteArray) (ns : List Nd) (aK : List ByteArray) (aN : List Nd), (∀ k ∈ ks, hashB k = false) → ks.length = ns.length → resAcc R all ks ns aK aN = .ok (.mk 7 0 ⟨#[]⟩ (aK ++ ks) (aN ++ ns))
  | [], [], aK, aN, _, _ => by rw [resAcc_end _ _ _ _ _ _ (.inl rfl), List.append_nil, List.append_nil]
  | [], _ :: _, _, _, _, h => by simp at h
  | _ :: _, [], _, _, _, h => by simp at h
  | k :: ks, n :: ns, aK, aN, h, hl => by
    rw [resAcc_no (h k (by simp)), resAcc_plain R all ks ns _ _ (fun s hs => h s (by simp [hs])) (by simpa using hl), List.append_assoc, List.append_assoc]
    rfl
theorem resAcc_plain1 (R : Nd → Option Nd) (all : List ByteArray) {k : ByteArray} {n x : Nd} (hk : hashB k = true) (h2 : (idxK all (tlS k)).isSome = false) (h3 : R n = some x) : ∀ (ks : List ByteArray) (ns : List Nd) (aK : List ByteArray) (aN : List Nd), (∀ k ∈ ks, hashB k = false) → ks.length = ns.length →
    resAcc R all (ks ++ [k]) (ns ++ [n]) aK aN = .ok (.mk 7 0 ⟨#[]⟩ (aK ++ ks ++ [tlS k]) (aN ++ ns ++ [x]))
  | [], [], aK, aN, _, _ => by
    rw [List.nil_append, List.nil_append, resAcc_yes hk h2 h3, resAcc_end _ _ _ _ _ _ (.inl rfl), List.append_nil, List.append_nil]
  | [], _ :: _, _, _, _, h => by simp at h
  | _ :: _, [], _, _, _, h => by simp at h
  | c :: ks, m :: ns, aK, aN, h, hl => by
    rw [List.cons_append, List.cons_append, resAcc_no (h c (by simp)), resAcc_plain1 R all hk h2 h3 ks ns _ _ (fun s hs => h s (by simp [hs])) (by simpa using hl)]
    simp [List.append_assoc]
theorem rightD_shape {n : Nd} (h : rightD n 0 = true) (h7 : n.kind = 7) : n = .mk 7 0 ⟨#[]⟩ n.keys n.kids ∧ n.keys.length = n.kids.length := by
  cases n with
  | mk k num t ks ns =>
    simp only [Nd.kind] at h7
    subst h7
    rw [rightD_eq] at h
    simp [bareF] at h
    obtain ⟨⟨⟨h1, h2⟩, _⟩, h3⟩ := h
    simp_all [Nd.keys, Nd.kids]
def listS : ByteArray := ⟨#[108, 105, 115, 116]⟩
def vN (m : Int) : Nd := .mk 7 0 ⟨#[]⟩ [listS] [.mk 6 0 ⟨#[]⟩ [] [num4 1, num4 m, num4 3]]
def eObj : Nd := .mk 7 0 ⟨#[]⟩ [] []
def doneP (m : Int) : List Cl := [⟨⟨#[109]⟩, eObj, ⟨#[99]⟩⟩, ⟨⟨#[109]⟩, vN m, ⟨#[99]⟩⟩, ⟨⟨#[111, 116, 104, 101, 114]⟩, eObj, ⟨#[99]⟩⟩]
def pthS : ByteArray := ⟨#[47, 108, 105, 115, 116, 47, 49]⟩
def refP : Nd := .mk 7 0 ⟨#[]⟩ [rpaS, rnmS, rofS] [strN pthS, strN ⟨#[109]⟩, strN ⟨#[99]⟩]
theorem vN_right (m : Int) (h1 : -32768 ≤ m) (h2 : m ≤ 32767) : rightD (vN m) 0 = true := by
  unfold vN
  refine rightD_obj (by omega) rfl (keysB_of _ (by simp) (by intro s hs; simp at hs; subst hs; unfold listS; rw [tl_lit]; decide)) ?_
  rw [rightLD_cons, rightLD_nil, Bool.and_true]
  refine rightD_arr6 (by omega) ?_
  rw [rightLD_cons, rightLD_cons, rightLD_cons, rightLD_nil, Bool.and_true, rightD_num4 _ (by omega) (by omega), rightD_num4 _ (by omega) (by omega), rightD_num4 _ (by omega) (by omega)]
  rfl
theorem vN_get (m : Int) (h1 : -32768 ≤ m) (h2 : m ≤ 32767) : pointN (vN m) pthS = (some (num4 m), 0) := by
  refine pointN_some (vN_right m h1 h2) ?_ ?_
  · unfold formP pthS; rw [tl_lit]; decide
  · have e : partsP pthS = [listS, ⟨#[49]⟩] := by unfold partsP pthS; rw [tl_lit]; rfl
    rw [e]
    unfold vN
    rw [getN_find (m := .mk 6 0 ⟨#[]⟩ [] [num4 1, num4 m, num4 3]) rfl (findN_lit (i := 0) (by unfold listS; simp only [List.map_cons, List.map_nil, tl_lit]; decide))]
    rw [getN_at (i := 1) (m := num4 m) rfl (by rw [tl_lit]; decide) (by unfold placeF; rw [if_neg (by decide), if_neg (by decide), if_neg (by show ¬ ((3 : Nat) : Int) ≤ _; decide)]; decide) rfl]
    rfl
theorem vN_size (m : Int) (h1 : -32768 ≤ m) (h2 : m ≤ 32767) : sizeOk (vN m) ∧ (vN m).count ≤ 1000000 := by
  unfold vN
  refine ⟨size_lit (by intro s hs; simp at hs; subst hs; decide) (by simp) (by simp) (sizeL_cons (size_lit (by simp) (by simp) (by simp) (sizeL_cons (size_num4 (by unfold I64; omega)) (sizeL_cons (size_num4 (by unfold I64; omega)) (sizeL_cons (size_num4 (by unfold I64; omega)) sizeL_nil)))) sizeL_nil), ?_⟩
  simp [Nd.count, Nd.count.counts, count_num4]
theorem eObj_size : sizeOk eObj ∧ eObj.count ≤ 1000000 := ⟨size_lit (by intro s hs; cases hs) (by decide) (by decide) sizeL_nil, by unfold eObj; simp [Nd.count, Nd.count.counts]⟩
theorem doneP_ok (m : Int) (h1 : -32768 ≤ m) (h2 : m ≤ 32767) : ∀ d ∈ doneP m, sizeOk d.args ∧ d.args.count ≤ 1000000 := by
  intro d hd
  simp only [doneP, List.mem_cons, List.not_mem_nil, or_false] at hd
  rcases hd with rfl | rfl | rfl
  · exact eObj_size
  · exact vN_size m h1 h2
  · exact eObj_size
theorem back_P (m : Int) (h1 : -32768 ≤ m) (h2 : m ≤ 32767) : backO ⟨#[99]⟩ ⟨#[109]⟩ pthS (doneP m) = some (num4 m) := by
  rw [back_some (i := 1) (d := ⟨⟨#[109]⟩, vN m, ⟨#[99]⟩⟩) rfl (by unfold hitB; simp only [tl_lit]; decide) ?_]
  · show (pointN (vN m) pthS).1 = _
    rw [vN_get m h1 h2]
  · intro j c hj hc
    match j, hj, hc with
    | 2, _, hc =>
      have hc : some (⟨⟨#[111, 116, 104, 101, 114]⟩, eObj, ⟨#[99]⟩⟩ : Cl) = some c := hc
      injection hc with hc
      subst hc
      unfold hitB; simp only [tl_lit]; decide
    | j + 3, _, hc => simp [doneP] at hc
theorem refP_refer (m : Int) (h1 : -32768 ≤ m) (h2 : m ≤ 32767) : referO refP.kids.length refP (doneP m) = some (num4 m) := by
  show referO 3 _ _ = _
  rw [refer_3 (n := refP) (id := ⟨#[99]⟩) (nm := ⟨#[109]⟩) (p := pthS) (text_at (i := 2) ?_ rfl) (text_at (i := 1) ?_ rfl) (text_at (i := 0) ?_ rfl) rfl, back_P m h1 h2] <;>
    (unfold rofS rnmS rpaS; simp only [List.map_cons, List.map_nil, tl_lit]; decide)
def moreN (n : Nd) : Nd := .mk 7 0 ⟨#[]⟩ (n.keys ++ [hxS]) (n.kids ++ [refP])
def plainK (k : ByteArray) : Prop := k ≠ xS ∧ hashB k = false
theorem idx_not {ks : List ByteArray} (h : ∀ k ∈ ks, k ≠ xS) : idxK ks xS = none := idxK_none fun j s hs => by
  have h1 := h s (List.mem_of_getElem? hs)
  cases hq : (xS.toList == s.toList) with
  | false => rfl
  | true =>
    exfalso
    apply h1
    have e := eq_of_beq hq
    rw [ByteArray.toList_eq, ByteArray.toList_eq, Array.toList_inj] at e
    exact (ByteArray.ext e).symm
theorem idx_snoc {ks : List ByteArray} {k x : ByteArray} (h : idxK ks x = none) : idxK (ks ++ [k]) x = if x.toList == k.toList then some ks.length else none := by
  unfold idxK at h ⊢
  rw [List.findIdx?_append, h]
  simp [List.findIdx?_cons]
theorem res_plain {n : Nd} (h7 : n.kind = 7) (hr : rightD n 0 = true) (hp : ∀ k ∈ n.keys, plainK k) (l : List Cl) : resN n l = .ok n := by
  obtain ⟨e, hl⟩ := rightD_shape hr h7
  rw [resN_ok_ h7 hl, resAcc_plain _ _ _ _ _ _ (fun k hk => (hp k hk).2) hl, List.nil_append, List.nil_append, ← e]
theorem res_more {n : Nd} (h7 : n.kind = 7) (hr : rightD n 0 = true) (hp : ∀ k ∈ n.keys, plainK k) (m : Int) (h1 : -32768 ≤ m) (h2 : m ≤ 32767) :
    resN (moreN n) (doneP m) = .ok (.mk 7 0 ⟨#[]⟩ (n.keys ++ [xS]) (n.kids ++ [num4 m])) := by
  obtain ⟨e, hl⟩ := rightD_shape hr h7
  rw [resN_ok_ (n := moreN n) rfl (show (n.keys ++ [hxS]).length = (n.kids ++ [refP]).length by rw [List.length_append, List.length_append, hl]; rfl)]
  unfold moreN
  show resAcc _ (n.keys ++ [hxS]) (n.keys ++ [hxS]) (n.kids ++ [refP]) [] [] = _
  rw [resAcc_plain1 _ _ hash_hx ?_ (refP_refer m h1 h2) _ _ _ _ (fun k hk => (hp k hk).2) hl, tl_hx, List.nil_append, List.nil_append]
  rw [tl_hx, idx_snoc (idx_not fun k hk => (hp k hk).1)]
  rw [if_neg (by unfold xS hxS; simp only [tl_lit]; decide)]
  rfl
theorem find_more {n : Nd} (hp : ∀ k ∈ n.keys, plainK k) (hl : n.keys.length = n.kids.length) (m : Int) : findN (.mk 7 0 ⟨#[]⟩ (n.keys ++ [xS]) (n.kids ++ [num4 m])) xS = some (num4 m) := by
  show (if (7 : Int) = 7 then match idxK (n.keys ++ [xS]) xS with | none => none | some i => (n.kids ++ [num4 m])[i]? else none) = _
  rw [if_pos rfl, idx_snoc (idx_not fun k hk => (hp k hk).1), if_pos (by simp)]
  show (n.kids ++ [num4 m])[n.keys.length]? = _
  rw [hl]; simp
theorem great_keys {n : Nd} (h : greatN n = false) : n.keys.length ≤ 300 ∧ n.kids.length ≤ 300 := by
  cases n with
  | mk k num t ks ns =>
    unfold greatN at h
    have h := of_decide_eq_false h
    unfold weightN at h
    split at h
    · omega
    · rename_i hn
      show ks.length ≤ 300 ∧ ns.length ≤ 300
      omega
theorem sizeL_app : ∀ {ns ms : List Nd}, sizeOkL ns → sizeOkL ms → sizeOkL (ns ++ ms)
  | [], ms, _, h => h
  | n :: ns, ms, h, h2 => by
    rw [List.cons_append]
    unfold sizeOkL at h ⊢
    exact ⟨h.1, sizeL_app h.2 h2⟩
theorem more_size {n : Nd} (h : sizeOk n) (hk : n.keys.length ≤ 300) (hn : n.kids.length ≤ 300) : sizeOk (moreN n) := by
  cases n with
  | mk k num t ks ns =>
    unfold sizeOk at h
    obtain ⟨s1, s2, s3, s4, s5⟩ := h
    simp only [Nd.keys, Nd.kids] at hk hn
    unfold moreN
    unfold sizeOk
    refine ⟨by omega, by decide, ?_, ⟨by simp [Nd.keys]; omega, by simp [Nd.kids]; omega⟩, ?_⟩
    · intro s hs
      simp only [Nd.keys, List.mem_append, List.mem_singleton] at hs
      rcases hs with hs | rfl
      · exact s3 s hs
      · decide
    · simp only [Nd.kids]
      refine sizeL_app s5 (sizeL_cons ?_ sizeL_nil)
      have hs : ∀ s : ByteArray, s.size ≤ 1000000 → sizeOk (strN s) := fun s h => by
        unfold strN sizeOk; exact ⟨by omega, by omega, by simp, by simp, by unfold sizeOkL; trivial⟩
      unfold refP
      exact size_lit (by intro s hs; simp at hs; rcases hs with rfl | rfl | rfl <;> decide) (by simp) (by simp) (sizeL_cons (hs _ (by decide)) (sizeL_cons (hs _ (by decide)) (sizeL_cons (hs _ (by decide)) sizeL_nil)))
theorem hash_is {s : ByteArray} {u : UInt8} (h : s.toList[0]? = some u) : hashB s = (u == 35) := by
  unfold hashB
  rw [ByteArray.toList_eq] at h
  cases hd : s.data.toList with
  | nil => rw [hd] at h; cases h
  | cons a l =>
    rw [hd] at h
    injection h with h
    subst h
    unfold Lib.hasPrefix
    simp [List.isPrefixOf]
    exact BEq.comm
theorem hash_no {s : ByteArray} (h : s.size = 0 ∨ bt s 0 ≠ 35) : hashB s = false := by
  by_cases h0 : 0 < s.size
  · obtain ⟨u, h3, h4⟩ := bt_get s 0 h0
    rw [hash_is h3, beq_eq_false_iff_ne]
    intro e
    subst e
    rcases h with h | h
    · omega
    · exact h h4
  · have e : s.data.toList = [] := List.eq_nil_of_length_eq_zero (by show s.data.toList.length = 0; rw [Array.length_toList]; show s.size = 0; omega)
    unfold hashB
    rw [e]
    rfl
end Go.Proofs.YthbjehbpanhdoaaDoor
namespace Go.Proofs.YthbjehbpanhdoaaDoor
open Go.RowKit Go.PlainAid
set_option linter.unusedVariables false
set_option linter.unusedSimpArgs false
theorem readL_err {l : List UInt8} {c : Int} (h : parseL l = .error c) : readL l = .error notJ := by unfold readL; rw [h]
theorem readL_ok {l : List UInt8} {n : Nd} (h : parseL l = .ok n) : readL l = readN (findN n usingS) (findN n callsS) := by unfold readL; rw [h]; rfl
theorem NdIs.cells (n : Nd) {w : World} {B : Nat} {c0 c1 : Int} {c2 : ByteArray} {c3 : Option Addr} {c4 c5 : Nat} {c6 : Option Addr} {c7 c8 : Nat} (h : NdIs w B n [.int .i64 c0, .int .i64 c1, .string c2, .slice c3 c4 c5, .slice c6 c7 c8]) :
    c0 = n.kind ∧ c2 = n.text ∧ c7 = n.kids.length ∧ ∃ xs, Reads w B 5 c6 n.kids.length xs ∧ NdsIs w B n.kids xs ∧ n.kids.length ≤ maxLen := by
  obtain ⟨A, ck, A2, c, xs, h1, _, h3, h4, _, _, _, _, _, h9⟩ := h.open_
  simp only [List.cons.injEq, Value.int.injEq, Value.string.injEq, Value.slice.injEq, and_true, true_and] at h1
  obtain ⟨e1, e2, e3, e4, e5, e6, e7⟩ := h1
  subst e5
  exact ⟨e1, e3, e6, xs, h3, h4, h9⟩
theorem kids15 {w : World} {B : Nat} {n a b c : Nd} {c0 c1 : Int} {c2 : ByteArray} {c3 : Option Addr} {c4 c5 : Nat} {c6 : Option Addr} {c7 c8 : Nat} (h : NdIs w B n [.int .i64 c0, .int .i64 c1, .string c2, .slice c3 c4 c5, .slice c6 c7 c8]) (hk : n.kids = [a, b, c]) :
    ∃ (kb ko : Nat) (a0 a1 : Int) (a2 : ByteArray) (a3 : Option Addr) (a4 a5 : Nat) (a6 : Option Addr) (a7 a8 : Nat), c6 = some ⟨kb, ko, none⟩ ∧ c7 = 3 ∧ kb < B ∧ NdIs w B b [.int .i64 a0, .int .i64 a1, .string a2, .slice a3 a4 a5, .slice a6 a7 a8] ∧
      w.cell? ⟨kb, ko + 2, none⟩ = some (.string a.text) ∧ w.cell? ⟨kb, ko + 5, none⟩ = some (.int .i64 a0) ∧ w.cell? ⟨kb, ko + 6, none⟩ = some (.int .i64 a1) ∧ w.cell? ⟨kb, ko + 7, none⟩ = some (.string a2) ∧ w.cell? ⟨kb, ko + 8, none⟩ = some (.slice a3 a4 a5) ∧ w.cell? ⟨kb, ko + 9, none⟩ = some (.slice a6 a7 a8) ∧ w.cell? ⟨kb, ko + 12, none⟩ = some (.string c.text) := by
  cases n with
  | mk k m t ks ns =>
    have hk2 : ns = [a, b, c] := hk
    subst hk2
    obtain ⟨hl, hq⟩ := kid_cells h
    obtain ⟨kb, ko, e, hb, hcell⟩ := hq (by simp)
    obtain ⟨ca, na, ha⟩ := hcell 0 a rfl
    obtain ⟨cb, nb, hbb⟩ := hcell 1 b rfl
    obtain ⟨cc, nc, hcc⟩ := hcell 2 c rfl
    obtain ⟨A3, k3, B3, l3, x3, eb, _⟩ := nb.open_
    subst eb
    obtain ⟨A1, k1, B1, l1, x1, ea, _⟩ := na.open_
    obtain ⟨A2, k2, B2, l2, x2, ec, _⟩ := nc.open_
    refine ⟨kb, ko, _, _, _, _, _, _, _, _, _, e, hl, hb, nb, ha 2 _ (by rw [ea]; rfl), hbb 0 _ rfl, hbb 1 _ rfl, hbb 2 _ rfl, hbb 3 _ rfl, hbb 4 _ rfl, hcc 2 _ (by rw [ec]; rfl)⟩
theorem readN_1 {c : Option Nd} {u : Option Nd} (h : u.isSome = false) : readN u c = .error notR := by unfold readN; rw [if_pos h]
theorem readN_2 {c : Option Nd} {u : Option Nd} (h1 : u.isSome = true) (h : c.isSome = false) : readN u c = .error notR := by unfold readN; rw [if_neg (by rw [h1]; simp), if_pos h]
def readM (U M : Nd) : Except ByteArray (List Cl) := if (U.kind != 6) = true then .error notR else if (M.kind != 6) = true then .error notR
  else if U.kids.any oddN = true then .error notR else if M.kids.any noneN = true then .error notR
  else if U.kids.any unkN = true then .error unkC else if 16 < M.kids.length then .error limS
  else .ok (M.kids.map clOf)
theorem readN_3 {c : Option Nd} {u : Option Nd} (h1 : u.isSome = true) (h : c.isSome = true) : readN u c = readM (u.getD (nd0 0)) (c.getD (nd0 0)) := by unfold readN readM; rw [if_neg (by rw [h1]; simp), if_neg (by rw [h]; simp)]
def CInv (w4 : World) (M : Nd) (i : Nat) (Ao : Option Addr) (co : Nat) (wr : World) : Prop := ∃ xs, wr.ownsRow w4.heap.size 31 7 (.slice Ao i co) i xs ∧ ClsIs wr w4.heap.size ((M.kids.take i).map clOf) xs ∧ Below w4.heap.size w4 wr
def KidC (g kb ko y8 : Nat) (ta tc : ByteArray) (b0 b1 : Int) (b2 : ByteArray) (b3 : Option Addr) (b4 b5 : Nat) (b6 : Option Addr) (b7 b8 : Nat) (w' : World) : Prop :=
  w'.cell? ⟨g, 4, none⟩ = some (.slice (some ⟨kb, ko, none⟩) 3 y8) ∧ w'.cell? ⟨kb, ko + 2, none⟩ = some (.string ta) ∧ w'.cell? ⟨kb, ko + 5, none⟩ = some (.int .i64 b0) ∧ w'.cell? ⟨kb, ko + 6, none⟩ = some (.int .i64 b1) ∧ w'.cell? ⟨kb, ko + 7, none⟩ = some (.string b2) ∧ w'.cell? ⟨kb, ko + 8, none⟩ = some (.slice b3 b4 b5) ∧ w'.cell? ⟨kb, ko + 9, none⟩ = some (.slice b6 b7 b8) ∧ w'.cell? ⟨kb, ko + 12, none⟩ = some (.string tc)
theorem KidC.keep {g kb ko y8 : Nat} {ta tc : ByteArray} {b0 b1 : Int} {b2 : ByteArray} {b3 : Option Addr} {b4 b5 : Nat} {b6 : Option Addr} {b7 b8 : Nat} {w w' : World} {n : Nat} (hk : ∀ p : Addr, p.block < n → w'.cell? p = w.cell? p) (h1 : kb < n) (h2 : g < n) (h : KidC g kb ko y8 ta tc b0 b1 b2 b3 b4 b5 b6 b7 b8 w) : KidC g kb ko y8 ta tc b0 b1 b2 b3 b4 b5 b6 b7 b8 w' := by
  obtain ⟨k0, k1, k2, k3, k4, k5, k6, k7⟩ := h
  exact ⟨(hk _ h2).trans k0, (hk _ h1).trans k1, (hk _ h1).trans k2, (hk _ h1).trans k3, (hk _ h1).trans k4, (hk _ h1).trans k5, (hk _ h1).trans k6, (hk _ h1).trans k7⟩
theorem KidC.keep_ {g kb ko y8 : Nat} {ta tc : ByteArray} {b0 b1 : Int} {b2 : ByteArray} {b3 : Option Addr} {b4 b5 : Nat} {b6 : Option Addr} {b7 b8 : Nat} {w w' : World} (hk : w'.heap[kb]? = w.heap[kb]?) (hg : w'.heap[g]? = w.heap[g]?) (h : KidC g kb ko y8 ta tc b0 b1 b2 b3 b4 b5 b6 b7 b8 w) : KidC g kb ko y8 ta tc b0 b1 b2 b3 b4 b5 b6 b7 b8 w' := by
  have h1 : ∀ j, w'.cell? ⟨kb, j, none⟩ = w.cell? ⟨kb, j, none⟩ := fun j => World.cell?_of_block hk
  have h2 : ∀ j, w'.cell? ⟨g, j, none⟩ = w.cell? ⟨g, j, none⟩ := fun j => World.cell?_of_block hg
  obtain ⟨k0, k1, k2, k3, k4, k5, k6, k7⟩ := h
  exact ⟨(h2 _).trans k0, (h1 _).trans k1, (h1 _).trans k2, (h1 _).trans k3, (h1 _).trans k4, (h1 _).trans k5, (h1 _).trans k6, (h1 _).trans k7⟩
theorem cells_one7 {t1 t2 : ByteArray} {c0 c1 : Int} {c2 : ByteArray} {c3 : Option Addr} {c4 c5 : Nat} {c6 : Option Addr} {c7 c8 : Nat} : ∀ u ∈ ([.string t1, .int .i64 c0, .int .i64 c1, .string c2, .slice c3 c4 c5, .slice c6 c7 c8, .string t2] : List Value), u.oneCell' = true := by
  intro u hu
  simp at hu
  rcases hu with rfl | rfl | rfl | rfl | rfl | rfl | rfl <;> rfl
theorem KidC.start {wo : World} {kb ko y8 : Nat} {y0 y1 : Int} {y2 : ByteArray} {y3 : Option Addr} {y4 y5 : Nat} {ta tc : ByteArray} {b0 b1 : Int} {b2 : ByteArray} {b3 : Option Addr} {b4 b5 : Nat} {b6 : Option Addr} {b7 b8 : Nat} (hkw : kb < wo.heap.size)
    (f0 : wo.cell? ⟨kb, ko + 2, none⟩ = some (.string ta)) (f1 : wo.cell? ⟨kb, ko + 5, none⟩ = some (.int .i64 b0)) (f2 : wo.cell? ⟨kb, ko + 6, none⟩ = some (.int .i64 b1)) (f3 : wo.cell? ⟨kb, ko + 7, none⟩ = some (.string b2)) (f4 : wo.cell? ⟨kb, ko + 8, none⟩ = some (.slice b3 b4 b5)) (f5 : wo.cell? ⟨kb, ko + 9, none⟩ = some (.slice b6 b7 b8)) (f6 : wo.cell? ⟨kb, ko + 12, none⟩ = some (.string tc)) :
    KidC wo.heap.size kb ko y8 ta tc b0 b1 b2 b3 b4 b5 b6 b7 b8 (wo.alloc (.cells #[.int .i64 y0, .int .i64 y1, .string y2, .slice y3 y4 y5, .slice (some ⟨kb, ko, none⟩) 3 y8] 25)) := by
  have hk : ∀ p : Addr, p.block < wo.heap.size → (wo.alloc (.cells #[.int .i64 y0, .int .i64 y1, .string y2, .slice y3 y4 y5, .slice (some ⟨kb, ko, none⟩) 3 y8] 25)).cell? p = wo.cell? p := fun p hp => World.cell?_alloc_lt _ _ _ hp
  exact ⟨(Blk.new wo 25 #[.int .i64 y0, .int .i64 y1, .string y2, .slice y3 y4 y5, .slice (some ⟨kb, ko, none⟩) 3 y8]).cell 4, (hk _ hkw).trans f0, (hk _ hkw).trans f1, (hk _ hkw).trans f2, (hk _ hkw).trans f3, (hk _ hkw).trans f4, (hk _ hkw).trans f5, (hk _ hkw).trans f6⟩

set_option maxRecDepth 100000 in
set_option maxHeartbeats 4000000 in
theorem kRead_bad (s : ByteArray) (A : Option Addr) (c : Nat) (w : World) (ec : Int) (h : BytesAt w A c s) (hr : parseL s.toList = .error ec) : Calls Tryd.prog 20 #[.slice A s.size c] w (ReadP (readL s.toList) w) := by
  have HP := Lib.hid (parse_law s A c w h)
  rw [hr] at HP
  have E := Lib.hid (readL_err hr)
  have h1 := parse_err hr
  have n0 : (ec != 0) = true := by rw [bne_iff_ne]; omega
  clear hr h h1
  generalize readL s.toList = V at *
  go_enter Tryd.func20, Tryd.ntmps20
  go_wp2_with fail
  refine (HP.out : Calls _ _ _ _ _).mono ?_
  rintro e w1 ⟨rfl, hb⟩
  go_wp2_with fail
  refine bodyPost_ret (v := .tuple #[.slice none 0 0, .string ⟨#[110, 111, 116, 74, 83, 79, 78]⟩]) (by simp [results, Tryd.results20, go_sem]) rfl ?_
  exact ReadP.err E.out (hb.alloc hb.size _)
def KIn (w w4 : World) (gu gm : Nat) (U M : Nd) (u0 u1 : Int) (u2 : ByteArray) (u3 : Option Addr) (u4 u5 : Nat) (u6 : Option Addr) (u8 : Nat) (m0 m1 : Int) (m2 : ByteArray) (m3 : Option Addr) (m4 m5 : Nat) (m6 : Option Addr) (m8 : Nat) : Prop :=
  Blk w4 gu 25 #[.int .i64 u0, .int .i64 u1, .string u2, .slice u3 u4 u5, .slice u6 U.kids.length u8] ∧ Blk w4 gm 25 #[.int .i64 m0, .int .i64 m1, .string m2, .slice m3 m4 m5, .slice m6 M.kids.length m8] ∧ Below w.heap.size w w4 ∧
  (∃ xs, Reads w4 w4.heap.size 5 u6 U.kids.length xs ∧ NdsIs w4 w4.heap.size U.kids xs ∧ U.kids.length ≤ maxLen) ∧ (∃ xs, Reads w4 w4.heap.size 5 m6 M.kids.length xs ∧ NdsIs w4 w4.heap.size M.kids xs ∧ M.kids.length ≤ maxLen)
set_option maxRecDepth 100000 in
set_option maxHeartbeats 4000000 in
theorem kRead_ok (s : ByteArray) (A : Option Addr) (c : Nat) (w : World) (n : Nd) (h : BytesAt w A c s) (hr : parseL s.toList = .ok n) : Calls Tryd.prog 20 #[.slice A s.size c] w (ReadP (readL s.toList) w) := by
  have HP := Lib.hid (parse_law s A c w h)
  rw [hr] at HP
  have E := Lib.hid (readL_ok hr)
  have HSZ := Lib.hid (parse_size hr)
  clear hr h
  generalize readL s.toList = V at *
  go_enter Tryd.func20, Tryd.ntmps20
  go_wp2_with fail
  refine (HP.out : Calls _ _ _ _ _).mono ?_
  rintro e w1 ⟨x0, x1, x2, x3, x4, x5, x6, x7, x8, rfl, hn, hb⟩
  have HB1 : Hid (Below w.heap.size w (w1.alloc (.cells #[.int .i64 x0, .int .i64 x1, .string x2, .slice x3 x4 x5, .slice x6 x7 x8] 25))) := hb.alloc hb.size _
  have HBX : Hid (Blk (w1.alloc (.cells #[.int .i64 x0, .int .i64 x1, .string x2, .slice x3 x4 x5, .slice x6 x7 x8] 25)) w1.heap.size 25 #[.int .i64 x0, .int .i64 x1, .string x2, .slice x3 x4 x5, .slice x6 x7 x8]) := Blk.new _ _ _
  have HN1 : Hid (NdIs (w1.alloc (.cells #[.int .i64 x0, .int .i64 x1, .string x2, .slice x3 x4 x5, .slice x6 x7 x8] 25)) w1.heap.size n [.int .i64 x0, .int .i64 x1, .string x2, .slice x3 x4 x5, .slice x6 x7 x8]) := hn.below ((Below.refl _ _).alloc (Nat.le_refl _) _)
  have HF1 : Hid (Calls Tryd.prog 21 #[.agg #[.int .i64 x0, .int .i64 x1, .string x2, .slice x3 x4 x5, .slice x6 x7 x8], .string ⟨#[117, 115, 105, 110, 103]⟩] (w1.alloc (.cells #[.int .i64 x0, .int .i64 x1, .string x2, .slice x3 x4 x5, .slice x6 x7 x8] 25)) (FindP (findN n usingS) (w1.alloc (.cells #[.int .i64 x0, .int .i64 x1, .string x2, .slice x3 x4 x5, .slice x6 x7 x8] 25)))) :=
    cFind_any n usingS [.int .i64 x0, .int .i64 x1, .string x2, .slice x3 x4 x5, .slice x6 x7 x8] _ w1.heap.size HN1.out (by simp) HSZ.out
  clear hn hb HP
  go_wp2_with fail
  refine (HF1.out : Calls _ _ _ _ _).mono ?_
  rintro e w2 ⟨u0, u1, u2, u3, u4, u5, u6, u7, u8, rfl, hu, hb2⟩
  have hba : Below w2.heap.size w2 (w2.alloc (.cells #[.int .i64 u0, .int .i64 u1, .string u2, .slice u3 u4 u5, .slice u6 u7 u8] 25)) := (Below.refl _ _).alloc (Nat.le_refl _) _
  have hb3 := hb2.trans (hba.mono hb2.size)
  have HB2 : Hid (Below w.heap.size w (w2.alloc (.cells #[.int .i64 u0, .int .i64 u1, .string u2, .slice u3 u4 u5, .slice u6 u7 u8] 25))) := nextB HB1.out hb3
  have HBX2 : Hid (Blk (w2.alloc (.cells #[.int .i64 u0, .int .i64 u1, .string u2, .slice u3 u4 u5, .slice u6 u7 u8] 25)) w1.heap.size 25 #[.int .i64 x0, .int .i64 x1, .string x2, .slice x3 x4 x5, .slice x6 x7 x8]) := HBX.out.below hb3 HBX.out.lt
  have HBU : Hid (Blk (w2.alloc (.cells #[.int .i64 u0, .int .i64 u1, .string u2, .slice u3 u4 u5, .slice u6 u7 u8] 25)) w2.heap.size 25 #[.int .i64 u0, .int .i64 u1, .string u2, .slice u3 u4 u5, .slice u6 u7 u8]) := Blk.new _ _ _
  have HN2 : Hid (NdIs (w2.alloc (.cells #[.int .i64 u0, .int .i64 u1, .string u2, .slice u3 u4 u5, .slice u6 u7 u8] 25)) w1.heap.size n [.int .i64 x0, .int .i64 x1, .string x2, .slice x3 x4 x5, .slice x6 x7 x8]) := HN1.out.below (hb3.mono (by simp))
  have HU2 : Hid (NdIs (w2.alloc (.cells #[.int .i64 u0, .int .i64 u1, .string u2, .slice u3 u4 u5, .slice u6 u7 u8] 25)) w2.heap.size ((findN n usingS).getD (nd0 0)) [.int .i64 u0, .int .i64 u1, .string u2, .slice u3 u4 u5, .slice u6 u7 u8]) := (NdIn.is (fun b hb => hb.2) _ _ hu).below hba
  have hz12 : w1.heap.size < w2.heap.size := by have := hb2.size; simp at this; omega
  have HF2 : Hid (Calls Tryd.prog 21 #[.agg #[.int .i64 x0, .int .i64 x1, .string x2, .slice x3 x4 x5, .slice x6 x7 x8], .string ⟨#[109, 101, 116, 104, 111, 100, 67, 97, 108, 108, 115]⟩] (w2.alloc (.cells #[.int .i64 u0, .int .i64 u1, .string u2, .slice u3 u4 u5, .slice u6 u7 u8] 25)) (FindP (findN n callsS) (w2.alloc (.cells #[.int .i64 u0, .int .i64 u1, .string u2, .slice u3 u4 u5, .slice u6 u7 u8] 25)))) :=
    cFind_any n callsS [.int .i64 x0, .int .i64 x1, .string x2, .slice x3 x4 x5, .slice x6 x7 x8] _ w1.heap.size HN2.out (by simp; omega) HSZ.out
  obtain ⟨e0, e1, e2, e3, e4⟩ := HBX2.out.cells5
  clear hu hb2 hba hb3 HF1 HN1 HB1 HBX HN2 HSZ
  go_wp2_with fail
  refine (HF2.out : Calls _ _ _ _ _).mono ?_
  rintro e w3 ⟨m0, m1, m2, m3, m4, m5, m6, m7, m8, rfl, hm, hb2⟩
  have hba : Below w3.heap.size w3 (w3.alloc (.cells #[.int .i64 m0, .int .i64 m1, .string m2, .slice m3 m4 m5, .slice m6 m7 m8] 25)) := (Below.refl _ _).alloc (Nat.le_refl _) _
  have hb3 := hb2.trans (hba.mono hb2.size)
  have hB4 := nextB HB2.out hb3
  have hU4 : Blk (w3.alloc (.cells #[.int .i64 m0, .int .i64 m1, .string m2, .slice m3 m4 m5, .slice m6 m7 m8] 25)) w2.heap.size 25 #[.int .i64 u0, .int .i64 u1, .string u2, .slice u3 u4 u5, .slice u6 u7 u8] := HBU.out.below hb3 HBU.out.lt
  have hM4 : Blk (w3.alloc (.cells #[.int .i64 m0, .int .i64 m1, .string m2, .slice m3 m4 m5, .slice m6 m7 m8] 25)) w3.heap.size 25 #[.int .i64 m0, .int .i64 m1, .string m2, .slice m3 m4 m5, .slice m6 m7 m8] := Blk.new _ _ _
  have hNU : NdIs (w3.alloc (.cells #[.int .i64 m0, .int .i64 m1, .string m2, .slice m3 m4 m5, .slice m6 m7 m8] 25)) (w3.alloc (.cells #[.int .i64 m0, .int .i64 m1, .string m2, .slice m3 m4 m5, .slice m6 m7 m8] 25)).heap.size ((findN n usingS).getD (nd0 0)) [.int .i64 u0, .int .i64 u1, .string u2, .slice u3 u4 u5, .slice u6 u7 u8] := NdIs.more (by have := hb3.size; simp at this ⊢; omega) _ _ (HU2.out.below (hb3.mono (by simp)))
  have hNM : NdIs (w3.alloc (.cells #[.int .i64 m0, .int .i64 m1, .string m2, .slice m3 m4 m5, .slice m6 m7 m8] 25)) (w3.alloc (.cells #[.int .i64 m0, .int .i64 m1, .string m2, .slice m3 m4 m5, .slice m6 m7 m8] 25)).heap.size ((findN n callsS).getD (nd0 0)) [.int .i64 m0, .int .i64 m1, .string m2, .slice m3 m4 m5, .slice m6 m7 m8] := NdIs.more (by simp) _ _ ((NdIn.is (fun b hb => hb.2) _ _ hm).below hba)
  obtain ⟨k1, -, k2, ku⟩ := NdIs.cells _ hNU
  obtain ⟨l1, -, l2, km⟩ := NdIs.cells _ hNM
  subst k1 k2 l1 l2
  have KI : Hid (KIn w (w3.alloc (.cells #[.int .i64 ((findN n callsS).getD (nd0 0)).kind, .int .i64 m1, .string m2, .slice m3 m4 m5, .slice m6 ((findN n callsS).getD (nd0 0)).kids.length m8] 25)) w2.heap.size w3.heap.size ((findN n usingS).getD (nd0 0)) ((findN n callsS).getD (nd0 0)) ((findN n usingS).getD (nd0 0)).kind u1 u2 u3 u4 u5 u6 u8 ((findN n callsS).getD (nd0 0)).kind m1 m2 m3 m4 m5 m6 m8) := ⟨hU4, hM4, hB4, ku, km⟩
  have hg : w2.heap.size < (w3.alloc (.cells #[.int .i64 ((findN n callsS).getD (nd0 0)).kind, .int .i64 m1, .string m2, .slice m3 m4 m5, .slice m6 ((findN n callsS).getD (nd0 0)).kids.length m8] 25)).heap.size := hU4.lt
  clear hb2 hba hb3 hU4 hM4 hNU hNM hm ku km hB4 HBX2 HBU HU2 HF2 HB2 e0 e1 e2 e3 e4
  go_upto_region 6 with fail
  generalize w3.alloc (.cells #[.int .i64 ((findN n callsS).getD (nd0 0)).kind, .int .i64 m1, .string m2, .slice m3 m4 m5, .slice m6 ((findN n callsS).getD (nd0 0)).kids.length m8] 25) = w4 at *
  generalize w2.heap.size = gu at *
  generalize w3.heap.size = gm at *
  generalize findN n usingS = fu at *
  generalize findN n callsS = fm at *
  have E1 : Hid (fu.isSome = false → V = .error notR) := fun h => E.out.trans (readN_1 h)
  have E2 : Hid (fu.isSome = true → fm.isSome = false → V = .error notR) := fun h1 h2 => E.out.trans (readN_2 h1 h2)
  have E3 : Hid (fu.isSome = true → fm.isSome = true → V = readM (fu.getD (nd0 0)) (fm.getD (nd0 0))) := fun h1 h2 => E.out.trans (readN_3 h1 h2)
  generalize fu.isSome = ba at *
  generalize fm.isSome = bb at *
  generalize fu.getD (nd0 0) = UU at *
  generalize fm.getD (nd0 0) = MM at *
  clear E
  obtain ⟨hBU, hBM, hB4, hxu, hxm⟩ := KI.out
  have HB4 := Lib.hid hB4
  obtain ⟨yu, hru, hnu, hlu⟩ := hxu
  obtain ⟨ym, hrm, hnm, hlm⟩ := hxm
  obtain ⟨p0, p1, p2, p3, p4⟩ := hBU.cells5
  obtain ⟨q0, q1, q2, q3, q4⟩ := hBM.cells5
  have HLU := Lib.hid hlu
  have HLM := Lib.hid hlm
  have HRM := Lib.hid hrm
  have HNM := Lib.hid hnm
  have HBM := Lib.hid hBM
  have HBU := Lib.hid hBU
  have hlu2 : UU.kids.length ≤ 9223372036854775807 := by simp only [maxLen] at hlu; omega
  have hlm2 : MM.kids.length ≤ 9223372036854775807 := by simp only [maxLen] at hlm; omega
  have HC1 : Hid (∀ w', Below w4.heap.size w4 w' → Calls Tryd.prog 32 #[.slice u6 UU.kids.length u8, .func (.func 29) #[] #[]] w' (BoolBel (UU.kids.any oddN) w')) := fun w' h => sContainsFunc_kRead1 oddN UU.kids u6 u8 yu w' w4.heap.size (hru.keep fun p hp => h.cell hp) (NdsIs.keep (fun p hp => h.cell hp) _ _ hnu) h.size hlu2 (fun n cs w9 h1 h2 => kRead1_any n cs w9 _ h1)
  have HC2 : Hid (∀ w', Below w4.heap.size w4 w' → Calls Tryd.prog 32 #[.slice m6 MM.kids.length m8, .func (.func 30) #[] #[]] w' (BoolBel (MM.kids.any noneN) w')) := fun w' h => sContainsFunc_kRead2 noneN MM.kids m6 m8 ym w' w4.heap.size (hrm.keep fun p hp => h.cell hp) (NdsIs.keep (fun p hp => h.cell hp) _ _ hnm) h.size hlm2 (fun n cs w9 h1 h2 => kRead2_any n cs w9 _ h1 h2)
  have HC3 : Hid (∀ w', Below w4.heap.size w4 w' → Calls Tryd.prog 32 #[.slice u6 UU.kids.length u8, .func (.func 33) #[] #[]] w' (BoolBel (UU.kids.any unkN) w')) := fun w' h => sContainsFunc_kRead3 unkN UU.kids u6 u8 yu w' w4.heap.size (hru.keep fun p hp => h.cell hp) (NdsIs.keep (fun p hp => h.cell hp) _ _ hnu) h.size hlu2 (fun n cs w9 h1 h2 => kRead3_any n cs w9 _ h1)
  have hgu : gu < w4.heap.size := hBU.lt
  have hgm : gm < w4.heap.size := hBM.lt
  clear hBU hBM hB4 hru hnu hlu hrm hnm hlm KI hlu2 hlm2
  have hW := Below.refl w4.heap.size w4
  cases ba with
  | false =>
    have EE := Lib.hid (E1.out rfl)
    clear E1 E2 E3 HC1 HC2 HC3
    go_wp2_with fail
    refine bodyPost_ret (v := .tuple #[.slice none 0 0, .string ⟨#[110, 111, 116, 82, 101, 113, 117, 101, 115, 116]⟩]) (by simp [results, Tryd.results20, go_sem]) rfl ?_
    exact ReadP.err EE.out (HB4.out.trans (hW.mono HB4.out.size))
  | true =>
    clear E1
    cases bb with
    | false =>
      have EE := Lib.hid (E2.out rfl rfl)
      clear E2 E3 HC1 HC2 HC3
      go_wp2_with fail
      refine bodyPost_ret (v := .tuple #[.slice none 0 0, .string ⟨#[110, 111, 116, 82, 101, 113, 117, 101, 115, 116]⟩]) (by simp [results, Tryd.results20, go_sem]) rfl ?_
      exact ReadP.err EE.out (HB4.out.trans (hW.mono HB4.out.size))
    | true =>
      have EM := Lib.hid (E3.out rfl rfl)
      clear E2 E3
      unfold readM at EM
      cases t1 : (UU.kind != 6) with
      | true =>
        have EE : Hid (V = .error notR) := by show _ = _; rw [EM.out, if_pos t1]
        clear EM HC1 HC2 HC3
        go_wp2_with fail
        refine bodyPost_ret (v := .tuple #[.slice none 0 0, .string ⟨#[110, 111, 116, 82, 101, 113, 117, 101, 115, 116]⟩]) (by simp [results, Tryd.results20, go_sem]) rfl ?_
        exact ReadP.err EE.out (HB4.out.trans (hW.mono HB4.out.size))
      | false =>
        have EM2 : Hid (V = if (MM.kind != 6) = true then .error notR else if UU.kids.any oddN = true then .error notR else if MM.kids.any noneN = true then .error notR else if UU.kids.any unkN = true then .error unkC else if 16 < MM.kids.length then .error limS else .ok (MM.kids.map clOf)) := by show _ = _; rw [EM.out, if_neg (by rw [t1]; simp)]
        clear EM
        cases t2 : (MM.kind != 6) with
        | true =>
          have EE : Hid (V = .error notR) := by show _ = _; rw [EM2.out, if_pos t2]
          clear EM2 HC1 HC2 HC3
          go_wp2_with fail
          refine bodyPost_ret (v := .tuple #[.slice none 0 0, .string ⟨#[110, 111, 116, 82, 101, 113, 117, 101, 115, 116]⟩]) (by simp [results, Tryd.results20, go_sem]) rfl ?_
          exact ReadP.err EE.out (HB4.out.trans (hW.mono HB4.out.size))
        | false =>
          have EM3 : Hid (V = if UU.kids.any oddN = true then .error notR else if MM.kids.any noneN = true then .error notR else if UU.kids.any unkN = true then .error unkC else if 16 < MM.kids.length then .error limS else .ok (MM.kids.map clOf)) := by show _ = _; rw [EM2.out, if_neg (by rw [t2]; simp)]
          clear EM2
          have HNO : Hid (MM.kids.any noneN = false → ∀ (j : Nat) (x : Nd), MM.kids[j]? = some x → noneN x = false) := fun h j x hx => any_get h hx
          generalize UU.kids.any oddN = z1 at *
          generalize UU.kids.any unkN = z3 at *
          obtain ⟨z2, hz2⟩ : ∃ z2, z2 = MM.kids.any noneN := ⟨_, rfl⟩
          rw [← hz2] at HC2 EM3 HNO
          clear hz2
          go_wp2_with fail
          refine (HC1.out _ hW).mono ?_; rintro e w5 ⟨rfl, hw5⟩
          replace hW := nextB hW hw5; clear hw5
          obtain ⟨wk, rfl⟩ : ∃ wk : World, wk = w5 := ⟨_, rfl⟩
          clear p0 p1 p2 p3 p4 q0 q1 q2 q3 q4
          obtain ⟨p0, p1, p2, p3, p4⟩ := (HBU.out.below hW HBU.out.lt).cells5
          obtain ⟨q0, q1, q2, q3, q4⟩ := (HBM.out.below hW HBM.out.lt).cells5
          cases z1 with
          | true =>
            have EE : Hid (V = .error notR) := by show _ = _; rw [EM3.out, if_pos rfl]
            clear EM3 HC1 HC2 HC3 HNO
            go_wp2_with fail
            refine bodyPost_ret (v := .tuple #[.slice none 0 0, .string ⟨#[110, 111, 116, 82, 101, 113, 117, 101, 115, 116]⟩]) (by simp [results, Tryd.results20, go_sem]) rfl ?_
            exact ReadP.err EE.out (HB4.out.trans (hW.mono HB4.out.size))
          | false =>
            go_wp2_with fail
            refine (HC2.out _ hW).mono ?_; rintro e w5 ⟨rfl, hw5⟩
            replace hW := nextB hW hw5; clear hw5
            obtain ⟨wk, rfl⟩ : ∃ wk : World, wk = w5 := ⟨_, rfl⟩
            clear p0 p1 p2 p3 p4 q0 q1 q2 q3 q4
            obtain ⟨p0, p1, p2, p3, p4⟩ := (HBU.out.below hW HBU.out.lt).cells5
            obtain ⟨q0, q1, q2, q3, q4⟩ := (HBM.out.below hW HBM.out.lt).cells5
            cases z2 with
            | true =>
              have EE : Hid (V = .error notR) := by show _ = _; rw [EM3.out, if_neg (by simp), if_pos rfl]
              clear EM3 HC1 HC2 HC3 HNO
              go_wp2_with fail
              refine bodyPost_ret (v := .tuple #[.slice none 0 0, .string ⟨#[110, 111, 116, 82, 101, 113, 117, 101, 115, 116]⟩]) (by simp [results, Tryd.results20, go_sem]) rfl ?_
              exact ReadP.err EE.out (HB4.out.trans (hW.mono HB4.out.size))
            | false =>
              have HNO2 := Lib.hid (HNO.out rfl)
              go_wp2_with fail
              refine (HC3.out _ hW).mono ?_; rintro e w5 ⟨rfl, hw5⟩
              replace hW := nextB hW hw5; clear hw5
              obtain ⟨wk, rfl⟩ : ∃ wk : World, wk = w5 := ⟨_, rfl⟩
              clear p0 p1 p2 p3 p4 q0 q1 q2 q3 q4
              obtain ⟨p0, p1, p2, p3, p4⟩ := (HBU.out.below hW HBU.out.lt).cells5
              obtain ⟨q0, q1, q2, q3, q4⟩ := (HBM.out.below hW HBM.out.lt).cells5
              cases z3 with
              | true =>
                have EE : Hid (V = .error unkC) := by show _ = _; rw [EM3.out, if_neg (by simp), if_neg (by simp), if_pos rfl]
                clear EM3 HC1 HC2 HC3 HNO
                go_wp2_with fail
                refine bodyPost_ret (v := .tuple #[.slice none 0 0, .string ⟨#[117, 110, 107, 110, 111, 119, 110, 67, 97, 112, 97, 98, 105, 108, 105, 116, 121]⟩]) (by simp [results, Tryd.results20, go_sem]) rfl ?_
                exact ReadP.err EE.out (HB4.out.trans (hW.mono HB4.out.size))
              | false =>
                have EM4 : Hid (V = if 16 < MM.kids.length then .error limS else .ok (MM.kids.map clOf)) := by show _ = _; rw [EM3.out, if_neg (by simp), if_neg (by simp), if_neg (by simp)]
                clear EM3 HC1 HC2 HC3 HNO t1 t2
                by_cases h16 : 16 < MM.kids.length
                · have EE : Hid (V = .error limS) := by show _ = _; rw [EM4.out, if_pos h16]
                  have h16i : decide ((16 : Int) < (MM.kids.length : Int)) = true := decide_eq_true (by omega)
                  clear EM4 h16
                  go_wp2_with fail
                  refine bodyPost_ret (v := .tuple #[.slice none 0 0, .string ⟨#[108, 105, 109, 105, 116]⟩]) (by simp [results, Tryd.results20, go_sem]) rfl ?_
                  exact ReadP.err EE.out (HB4.out.trans (hW.mono HB4.out.size))
                have EE : Hid (V = .ok (MM.kids.map clOf)) := by show _ = _; rw [EM4.out, if_neg h16]
                have h16i : decide ((16 : Int) < (MM.kids.length : Int)) = false := decide_eq_false (by omega)
                clear EM4
                have HK16 := Lib.hid h16
                clear p0 p1 p2 p3 p4 HBU h16
                have HI0 : Hid (CInv w4 MM 0 none 0 wk) := ⟨[], World.ownsRow_nil _ _ _ _, rfl, hW⟩
                clear hW
                go_wp2_with fail
                go_loopw [12, 63] (fun t12 t63 wr => ∃ (i : Nat) (Ao : Option Addr) (co : Nat), i ≤ MM.kids.length ∧ t63 = .int .i64 i ∧ t12 = .slice Ao i co ∧ Hid (CInv w4 MM i Ao co wr)) (fun _ t63 _ => MM.kids.length - (intOf t63).toNat)
                case atStart => exact ⟨0, none, 0, by omega, rfl, rfl, HI0⟩
                case round =>
                  clear HI0 q0 q1 q2 q3 q4
                  obtain ⟨i, Ao, co, hi, rfl, rfl, hI⟩ := hrel
                  obtain ⟨wo, rfl⟩ : ∃ wo : World, wo = wr := ⟨_, rfl⟩
                  by_cases hlt : i < MM.kids.length
                  · obtain ⟨xs, hown, hcls, hW⟩ := hI.out
                    have hsz := hW.size
                    have hkeep : ∀ p : Addr, p.block < w4.heap.size → wo.cell? p = w4.cell? p := fun p hp => hW.cell hp
                    obtain ⟨ad, nn, v0, v1, v2, v3, v4, hm6, hadb, hni, hnd, e0, e1, e2, e3, e4⟩ := (HRM.out.keep hkeep).nd (NdsIs.keep hkeep _ _ HNM.out) hlt
                    subst hm6
                    obtain ⟨y0, y1, y2, y3, y4, y5, y6, y7, y8, rfl, rfl, rfl, rfl, rfl⟩ := hnd.form
                    obtain ⟨na, nb, nc, hk3, -, -, -, -⟩ := kid3 (HNO2.out i nn hni)
                    obtain ⟨kb, ko, b0, b1, b2, b3, b4, b5, b6, b7, b8, rfl, rfl, hkb, hnb, f0, f1, f2, f3, f4, f5, f6⟩ := kids15 hnd hk3
                    have HKB := Lib.hid hkb
                    have HCL : Hid (clOf nn = ⟨na.text, nb, nc.text⟩) := by show _ = _; unfold clOf; rw [hk3]
                    have HTK := Lib.hid (map_take hni)
                    have HOW : Hid (wo.ownsRow w4.heap.size 31 7 (.slice Ao i co) i xs) := hown
                    have HOWL : Hid (∀ g, (Value.slice Ao i co).ownBlock = some g → w4.heap.size ≤ g ∧ g < wo.heap.size) := fun g hg => own_lt hown hg
                    have HCS := Lib.hid hcls
                    have HNB := Lib.hid hnb
                    have HWW := Lib.hid hW
                    have i0 : (0 : Int) ≤ (i : Int) := by omega
                    have i1 : (i : Int) < (MM.kids.length : Int) := by omega
                    have hi5 : i ≤ 16 := by have := HK16.out; omega
                    have hbw : ad.block < wo.heap.size := by omega
                    have hkw : kb < wo.heap.size := by omega
                    have S0 : Hid (KidC wo.heap.size kb ko y8 na.text nc.text b0 b1 b2 b3 b4 b5 b6 b7 b8 (wo.alloc (.cells #[.int .i64 y0, .int .i64 y1, .string y2, .slice y3 y4 y5, .slice (some ⟨kb, ko, none⟩) 3 y8] 25))) := KidC.start hkw f0 f1 f2 f3 f4 f5 f6
                    have hz : (wo.alloc (.cells #[.int .i64 y0, .int .i64 y1, .string y2, .slice y3 y4 y5, .slice (some ⟨kb, ko, none⟩) 3 y8] 25)).heap.size = wo.heap.size + 1 := by simp
                    have HZ := Lib.hid hz
                    have HZ2 : Hid (((wo.alloc (.cells #[.int .i64 y0, .int .i64 y1, .string y2, .slice y3 y4 y5, .slice (some ⟨kb, ko, none⟩) 3 y8] 25)).alloc (.cells #[.string na.text, .int .i64 b0, .int .i64 b1, .string b2, .slice b3 b4 b5, .slice b6 b7 b8, .string nc.text] 31)).drew.heap.size = wo.heap.size + 2) := by show ((wo.alloc (.cells #[.int .i64 y0, .int .i64 y1, .string y2, .slice y3 y4 y5, .slice (some ⟨kb, ko, none⟩) 3 y8] 25)).alloc (.cells #[.string na.text, .int .i64 b0, .int .i64 b1, .string b2, .slice b3 b4 b5, .slice b6 b7 b8, .string nc.text] 31)).heap.size = _; rw [World.size_alloc, hz]
                    have HS0 : Hid (KidC wo.heap.size kb ko y8 na.text nc.text b0 b1 b2 b3 b4 b5 b6 b7 b8 (wo.alloc (.cells #[.int .i64 y0, .int .i64 y1, .string y2, .slice y3 y4 y5, .slice (some ⟨kb, ko, none⟩) 3 y8] 25)).drew) := S0.out
                    have HS1 : Hid (KidC wo.heap.size kb ko y8 na.text nc.text b0 b1 b2 b3 b4 b5 b6 b7 b8 ((wo.alloc (.cells #[.int .i64 y0, .int .i64 y1, .string y2, .slice y3 y4 y5, .slice (some ⟨kb, ko, none⟩) 3 y8] 25)).alloc (.cells #[.string na.text, .int .i64 b0, .int .i64 b1, .string b2, .slice b3 b4 b5, .slice b6 b7 b8, .string nc.text] 31)).drew) := KidC.keep (fun p hp => World.cell?_alloc_lt _ _ _ hp) (by rw [HZ.out]; omega) (by rw [HZ.out]; omega) S0.out
                    have HS1b := HS1
                    clear hnd hni hk3 hown hcls hnb hW hI hkeep hkb hz
                    go_wp2_with fail
                    unfold KidC at HS0 HS1
                    go_region_held3 (fun w' => w'.cell? ⟨wo.heap.size, 4, none⟩ = some (.slice (some ⟨kb, ko, none⟩) 3 y8) ∧ w'.cell? ⟨kb, ko + 2, none⟩ = some (.string na.text) ∧ w'.cell? ⟨kb, ko + 5, none⟩ = some (.int .i64 b0) ∧ w'.cell? ⟨kb, ko + 6, none⟩ = some (.int .i64 b1) ∧ w'.cell? ⟨kb, ko + 7, none⟩ = some (.string b2) ∧ w'.cell? ⟨kb, ko + 8, none⟩ = some (.slice b3 b4 b5) ∧ w'.cell? ⟨kb, ko + 9, none⟩ = some (.slice b6 b7 b8) ∧ w'.cell? ⟨kb, ko + 12, none⟩ = some (.string nc.text)) (first | with_reducible exact HS0.out | with_reducible exact HS1.out | with_reducible exact HS2.out) (first
                      | (refine step_pushCl rfl _ _ rfl w4.heap.size (.slice Ao i co) i xs (by rfl) (show (((wo.alloc (.cells #[.int .i64 y0, .int .i64 y1, .string y2, .slice y3 y4 y5, .slice (some ⟨kb, ko, none⟩) 3 y8] 25)).alloc (.cells #[.string na.text, .int .i64 b0, .int .i64 b1, .string b2, .slice b3 b4 b5, .slice b6 b7 b8, .string nc.text] 31)).drew).ownsRow w4.heap.size 31 7 (.slice Ao i co) i xs from World.ownsRow.alloc (World.ownsRow.alloc HOW.out _) _) (wo.heap.size + 2) (some ⟨wo.heap.size + 1, 0, none⟩) 1 1 [.string na.text, .int .i64 b0, .int .i64 b1, .string b2, .slice b3 b4 b5, .slice b6 b7 b8, .string nc.text] (by have := reads7 (wo.alloc (.cells #[.int .i64 y0, .int .i64 y1, .string y2, .slice y3 y4 y5, .slice (some ⟨kb, ko, none⟩) 3 y8] 25)) (.string na.text) (.int .i64 b0) (.int .i64 b1) (.string b2) (.slice b3 b4 b5) (.slice b6 b7 b8) (.string nc.text); rw [HZ.out] at this; exact this) cells_one7 (by rfl) (by omega) (by rw [HZ2.out]; have := HWW.out.size; omega) ?_; intro v9 w9 p1 p2; obtain ⟨A9, c9, rfl⟩ := own_form p1; have P1 := Lib.hid p1; have P2 := Lib.hid p2; have HS2 := Lib.hid (KidC.keep_ (p2.block kb (by rw [HZ2.out]; omega) (fun e => by have := (HOWL.out _ e.symm).1; have := HKB.out; omega)) (p2.block wo.heap.size (by rw [HZ2.out]; omega) (fun e => by have := (HOWL.out _ e.symm).2; omega)) HS1b.out); unfold KidC at HS2; clear p1 p2))
                    go_wp2_with fail
                    go_roundw
                    case rel =>
                      refine ⟨i + 1, A9, c9, by omega, by go_num, rfl, xs ++ [.string na.text, .int .i64 b0, .int .i64 b1, .string b2, .slice b3 b4 b5, .slice b6 b7 b8, .string nc.text], P1.out, ?_, ?_⟩
                      · rw [HTK.out, HCL.out]
                        have hk9 : ∀ p : Addr, p.block < w4.heap.size → w9.cell? p = wo.cell? p := fun p hp => (World.cell?_of_block (P2.out.block p.block (by rw [HZ2.out]; have := HWW.out.size; omega) (fun e => by have := (HOWL.out _ e.symm).1; omega))).trans ((World.cell?_alloc_lt _ _ _ (by simp; have := HWW.out.size; omega)).trans (World.cell?_alloc_lt _ _ _ (by have := HWW.out.size; omega)))
                        exact ClsIs.snoc (NdIs.keep hk9 _ _ HNB.out) _ _ (ClsIs.keep hk9 _ _ HCS.out)
                      · refine HWW.out.trans ?_
                        have hb0 : Below w4.heap.size wo (((wo.alloc (.cells #[.int .i64 y0, .int .i64 y1, .string y2, .slice y3 y4 y5, .slice (some ⟨kb, ko, none⟩) 3 y8] 25)).alloc (.cells #[.string na.text, .int .i64 b0, .int .i64 b1, .string b2, .slice b3 b4 b5, .slice b6 b7 b8, .string nc.text] 31)).drew) := (((Below.refl _ _).alloc HWW.out.size _).alloc (by simp; have := HWW.out.size; omega) _).drew
                        exact hb0.grown P2.out (by rw [HZ2.out]; have := HWW.out.size; omega) (fun g hg => (HOWL.out _ hg).1)
                    case measure => simp [intOf]; omega
                  · obtain rfl : i = MM.kids.length := by omega
                    obtain ⟨xs, hown, hcls, hW⟩ := hI.out
                    have HOW := Lib.hid hown
                    have HWW := Lib.hid hW
                    have HCS : Hid (ClsIs wo wo.heap.size (MM.kids.map clOf) xs) := by
                      rw [List.take_length] at hcls
                      exact ClsIs.more hW.size _ _ hcls
                    have i1 : ¬ (MM.kids.length : Int) < (MM.kids.length : Int) := by omega
                    clear hown hcls hW hI
                    go_wp2_with fail
                    refine bodyPost_ret (v := .tuple #[.slice Ao MM.kids.length co, .string ⟨#[]⟩]) (by simp [results, Tryd.results20, go_sem]) rfl ?_
                    have e1 : (okL V).length = MM.kids.length := by rw [EE.out]; show (MM.kids.map clOf).length = _; rw [List.length_map]
                    have e2 : errS V = ⟨#[]⟩ := by rw [EE.out]; rfl
                    have e3 : okL V = MM.kids.map clOf := by rw [EE.out]; rfl
                    refine ⟨Ao, co, xs, by rw [e1, e2], by rw [e1]; exact own_reads HOW.out, by rw [e3]; exact HCS.out, HB4.out.trans (HWW.out.mono HB4.out.size)⟩
theorem decL_asc {c : UInt8} (r : List UInt8) (h : c.toNat < 128) : decL (c :: r) = some ((c.toNat : Int), 1) := by
  have hp : putN (c.toNat : Int) = [(c.toNat : Int)] := by
    unfold putN
    rw [if_neg (by omega), if_pos (by omega)]
  have hb : putB (c.toNat : Int) = [c] := by
    rw [putB_of hp]
    simp
  have := decW_put sizeN (fun c => .inl rfl) (c.toNat : Int) r (by rw [hb]; simp)
  rw [hb] at this
  exact this
theorem textT_asc {c : UInt8} (r acc : List UInt8) (h0 : 32 ≤ c.toNat) (h : c.toNat < 128) (h34 : c ≠ 34) (h92 : c ≠ 92) : textT (c :: r) acc = textT r (acc ++ [c]) := by
  rw [textT_cons, if_neg (by rw [UInt8.lt_iff_toNat_lt]; have e : ((32 : UInt8).toNat) = 32 := rfl; omega), if_neg h34, if_neg h92, decL_asc r h]
  rfl
theorem textT_end (r acc : List UInt8) : textT (34 :: r) acc = some (acc, r) := by
  rw [textT_cons, if_neg (by decide), if_pos rfl]
theorem valL_123 (d : Nat) (r : List UInt8) (hd : d < 24) : valL d (123 :: r) = if (blanksL r).head? = some 125 then .ok (.mk 7 0 ⟨#[]⟩ [] [], (blanksL r).tail) else objL d (blanksL r) [] [] := by
  rw [valL_obj d _ rfl (by omega)]; rfl
theorem valL_91 (d : Nat) (r : List UInt8) (hd : d < 24) : valL d (91 :: r) = if (blanksL r).head? = some 93 then .ok (.mk 6 0 ⟨#[]⟩ [] [], (blanksL r).tail) else arrL d (blanksL r) [] := by
  rw [valL_arr d _ rfl (by omega)]; rfl
theorem valL_34 (d : Nat) (r : List UInt8) : valL d (34 :: r) = match textT r [] with
    | none => .error 3
    | some (t, r) => .ok (.mk 5 0 ⟨t.toArray⟩ [] [], r) := by
  rw [valL_str d _ rfl]
  have e : textL (34 :: r) = textT r [] := by unfold textL; simp
  rw [e]
  cases textT r [] <;> rfl
theorem valL_49 (d : Nat) (r : List UInt8) (h : digH r = false) (h2 : pointB r = false) : valL d (49 :: r) = .ok (.mk 4 1 ⟨#[]⟩ [] [], r) := by
  rw [valL_num d _ 49 rfl (.inr (by decide))]
  have hn : numL (49 :: r) = some (1, r) := by
    unfold numL
    rw [if_neg (by simp)]
    obtain ⟨e1, e2⟩ := takeW_none h
    have h49 : digB 49 = true := by decide
    unfold numTail
    rw [List.takeWhile_cons, List.dropWhile_cons, h49, if_pos rfl, if_pos rfl, e1, e2, h2]
    simp [valD]
  rw [hn]
theorem textL_34 (r : List UInt8) : textL (34 :: r) = textT r [] := by unfold textL; simp
theorem blank_cons (c : UInt8) (r : List UInt8) (h : blankB c = false) : blanksL (c :: r) = c :: r := by unfold blanksL; rw [List.dropWhile_cons, h]; rfl
theorem blank_nil : blanksL [] = [] := rfl
end Go.Proofs.YthbjehbpanhdoaaDoor
namespace Go.Proofs.YthbjehbpanhdoaaDoor
open Go.RowKit Go.PlainAid
set_option linter.unusedVariables false
set_option linter.unusedSimpArgs false
set_option maxRecDepth 10000
theorem reqA_p : parseL [123, 34, 117, 115, 105, 110, 103, 34, 58, 91, 93, 44, 34, 109, 101, 116, 104, 111, 100, 67, 97, 108, 108, 115, 34, 58, 91, 93, 125] = .ok (.mk 7 0 ⟨#[]⟩ [⟨#[117, 115, 105, 110, 103]⟩, ⟨#[109, 101, 116, 104, 111, 100, 67, 97, 108, 108, 115]⟩] [(.mk 6 0 ⟨#[]⟩ [] []), (.mk 6 0 ⟨#[]⟩ [] [])]) := by simp [parseL, valL_49 0 [] rfl rfl, valL_123, valL_91, valL_34, valL_49, digH, digB, pointB, arrL_eq, objL_eq, blank_cons, blank_nil, blankB, textL_34, textT_asc, textT_end, lit_toList]
theorem reqA_r : readL [123, 34, 117, 115, 105, 110, 103, 34, 58, 91, 93, 44, 34, 109, 101, 116, 104, 111, 100, 67, 97, 108, 108, 115, 34, 58, 91, 93, 125] = .ok [] := by
  rw [readL_ok reqA_p]
  simp [readN, findN, idxK, List.findIdx?_cons, usingS, callsS, Nd.kind, Nd.kids, Nd.text, oddN, noneN, unkN, kindsK, eqK, clOf, lit_toList]
theorem req1_p : parseL [123, 125] = .ok (.mk 7 0 ⟨#[]⟩ [] []) := by simp [parseL, valL_49 0 [] rfl rfl, valL_123, valL_91, valL_34, valL_49, digH, digB, pointB, arrL_eq, objL_eq, blank_cons, blank_nil, blankB, textL_34, textT_asc, textT_end, lit_toList]
theorem req1_r : readL [123, 125] = .error notR := by
  rw [readL_ok req1_p]
  simp [readN, findN, idxK, List.findIdx?_cons, usingS, callsS, Nd.kind, Nd.kids, Nd.text, oddN, noneN, unkN, kindsK, eqK, clOf, lit_toList]
def reqs : List ByteArray := [⟨#[91, 93]⟩, ⟨#[123, 125]⟩, ⟨#[123, 34, 117, 115, 105, 110, 103, 34, 58, 91, 93, 125]⟩, ⟨#[123, 34, 109, 101, 116, 104, 111, 100, 67, 97, 108, 108, 115, 34, 58, 91, 93, 125]⟩, ⟨#[123, 34, 117, 115, 105, 110, 103, 34, 58, 123, 125, 44, 34, 109, 101, 116, 104, 111, 100, 67, 97, 108, 108, 115, 34, 58, 91, 93, 125]⟩, ⟨#[123, 34, 117, 115, 105, 110, 103, 34, 58, 91, 49, 93, 44, 34, 109, 101, 116, 104, 111, 100, 67, 97, 108, 108, 115, 34, 58, 91, 93, 125]⟩, ⟨#[123, 34, 117, 115, 105, 110, 103, 34, 58, 91, 93, 44, 34, 109, 101, 116, 104, 111, 100, 67, 97, 108, 108, 115, 34, 58, 123, 125, 125]⟩, ⟨#[123, 34, 117, 115, 105, 110, 103, 34, 58, 91, 93, 44, 34, 109, 101, 116, 104, 111, 100, 67, 97, 108, 108, 115, 34, 58, 91, 123, 125, 93, 125]⟩, ⟨#[123, 34, 117, 115, 105, 110, 103, 34, 58, 91, 93, 44, 34, 109, 101, 116, 104, 111, 100, 67, 97, 108, 108, 115, 34, 58, 91, 91, 34, 97, 34, 44, 123, 125, 93, 93, 125]⟩, ⟨#[123, 34, 117, 115, 105, 110, 103, 34, 58, 91, 93, 44, 34, 109, 101, 116, 104, 111, 100, 67, 97, 108, 108, 115, 34, 58, 91, 91, 34, 97, 34, 44, 91, 93, 44, 34, 98, 34, 93, 93, 125]⟩, ⟨#[123, 34, 117, 115, 105, 110, 103, 34, 58, 91, 93, 44, 34, 109, 101, 116, 104, 111, 100, 67, 97, 108, 108, 115, 34, 58, 91, 91, 49, 44, 123, 125, 44, 34, 98, 34, 93, 93, 125]⟩, ⟨#[49]⟩]
end Go.Proofs.YthbjehbpanhdoaaDoor
namespace Go.Proofs.YthbjehbpanhdoaaDoor
open Go.RowKit Go.PlainAid
set_option linter.unusedVariables false
set_option linter.unusedSimpArgs false
theorem kRead_any (s : ByteArray) (A : Option Addr) (c : Nat) (w : World) (h : BytesAt w A c s) : Calls Tryd.prog 20 #[.slice A s.size c] w (ReadP (readL s.toList) w) := by
  cases hr : parseL s.toList with
  | error ec => exact kRead_bad s A c w ec h hr
  | ok n => exact kRead_ok s A c w n h hr
theorem ReadP.bad {s : ByteArray} {r : Except ByteArray (List Cl)} {w : World} {e : Ending} {w' : World} (hr : r = .error s) (h : ReadP r w e w') : ∃ (A : Option Addr) (c : Nat), e = .returned (.tuple #[.slice A 0 c, .string s]) ∧ Below w.heap.size w w' := by
  subst hr
  obtain ⟨A, c, xs, he, _, _, hb⟩ := h
  exact ⟨A, c, he, hb⟩
theorem ReadP.none_ {r : Except ByteArray (List Cl)} {w : World} {e : Ending} {w' : World} (hr : r = .ok []) (h : ReadP r w e w') : ∃ (A : Option Addr) (c : Nat), e = .returned (.tuple #[.slice A 0 c, .string ⟨#[]⟩]) ∧ Below w.heap.size w w' := by
  subst hr
  obtain ⟨A, c, xs, he, _, _, hb⟩ := h
  exact ⟨A, c, he, hb⟩
set_option maxRecDepth 100000 in
set_option maxHeartbeats 2000000 in
theorem awake26_any (w : World) : Calls Tryd.prog 8 #[] w (BoolBel true w) := by
  have HP : Hid (Calls Tryd.prog 20 #[.slice (some ⟨w.heap.size, 0, none⟩) 29 29] (w.alloc (.cells #[.int .u8 123, .int .u8 34, .int .u8 117, .int .u8 115, .int .u8 105, .int .u8 110, .int .u8 103, .int .u8 34, .int .u8 58, .int .u8 91, .int .u8 93, .int .u8 44, .int .u8 34, .int .u8 109, .int .u8 101, .int .u8 116, .int .u8 104, .int .u8 111, .int .u8 100, .int .u8 67, .int .u8 97, .int .u8 108, .int .u8 108, .int .u8 115, .int .u8 34, .int .u8 58, .int .u8 91, .int .u8 93, .int .u8 125] 5 (29, 30))) (fun e w' => ∃ (A : Option Addr) (c : Nat), e = .returned (.tuple #[.slice A 0 c, .string ⟨#[]⟩]) ∧ Below (w.alloc (.cells #[.int .u8 123, .int .u8 34, .int .u8 117, .int .u8 115, .int .u8 105, .int .u8 110, .int .u8 103, .int .u8 34, .int .u8 58, .int .u8 91, .int .u8 93, .int .u8 44, .int .u8 34, .int .u8 109, .int .u8 101, .int .u8 116, .int .u8 104, .int .u8 111, .int .u8 100, .int .u8 67, .int .u8 97, .int .u8 108, .int .u8 108, .int .u8 115, .int .u8 34, .int .u8 58, .int .u8 91, .int .u8 93, .int .u8 125] 5 (29, 30))).heap.size (w.alloc (.cells #[.int .u8 123, .int .u8 34, .int .u8 117, .int .u8 115, .int .u8 105, .int .u8 110, .int .u8 103, .int .u8 34, .int .u8 58, .int .u8 91, .int .u8 93, .int .u8 44, .int .u8 34, .int .u8 109, .int .u8 101, .int .u8 116, .int .u8 104, .int .u8 111, .int .u8 100, .int .u8 67, .int .u8 97, .int .u8 108, .int .u8 108, .int .u8 115, .int .u8 34, .int .u8 58, .int .u8 91, .int .u8 93, .int .u8 125] 5 (29, 30))) w')) := by
    have hby : BytesAt (w.alloc (.cells #[.int .u8 123, .int .u8 34, .int .u8 117, .int .u8 115, .int .u8 105, .int .u8 110, .int .u8 103, .int .u8 34, .int .u8 58, .int .u8 91, .int .u8 93, .int .u8 44, .int .u8 34, .int .u8 109, .int .u8 101, .int .u8 116, .int .u8 104, .int .u8 111, .int .u8 100, .int .u8 67, .int .u8 97, .int .u8 108, .int .u8 108, .int .u8 115, .int .u8 34, .int .u8 58, .int .u8 91, .int .u8 93, .int .u8 125] 5 (29, 30))) (some ⟨w.heap.size, 0, none⟩) 29 ⟨#[123, 34, 117, 115, 105, 110, 103, 34, 58, 91, 93, 44, 34, 109, 101, 116, 104, 111, 100, 67, 97, 108, 108, 115, 34, 58, 91, 93, 125]⟩ := by
      refine BytesAt.of_cells (fun _ => by simp) (fun i hi => ?_)
      have hi : i < 29 := hi
      rw [World.cell?_alloc_mark]
      have : i = 0 ∨ i = 1 ∨ i = 2 ∨ i = 3 ∨ i = 4 ∨ i = 5 ∨ i = 6 ∨ i = 7 ∨ i = 8 ∨ i = 9 ∨ i = 10 ∨ i = 11 ∨ i = 12 ∨ i = 13 ∨ i = 14 ∨ i = 15 ∨ i = 16 ∨ i = 17 ∨ i = 18 ∨ i = 19 ∨ i = 20 ∨ i = 21 ∨ i = 22 ∨ i = 23 ∨ i = 24 ∨ i = 25 ∨ i = 26 ∨ i = 27 ∨ i = 28 := by omega
      rcases this with rfl | rfl | rfl | rfl | rfl | rfl | rfl | rfl | rfl | rfl | rfl | rfl | rfl | rfl | rfl | rfl | rfl | rfl | rfl | rfl | rfl | rfl | rfl | rfl | rfl | rfl | rfl | rfl | rfl <;> rfl
    exact (kRead_any ⟨#[123, 34, 117, 115, 105, 110, 103, 34, 58, 91, 93, 44, 34, 109, 101, 116, 104, 111, 100, 67, 97, 108, 108, 115, 34, 58, 91, 93, 125]⟩ _ _ _ hby).mono (fun e w' h => ReadP.none_ (by rw [lit_toList]; exact reqA_r) h)
  have HP2 : Hid (∀ w1 : World, Calls Tryd.prog 20 #[.slice (some ⟨w1.heap.size, 0, none⟩) 2 2] (w1.alloc (.cells #[.int .u8 123, .int .u8 125] 5 (2, 3))) (fun e w' => ∃ (A : Option Addr) (c : Nat), e = .returned (.tuple #[.slice A 0 c, .string notR]) ∧ Below (w1.alloc (.cells #[.int .u8 123, .int .u8 125] 5 (2, 3))).heap.size (w1.alloc (.cells #[.int .u8 123, .int .u8 125] 5 (2, 3))) w')) := fun w1 => by
    have hby : BytesAt (w1.alloc (.cells #[.int .u8 123, .int .u8 125] 5 (2, 3))) (some ⟨w1.heap.size, 0, none⟩) 2 ⟨#[123, 125]⟩ := by
      refine BytesAt.of_cells (fun _ => by simp) (fun i hi => ?_)
      have hi : i < 2 := hi
      rw [World.cell?_alloc_mark]
      have : i = 0 ∨ i = 1 := by omega
      rcases this with rfl | rfl <;> rfl
    exact (kRead_any ⟨#[123, 125]⟩ _ _ _ hby).mono (fun e w' h => ReadP.bad (by rw [lit_toList]; exact req1_r) h)
  unfold notR at HP2
  have HA : Hid (Below w.heap.size w (w.alloc (.cells #[.int .u8 123, .int .u8 34, .int .u8 117, .int .u8 115, .int .u8 105, .int .u8 110, .int .u8 103, .int .u8 34, .int .u8 58, .int .u8 91, .int .u8 93, .int .u8 44, .int .u8 34, .int .u8 109, .int .u8 101, .int .u8 116, .int .u8 104, .int .u8 111, .int .u8 100, .int .u8 67, .int .u8 97, .int .u8 108, .int .u8 108, .int .u8 115, .int .u8 34, .int .u8 58, .int .u8 91, .int .u8 93, .int .u8 125] 5 (29, 30)))) := (Below.refl _ _).alloc (Nat.le_refl _) _
  have kc := fun (w : World) (C : Array Value) (n c : Nat) => Lib.run_convert_bytes_const (P := Tryd.prog) w 52 5 C n c Tryd.underlying52 Tryd.underlying5
  go_enter Tryd.func8, Tryd.ntmps8
  go_wp2_with fail
  refine (HP.out : Calls _ _ _ _ _).mono ?_
  rintro e w1 ⟨A1, c1, rfl, hb⟩
  have HB := Lib.hid (nextB HA.out hb)
  clear hb
  go_wp2_with fail
  refine (HP2.out _ : Calls _ _ _ _ _).mono ?_
  rintro e w2 ⟨A2, c2, rfl, hb⟩
  have HB2 := Lib.hid (nextB (HB.out.alloc HB.out.size _) hb)
  clear hb
  go_wp2_with fail
  go_ret
  exact ⟨rfl, HB2.out⟩
def ObjNew (n : Nd) (w : World) (e : Ending) (w' : World) : Prop := ∃ (c0 c1 : Int) (c2 : ByteArray) (c3 : Option Addr) (c4 c5 : Nat) (c6 : Option Addr) (c7 c8 : Nat),
  e = .returned (.agg #[.int .i64 c0, .int .i64 c1, .string c2, .slice c3 c4 c5, .slice c6 c7 c8]) ∧ NdIs w' w'.heap.size n [.int .i64 c0, .int .i64 c1, .string c2, .slice c3 c4 c5, .slice c6 c7 c8] ∧ Below w.heap.size w w' ∧ (∀ ad, c3 = some ad → w.heap.size ≤ ad.block) ∧ (∀ ad, c6 = some ad → w.heap.size ≤ ad.block)
theorem NdIs.leafKeep {w w' : World} {B B' : Nat} {k n : Int} {t : ByteArray} {ks : List ByteArray} {ns : List Nd} {c0 c1 : Int} {c2 : ByteArray} {c3 : Option Addr} {c4 c5 : Nat} {c6 : Option Addr} {c7 c8 : Nat} (h : NdIs w B (.mk k n t ks ns) [.int .i64 c0, .int .i64 c1, .string c2, .slice c3 c4 c5, .slice c6 c7 c8])
    (hl : ∀ m ∈ ns, m.keys = [] ∧ m.kids = []) (hB : B ≤ B') (hk : ∀ (ad : Addr) (j : Nat), c3 = some ad ∨ c6 = some ad → ad.block < B → w'.cell? (ad.add j) = w.cell? (ad.add j)) : NdIs w' B' (.mk k n t ks ns) [.int .i64 c0, .int .i64 c1, .string c2, .slice c3 c4 c5, .slice c6 c7 c8] := by
  unfold NdIs at h ⊢
  obtain ⟨K, kc, A, c, xs, he, h1, h2, h3, h4⟩ := h
  have he2 := he
  simp only [List.cons.injEq, Value.int.injEq, Value.string.injEq, Value.slice.injEq, and_true, true_and] at he2
  obtain ⟨-, -, -, ⟨e4, -, -⟩, e7, -, -⟩ := he2
  refine ⟨K, kc, A, c, xs, he, ?_, ?_, leaves_is _ _ hl h3, h4⟩
  · refine ⟨h1.1, fun h0 => ?_⟩
    obtain ⟨ad, e, hb, hc⟩ := h1.2 h0
    exact ⟨ad, e, by omega, fun j u hj => by rw [hk ad j (.inl (by rw [e4, e])) hb]; exact hc j u hj⟩
  · refine ⟨h2.1, fun h0 => ?_⟩
    obtain ⟨ad, e, hb, hc⟩ := h2.2 h0
    exact ⟨ad, e, by omega, fun j u hj => by rw [hk ad j (.inr (by rw [e7, e])) hb]; exact hc j u hj⟩
set_option maxRecDepth 100000 in
set_option maxHeartbeats 4000000 in
theorem rObj_in (ns : List Nd) (A : Option Addr) (cc : Nat) (xs : List Value) (w : World) (hxs : Reads w w.heap.size 5 A ns.length xs) (hns : NdsIs w w.heap.size ns xs) (hlen : ns.length ≤ 1000000) :
    Calls Tryd.prog 12 #[.slice A ns.length cc] w (ObjNew (objO ns) w) := by
  have HXS := Lib.hid hxs
  have HNS := Lib.hid hns
  have HTX : Hid (∀ n ∈ ns, n.text.size ≤ maxLen) := fun n hn => by
    obtain ⟨i, hi⟩ := List.mem_iff_getElem?.1 hn
    obtain ⟨cs, h1, _⟩ := NdsIs.at_ ns xs i n hns hi
    obtain ⟨_, _, _, _, _, _, _, _, _, _, _, h2, _⟩ := h1.open_
    exact h2
  have I0 := Lib.hid (OI.start w)
  clear hxs hns
  go_enter Tryd.func12, Tryd.ntmps12
  go_wp2_with fail
  generalize (w.alloc (.cells #[.int .i64 0, .int .i64 0, .string ⟨#[]⟩, .slice none 0 0, .slice none 0 0] 25)).alloc (.cells #[.int .i64 7, .int .i64 0, .string ⟨#[]⟩, .slice none 0 0, .slice none 0 0] 25) = W at *
  go_loopw [4] (fun t4 wr => ∃ (j : Nat) (ks : List ByteArray) (ms : List Nd) (K : Option Addr) (kc : Nat) (A2 : Option Addr) (c2 : Nat) (ys : List Value), j ≤ ns.length + 1 ∧ ks.length ≤ j ∧ ms.length ≤ j ∧ t4 = .int .i64 j ∧ Hid (keysO ns = ks ++ keysO (ns.drop j) ∧ kidsO ns = ms ++ kidsO (ns.drop j)) ∧ Hid (OI w wr ks ms K kc A2 c2 ys)) (fun t4 _ => ns.length + 1 - (intOf t4).toNat)
  case atStart => exact ⟨0, [], [], none, 0, none, 0, [], by omega, by simp, by simp, rfl, ⟨rfl, rfl⟩, I0⟩
  case round =>
    clear I0
    obtain ⟨j, ks, ms, K, kc, A2, c2, ys, hj, hkl, hml, rfl, hO, hI⟩ := hrel
    obtain ⟨wo, rfl⟩ : ∃ wo : World, wo = wr := ⟨_, rfl⟩
    have x1 : IntKind.i64.wrap ((j : Int) + 1) = (j : Int) + 1 := IntWalk.i64_in _ (by omega)
    have x2 : IntKind.i64.wrap ((j : Int) + 2) = (j : Int) + 2 := IntWalk.i64_in _ (by omega)
    by_cases hlt : j + 1 < ns.length
    · have hsz := hI.out.low.size
      have hkeep : ∀ p : Addr, p.block < w.heap.size → wo.cell? p = w.cell? p := fun p hp => hI.out.low.cell hp
      obtain ⟨ad, na, v0, v1, v2, v3, v4, rfl, hadb, hna, hnda, e0, e1, e2, e3, e4⟩ := (HXS.out.keep hkeep).nd (NdsIs.keep hkeep _ _ HNS.out) (show j < ns.length by omega)
      obtain ⟨ad2, nb, y0', y1', y2', y3', y4', had2, hadb2, hnb, hndb, g0, g1, g2, g3, g4⟩ := (HXS.out.keep hkeep).nd (NdsIs.keep hkeep _ _ HNS.out) hlt
      injection had2 with had2
      subst had2
      obtain ⟨z0, z1, z2, z3, z4, z5, z6, z7, z8, rfl, rfl, rfl, rfl, rfl⟩ := hnda.form
      obtain ⟨y0, y1, y2, y3, y4, y5, y6, y7, y8, rfl, rfl, rfl, rfl, rfl⟩ := hndb.form
      obtain ⟨-, ht, -⟩ := NdIs.cells_ hnda
      subst ht
      obtain ⟨hk1, hk2⟩ := keysO_at hna hnb
      have HO2 : Hid (keysO ns = (ks ++ [na.text]) ++ keysO (ns.drop (j + 2)) ∧ kidsO ns = (ms ++ [nb]) ++ kidsO (ns.drop (j + 2))) := by
        obtain ⟨h1, h2⟩ := hO.out
        exact ⟨by rw [h1, hk1, List.append_assoc]; rfl, by rw [h2, hk2, List.append_assoc]; rfl⟩
      have HNB := Lib.hid hndb
      have i0 : (0 : Int) ≤ (j : Int) := by omega
      have i1 : (j : Int) < (ns.length : Int) := by omega
      have i2 : (0 : Int) ≤ (j : Int) + 1 := by omega
      have i3 : (j : Int) + 1 < (ns.length : Int) := by omega
      have i4 : ((j : Int) + 1).toNat = j + 1 := by omega
      have hbw : ad.block < wo.heap.size := by omega
      have hadw : ad.block < w.heap.size := hadb
      have hk6 : ks.length ≤ 1000001 := by omega
      have hm6 : ms.length ≤ 1000001 := by omega
      have nc3 := hI.out.node.cell 3
      have LA : Hid (OI w (wo.alloc (.cells #[.string na.text] 9)).drew ks ms K kc A2 c2 ys) := hI.out.below ((Below.refl _ _).alloc (Nat.le_refl _) _).drew
      have la3 : (wo.alloc (.cells #[.string na.text] 9)).cell? ⟨w.heap.size + 1, 3, none⟩ = some (.slice K ks.length kc) := LA.out.node.cell 3
      have la5 : (wo.alloc (.cells #[.string na.text] 9)).cell? ⟨(ad.add (j * 5)).block, (ad.add (j * 5)).off + 2, none⟩ = some (.string na.text) := (World.cell?_alloc_lt _ _ _ (by rw [show (⟨(ad.add (j * 5)).block, (ad.add (j * 5)).off + 2, none⟩ : Addr).block = ad.block from block_of_add _ _]; exact hbw)).trans e2
      have HLW := Lib.hid hkeep
      clear hna hnb hnda hndb hk1 hk2 hkeep hO
      go_wp2_with fail
      go_cut [] (fun wx => ∃ (K3 : Option Addr) (kc3 : Nat), Hid (OI w wx (ks ++ [na.text]) ms K3 kc3 A2 c2 ys))
      case first =>
        go_region_law (first
          | (refine step_pushStr rfl _ _ rfl (w.heap.size + 2) (.slice K ks.length kc) ks.length (ks.map Value.string) (by rfl) LA.out.keys (wo.heap.size + 1) (some ⟨wo.heap.size, 0, none⟩) 1 na.text (by rfl) (str_reads wo na.text) (by omega) LA.out.size ?_; intro v5 w5 p1 p2 p3; obtain ⟨g, cp, rfl, hg1, hg2⟩ := World.ownsRow.form p1 (by omega); have LP := Lib.hid (LA.out.key p1 p2 p3); have n5 := LA.out.node.grown p2 (fun e => by have := (own_lt LA.out.keys e.symm).1; omega); have l5c := n5.cell 3; have l5f := n5.frozen 3; clear n5 p1 p2 p3)
          | (go_simp; fail))
        all_goals
          go_wp2_with fail
          go_meet
          exact ⟨_, _, LP⟩
      case rest =>
        obtain ⟨K3, kc3, hI3⟩ := hcut
        obtain ⟨wo, rfl⟩ : ∃ wo : World, wo = wc := ⟨_, rfl⟩
        obtain ⟨ks', hks'⟩ : ∃ ks', ks' = ks ++ [na.text] := ⟨_, rfl⟩
        rw [← hks'] at hI3 HO2
        have hkl' : ks'.length = ks.length + 1 := by rw [hks', List.length_append]; simp
        have HKL := Lib.hid hkl'
        clear hks' hkl' nc3 LA la3 la5 e0 e1 e2 e3 e4
        have hsz := hI3.out.low.size
        have hlow : ∀ p : Addr, p.block < w.heap.size → wo.cell? p = w.cell? p := fun p hp => hI3.out.low.cell hp
        have HNB3 : Hid (NdIs wo w.heap.size nb [.int .i64 y0, .int .i64 y1, .string y2, .slice y3 y4 y5, .slice y6 y7 y8]) := NdIs.keep (fun p hp => (hlow p hp).trans (HLW.out p hp).symm) _ _ HNB.out
        have e0 := (hlow (ad.add ((j + 1) * 5)) (by rw [block_of_add]; exact hadw)).trans ((HLW.out _ (by rw [block_of_add]; exact hadw)).symm.trans g0)
        have e1 := (hlow ⟨(ad.add ((j + 1) * 5)).block, (ad.add ((j + 1) * 5)).off + 1, none⟩ (by show (ad.add _).block < _; rw [block_of_add]; exact hadw)).trans ((HLW.out _ (by show (ad.add _).block < _; rw [block_of_add]; exact hadw)).symm.trans g1)
        have e2 := (hlow ⟨(ad.add ((j + 1) * 5)).block, (ad.add ((j + 1) * 5)).off + 2, none⟩ (by show (ad.add _).block < _; rw [block_of_add]; exact hadw)).trans ((HLW.out _ (by show (ad.add _).block < _; rw [block_of_add]; exact hadw)).symm.trans g2)
        have e3 := (hlow ⟨(ad.add ((j + 1) * 5)).block, (ad.add ((j + 1) * 5)).off + 3, none⟩ (by show (ad.add _).block < _; rw [block_of_add]; exact hadw)).trans ((HLW.out _ (by show (ad.add _).block < _; rw [block_of_add]; exact hadw)).symm.trans g3)
        have e4 := (hlow ⟨(ad.add ((j + 1) * 5)).block, (ad.add ((j + 1) * 5)).off + 4, none⟩ (by show (ad.add _).block < _; rw [block_of_add]; exact hadw)).trans ((HLW.out _ (by show (ad.add _).block < _; rw [block_of_add]; exact hadw)).symm.trans g4)
        have hbw2 : ad.block < wo.heap.size := by omega
        have nc4 := hI3.out.node.cell 4
        have LB : Hid (OI w (wo.alloc (.cells #[.int .i64 y0, .int .i64 y1, .string y2, .slice y3 y4 y5, .slice y6 y7 y8] 25)).drew ks' ms K3 kc3 A2 c2 ys) := hI3.out.below ((Below.refl _ _).alloc (Nat.le_refl _) _).drew
        have HNB4 : Hid (NdIs (wo.alloc (.cells #[.int .i64 y0, .int .i64 y1, .string y2, .slice y3 y4 y5, .slice y6 y7 y8] 25)).drew w.heap.size nb [.int .i64 y0, .int .i64 y1, .string y2, .slice y3 y4 y5, .slice y6 y7 y8]) := HNB3.out.below (((Below.refl _ _).alloc hsz _).drew)
        have la4 : (wo.alloc (.cells #[.int .i64 y0, .int .i64 y1, .string y2, .slice y3 y4 y5, .slice y6 y7 y8] 25)).cell? ⟨w.heap.size + 1, 4, none⟩ = some (.slice A2 ms.length c2) := LB.out.node.cell 4
        clear g0 g1 g2 g3 g4 hlow HNB HNB3 HLW
        go_wp2_with fail
        go_region_law (first
          | (refine step_pushNd rfl _ _ rfl (w.heap.size + 2) (.slice A2 ms.length c2) ms.length ys (by rfl) LB.out.own (wo.heap.size + 1) (some ⟨wo.heap.size, 0, none⟩) 1 [.int .i64 y0, .int .i64 y1, .string y2, .slice y3 y4 y5, .slice y6 y7 y8] (by rfl) (node_reads wo _ rfl) cells_one (by omega) LB.out.size ?_; intro v5 w5 p1 p2 p3; obtain ⟨g, cp, rfl, hg1, hg2⟩ := World.ownsRow.form p1 (by omega); have LP := Lib.hid (LB.out.kid HNB4.out p1 p2); have n5 := LB.out.node.grown p2 (fun e => by have := (own_lt LB.out.own e.symm).1; omega); have l5c := n5.cell 4; have l5f := n5.frozen 4; clear n5 p1 p2 p3)
          | (go_simp; fail))
        all_goals
          have HIN := LP
          clear nc4 LB HNB4 la4 e0 e1 e2 e3 e4
          go_wp2_with fail
          go_roundw
          case rel => exact ⟨j + 2, ks', ms ++ [nb], K3, kc3, _, _, _, by omega, by have := HKL.out; omega, by rw [List.length_append]; simp; omega, by go_num, HO2, HIN⟩
          case measure => simp [intOf]; omega
    · have HE : Hid (keysO ns = ks ∧ kidsO ns = ms) := by
        obtain ⟨h1, h2⟩ := hO.out
        have h3 := keysO_end (ns := ns) (j := j) (by omega)
        rw [h3.1, List.append_nil] at h1
        rw [h3.2, List.append_nil] at h2
        exact ⟨h1, h2⟩
      have i3 : ¬ (j : Int) + 1 < (ns.length : Int) := by omega
      obtain ⟨e1, e2⟩ := HE.out
      have HE2 : Hid (objO ns = .mk 7 0 ⟨#[]⟩ ks ms) := by show _ = _; unfold objO; rw [e1, e2]
      have HKS : Hid (∀ t ∈ ks, t.size ≤ maxLen) := by rw [← e1]; exact keysO_text HTX.out
      have HI := hI
      have HGR : Hid (w.grownBy wo (some w.heap.size)) := ⟨hI.out.low.os, hI.out.low.tape, hI.out.low.output, hI.out.low.size, fun i hi _ => hI.out.low.block i hi⟩
      obtain ⟨n0, n1, n2, n3, n4⟩ := hI.out.node.cells5
      obtain ⟨z0, z1, z2, z3, z4⟩ := hI.out.res.cells5
      have f0 := hI.out.res.frozen 0
      have f1 := hI.out.res.frozen 1
      have f2 := hI.out.res.frozen 2
      have f3 := hI.out.res.frozen 3
      have f4 := hI.out.res.frozen 4
      obtain ⟨hfin, hgr, hsz, hot⟩ := laid5 hI.out.res HGR.out (Nat.le_refl _) (.int .i64 7) (.int .i64 0) (.string ⟨#[]⟩) (.slice K ks.length kc) (.slice A2 ms.length c2)
      have HFIN := Lib.hid hfin; have HGF := Lib.hid hgr; have HSZ := Lib.hid hsz; have HOT := Lib.hid hot
      clear hfin hgr hsz hot e1 e2 hO HE
      go_wp2_with fail
      clear f0 f1 f2 f3 f4 z0 z1 z2 z3 z4 n0 n1 n2 n3 n4
      generalize (((((wo.setCell ⟨w.heap.size, 0, none⟩ (.int .i64 7)).setCell ⟨w.heap.size, 1, none⟩ (.int .i64 0)).setCell ⟨w.heap.size, 2, none⟩ (.string ⟨#[]⟩)).setCell ⟨w.heap.size, 3, none⟩ (.slice K ks.length kc)).setCell ⟨w.heap.size, 4, none⟩ (.slice A2 ms.length c2)) = WF at *
      obtain ⟨q0, q1, q2, q3, q4⟩ := HFIN.out.cells5
      refine bodyPost_ret (v := .agg #[.int .i64 7, .int .i64 0, .string ⟨#[]⟩, .slice K ks.length kc, .slice A2 ms.length c2]) (by simp [results, Tryd.results12, go_sem, q0, q1, q2, q3, q4]) rfl ?_
      have hk0 := HI.out.keys
      have ho0 := HI.out.own
      refine ⟨_, _, _, _, _, _, _, _, _, rfl, ?_, grown_lo HGF.out (Nat.le_refl _) (Nat.le_refl _), fun ad e => ?_, fun ad e => ?_⟩
      rotate_left
      · subst e; have := (own_lt hk0 rfl).1; omega
      · subst e; have := (own_lt ho0 rfl).1; omega
      rw [HE2.out]
      exact HI.out.is HKS.out (fun b hb => HOT.out b hb) HSZ.out
theorem obj_freshI (ns : List Nd) (xs : List Value) (w : World) (hns : NdsIs w w.heap.size ns xs) (hl : xs.length = ns.length * 5) (hlen : ns.length ≤ 1000000) (cc : Nat) :
    Calls Tryd.prog 12 #[.slice (some ⟨w.heap.size, 0, none⟩) ns.length cc] (w.alloc (.cells xs.toArray 25)) (ObjNew (objO ns) (w.alloc (.cells xs.toArray 25))) := by
  have hal : Below w.heap.size w (w.alloc (.cells xs.toArray 25)) := (Below.refl _ _).alloc (Nat.le_refl _) _
  exact rObj_in ns _ cc xs _ (fresh_rows w 25 5 ns.length xs hl _ (by simp)) (NdsIs.more hal.size _ _ (NdsIs.keep (fun p hp => hal.cell hp) _ _ hns)) hlen
end Go.Proofs.YthbjehbpanhdoaaDoor
