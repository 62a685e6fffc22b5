/- Texts of one seat, one behind the other: Jval6, Jval7, Jpar0, Jpar1, Pj5, Pj6, Pj7, Rput, Rprint, Jlaw0. No condition. -/
import Derived.Test.YtjigceoponlphaaQ5
import Derived.Defers
import Derived.Recover
import Derived.Laws.Pointers
import Derived.OpenShut
import Derived.Lib.SlBytesConst
import Derived.Lib.SmallJoins
/-! The walk of json's value: objects. -/
namespace Go.Proofs.Ytjigceoponlphaa
open Go.RowKit Go.PlainAid
set_option linter.unusedVariables false
set_option linter.unusedSimpArgs false
/-- one key and kid more -/
def objP (deep : Nat) (st : List ByteArray × List Nd) (l : List UInt8) : Except Int ((List ByteArray × List Nd) × List UInt8) :=
  match kidL deep l st.1 with
  | .error e => .error e
  | .ok (t, n, r) => .ok ((st.1 ++ [⟨t.toArray⟩], st.2 ++ [n]), r)
def objN (st : List ByteArray × List Nd) : Nat := max st.1.length st.2.length
theorem obj_many (deep : Nat) : ManyEq (objP deep) (fun st : List ByteArray × List Nd => .mk 7 0 ⟨#[]⟩ st.1 st.2) 125 (fun (st : List ByteArray × List Nd) l => objL deep l st.1 st.2) := by
  intro st l
  show objL deep l st.1 st.2 = _
  rw [objL_eq]
  unfold objP kidL
  cases textL (blanksL l) with
  | none => rfl
  | some p =>
    obtain ⟨k, r⟩ := p
    simp only
    split
    · rfl
    split
    · cases valL (deep + 1) (blanksL (blanksL r).tail) with
      | error e => rfl
      | ok p => rfl
    · rfl
theorem kid_rest {deep : Nat} {l : List UInt8} {ks : List ByteArray} {t : List UInt8} {n : Nd} {r : List UInt8} (h : kidL deep l ks = .ok (t, n, r)) : Rest r l := by
  unfold kidL at h
  cases ht : textL l with
  | none => rw [ht] at h; cases h
  | some p =>
    obtain ⟨k, r0⟩ := p
    rw [ht] at h
    simp only at h
    split at h
    · cases h
    split at h
    · rename_i h58
      cases hv : valL (deep + 1) (blanksL (blanksL r0).tail) with
      | error e => rw [hv] at h; cases h
      | ok p =>
        obtain ⟨x, r1⟩ := p
        rw [hv] at h
        simp only [Except.ok.injEq, Prod.mk.injEq] at h
        obtain ⟨rfl, rfl, rfl⟩ := h
        have h1 : Rest r0 l := textL_le ht
        have h2 := (valL_le hv).blanks
        exact h2.trans (((List.tail_suffix _).trans (blanksL_suf r0)).trans h1.1)
    · cases h
theorem obj_rest (deep : Nat) (st : List ByteArray × List Nd) (l : List UInt8) (ms : List ByteArray × List Nd) (r : List UInt8) (h : objP deep st l = .ok (ms, r)) : Rest r l ∧ objN ms ≤ objN st + 1 := by
  unfold objP at h
  cases hv : kidL deep l st.1 with
  | error e => rw [hv] at h; cases h
  | ok p =>
    obtain ⟨t, n, r'⟩ := p
    rw [hv] at h
    simp only [Except.ok.injEq, Prod.mk.injEq] at h
    obtain ⟨rfl, rfl⟩ := h
    refine ⟨kid_rest hv, ?_⟩
    unfold objN
    simp only [List.length_append, List.length_cons, List.length_nil]
    omega
theorem key_le : ∀ (ms : List Nd) (kk : List ByteArray), kk.length = ms.length → ∀ k ∈ kk, k.size ≤ (putL true kk ms true).length
  | [], [], _, k, hk => by simp at hk
  | [], _ :: _, h, _, _ => by simp at h
  | n :: ms, [], h, _, _ => by simp at h
  | n :: ms, a :: kk, h, k, hk => by
    rw [putL_len, if_pos rfl, List.headD_cons, List.tail_cons]
    rcases List.mem_cons.1 hk with rfl | hk
    · have := quote_ge k.toList
      rw [tl_len'] at this
      omega
    · have := key_le ms kk (by simpa using h) k hk
      have hne : ms ≠ [] := by
        rintro rfl
        have : kk = [] := List.eq_nil_of_length_eq_zero (by simpa using h)
        subst this; simp at hk
      rw [if_neg hne]
      omega
theorem obj_keys {deep : Nat} {l : List UInt8} {ks : List ByteArray} {ns : List Nd} {r : List UInt8} (hd : deep < 24) (h : objL deep l [] [] = .ok (.mk 7 0 ⟨#[]⟩ ks ns, r)) : ∀ k ∈ ks, k.size ≤ l.length := by
  obtain ⟨kk, ms, _, h2, h3, _, _, _, h4⟩ := (val_ok _).2.2 deep l [] [] _ r (Nat.le_refl _) hd h
  simp only [List.nil_append, Nd.mk.injEq, true_and] at h3
  obtain ⟨rfl, rfl⟩ := h3
  intro k hk
  have := key_le ns ks h2 k hk
  omega
theorem obj_node {w0 w1 w7 WF : World} {nb rB dB rb h : Nat} {deep : Int} {ks : List ByteArray} {ns : List Nd} {K : Option Addr} {kc : Nat} {A : Option Addr} {c : Nat} {ys : List Value} (hI : OInv w1 nb rB dB rb h deep ks ns w7 K kc A c ys) (hks : ∀ k ∈ ks, k.size ≤ 1000000000) (hh : w0.heap.size + 3 ≤ h) (hot : ∀ g, g ≠ w0.heap.size + 1 + 1 → WF.heap[g]? = w7.heap[g]?) (hsz : WF.heap.size = w7.heap.size) :
    NdIn WF (Since w0 WF) (.mk 7 0 ⟨#[]⟩ ks ns) [.int .i64 7, .int .i64 0, .string ⟨#[]⟩, .slice K ks.length kc, .slice A ns.length c] := by
  unfold NdIn
  refine ⟨K, kc, A, c, ys, rfl, ?_, ?_, ?_, by unfold I64; omega, by unfold I64; omega, by decide, fun k hk => by have := hks k hk; simp only [maxLen]; omega, own_len hI.keys, own_len hI.own⟩
  · refine ((own_RS hI.keys).keep (fun p hp => World.cell?_of_block (hot p.block (by have := hp.1; omega)))).mono (fun b hb => ⟨by have := hb.1; omega, by rw [hsz]; exact hb.2⟩)
  · refine ((own_RS hI.own).keep (fun p hp => World.cell?_of_block (hot p.block (by have := hp.1; omega)))).mono (fun b hb => ⟨by have := hb.1; omega, by rw [hsz]; exact hb.2⟩)
  · exact NdsIn.keep (fun p hp => World.cell?_of_block (hot p.block (by have := hp.1.1; omega))) (fun b hb => ⟨by have := hb.1.1; omega, by rw [hsz]; exact hb.1.2.1⟩) _ _ hI.kids
theorem obj_start {w w2 : World} {rb : Nat} {deep : Int} (h : VInv w rb deep w2) : OIs w2 w2.heap.size w.heap.size (w.heap.size + 1) rb (w2.heap.size + 1) deep [] [] (w2.alloc (.cells #[.int .i64 7, .int .i64 0, .string ⟨#[]⟩, .slice none 0 0, .slice none 0 0] 27)) :=
  ⟨none, 0, none, 0, [], Blk.new _ _ _, World.ownsRow_nil _ _ _ _, World.ownsRow_nil _ _ _ _, NdsIn.nil, h.rbox.alloc _, h.dbox.alloc _, grown_alloc (grown_refl _ _) _, by simp⟩
set_option maxRecDepth 100000 in
set_option maxHeartbeats 4000000 in
theorem value_obj (rb : Nat) (s : ByteArray) (deep k : Nat) (w : World) (h : RdSt w rb s k) (hk : k ≤ s.size) (hs : s.size ≤ 1000000) (hlt : k < s.size) (hdp : deep < 24) (q : bt s k = 123) (u : UInt8) (rest : List UInt8) (hd : s.toList.drop k = u :: rest) (hu : bt s k = u.toNat) (HV : Hid (∀ k' w', k < k' → k' ≤ s.size → RdSt w' rb s k' → ValC rb s (deep + 1) k' w')) (r : Except Int (Nd × List UInt8)) (hy : (s.toList.drop k).take 1 = [123])
    (hr : r = if (blanksL ((s.toList.drop k).drop 1)).head? = some 125 then .ok (.mk 7 0 ⟨#[]⟩ [] [], (blanksL ((s.toList.drop k).drop 1)).tail) else objL deep (blanksL ((s.toList.drop k).drop 1)) [] []) :
    Calls Try.prog 23 #[.pointer (some ⟨rb, 0, none⟩), .int .i64 deep] w (ValEnd rb s r w) := by
  have HR := Lib.hid hr
  have HY := Lib.hid hy
  have une : ∀ c : UInt8, ¬ bt s k = c.toNat → u ≠ c := fun c h e => h (by rw [hu, e])
  have q91 : ¬ bt s k = 91 := by omega
  have HU91 := Lib.hid (une 91 q91)
  have HD := Lib.hid hd
  clear hr hy hd hu une
  have n91 : (bt s k == 91) = false := by rw [beq_eq_false_iff_ne]; exact q91
  have hdI : ¬ (24 : Int) ≤ (deep : Int) := by omega
  have ne1 : ((k : Int) == (s.size : Int)) = false := by rw [beq_eq_false_iff_ne]; omega
  have i1 : (k : Int) < (s.size : Int) := by omega
  have b0 := bt_nonneg s k
  have b1 := bt_le s k
  have hb := get_bt s
  have V0 := Lib.hid (VInv.start w rb deep h.lt)
  have R0 : Hid (RdSt (((w.alloc (.cells #[.pointer (some ⟨rb, 0, none⟩)] 50)).alloc (.cells #[.int .i64 deep] 3)).alloc (.cells #[.int .i64 0, .int .i64 0, .string ⟨#[]⟩, .slice none 0 0, .slice none 0 0] 27)) rb s k) := ((h.alloc _).alloc _).alloc _
  have hrb : rb < w.heap.size := h.lt
  have i0 : (0 : Int) ≤ (k : Int) := by omega
  clear h
  go_enter Try.func23, Try.ntmps23
  go_wp2_with fail
  generalize (((w.alloc (.cells #[.pointer (some ⟨rb, 0, none⟩)] 50)).alloc (.cells #[.int .i64 deep] 3)).alloc (.cells #[.int .i64 0, .int .i64 0, .string ⟨#[]⟩, .slice none 0 0, .slice none 0 0] 27)) = W at *
  have r0 : W.cell? ⟨w.heap.size, 0, none⟩ = some (.pointer (some ⟨rb, 0, none⟩)) := V0.out.rbox.cell 0
  have d0 : W.cell? ⟨w.heap.size + 1, 0, none⟩ = some (.int .i64 deep) := V0.out.dbox.cell 0
  obtain ⟨c0, c1, c2⟩ := R0.out.cells3
  go_quiet (fail)
  go_wp2_with fail
  go_quiet (fail)
  go_wp2_with fail
  clear r0 d0 c0 c1 c2
  have V1 : Hid (∀ n, VInv w rb deep (W.drewN n)) := fun n => V0.out.drewN n
  have R1 : Hid (∀ n, RdSt (W.drewN n) rb s k) := fun n => R0.out
  refine (may_no rb s ⟨#[91]⟩ k _ (R1.out _) hk hs (by decide) (by rw [lit_toList [91]]; exact fst_ne HD.out HU91.out)).mono ?_; rintro e w2 ⟨rfl, h9, g9⟩
  have V2 : Hid (VInv w rb deep w2) := (V1.out _).next g9
  have R2 := Lib.hid h9
  clear h9 g9
  have r2 : w2.cell? ⟨w.heap.size, 0, none⟩ = some (.pointer (some ⟨rb, 0, none⟩)) := V2.out.rbox.cell 0
  have d2 : w2.cell? ⟨w.heap.size + 1, 0, none⟩ = some (.int .i64 deep) := V2.out.dbox.cell 0
  go_wp2_with fail
  refine (may_yes rb s ⟨#[123]⟩ k _ R2.out hk hs (by rw [lit_toList [123]]; exact HY.out)).mono ?_; rintro e w3 ⟨rfl, k3, hk3, e3, h9, g9⟩
  have V3 : Hid (VInv w rb deep w3) := V2.out.next g9
  have R3 := Lib.hid h9
  have E3 := Lib.hid e3
  clear h9 g9 e3
  clear r2 d2
  have r3 : w3.cell? ⟨w.heap.size, 0, none⟩ = some (.pointer (some ⟨rb, 0, none⟩)) := V3.out.rbox.cell 0
  have d3 : w3.cell? ⟨w.heap.size + 1, 0, none⟩ = some (.int .i64 deep) := V3.out.dbox.cell 0
  have hmf : ∀ (fn : Fn) (first cap : Array Value) (w : World), (Instr.makeFunc fn first cap).run Try.prog w = .ok (.func fn first cap) w := fun _ _ _ _ => rfl
  have hk2k : k < k3 := by
    have e := congrArg List.length E3.out
    simp only [List.length_drop, tl_len'] at e
    have e1 : (⟨#[123]⟩ : ByteArray).size = 1 := rfl
    omega
  have z2 := V3.out.size
  have HKS0 : Hid (∀ ks ns l, r = .ok (.mk 7 0 ⟨#[]⟩ ks ns, l) → ∀ q ∈ ks, q.size ≤ 1000000000) := Lib.hid (by
    intro ks ns l e q hq
    rw [HR.out] at e
    split at e
    · simp only [Except.ok.injEq, Prod.mk.injEq, Nd.mk.injEq, true_and] at e
      rw [← e.1.1] at hq
      cases hq
    · have h1 := obj_keys hdp e q hq
      have h2 := blanksL_le ((s.toList.drop k).drop 1)
      simp only [List.length_drop, tl_len'] at h2
      omega)
  have HM : Hid (Calls Try.prog 31 #[.pointer (some ⟨rb, 0, none⟩), .string ⟨#[125]⟩, .func (.func 33) #[] #[.pointer (some ⟨w.heap.size, 0, none⟩), .pointer (some ⟨w3.heap.size, 0, none⟩), .pointer (some ⟨w.heap.size + 1, 0, none⟩)]] (w3.alloc (.cells #[.int .i64 7, .int .i64 0, .string ⟨#[]⟩, .slice none 0 0, .slice none 0 0] 27)) (ManyEnd rb s w3 (fun st : List ByteArray × List Nd => OIs w3 w3.heap.size w.heap.size (w.heap.size + 1) rb (w3.heap.size + 1) deep st.1 st.2) (fun st : List ByteArray × List Nd => .mk 7 0 ⟨#[]⟩ st.1 st.2) r)) := by
    have := many2_any (objP deep) (fun st : List ByteArray × List Nd => .mk 7 0 ⟨#[]⟩ st.1 st.2) 125 (fun (st : List ByteArray × List Nd) l => objL deep l st.1 st.2) (fun st : List ByteArray × List Nd => OIs w3 w3.heap.size w.heap.size (w.heap.size + 1) rb (w3.heap.size + 1) deep st.1 st.2) objN rb s k3 w3 ⟨w.heap.size, 0, none⟩ ⟨w3.heap.size, 0, none⟩ ⟨w.heap.size + 1, 0, none⟩ ⟨#[125]⟩ (lit_toList [125])
      (obj_many deep) (fun ns l ms r h => (obj_rest deep ns l ms r h).1) (fun ns l ms r h => (obj_rest deep ns l ms r h).2)
      (fun st w9 w9' ⟨K, kc, A, c, ys, hI⟩ g => ⟨K, kc, A, c, ys, hI.next g (by omega) (by omega) (by omega) (by omega)⟩) (fun st w9 ⟨K, kc, A, c, ys, hI⟩ => hI.grow)
      (fun st k9 w9 ⟨K, kc, A, c, ys, hI⟩ hr9 hk9 hk9s hn9 => by
        have hn9' : max st.1.length st.2.length ≤ k9 := hn9
        refine (value2_any w3 w3.heap.size w.heap.size (w.heap.size + 1) rb (w3.heap.size + 1) deep st.1 st.2 s k9 w9 K kc A c ys hI hr9 hk9s hs (by omega) (by omega) (by omega) (by omega) (by omega) (by omega) (by omega) (by omega) (by omega) (by omega) (by omega) (by omega) (by omega) (Lib.hid fun k' w' hkk hk's hw' => HV.out k' w' (by omega) hk's hw')).mono ?_
        intro e w' hp
        unfold PartE objP
        unfold PartO at hp
        cases hv : kidL deep (s.toList.drop k9) st.1 with
        | error c => rw [hv] at hp; exact hp
        | ok p => obtain ⟨t, n, l⟩ := p; rw [hv] at hp; exact hp)
      ([], []) k3 _ (obj_start V3.out) (R3.out.alloc _) (Nat.le_refl _) (Nat.zero_le _) hk3 hs
    rw [E3.out] at this
    show Calls _ _ _ _ _
    rw [HR.out]
    exact this
  have ra : (w3.alloc (.cells #[.int .i64 7, .int .i64 0, .string ⟨#[]⟩, .slice none 0 0, .slice none 0 0] 27)).cell? ⟨w.heap.size, 0, none⟩ = some (.pointer (some ⟨rb, 0, none⟩)) := (V3.out.rbox.alloc _).cell 0
  clear HR
  cases r with
  | error c9 =>
    go_wp2_with fail
    refine HM.out.mono ?_; rintro e w9 ⟨rfl, h9, g9⟩
    have H9 := Lib.hid h9
    have G9 := Lib.hid g9
    clear h9 g9
    go_wp2_with fail
    exact ⟨rfl, ValEnd.bad rfl ⟨rfl, H9.out, G9.out⟩ V3.out.grow⟩
  | ok p =>
    obtain ⟨n, l⟩ := p
    go_wp2_with fail
    refine HM.out.mono ?_; rintro e w7 ⟨rfl, ⟨⟨ks, ns⟩, hn, K, kc, A, c, ys, hI⟩, k7, hk7, e7, h9⟩
    subst hn
    have HKS := Lib.hid (HKS0.out ks ns l rfl)
    have HI := Lib.hid hI
    have V7 : Hid (VInv w rb deep w7) := V3.out.next hI.grow
    have R7 := Lib.hid h9
    have E7 := Lib.hid e7
    obtain ⟨a0, a1, a2, a3, a4⟩ := hI.node.cells5
    clear h9 e7 hI r3 d3 ra
    have f0 := V7.out.frozen 0
    have f1 := V7.out.frozen 1
    have f2 := V7.out.frozen 2
    have f3 := V7.out.frozen 3
    have f4 := V7.out.frozen 4
    obtain ⟨z0, z1, z2, z3, z4⟩ := V7.out.res.cells5
    obtain ⟨hfin, hgr, hsz, hot⟩ := V7.out.laid (.int .i64 7) (.int .i64 0) (.string ⟨#[]⟩) (.slice K ks.length kc) (.slice A ns.length c)
    have HFIN := Lib.hid hfin
    have HGR := Lib.hid hgr
    have HSZ := Lib.hid hsz
    have HOT := Lib.hid hot
    clear hfin hgr hsz hot
    go_wp2_with fail
    clear a0 a1 a2 a3 a4
    clear f0 f1 f2 f3 f4 z0 z1 z2 z3 z4
    generalize (((((w7.setCell ⟨w.heap.size + 1 + 1, 0, none⟩ (.int .i64 7)).setCell ⟨w.heap.size + 1 + 1, 1, none⟩ (.int .i64 0)).setCell ⟨w.heap.size + 1 + 1, 2, none⟩ (.string ⟨#[]⟩)).setCell ⟨w.heap.size + 1 + 1, 3, none⟩ (.slice K ks.length kc)).setCell ⟨w.heap.size + 1 + 1, 4, none⟩ (.slice A ns.length c)) = WF at *
    obtain ⟨q0, q1, q2, q3, q4⟩ := HFIN.out.cells5
    refine bodyPost_ret (v := .agg #[.int .i64 7, .int .i64 0, .string ⟨#[]⟩, .slice K ks.length kc, .slice A ns.length c]) (by simp [results, Try.results23, go_sem, q0, q1, q2, q3, q4]) rfl ?_
    exact ValEnd.good _ _ _ _ _ _ _ _ _ rfl rfl (obj_node HI.out HKS.out (by have := V3.out.size; omega) HOT.out HSZ.out) ⟨k7, hk7, E7.out, (HOT.out rb (by omega)).trans R7.out, HGR.out⟩
end Go.Proofs.Ytjigceoponlphaa
/-! The walk of json's value, whole. -/
namespace Go.Proofs.Ytjigceoponlphaa
open Go.RowKit Go.PlainAid
set_option linter.unusedVariables false
set_option linter.unusedSimpArgs false
theorem valL_nil (deep : Nat) : valL deep [] = .error 3 := by
  have hn : numL [] = none := by
    unfold numL numTail
    rw [if_neg (by simp), if_pos (.inl rfl)]
  rw [valL_else _ _ (by simp) (by simp) (by simp), if_neg (by simp), if_neg (by simp), if_neg (by simp), hn]
theorem value_any (rb : Nat) (s : ByteArray) (hs : s.size ≤ 1000000) : ∀ (m k deep : Nat) (w : World), s.size - k < m → deep ≤ 24 → k ≤ s.size → RdSt w rb s k → ValC rb s deep k w := by
  intro m
  induction m with
  | zero => intro k deep w hm; omega
  | succ m ih =>
    intro k deep w hm hd24 hk h
    by_cases hlt : k < s.size
    case neg => exact value_end rb s deep k w h hk hs hlt _ (by rw [drop_end s k (by omega)]; exact valL_nil deep)
    obtain ⟨u, hu, hd⟩ := drop_cons s k hlt
    have hne : ∀ c : UInt8, ¬ bt s k = c.toNat → (s.toList.drop k).head? ≠ some c := fun c h e => by
      rw [hd] at e
      simp at e
      exact h (by rw [hu, e])
    have heq : ∀ c : UInt8, bt s k = c.toNat → (s.toList.drop k).head? = some c := fun c h => by
      rw [hd]
      have : u = c := UInt8.toNat_inj.1 (by omega)
      rw [this]; rfl
    have IH : ∀ (deep : Nat), deep < 24 → Hid (∀ k' w', k < k' → k' ≤ s.size → RdSt w' rb s k' → ValC rb s (deep + 1) k' w') := fun deep hd k' w' h1 h2 h3 => ih k' (deep + 1) w' (by omega) (by omega) h2 h3
    by_cases q91 : bt s k = 91
    · have hh := heq 91 q91
      by_cases hdp : 24 ≤ deep
      · exact value_deep_arr rb s deep k w h hk hs hlt hdp hd24 q91 _ (valL_deep deep _ (.inl hh) hdp)
      · exact value_arr rb s deep k w h hk hs hlt (by omega) q91 (IH deep (by omega)) _ (take_one rfl hh) (by rw [valL_arr deep _ hh hdp, List.drop_one])
    by_cases q123 : bt s k = 123
    · have hh := heq 123 q123
      by_cases hdp : 24 ≤ deep
      · exact value_deep_obj rb s deep k w h hk hs hlt hdp hd24 q123 _ (valL_deep deep _ (.inr hh) hdp)
      · exact value_obj rb s deep k w h hk hs hlt (by omega) q123 u _ hd hu (IH deep (by omega)) _ (take_one rfl hh) (by rw [valL_obj deep _ hh hdp, List.drop_one])
    by_cases q34 : bt s k = 34
    · exact value_str rb s deep k w h hk hs hlt q34 u _ hd hu _ (valL_str deep _ (heq 34 q34))
    have hr := valL_else deep _ (hne 91 q91) (hne 123 q123) (hne 34 q34)
    by_cases t1 : (s.toList.drop k).take 4 = [110, 117, 108, 108]
    · exact value_null rb s deep k w h hk hs hlt q91 q123 q34 u _ hd hu t1 _ (by rw [hr, if_pos t1])
    rw [if_neg t1] at hr
    by_cases t2 : (s.toList.drop k).take 5 = [102, 97, 108, 115, 101]
    · exact value_false rb s deep k w h hk hs hlt q91 q123 q34 u _ hd hu t1 t2 _ (by rw [hr, if_pos t2])
    rw [if_neg t2] at hr
    by_cases t3 : (s.toList.drop k).take 4 = [116, 114, 117, 101]
    · exact value_true rb s deep k w h hk hs hlt q91 q123 q34 u _ hd hu t1 t2 t3 _ (by rw [hr, if_pos t3])
    rw [if_neg t3] at hr
    exact value_num rb s deep k w h hk hs hlt q91 q123 q34 u _ hd hu t1 t2 t3 _ hr
end Go.Proofs.Ytjigceoponlphaa
/-! The walk of Parse's deferred closure. -/
namespace Go.Proofs.Ytjigceoponlphaa
open Go.RowKit Go.PlainAid
set_option linter.unusedVariables false
set_option linter.unusedSimpArgs false
theorem catch_idle (p q r : Addr) (w : World) :
    CallsD Try.prog 21 #[.pointer (some p), .pointer (some q), .pointer (some r)] .returning w fun e u' w' => e = .returned (.tuple #[]) ∧ u' = .returning ∧ w' = w := by
  refine callsD_of_wpS Try.func21 rfl fun c₀ cs hu => ?_
  apply wpS_seq
  apply wpS_region
  simp [wpOpsS, go_sem, recoverD, hu, Try.ntmps21, Exit.thenS]
  refine wpS_cond (t := false) (by simp [Act.eval, Array.replicate]) ?_
  simp only [Bool.false_eq_true, if_false]
  refine wpS_of_wp (wp_skip ?_)
  cases c₀
  simp_all [bodyPostS, results, Try.results21]
set_option maxRecDepth 100000 in
set_option maxHeartbeats 2000000 in
theorem catch_bad (pb rb g h : Nat) (c : Int) (u : TypeId) (pv : Value) (older : List PanicEntry) (s : Value) (k : Value) (v0 v1 v2 v3 v4 x : Value) (w : World)
    (hp : Blk w pb 50 #[.pointer (some ⟨rb, 0, none⟩)]) (hr : Blk w rb 52 #[s, k, .int .i64 c]) (hg : Blk w g 27 #[v0, v1, v2, v3, v4]) (hh : Blk w h 28 #[x]) :
    CallsD Try.prog 21 #[.pointer (some ⟨pb, 0, none⟩), .pointer (some ⟨g, 0, none⟩), .pointer (some ⟨h, 0, none⟩)] (.panicking ({ v := .iface u pv, recovered := false } :: older)) w fun e u' w' =>
      e = .returned (.tuple #[]) ∧ u' = .panicking ({ v := .iface u pv, recovered := true } :: older) ∧ w' = (((((w.setCell ⟨g, 0, none⟩ (.int .i64 0)).setCell ⟨g, 1, none⟩ (.int .i64 0)).setCell ⟨g, 2, none⟩ (.string ⟨#[]⟩)).setCell ⟨g, 3, none⟩ (.slice none 0 0)).setCell ⟨g, 4, none⟩ (.slice none 0 0)).setCell ⟨h, 0, none⟩ (.int .i64 c) := by
  have p0 : w.cell? ⟨pb, 0, none⟩ = some (.pointer (some ⟨rb, 0, none⟩)) := hp.cell 0
  have r2 : w.cell? ⟨rb, 2, none⟩ = some (.int .i64 c) := hr.cell 2
  obtain ⟨g0, g1, g2, g3, g4⟩ := hg.cells5
  have f0 := hg.frozen 0
  have f1 := hg.frozen 1
  have f2 := hg.frozen 2
  have f3 := hg.frozen 3
  have f4 := hg.frozen 4
  have hne : h ≠ g := (hh.ne_ hg (by decide))
  have h0 : w.cell? ⟨h, 0, none⟩ = some x := hh.cell 0
  have e0 := hh.frozen 0
  refine callsD_of_wpS Try.func21 rfl fun c₀ cs hu => ?_
  apply wpS_seq
  apply wpS_region
  simp [wpOpsS, go_sem, recoverD, hu, Try.ntmps21, Exit.thenS]
  refine wpS_cond (t := true) (by simp [Act.eval, Array.replicate]) ?_
  simp only [if_true]
  refine wpS_of_wp ?_
  go_wp2
  simp [bodyPostS, results, Try.results21]
end Go.Proofs.Ytjigceoponlphaa
/-! The walk of json's Parse. -/
namespace Go.Proofs.Ytjigceoponlphaa
open Go.RowKit Go.PlainAid
set_option linter.unusedVariables false
set_option linter.unusedSimpArgs false
/-- what Parse ends with -/
def ParseEnd (r : Except Int Nd) (w : World) (e : Ending) (w' : World) : Prop :=
  match r with
  | .error c => e = .returned (.tuple #[.agg #[.int .i64 0, .int .i64 0, .string ⟨#[]⟩, .slice none 0 0, .slice none 0 0], .int .i64 c]) ∧ Below w.heap.size w w'
  | .ok n => ∃ (c0 c1 : Int) (c2 : ByteArray) (c3 : Option Addr) (c4 c5 : Nat) (c6 : Option Addr) (c7 c8 : Nat),
      e = .returned (.tuple #[.agg #[.int .i64 c0, .int .i64 c1, .string c2, .slice c3 c4 c5, .slice c6 c7 c8], .int .i64 0]) ∧ NdIn w' (Since w w') n [.int .i64 c0, .int .i64 c1, .string c2, .slice c3 c4 c5, .slice c6 c7 c8] ∧ Below w.heap.size w w'
/-- Parse under way -/
structure PInv (w0 : World) (vs : Array Value) (w : World) : Prop where
  res : Blk w w0.heap.size 27 vs
  err : Blk w (w0.heap.size + 1) 28 #[.int .i64 0]
  ptr : Blk w (w0.heap.size + 1 + 1 + 1) 50 #[.pointer (some ⟨w0.heap.size + 1 + 1, 0, none⟩)]
  low : Below w0.heap.size w0 w
  size : w0.heap.size + 4 ≤ w.heap.size
theorem PInv.start (w : World) (s : ByteArray) : PInv w #[.int .i64 0, .int .i64 0, .string ⟨#[]⟩, .slice none 0 0, .slice none 0 0] ((((w.alloc (.cells #[.int .i64 0, .int .i64 0, .string ⟨#[]⟩, .slice none 0 0, .slice none 0 0] 27)).alloc (.cells #[.int .i64 0] 28)).alloc (.cells #[.string s, .int .i64 0, .int .i64 0] 52)).alloc (.cells #[.pointer (some ⟨w.heap.size + 1 + 1, 0, none⟩)] 50)) ∧
    RdSt ((((w.alloc (.cells #[.int .i64 0, .int .i64 0, .string ⟨#[]⟩, .slice none 0 0, .slice none 0 0] 27)).alloc (.cells #[.int .i64 0] 28)).alloc (.cells #[.string s, .int .i64 0, .int .i64 0] 52)).alloc (.cells #[.pointer (some ⟨w.heap.size + 1 + 1, 0, none⟩)] 50)) (w.heap.size + 1 + 1) s 0 := by
  have e1 := Blk.new w 27 #[.int .i64 0, .int .i64 0, .string ⟨#[]⟩, .slice none 0 0, .slice none 0 0]
  generalize hw1 : w.alloc (.cells #[.int .i64 0, .int .i64 0, .string ⟨#[]⟩, .slice none 0 0, .slice none 0 0] 27) = w1 at *
  have s1 : w1.heap.size = w.heap.size + 1 := by rw [← hw1]; simp
  have l1 : Below w.heap.size w w1 := by rw [← hw1]; exact (Below.refl _ _).alloc (Nat.le_refl _) _
  have e2 := Blk.new w1 28 #[.int .i64 0]
  have e1' := e1.alloc (.cells #[.int .i64 0] 28)
  have l2 := l1.alloc l1.size (.cells #[.int .i64 0] 28)
  generalize hw2 : w1.alloc (.cells #[.int .i64 0] 28) = w2 at *
  have s2 : w2.heap.size = w.heap.size + 1 + 1 := by rw [← hw2]; simp [s1]
  have e3 := Blk.new w2 52 #[.string s, .int .i64 0, .int .i64 0]
  have e2' := e2.alloc (.cells #[.string s, .int .i64 0, .int .i64 0] 52)
  have e1'' := e1'.alloc (.cells #[.string s, .int .i64 0, .int .i64 0] 52)
  have l3 := l2.alloc l2.size (.cells #[.string s, .int .i64 0, .int .i64 0] 52)
  generalize hw3 : w2.alloc (.cells #[.string s, .int .i64 0, .int .i64 0] 52) = w3 at *
  have s3 : w3.heap.size = w.heap.size + 1 + 1 + 1 := by rw [← hw3]; simp [s2]
  have e4 := Blk.new w3 50 #[.pointer (some ⟨w.heap.size + 1 + 1, 0, none⟩)]
  have e3' := e3.alloc (.cells #[.pointer (some ⟨w.heap.size + 1 + 1, 0, none⟩)] 50)
  have e2'' := e2'.alloc (.cells #[.pointer (some ⟨w.heap.size + 1 + 1, 0, none⟩)] 50)
  have e1''' := e1''.alloc (.cells #[.pointer (some ⟨w.heap.size + 1 + 1, 0, none⟩)] 50)
  have l4 := l3.alloc l3.size (.cells #[.pointer (some ⟨w.heap.size + 1 + 1, 0, none⟩)] 50)
  rw [s3] at e4
  rw [s2] at e3'
  rw [s1] at e2''
  exact ⟨⟨e1''', e2'', e4, l4, by simp [s3]⟩, e3'⟩
theorem PInv.next {w0 w w' : World} {vs : Array Value} (h : PInv w0 vs w) (g : w.grownBy w' (some (w0.heap.size + 1 + 1))) : PInv w0 vs w' := by
  refine ⟨h.res.grown g (by intro e; injection e with e; omega), h.err.grown g (by intro e; injection e with e; omega), h.ptr.grown g (by intro e; injection e with e; omega), ?_, Nat.le_trans h.size g.size⟩
  exact h.low.trans ⟨g.os, g.tape, g.output, by have := h.size; have := g.size; omega, fun i hi => g.block i (by have := h.size; omega) (by intro e; injection e with e; omega)⟩
theorem PInv.drewN {w0 w : World} {vs : Array Value} (h : PInv w0 vs w) (n : Nat) : PInv w0 vs (w.drewN n) := h.next (grown_drewN (grown_refl _ _) n)
theorem PInv.laid {w0 w : World} {v0 v1 v2 v3 v4 : Value} (h : PInv w0 #[v0, v1, v2, v3, v4] w) (a b c d e : Value) :
    PInv w0 #[a, b, c, d, e] (((((w.setCell ⟨w0.heap.size, 0, none⟩ a).setCell ⟨w0.heap.size, 1, none⟩ b).setCell ⟨w0.heap.size, 2, none⟩ c).setCell ⟨w0.heap.size, 3, none⟩ d).setCell ⟨w0.heap.size, 4, none⟩ e) ∧
    (((((w.setCell ⟨w0.heap.size, 0, none⟩ a).setCell ⟨w0.heap.size, 1, none⟩ b).setCell ⟨w0.heap.size, 2, none⟩ c).setCell ⟨w0.heap.size, 3, none⟩ d).setCell ⟨w0.heap.size, 4, none⟩ e).heap.size = w.heap.size ∧
    ∀ g, g ≠ w0.heap.size → (((((w.setCell ⟨w0.heap.size, 0, none⟩ a).setCell ⟨w0.heap.size, 1, none⟩ b).setCell ⟨w0.heap.size, 2, none⟩ c).setCell ⟨w0.heap.size, 3, none⟩ d).setCell ⟨w0.heap.size, 4, none⟩ e).heap[g]? = w.heap[g]? := by
  have hot : ∀ g, g ≠ w0.heap.size → (((((w.setCell ⟨w0.heap.size, 0, none⟩ a).setCell ⟨w0.heap.size, 1, none⟩ b).setCell ⟨w0.heap.size, 2, none⟩ c).setCell ⟨w0.heap.size, 3, none⟩ d).setCell ⟨w0.heap.size, 4, none⟩ e).heap[g]? = w.heap[g]? := fun g hg => by
    rw [Below.heap_setCell _ _ _ _ hg, Below.heap_setCell _ _ _ _ hg, Below.heap_setCell _ _ _ _ hg, Below.heap_setCell _ _ _ _ hg, Below.heap_setCell _ _ _ _ hg]
  have hb : Blk (((((w.setCell ⟨w0.heap.size, 0, none⟩ a).setCell ⟨w0.heap.size, 1, none⟩ b).setCell ⟨w0.heap.size, 2, none⟩ c).setCell ⟨w0.heap.size, 3, none⟩ d).setCell ⟨w0.heap.size, 4, none⟩ e) w0.heap.size 27 #[a, b, c, d, e] := (((((h.res.set_ 0 a).set_ 1 b).set_ 2 c).set_ 3 d).set_ 4 e)
  have hs : (((((w.setCell ⟨w0.heap.size, 0, none⟩ a).setCell ⟨w0.heap.size, 1, none⟩ b).setCell ⟨w0.heap.size, 2, none⟩ c).setCell ⟨w0.heap.size, 3, none⟩ d).setCell ⟨w0.heap.size, 4, none⟩ e).heap.size = w.heap.size := by simp
  have hg := grown_new (grown_new (grown_new (grown_new (grown_new (grown_refl w (some 0)) (g := w.heap.size) (Nat.le_refl _) 0 a) (g := w.heap.size) (Nat.le_refl _) 1 b) (g := w.heap.size) (Nat.le_refl _) 2 c) (g := w.heap.size) (Nat.le_refl _) 3 d) (g := w.heap.size) (Nat.le_refl _) 4 e
  have hos : (((((w.setCell ⟨w0.heap.size, 0, none⟩ a).setCell ⟨w0.heap.size, 1, none⟩ b).setCell ⟨w0.heap.size, 2, none⟩ c).setCell ⟨w0.heap.size, 3, none⟩ d).setCell ⟨w0.heap.size, 4, none⟩ e).os = w.os := (grown_set (grown_set (grown_set (grown_set (grown_set (grown_refl w (some w0.heap.size)) 0 a) 1 b) 2 c) 3 d) 4 e).os
  have htp : (((((w.setCell ⟨w0.heap.size, 0, none⟩ a).setCell ⟨w0.heap.size, 1, none⟩ b).setCell ⟨w0.heap.size, 2, none⟩ c).setCell ⟨w0.heap.size, 3, none⟩ d).setCell ⟨w0.heap.size, 4, none⟩ e).tape = w.tape := (grown_set (grown_set (grown_set (grown_set (grown_set (grown_refl w (some w0.heap.size)) 0 a) 1 b) 2 c) 3 d) 4 e).tape
  have hop : (((((w.setCell ⟨w0.heap.size, 0, none⟩ a).setCell ⟨w0.heap.size, 1, none⟩ b).setCell ⟨w0.heap.size, 2, none⟩ c).setCell ⟨w0.heap.size, 3, none⟩ d).setCell ⟨w0.heap.size, 4, none⟩ e).output = w.output := (grown_set (grown_set (grown_set (grown_set (grown_set (grown_refl w (some w0.heap.size)) 0 a) 1 b) 2 c) 3 d) 4 e).output
  generalize (((((w.setCell ⟨w0.heap.size, 0, none⟩ a).setCell ⟨w0.heap.size, 1, none⟩ b).setCell ⟨w0.heap.size, 2, none⟩ c).setCell ⟨w0.heap.size, 3, none⟩ d).setCell ⟨w0.heap.size, 4, none⟩ e) = W at *
  have hz := h.size
  refine ⟨⟨hb, (hot _ (by omega)).trans h.err, (hot _ (by omega)).trans h.ptr, ?_, by omega⟩, hs, hot⟩
  exact ⟨hos.trans h.low.os, htp.trans h.low.tape, hop.trans h.low.output, by omega, fun i hi => (hot i (by omega)).trans (h.low.block i hi)⟩
theorem PInv.set_err {w0 w : World} {vs : Array Value} (h : PInv w0 vs w) (x : Value) :
    Blk (w.setCell ⟨w0.heap.size + 1, 0, none⟩ x) w0.heap.size 27 vs ∧ Blk (w.setCell ⟨w0.heap.size + 1, 0, none⟩ x) (w0.heap.size + 1) 28 #[x] ∧ Below w0.heap.size w0 (w.setCell ⟨w0.heap.size + 1, 0, none⟩ x) ∧ (w.setCell ⟨w0.heap.size + 1, 0, none⟩ x).heap.size = w.heap.size ∧
    ∀ g, g ≠ w0.heap.size + 1 → (w.setCell ⟨w0.heap.size + 1, 0, none⟩ x).heap[g]? = w.heap[g]? := by
  have hg := grown_set (grown_refl w (some (w0.heap.size + 1))) 0 x
  have hot : ∀ g, g ≠ w0.heap.size + 1 → (w.setCell ⟨w0.heap.size + 1, 0, none⟩ x).heap[g]? = w.heap[g]? := fun g hg => Below.heap_setCell _ _ _ _ hg
  have hs : (w.setCell ⟨w0.heap.size + 1, 0, none⟩ x).heap.size = w.heap.size := by simp
  have hz := h.size
  refine ⟨(hot _ (by omega)).trans h.res, h.err.set_ 0 x, ?_, hs, hot⟩
  exact ⟨hg.os.trans h.low.os, hg.tape.trans h.low.tape, hg.output.trans h.low.output, by omega, fun i hi => (hot i (by omega)).trans (h.low.block i hi)⟩
theorem Blk.cells1 {w : World} {g : Nat} {t : TypeId} {a : Value} (h : Blk w g t #[a]) : w.cell? ⟨g, 0, none⟩ = some a := h.cell 0
theorem parse_low {s : ByteArray} {k r : List UInt8} {n : Nd} (hl : s.size ≤ 65536) : parseL s.toList = match valL 0 (blanksL s.toList) with
    | .error e => .error e
    | .ok (n, r) => if blanksL r = [] then .ok n else .error 3 := by
  unfold parseL
  rw [if_neg (by rw [tl_len']; omega)]
  rcases valL 0 (blanksL s.toList) with _ | ⟨_, _⟩ <;> rfl
set_option maxRecDepth 100000 in
set_option maxHeartbeats 8000000 in
theorem Parse_any (s : ByteArray) (A : Option Addr) (c : Nat) (w : World)
   (HC : ∀ w', Below w.heap.size w w' → (convert 22 9 (.slice A s.size c)).run Try.prog w' = .ok (.string s) w') :
    Calls Try.prog 13 #[.slice A s.size c] w (ParseEnd (parseL s.toList) w) := by
  have hmf : ∀ (fn : Fn) (first cap : Array Value) (w : World), (Instr.makeFunc fn first cap).run Try.prog w = .ok (.func fn first cap) w := fun _ _ _ _ => rfl
  by_cases hl : s.size ≤ 65536
  case neg =>
    have hp : parseL s.toList = .error 2 := by unfold parseL; rw [if_pos (by rw [tl_len']; omega)]
    rw [hp]
    have hnl : (65536 : Int) < (s.size : Int) := by omega
    have HW := Lib.hid (((Below.refl w.heap.size w).alloc (Nat.le_refl _) (.cells #[.int .i64 0, .int .i64 0, .string ⟨#[]⟩, .slice none 0 0, .slice none 0 0] 27)).alloc (by simp) (.cells #[.int .i64 2] 28))
    have b1 := (Blk.new w 27 #[.int .i64 0, .int .i64 0, .string ⟨#[]⟩, .slice none 0 0, .slice none 0 0]).alloc (.cells #[.int .i64 2] 28)
    have b2 := Blk.new (w.alloc (.cells #[.int .i64 0, .int .i64 0, .string ⟨#[]⟩, .slice none 0 0, .slice none 0 0] 27)) 28 #[.int .i64 2]
    rw [show (w.alloc (.cells #[.int .i64 0, .int .i64 0, .string ⟨#[]⟩, .slice none 0 0, .slice none 0 0] 27)).heap.size = w.heap.size + 1 by simp] at b2
    have B1 := Lib.hid b1
    have B2 := Lib.hid b2
    clear HC hp hl b1 b2
    go_enter_defers Try.func13, Try.ntmps13
    go_wp2
    generalize (w.alloc (.cells #[.int .i64 0, .int .i64 0, .string ⟨#[]⟩, .slice none 0 0, .slice none 0 0] 27)).alloc (.cells #[.int .i64 2] 28) = WF at *
    obtain ⟨q0, q1, q2, q3, q4⟩ := B1.out.cells5
    have x0 := B2.out.cells1
    simp [bodyPostD, Leaves, settle, results, Try.results13, go_sem, q0, q1, q2, q3, q4, x0]
    exact ⟨rfl, HW.out⟩
  have hcv := HC _ (((Below.refl w.heap.size w).alloc (Nat.le_refl _) (.cells #[.int .i64 0, .int .i64 0, .string ⟨#[]⟩, .slice none 0 0, .slice none 0 0] 27)).alloc (by simp) (.cells #[.int .i64 0] 28))
  have hnl : ¬ (65536 : Int) < (s.size : Int) := by omega
  obtain ⟨p0, q0⟩ := PInv.start w s
  have P0 := Lib.hid p0
  have R0 := Lib.hid q0
  have HL := Lib.hid hl
  have HPL := Lib.hid (parse_low (k := []) (r := []) (n := nd0 0) hl)
  generalize parseL s.toList = V at *
  clear HC p0 q0
  go_enter_defers Try.func13, Try.ntmps13
  go_wp2_with fail
  generalize ((((w.alloc (.cells #[.int .i64 0, .int .i64 0, .string ⟨#[]⟩, .slice none 0 0, .slice none 0 0] 27)).alloc (.cells #[.int .i64 0] 28)).alloc (.cells #[.string s, .int .i64 0, .int .i64 0] 52)).alloc (.cells #[.pointer (some ⟨w.heap.size + 1 + 1, 0, none⟩)] 50)) = W at *
  clear hcv
  refine (blanks_any _ s 0 W R0.out (Nat.zero_le _) (by have := HL.out; omega)).mono ?_
  rintro e w1 ⟨rfl, k1, hk1, e1, h1, g1⟩
  have P1 := Lib.hid (P0.out.next g1)
  have R1 := Lib.hid h1
  have E1 : Hid (s.toList.drop k1 = blanksL s.toList) := e1
  have hp1 := P1.out.ptr.cells1
  clear h1 g1 e1
  have HV : Hid (Calls Try.prog 23 #[.pointer (some ⟨w.heap.size + 1 + 1, 0, none⟩), .int .i64 0] w1 (ValEnd (w.heap.size + 1 + 1) s (valL 0 (blanksL s.toList)) w1)) := by
    have := value_any (w.heap.size + 1 + 1) s (by have := HL.out; omega) (s.size + 1) k1 0 w1 (by omega) (by omega) hk1 R1.out
    unfold ValC at this
    rw [E1.out] at this
    exact this
  cases hv : valL 0 (blanksL s.toList) with
  | error c9 =>
    have HE : Hid (V = .error c9) := Lib.hid (by rw [HPL.out, hv])
    rw [hv] at HV
    clear hv HPL
    go_wp2_with fail
    refine HV.out.mono ?_; rintro e w9 ⟨rfl, ⟨k9, h9⟩, g9⟩
    have P9 := Lib.hid (P1.out.next g9)
    have H9 := Lib.hid h9
    clear h9 g9 hp1
    go_wp2_with fail
    refine leaves_cons (f := 21) (args := #[.pointer (some ⟨w.heap.size + 1 + 1 + 1, 0, none⟩), .pointer (some ⟨w.heap.size, 0, none⟩), .pointer (some ⟨w.heap.size + 1, 0, none⟩)]) (by simp) (by simp [go_sem]) ?_
    refine (catch_bad _ _ _ _ c9 _ _ [] _ _ _ _ _ _ _ _ w9 P9.out.ptr H9.out P9.out.res P9.out.err).mono ?_
    rintro e u' w'' ⟨rfl, rfl, hw⟩
    obtain ⟨pl, _, _⟩ := P9.out.laid (.int .i64 0) (.int .i64 0) (.string ⟨#[]⟩) (.slice none 0 0) (.slice none 0 0)
    obtain ⟨b1, b2, b3, _, _⟩ := pl.set_err (.int .i64 c9)
    rw [← hw] at b1 b2 b3
    clear hw pl
    obtain ⟨q0, q1, q2, q3, q4⟩ := b1.cells5
    have x0 := b2.cells1
    simp [Leaves, settle, results, Try.results13, go_sem, q0, q1, q2, q3, q4, x0]
    rw [HE.out]
    exact ⟨rfl, b3⟩
  | ok p =>
    obtain ⟨n, r⟩ := p
    have HE : Hid (V = if blanksL r = [] then .ok n else .error 3) := Lib.hid (by rw [HPL.out, hv])
    rw [hv] at HV
    clear hv HPL
    go_wp2_with fail
    refine HV.out.mono ?_
    rintro e w2 ⟨c0, c1, c2, c3, c4, c5, c6, c7, c8, rfl, hn, k2, hk2, e2, h2, g2⟩
    have P2 := Lib.hid (P1.out.next g2)
    have R2 := Lib.hid h2
    have E2 : Hid (s.toList.drop k2 = r) := e2
    have HN := Lib.hid hn
    have Z1 := Lib.hid P1.out.size
    clear hn h2 g2 e2 hp1
    have hp2 : (((((w2.setCell ⟨w.heap.size, 0, none⟩ (.int .i64 c0)).setCell ⟨w.heap.size, 1, none⟩ (.int .i64 c1)).setCell ⟨w.heap.size, 2, none⟩ (.string c2)).setCell ⟨w.heap.size, 3, none⟩ (.slice c3 c4 c5)).setCell ⟨w.heap.size, 4, none⟩ (.slice c6 c7 c8)).cell? ⟨w.heap.size + 1 + 1 + 1, 0, none⟩ = some (.pointer (some ⟨w.heap.size + 1 + 1, 0, none⟩)) := (P2.out.laid _ _ _ _ _).1.ptr.cells1
    obtain ⟨p3, s3, o3⟩ := P2.out.laid (.int .i64 c0) (.int .i64 c1) (.string c2) (.slice c3 c4 c5) (.slice c6 c7 c8)
    have P3 := Lib.hid p3
    have S3 := Lib.hid s3
    have O3 := Lib.hid o3
    obtain ⟨z0, z1, z2, z3, z4⟩ := P2.out.res.cells5
    have f0 := P2.out.res.frozen 0
    have f1 := P2.out.res.frozen 1
    have f2 := P2.out.res.frozen 2
    have f3 := P2.out.res.frozen 3
    have f4 := P2.out.res.frozen 4
    clear p3 s3 o3
    go_wp2_with fail
    clear z0 z1 z2 z3 z4 f0 f1 f2 f3 f4
    generalize (((((w2.setCell ⟨w.heap.size, 0, none⟩ (.int .i64 c0)).setCell ⟨w.heap.size, 1, none⟩ (.int .i64 c1)).setCell ⟨w.heap.size, 2, none⟩ (.string c2)).setCell ⟨w.heap.size, 3, none⟩ (.slice c3 c4 c5)).setCell ⟨w.heap.size, 4, none⟩ (.slice c6 c7 c8)) = w3 at *
    have R3 : Hid (RdSt w3 (w.heap.size + 1 + 1) s k2) := (O3.out _ (by omega)).trans R2.out
    refine (blanks_any _ s k2 w3 R3.out hk2 (by have := HL.out; omega)).mono ?_
    rintro e w4 ⟨rfl, k4, hk4, e4, h4, g4⟩
    rw [E2.out] at e4
    have P4 := Lib.hid (P3.out.next g4)
    have R4 := Lib.hid h4
    have E4 := Lib.hid e4
    have HN4 : Hid (NdIn w4 (fun b => w1.heap.size ≤ b ∧ b < w4.heap.size) n [.int .i64 c0, .int .i64 c1, .string c2, .slice c3 c4 c5, .slice c6 c7 c8]) := by
      have hz := Z1.out
      have hs3 := S3.out
      have hs4 := g4.size
      refine NdIn.keep (fun p hp => World.cell?_of_block ?_) (fun b hb => ⟨hb.1, by have := hb.2; omega⟩) _ _ HN.out
      have hp1 := hp.1
      have hp2 := hp.2
      exact (g4.block p.block (by omega) (by intro e; injection e with e; omega)).trans (O3.out p.block (by omega))
    have G4 := Lib.hid g4
    have hp4 := P4.out.ptr.cells1
    obtain ⟨y0, y1, y2⟩ := R4.out.cells3
    clear h4 g4 e4 hp2
    by_cases hr : blanksL r = []
    · have HX : Hid (V = .ok n) := Lib.hid (by rw [HE.out, if_pos hr])
      have k4s : ¬ (k4 : Int) < (s.size : Int) := by
        have e := congrArg List.length E4.out
        rw [hr, List.length_drop, tl_len'] at e
        simp at e; omega
      clear hr
      go_wp2_with fail
      go_quiet (fail)
      clear y0 y1 y2 hp4
      have P5 : Hid (∀ m, PInv w #[.int .i64 c0, .int .i64 c1, .string c2, .slice c3 c4 c5, .slice c6 c7 c8] (w4.drewN m)) := fun m => P4.out.drewN m
      obtain ⟨z0, z1, z2, z3, z4⟩ := P4.out.res.cells5
      have f0 := P4.out.res.frozen 0
      have f1 := P4.out.res.frozen 1
      have f2 := P4.out.res.frozen 2
      have f3 := P4.out.res.frozen 3
      have f4 := P4.out.res.frozen 4
      have x0 := P4.out.err.cells1
      have fe := P4.out.err.frozen 0
      have k4n : ¬ k4 < s.size := by omega
      go_wp2_with fail
      clear z0 z1 z2 z3 z4 f0 f1 f2 f3 f4 x0 fe
      refine leaves_cons (f := 21) (args := #[.pointer (some ⟨w.heap.size + 1 + 1 + 1, 0, none⟩), .pointer (some ⟨w.heap.size, 0, none⟩), .pointer (some ⟨w.heap.size + 1, 0, none⟩)]) (by simp) (by simp [go_sem]) ?_
      refine (catch_idle _ _ _ _).mono ?_
      rintro e u' w'' ⟨rfl, rfl, hw⟩
      obtain ⟨pl, s5, o5⟩ := (P5.out _).laid (.int .i64 c0) (.int .i64 c1) (.string c2) (.slice c3 c4 c5) (.slice c6 c7 c8)
      obtain ⟨b1, b2, b3, s6, o6⟩ := pl.set_err (.int .i64 0)
      rw [← hw] at b1 b2 b3 s6 o6
      have hnd : NdIn w'' (Since w w'') n [.int .i64 c0, .int .i64 c1, .string c2, .slice c3 c4 c5, .slice c6 c7 c8] := by
        have hz := Z1.out
        refine NdIn.keep (fun p hp => World.cell?_of_block ?_) (fun b hb => ⟨by have := hb.1; omega, by rw [s6, s5]; exact hb.2⟩) _ _ HN4.out
        have hp1 := hp.1
        exact (o6 p.block (by omega)).trans (o5 p.block (by omega))
      clear hw pl s5 o5 s6 o6
      obtain ⟨q0, q1, q2, q3, q4⟩ := b1.cells5
      have x0 := b2.cells1
      simp [Leaves, settle, results, Try.results13, go_sem, q0, q1, q2, q3, q4, x0]
      rw [HX.out]
      exact ⟨c0, c1, c2, c3, c4, c5, c6, c7, c8, rfl, hnd, b3⟩
    · have HX : Hid (V = .error 3) := Lib.hid (by rw [HE.out, if_neg hr])
      have k4s : (k4 : Int) < (s.size : Int) := by
        have e := congrArg List.length E4.out
        rw [List.length_drop, tl_len'] at e
        have := List.length_pos_iff.2 hr
        omega
      have k4n : k4 < s.size := by omega
      clear hr
      go_wp2_with fail
      go_quiet (fail)
      clear y0 y1 y2
      have P5 : Hid (∀ m, PInv w #[.int .i64 c0, .int .i64 c1, .string c2, .slice c3 c4 c5, .slice c6 c7 c8] (w4.drewN m)) := fun m => P4.out.drewN m
      have R5 : Hid (∀ m, RdSt (w4.drewN m) (w.heap.size + 1 + 1) s k4) := fun m => R4.out
      go_wp2_with fail
      refine (fail_any _ s k4 3 _ (R5.out _)).mono ?_; rintro e w9 ⟨rfl, ⟨k9, h9⟩, g9⟩
      have P9 := Lib.hid ((P5.out _).next g9)
      have H9 := Lib.hid h9
      clear h9 g9 hp4
      go_wp2_with fail
      refine leaves_cons (f := 21) (args := #[.pointer (some ⟨w.heap.size + 1 + 1 + 1, 0, none⟩), .pointer (some ⟨w.heap.size, 0, none⟩), .pointer (some ⟨w.heap.size + 1, 0, none⟩)]) (by simp) (by simp [go_sem]) ?_
      refine (catch_bad _ _ _ _ 3 _ _ [] _ _ _ _ _ _ _ _ w9 P9.out.ptr H9.out P9.out.res P9.out.err).mono ?_
      rintro e u' w'' ⟨rfl, rfl, hw⟩
      obtain ⟨pl, _, _⟩ := P9.out.laid (.int .i64 0) (.int .i64 0) (.string ⟨#[]⟩) (.slice none 0 0) (.slice none 0 0)
      obtain ⟨b1, b2, b3, _, _⟩ := pl.set_err (.int .i64 3)
      rw [← hw] at b1 b2 b3
      clear hw pl
      obtain ⟨q0, q1, q2, q3, q4⟩ := b1.cells5
      have x0 := b2.cells1
      simp [Leaves, settle, results, Try.results13, go_sem, q0, q1, q2, q3, q4, x0]
      rw [HX.out]
      exact ⟨rfl, b3⟩
end Go.Proofs.Ytjigceoponlphaa
/-! Plain laws of reading JSON: what stands behind what is read. -/
namespace Go.Proofs.Ytjigceoponlphaa
open Go.RowKit Go.PlainAid
set_option linter.unusedVariables false
set_option linter.unusedSimpArgs false
def ext {α : Type} (z : List UInt8) (p : α × List UInt8) : α × List UInt8 := (p.1, p.2 ++ z)
def Bz (z : List UInt8) : Prop := ∀ c ∈ z, blankB c = true
theorem blank_cases {c : UInt8} (h : blankB c = true) : c = 32 ∨ c = 9 ∨ c = 10 ∨ c = 13 := by
  unfold blankB at h
  simp only [Bool.or_eq_true, beq_iff_eq] at h
  rcases h with ((h | h) | h) | h <;> simp [h]
theorem dw_nil {p : UInt8 → Bool} (l : List UInt8) : l.dropWhile p = [] ↔ ∀ c ∈ l, p c = true := by
  induction l with
  | nil => simp
  | cons a l ih =>
    rw [List.dropWhile_cons]
    split
    · rename_i ha
      rw [ih]
      simp [ha]
    · rename_i ha
      simp [ha]
theorem Bz.numEnd {z : List UInt8} (h : Bz z) : numEnd z := by
  cases z with
  | nil => exact numEnd_nil
  | cons c z => exact numEnd_sep c z (by rcases blank_cases (h c (by simp)) with h | h | h | h <;> simp [h])
theorem bl_all {z : List UInt8} (h : Bz z) : blanksL z = [] := by
  unfold blanksL
  exact (dw_nil z).2 (fun c hc => h c hc)
theorem bl_app {l z : List UInt8} (h : blanksL l ≠ []) : blanksL (l ++ z) = blanksL l ++ z := by
  induction l with
  | nil => exact absurd rfl h
  | cons c l ih =>
    unfold blanksL at h ih ⊢
    rw [List.dropWhile_cons] at h
    rw [List.cons_append, List.dropWhile_cons, List.dropWhile_cons]
    split
    · rename_i hc
      rw [if_pos hc] at h
      exact ih h
    · rfl
theorem bl_none {l z : List UInt8} (h : blanksL l = []) (hz : Bz z) : blanksL (l ++ z) = [] := by
  unfold blanksL at h ⊢
  rw [dw_nil] at h ⊢
  intro c hc
  rcases List.mem_append.1 hc with hc | hc
  · exact h c hc
  · exact hz c hc
theorem take_bl {l z w : List UInt8} {n : Nat} (hz : Bz z) (hw : ∀ c ∈ w, blankB c = false) (hn : w.length = n) (h : (l ++ z).take n = w) : n ≤ l.length := by
  by_cases hle : n ≤ l.length
  · exact hle
  exfalso
  cases z with
  | nil => have := congrArg List.length h; simp at this; omega
  | cons c z =>
    have hc : c ∈ w := by
      rw [← h]
      refine List.mem_of_getElem? (i := l.length) ?_
      rw [List.getElem?_take, if_pos (by omega), List.getElem?_append_right (Nat.le_refl _), Nat.sub_self]
      rfl
    have h1 := hw c hc
    have h2 := hz c (by simp)
    rw [h1] at h2; cases h2
theorem take_app {l z w : List UInt8} {n : Nat} (hn : w.length = n) (h : l.take n = w) : (l ++ z).take n = w ∧ (l ++ z).drop n = l.drop n ++ z := by
  have : n ≤ l.length := by
    have := congrArg List.length h
    rw [List.length_take] at this; omega
  exact ⟨by rw [List.take_append_of_le_length this, h], List.drop_append_of_le_length this⟩
/-! success -/
theorem unitL_S (z : List UInt8) : ∀ (k : Nat) (n : Int) (l : List UInt8) (p : Int × List UInt8), unitL k n l = some p → unitL k n (l ++ z) = some (ext z p)
  | 0, n, l, p, h => by unfold unitL at h ⊢; cases h; rfl
  | k + 1, n, [], p, h => by unfold unitL at h; cases h
  | k + 1, n, c :: l, p, h => by
    unfold unitL at h
    rw [List.cons_append]
    unfold unitL
    cases hc : hexD c with
    | none => rw [hc] at h; cases h
    | some x => rw [hc] at h; exact unitL_S z k _ l p h
theorem pointL_S (z : List UInt8) (l : List UInt8) (p : Int × List UInt8) (h : pointL l = some p) : pointL (l ++ z) = some (ext z p) := by
  unfold pointL at h ⊢
  cases h1 : unitL 4 0 l with
  | none => rw [h1] at h; cases h
  | some q =>
    obtain ⟨n, r⟩ := q
    rw [h1] at h
    rw [show unitL 4 0 (l ++ z) = some (n, r ++ z) from unitL_S z _ _ _ _ h1]
    dsimp only at h ⊢
    by_cases c1 : n < 55296 ∨ 57343 < n
    · rw [if_pos c1] at h ⊢; cases h; rfl
    rw [if_neg c1] at h ⊢
    by_cases c2 : 56320 ≤ n
    · rw [if_pos c2] at h; cases h
    rw [if_neg c2] at h ⊢
    by_cases c3 : r.take 2 = [92, 117]
    · obtain ⟨e1, e2⟩ := take_app (z := z) (n := 2) (w := [92, 117]) rfl c3
      rw [if_pos c3] at h
      rw [if_pos e1, e2]
      cases h2 : unitL 4 0 (r.drop 2) with
      | none => rw [h2] at h; cases h
      | some q =>
        obtain ⟨low, r2⟩ := q
        rw [h2] at h
        rw [show unitL 4 0 (r.drop 2 ++ z) = some (low, r2 ++ z) from unitL_S z _ _ _ _ h2]
        dsimp only at h ⊢
        by_cases c4 : low < 56320 ∨ 57343 < low
        · rw [if_pos c4] at h; cases h
        rw [if_neg c4] at h ⊢
        cases h; rfl
    · rw [if_neg c3] at h; cases h
theorem escL_S (z : List UInt8) (l : List UInt8) (p : List UInt8 × List UInt8) (h : escL l = some p) : escL (l ++ z) = some (ext z p) := by
  cases l with
  | nil => unfold escL at h; cases h
  | cons c l =>
    rw [List.cons_append]
    unfold escL at h ⊢
    simp only at h ⊢
    by_cases c1 : c = 34 ∨ c = 92 ∨ c = 47
    · rw [if_pos c1] at h ⊢; cases h; rfl
    rw [if_neg c1] at h ⊢
    by_cases c2 : c = 98
    · rw [if_pos c2] at h ⊢; cases h; rfl
    rw [if_neg c2] at h ⊢
    by_cases c3 : c = 102
    · rw [if_pos c3] at h ⊢; cases h; rfl
    rw [if_neg c3] at h ⊢
    by_cases c4 : c = 110
    · rw [if_pos c4] at h ⊢; cases h; rfl
    rw [if_neg c4] at h ⊢
    by_cases c5 : c = 114
    · rw [if_pos c5] at h ⊢; cases h; rfl
    rw [if_neg c5] at h ⊢
    by_cases c6 : c = 116
    · rw [if_pos c6] at h ⊢; cases h; rfl
    rw [if_neg c6] at h ⊢
    by_cases c7 : c = 117
    · rw [if_pos c7] at h ⊢
      cases hp : pointL l with
      | none => rw [hp] at h; cases h
      | some q => rw [hp] at h; rw [pointL_S z l q hp]; cases h; rfl
    · rw [if_neg c7] at h; cases h
theorem decL_S (z : List UInt8) {l : List UInt8} {x : Int} {m : Nat} (h : decL l = some (x, m)) : decL (l ++ z) = some (x, m) := by
  obtain ⟨h1, h2, h3⟩ := decL_some l x m h
  rw [h3, List.append_assoc, decL_put x _ h1, h2]
theorem textT_S (z : List UInt8) : ∀ (k : Nat) (l acc : List UInt8) (p : List UInt8 × List UInt8), l.length ≤ k → textT l acc = some p → textT (l ++ z) acc = some (ext z p)
  | 0, l, acc, p, hk, h => by
    have : l = [] := List.eq_nil_of_length_eq_zero (by omega)
    subst this
    rw [textT_nil] at h; cases h
  | k + 1, [], acc, p, hk, h => by rw [textT_nil] at h; cases h
  | k + 1, c :: l, acc, p, hk, h => by
    simp only [List.length_cons] at hk
    rw [textT_cons] at h
    rw [List.cons_append, textT_cons]
    by_cases c1 : c < 32
    · rw [if_pos c1] at h; cases h
    rw [if_neg c1] at h ⊢
    by_cases c2 : c = 34
    · rw [if_pos c2] at h ⊢; cases h; rfl
    rw [if_neg c2] at h ⊢
    by_cases c3 : c = 92
    · rw [if_pos c3] at h ⊢
      cases he : escL l with
      | none => rw [he] at h; cases h
      | some q =>
        obtain ⟨b, r2⟩ := q
        have := (escL_le he).2
        rw [he] at h
        rw [show escL (l ++ z) = some (b, r2 ++ z) from escL_S z l _ he]
        exact textT_S z k _ _ p (by omega) h
    rw [if_neg c3] at h ⊢
    cases hd : decL (c :: l) with
    | none => rw [hd] at h; cases h
    | some q =>
      obtain ⟨x, m⟩ := q
      rw [hd] at h
      have hz := decL_S z hd
      rw [List.cons_append] at hz
      rw [hz]
      have hm := dec_le _ _ _ hd
      have hdl := List.length_drop (l := c :: l) (i := m)
      simp only [List.length_cons] at hdl hm
      have e1 : (c :: (l ++ z)).drop m = (c :: l).drop m ++ z := by rw [← List.cons_append]; exact List.drop_append_of_le_length (by simp; omega)
      have e2 : (c :: (l ++ z)).take m = (c :: l).take m := by rw [← List.cons_append]; exact List.take_append_of_le_length (by simp; omega)
      simp only
      rw [e1, e2]
      exact textT_S z k _ _ p (by omega) h
theorem head_app {l : List UInt8} {c : UInt8} (h : l.head? = some c) (z : List UInt8) : (l ++ z).head? = some c := by
  cases l with
  | nil => cases h
  | cons a l => exact h
theorem head_app_ne {l : List UInt8} (h : l ≠ []) (z : List UInt8) : (l ++ z).head? = l.head? ∧ (l ++ z).tail = l.tail ++ z := by
  cases l with
  | nil => exact absurd rfl h
  | cons a l => exact ⟨rfl, rfl⟩
theorem ne_of_head {l : List UInt8} {c : UInt8} (h : l.head? = some c) : l ≠ [] := fun e => by rw [e] at h; cases h
theorem textL_S (z : List UInt8) {l : List UInt8} {p : List UInt8 × List UInt8} (h : textL l = some p) : textL (l ++ z) = some (ext z p) := by
  unfold textL at h ⊢
  by_cases hh : l.head? = some 34
  · rw [if_pos hh] at h
    rw [if_pos (head_app hh z), (head_app_ne (ne_of_head hh) z).2]
    exact textT_S z _ _ _ p (Nat.le_refl _) h
  · rw [if_neg hh] at h; cases h
theorem tw_app (z : List UInt8) : ∀ (l : List UInt8), (l.dropWhile digB ≠ [] ∨ ∀ c, z.head? = some c → digB c = false) → (l ++ z).takeWhile digB = l.takeWhile digB ∧ (l ++ z).dropWhile digB = l.dropWhile digB ++ z
  | [], h => by
    rcases h with h | h
    · exact absurd rfl h
    · cases z with
      | nil => exact ⟨rfl, rfl⟩
      | cons c z =>
        have := h c rfl
        simp [List.takeWhile_cons, List.dropWhile_cons, this]
  | a :: l, h => by
    by_cases ha : digB a = true
    · have := tw_app z l (by
        rcases h with h | h
        · left; simpa [List.dropWhile_cons, ha] using h
        · exact .inr h)
      simp [List.takeWhile_cons, List.dropWhile_cons, ha, this.1, this.2]
    · simp [List.takeWhile_cons, List.dropWhile_cons, ha]
theorem numTail_app (neg : Bool) (l z : List UInt8) (h : l.dropWhile digB ≠ [] ∨ numEnd z) : numTail neg (l ++ z) = (numTail neg l).map (ext z) := by
  obtain ⟨e1, e2⟩ := tw_app z l (by rcases h with h | h; exact .inl h; exact .inr (fun c hc => (h c hc).1))
  unfold numTail
  rw [e1, e2]
  have e3 : pointB (l.dropWhile digB ++ z) = pointB (l.dropWhile digB) := by
    cases hd : l.dropWhile digB with
    | nil =>
      rcases h with h | h
      · exact absurd hd h
      · rw [List.nil_append, point_end h]; rfl
    | cons a d => rfl
  rw [e3]
  by_cases hl : l = []
  · subst hl
    rw [if_pos (.inl rfl), if_pos (.inl rfl)]; rfl
  rw [(head_app_ne hl z).1]
  split
  · rfl
  · rfl
theorem numL_app (l z : List UInt8) (hl : l ≠ []) (h : numEnd z ∨ ∀ p, numL l = some p → p.2 ≠ []) : numL (l ++ z) = (numL l).map (ext z) ∨ numL l = none := by
  unfold numL at h ⊢
  rw [(head_app_ne hl z).1, (head_app_ne hl z).2]
  have key : ∀ (neg : Bool) (t : List UInt8), (numEnd z ∨ ∀ p, numTail neg t = some p → p.2 ≠ []) → numTail neg (t ++ z) = (numTail neg t).map (ext z) ∨ numTail neg t = none := by
    intro neg t h
    cases hn : numTail neg t with
    | none => exact .inr rfl
    | some p =>
      left
      rw [numTail_app neg t z, hn]
      rcases h with h | h
      · exact .inr h
      · left
        have := h p hn
        unfold numTail at hn
        split at hn
        · cases hn
        · cases hn; exact this
  split
  · rename_i hh
    rw [if_pos hh] at h
    exact key true _ h
  · rename_i hh
    rw [if_neg hh] at h
    exact key false _ h
theorem numL_nil : numL [] = none := by
  unfold numL numTail
  rw [if_neg (by simp), if_pos (.inl rfl)]
def kindN : Nd → Int
  | .mk k _ _ _ _ => k
def tailOk (n : Nd) (r z : List UInt8) : Prop := r ≠ [] ∨ kindN n ≠ 4 ∨ numEnd z
theorem numL_head {l : List UInt8} {p : Int × List UInt8} (h : numL l = some p) : ∃ c, l.head? = some c ∧ (c = 45 ∨ digB c = true) := by
  cases l with
  | nil => rw [numL_nil] at h; cases h
  | cons c l =>
    refine ⟨c, rfl, ?_⟩
    by_cases hc : c = 45
    · exact .inl hc
    · right
      unfold numL at h
      rw [if_neg (by simpa using hc)] at h
      unfold numTail at h
      cases hd : digB c with
      | true => rfl
      | false =>
        rw [if_pos (.inl (by simp [List.takeWhile_cons, hd]))] at h
        cases h
theorem val_S (z : List UInt8) : ∀ (N : Nat),
    (∀ deep l n r, 2 * l.length ≤ N → valL deep l = .ok (n, r) → tailOk n r z → valL deep (l ++ z) = .ok (n, r ++ z)) ∧
    (∀ deep l ns n r, 2 * l.length + 1 ≤ N → arrL deep l ns = .ok (n, r) → arrL deep (l ++ z) ns = .ok (n, r ++ z)) ∧
    (∀ deep l ks ns n r, 2 * l.length + 1 ≤ N → objL deep l ks ns = .ok (n, r) → objL deep (l ++ z) ks ns = .ok (n, r ++ z)) := by
  intro N
  induction N using Nat.strongRecOn with
  | _ N ih =>
    refine ⟨?_, ?_, ?_⟩
    · intro deep l n r hN h hT
      by_cases h91 : l.head? = some 91
      · by_cases h24 : 24 ≤ deep
        · rw [valL_deep deep l (.inl h91) h24] at h; cases h
        rw [valL_arr deep l h91 h24] at h
        rw [valL_arr deep _ (head_app h91 z) h24, (head_app_ne (ne_of_head h91) z).2]
        have ht := tail_lt h91
        have hb := blanksL_le l.tail
        by_cases hbe : blanksL l.tail = []
        · rw [hbe] at h
          rw [if_neg (by simp), arrL_eq] at h
          have : valL (deep + 1) (blanksL []) = .error 3 := by
            show valL (deep + 1) [] = _
            rw [valL_else _ _ (by simp) (by simp) (by simp), if_neg (by simp), if_neg (by simp), if_neg (by simp), numL_nil]
          rw [this] at h; cases h
        rw [bl_app hbe, (head_app_ne hbe z).1, (head_app_ne hbe z).2]
        split
        · rename_i h93
          rw [if_pos h93] at h
          cases h; rfl
        · rename_i h93
          rw [if_neg h93] at h
          exact (ih (2 * (blanksL l.tail).length + 1) (by omega)).2.1 deep _ _ n r (Nat.le_refl _) h
      by_cases h123 : l.head? = some 123
      · by_cases h24 : 24 ≤ deep
        · rw [valL_deep deep l (.inr h123) h24] at h; cases h
        rw [valL_obj deep l h123 h24] at h
        rw [valL_obj deep _ (head_app h123 z) h24, (head_app_ne (ne_of_head h123) z).2]
        have ht := tail_lt h123
        have hb := blanksL_le l.tail
        by_cases hbe : blanksL l.tail = []
        · rw [hbe] at h
          rw [if_neg (by simp), objL_eq] at h
          have : textL (blanksL []) = none := by
            show textL [] = none
            unfold textL
            rw [if_neg (by simp)]
          rw [this] at h; cases h
        rw [bl_app hbe, (head_app_ne hbe z).1, (head_app_ne hbe z).2]
        split
        · rename_i h93
          rw [if_pos h93] at h
          cases h; rfl
        · rename_i h93
          rw [if_neg h93] at h
          exact (ih (2 * (blanksL l.tail).length + 1) (by omega)).2.2 deep _ _ _ n r (Nat.le_refl _) h
      by_cases h34 : l.head? = some 34
      · rw [valL_str deep l h34] at h
        rw [valL_str deep _ (head_app h34 z)]
        cases ht : textL l with
        | none => rw [ht] at h; cases h
        | some p =>
          obtain ⟨t, r'⟩ := p
          rw [ht] at h
          rw [show textL (l ++ z) = some (t, r' ++ z) from textL_S z ht]
          simp only [Except.ok.injEq, Prod.mk.injEq] at h
          obtain ⟨rfl, rfl⟩ := h
          rfl
      rw [valL_else deep l h91 h123 h34] at h
      by_cases t1 : l.take 4 = [110, 117, 108, 108]
      · rw [if_pos t1] at h
        obtain ⟨e1, e2⟩ := take_app (z := z) (n := 4) (w := [110, 117, 108, 108]) rfl t1
        have hh := take_head e1
        rw [valL_else deep _ (by rw [hh]; simp) (by rw [hh]; simp) (by rw [hh]; simp), if_pos e1, e2]
        cases h; rfl
      rw [if_neg t1] at h
      by_cases t2 : l.take 5 = [102, 97, 108, 115, 101]
      · rw [if_pos t2] at h
        obtain ⟨e1, e2⟩ := take_app (z := z) (n := 5) (w := [102, 97, 108, 115, 101]) rfl t2
        have hh := take_head e1
        rw [valL_else deep _ (by rw [hh]; simp) (by rw [hh]; simp) (by rw [hh]; simp), if_neg (fun e => by have := take_head e; rw [hh] at this; simp at this), if_pos e1, e2]
        cases h; rfl
      rw [if_neg t2] at h
      by_cases t3 : l.take 4 = [116, 114, 117, 101]
      · rw [if_pos t3] at h
        obtain ⟨e1, e2⟩ := take_app (z := z) (n := 4) (w := [116, 114, 117, 101]) rfl t3
        have hh := take_head e1
        rw [valL_else deep _ (by rw [hh]; simp) (by rw [hh]; simp) (by rw [hh]; simp), if_neg (fun e => by have := take_head e; rw [hh] at this; simp at this), if_neg (fun e => by have := take_head e; rw [hh] at this; simp at this), if_pos e1, e2]
        cases h; rfl
      rw [if_neg t3] at h
      cases ht : numL l with
      | none => rw [ht] at h; cases h
      | some p =>
        obtain ⟨m, r'⟩ := p
        obtain ⟨c, hc, hd⟩ := numL_head ht
        rw [ht] at h
        simp only [Except.ok.injEq, Prod.mk.injEq] at h
        obtain ⟨rfl, rfl⟩ := h
        rw [valL_num deep _ c (head_app hc z) hd]
        rcases numL_app l z (ne_of_head hc) (by
          rcases hT with h | h | h
          · right; intro p hp; rw [ht] at hp; cases hp; exact h
          · exact absurd rfl h
          · exact .inl h) with e | e
        · rw [e, ht]; rfl
        · rw [e] at ht; cases ht
    · intro deep l ns n r hN h
      rw [arrL_eq] at h ⊢
      have hb := blanksL_le l
      cases hv : valL (deep + 1) (blanksL l) with
      | error e => rw [hv] at h; cases h
      | ok p =>
        obtain ⟨x, r1⟩ := p
        have hr1 := (valL_le hv).2
        have hbe : blanksL l ≠ [] := fun e => by rw [e] at hr1; simp at hr1
        rw [hv] at h
        simp only at h
        have hb1 := blanksL_le r1
        have hr1e : blanksL r1 ≠ [] := fun e => by rw [e] at h; simp at h
        have hr1n : r1 ≠ [] := fun e => hr1e (by rw [e]; rfl)
        rw [bl_app hbe, (ih (2 * (blanksL l).length) (by omega)).1 (deep + 1) _ x r1 (Nat.le_refl _) hv (.inl hr1n)]
        simp only
        rw [bl_app hr1e, (head_app_ne hr1e z).1, (head_app_ne hr1e z).2]
        split
        · rename_i h93
          rw [if_pos h93] at h
          cases h; rfl
        · rename_i h93
          rw [if_neg h93] at h
          split
          · rename_i h44
            rw [if_pos h44] at h
            have ht := tail_lt h44
            exact (ih (2 * (blanksL r1).tail.length + 1) (by omega)).2.1 deep _ _ n r (Nat.le_refl _) h
          · rename_i h44
            rw [if_neg h44] at h; cases h
    · intro deep l ks ns n r hN h
      rw [objL_eq] at h ⊢
      have hb := blanksL_le l
      cases ht : textL (blanksL l) with
      | none => rw [ht] at h; cases h
      | some p =>
        obtain ⟨k, r0⟩ := p
        rw [ht] at h
        simp only at h
        have hr0 := (textL_le ht).2
        have hbe : blanksL l ≠ [] := fun e => by rw [e] at hr0; simp at hr0
        have hb0 := blanksL_le r0
        rw [bl_app hbe, show textL (blanksL l ++ z) = some (k, r0 ++ z) from textL_S z ht]
        simp only
        split
        · rename_i hany
          rw [if_pos hany] at h; cases h
        rename_i hany
        rw [if_neg hany] at h
        have hr0e : blanksL r0 ≠ [] := fun e => by rw [e] at h; simp at h
        rw [bl_app hr0e, (head_app_ne hr0e z).1, (head_app_ne hr0e z).2]
        by_cases h58 : (blanksL r0).head? = some 58
        · rw [if_pos h58] at h ⊢
          have h58 := tail_lt h58
          have hb2 := blanksL_le (blanksL r0).tail
          cases hv : valL (deep + 1) (blanksL (blanksL r0).tail) with
          | error e => rw [hv] at h; cases h
          | ok p =>
            obtain ⟨x, r1⟩ := p
            rw [hv] at h
            simp only at h
            have hr1 := (valL_le hv).2
            have hb1 := blanksL_le r1
            have hte : blanksL (blanksL r0).tail ≠ [] := fun e => by rw [e] at hr1; simp at hr1
            have hr1e : blanksL r1 ≠ [] := fun e => by rw [e] at h; simp at h
            have hr1n : r1 ≠ [] := fun e => hr1e (by rw [e]; rfl)
            rw [bl_app hte, (ih (2 * (blanksL (blanksL r0).tail).length) (by omega)).1 (deep + 1) _ x r1 (Nat.le_refl _) hv (.inl hr1n)]
            simp only
            rw [bl_app hr1e, (head_app_ne hr1e z).1, (head_app_ne hr1e z).2]
            split
            · rename_i h93
              rw [if_pos h93] at h
              cases h; rfl
            · rename_i h93
              rw [if_neg h93] at h
              split
              · rename_i h44
                rw [if_pos h44] at h
                have ht := tail_lt h44
                exact (ih (2 * (blanksL r1).tail.length + 1) (by omega)).2.2 deep _ _ _ n r (Nat.le_refl _) h
              · rename_i h44
                rw [if_neg h44] at h; cases h
        · rw [if_neg h58] at h; cases h
end Go.Proofs.Ytjigceoponlphaa
/-! Plain laws of reading JSON: blanks behind what cannot be read change nothing. -/
namespace Go.Proofs.Ytjigceoponlphaa
open Go.RowKit Go.PlainAid
set_option linter.unusedVariables false
set_option linter.unusedSimpArgs false
theorem unitL_F {z : List UInt8} (hz : Bz z) : ∀ (k : Nat) (n : Int) (l : List UInt8), unitL k n l = none → unitL k n (l ++ z) = none
  | 0, n, l, h => by unfold unitL at h; cases h
  | k + 1, n, [], h => by
    cases z with
    | nil => exact h
    | cons c z =>
      have : hexD c = none := by rcases blank_cases (hz c (by simp)) with rfl | rfl | rfl | rfl <;> decide
      rw [List.nil_append]
      unfold unitL
      rw [this]
  | k + 1, n, c :: l, h => by
    unfold unitL at h
    rw [List.cons_append]
    unfold unitL
    cases hc : hexD c with
    | none => rfl
    | some x => rw [hc] at h; exact unitL_F hz k _ l h
theorem pointL_F {z : List UInt8} (hz : Bz z) (l : List UInt8) (h : pointL l = none) : pointL (l ++ z) = none := by
  unfold pointL at h ⊢
  cases h1 : unitL 4 0 l with
  | none => rw [unitL_F hz _ _ _ h1]
  | some q =>
    obtain ⟨n, r⟩ := q
    rw [h1] at h
    rw [show unitL 4 0 (l ++ z) = some (n, r ++ z) from unitL_S z _ _ _ _ h1]
    dsimp only at h ⊢
    by_cases c1 : n < 55296 ∨ 57343 < n
    · rw [if_pos c1] at h; cases h
    rw [if_neg c1] at h ⊢
    by_cases c2 : 56320 ≤ n
    · rw [if_pos c2]
    rw [if_neg c2] at h ⊢
    by_cases c3 : r.take 2 = [92, 117]
    · obtain ⟨e1, e2⟩ := take_app (z := z) (n := 2) (w := [92, 117]) rfl c3
      rw [if_pos c3] at h
      rw [if_pos e1, e2]
      cases h2 : unitL 4 0 (r.drop 2) with
      | none => rw [unitL_F hz _ _ _ h2]
      | some q =>
        obtain ⟨low, r2⟩ := q
        rw [h2] at h
        rw [show unitL 4 0 (r.drop 2 ++ z) = some (low, r2 ++ z) from unitL_S z _ _ _ _ h2]
        dsimp only at h ⊢
        by_cases c4 : low < 56320 ∨ 57343 < low
        · rw [if_pos c4]
        rw [if_neg c4] at h
        cases h
    · rw [if_neg]
      intro e
      have := take_bl (w := [92, 117]) (n := 2) hz (by decide) rfl e
      rw [List.take_append_of_le_length this] at e
      exact c3 e
theorem escL_F {z : List UInt8} (hz : Bz z) (l : List UInt8) (h : escL l = none) : escL (l ++ z) = none := by
  cases l with
  | nil =>
    cases z with
    | nil => exact h
    | cons c z =>
      rcases blank_cases (hz c (by simp)) with rfl | rfl | rfl | rfl <;> rfl
  | cons c l =>
    rw [List.cons_append]
    unfold escL at h ⊢
    simp only at h ⊢
    by_cases c1 : c = 34 ∨ c = 92 ∨ c = 47
    · rw [if_pos c1] at h; cases h
    rw [if_neg c1] at h ⊢
    by_cases c2 : c = 98
    · rw [if_pos c2] at h; cases h
    rw [if_neg c2] at h ⊢
    by_cases c3 : c = 102
    · rw [if_pos c3] at h; cases h
    rw [if_neg c3] at h ⊢
    by_cases c4 : c = 110
    · rw [if_pos c4] at h; cases h
    rw [if_neg c4] at h ⊢
    by_cases c5 : c = 114
    · rw [if_pos c5] at h; cases h
    rw [if_neg c5] at h ⊢
    by_cases c6 : c = 116
    · rw [if_pos c6] at h; cases h
    rw [if_neg c6] at h ⊢
    by_cases c7 : c = 117
    · rw [if_pos c7] at h ⊢
      cases hp : pointL l with
      | none => rw [pointL_F hz l hp]
      | some q => rw [hp] at h; cases h
    · rw [if_neg c7]
theorem decL_F {z : List UInt8} (hz : Bz z) {l : List UInt8} (hl : l ≠ []) (h : decL l = none) : decL (l ++ z) = none := by
  cases hd : decL (l ++ z) with
  | none => rfl
  | some p =>
    exfalso
    obtain ⟨x, m⟩ := p
    obtain ⟨h1, h2, h3⟩ := decL_some _ x m hd
    have hm := dec_le _ _ _ hd
    by_cases hle : m ≤ l.length
    · have : l = putB x ++ l.drop m := by
        have e : (l ++ z).take m = putB x := by rw [h3, h2]; simp
        rw [List.take_append_of_le_length hle] at e
        rw [← e]; exact (List.take_append_drop m l).symm
      rw [this, decL_put x _ h1] at h; cases h
    · cases z with
      | nil => simp at hm; omega
      | cons c z =>
        have hc : c ∈ putB x := by
          have e : (l ++ c :: z).take m = putB x := by rw [h3, h2]; simp
          rw [← e]
          refine List.mem_of_getElem? (i := l.length) ?_
          rw [List.getElem?_take, if_pos (by omega), List.getElem?_append_right (Nat.le_refl _), Nat.sub_self]
          rfl
        have hb : c.toNat < 128 := by rcases blank_cases (hz c (by simp)) with rfl | rfl | rfl | rfl <;> decide
        by_cases hx : x < 128
        · obtain ⟨d, e1, e2⟩ := low_one x h1 hx
          rw [e1] at h2
          have := List.length_pos_iff.2 hl
          simp at h2; omega
        · have := high_all x h1 (by omega) c hc; omega
theorem textT_bz : ∀ (z acc : List UInt8), Bz z → textT z acc = none
  | [], acc, _ => textT_nil acc
  | c :: z, acc, h => by
    rw [textT_cons]
    rcases blank_cases (h c (by simp)) with rfl | rfl | rfl | rfl
    · rw [if_neg (by decide), if_neg (by decide), if_neg (by decide)]
      have : decL (32 :: z) = some (32, 1) := decL_put 32 z (by decide)
      rw [this]
      exact textT_bz z _ (fun x hx => h x (by simp [hx]))
    · rw [if_pos (by decide)]
    · rw [if_pos (by decide)]
    · rw [if_pos (by decide)]
theorem textT_F {z : List UInt8} (hz : Bz z) : ∀ (k : Nat) (l acc : List UInt8), l.length ≤ k → textT l acc = none → textT (l ++ z) acc = none
  | 0, l, acc, hk, h => by
    have : l = [] := List.eq_nil_of_length_eq_zero (by omega)
    subst this
    exact textT_bz z acc hz
  | k + 1, [], acc, hk, h => textT_bz z acc hz
  | k + 1, c :: l, acc, hk, h => by
    simp only [List.length_cons] at hk
    rw [textT_cons] at h
    rw [List.cons_append, textT_cons]
    by_cases c1 : c < 32
    · rw [if_pos c1]
    rw [if_neg c1] at h ⊢
    by_cases c2 : c = 34
    · rw [if_pos c2] at h; cases h
    rw [if_neg c2] at h ⊢
    by_cases c3 : c = 92
    · rw [if_pos c3] at h ⊢
      cases he : escL l with
      | none => rw [escL_F hz l he]
      | some q =>
        obtain ⟨b, r2⟩ := q
        have := (escL_le he).2
        rw [he] at h
        rw [show escL (l ++ z) = some (b, r2 ++ z) from escL_S z l _ he]
        exact textT_F hz k _ _ (by omega) h
    rw [if_neg c3] at h ⊢
    cases hd : decL (c :: l) with
    | none =>
      have := decL_F hz (by simp) hd
      rw [List.cons_append] at this
      rw [this]
    | some q =>
      obtain ⟨x, m⟩ := q
      rw [hd] at h
      have hz' := decL_S z hd
      rw [List.cons_append] at hz'
      rw [hz']
      have hm := dec_le _ _ _ hd
      have hdl := List.length_drop (l := c :: l) (i := m)
      simp only [List.length_cons] at hdl hm
      have e1 : (c :: (l ++ z)).drop m = (c :: l).drop m ++ z := by rw [← List.cons_append]; exact List.drop_append_of_le_length (by simp; omega)
      have e2 : (c :: (l ++ z)).take m = (c :: l).take m := by rw [← List.cons_append]; exact List.take_append_of_le_length (by simp; omega)
      simp only
      rw [e1, e2]
      exact textT_F hz k _ _ (by omega) h
theorem textL_F {z : List UInt8} (hz : Bz z) {l : List UInt8} (h : textL l = none) : textL (l ++ z) = none := by
  unfold textL at h ⊢
  by_cases hh : l.head? = some 34
  · rw [if_pos hh] at h
    rw [if_pos (head_app hh z), (head_app_ne (ne_of_head hh) z).2]
    exact textT_F hz _ _ _ (Nat.le_refl _) h
  · rw [if_neg]
    intro e
    cases l with
    | nil =>
      cases z with
      | nil => cases e
      | cons c z =>
        have hb := hz c (by simp)
        simp at e; subst e
        revert hb; decide
    | cons a l => exact hh e
theorem head_bz {z : List UInt8} (hz : Bz z) {c : UInt8} (hc : blankB c = false) : z.head? ≠ some c := by
  intro e
  cases z with
  | nil => cases e
  | cons a z => simp at e; subst e; have := hz a (by simp); rw [hc] at this; cases this
theorem numL_bz {z : List UInt8} (hz : Bz z) : numL z = none := by
  cases h : numL z with
  | none => rfl
  | some p =>
    obtain ⟨c, hc, hd⟩ := numL_head h
    exact absurd hc (head_bz hz (dig_no hd).1)
theorem numL_F {z : List UInt8} (hz : Bz z) {l : List UInt8} (h : numL l = none) : numL (l ++ z) = none := by
  by_cases hl : l = []
  · subst hl; exact numL_bz hz
  unfold numL at h ⊢
  rw [(head_app_ne hl z).1, (head_app_ne hl z).2]
  split
  · rename_i hh
    rw [if_pos hh] at h
    rw [numTail_app _ _ _ (.inr hz.numEnd), h]; rfl
  · rename_i hh
    rw [if_neg hh] at h
    rw [numTail_app _ _ _ (.inr hz.numEnd), h]; rfl
theorem valL_bz {z : List UInt8} (hz : Bz z) (deep : Nat) : valL deep z = .error 3 := by
  have hn : ∀ (n : Nat) (w : List UInt8) (c : UInt8) (t : List UInt8), w = c :: t → blankB c = false → z.take n ≠ w := fun n w c t e hc h => head_bz hz hc (take_head (h.trans e))
  rw [valL_else deep z (head_bz hz (by decide)) (head_bz hz (by decide)) (head_bz hz (by decide)), if_neg (hn _ _ _ _ rfl (by decide)), if_neg (hn _ _ _ _ rfl (by decide)), if_neg (hn _ _ _ _ rfl (by decide)), numL_bz hz]
theorem val_F {z : List UInt8} (hz : Bz z) : ∀ (N : Nat),
    (∀ deep l e, 2 * l.length ≤ N → valL deep l = .error e → valL deep (l ++ z) = .error e) ∧
    (∀ deep l ns e, 2 * l.length + 1 ≤ N → arrL deep l ns = .error e → arrL deep (l ++ z) ns = .error e) ∧
    (∀ deep l ks ns e, 2 * l.length + 1 ≤ N → objL deep l ks ns = .error e → objL deep (l ++ z) ks ns = .error e) := by
  intro N
  induction N using Nat.strongRecOn with
  | _ N ih =>
    have hnil : Bz [] := fun c hc => by simp at hc
    refine ⟨?_, ?_, ?_⟩
    · intro deep l e hN h
      by_cases hl : l = []
      · subst hl
        rw [valL_bz hnil deep] at h
        rw [List.nil_append, valL_bz hz deep]
        exact h
      by_cases h91 : l.head? = some 91
      · by_cases h24 : 24 ≤ deep
        · rw [valL_deep deep l (.inl h91) h24] at h
          rw [valL_deep deep _ (.inl (head_app h91 z)) h24]; exact h
        rw [valL_arr deep l h91 h24] at h
        rw [valL_arr deep _ (head_app h91 z) h24, (head_app_ne hl z).2]
        have ht := tail_lt h91
        have hb := blanksL_le l.tail
        by_cases hbe : blanksL l.tail = []
        · rw [bl_none hbe hz]
          rw [hbe] at h
          exact h
        rw [bl_app hbe, (head_app_ne hbe z).1, (head_app_ne hbe z).2]
        split
        · rename_i h93
          rw [if_pos h93] at h
          cases h
        · rename_i h93
          rw [if_neg h93] at h
          exact (ih (2 * (blanksL l.tail).length + 1) (by omega)).2.1 deep _ _ e (Nat.le_refl _) h
      by_cases h123 : l.head? = some 123
      · by_cases h24 : 24 ≤ deep
        · rw [valL_deep deep l (.inr h123) h24] at h
          rw [valL_deep deep _ (.inr (head_app h123 z)) h24]; exact h
        rw [valL_obj deep l h123 h24] at h
        rw [valL_obj deep _ (head_app h123 z) h24, (head_app_ne hl z).2]
        have ht := tail_lt h123
        have hb := blanksL_le l.tail
        by_cases hbe : blanksL l.tail = []
        · rw [bl_none hbe hz]
          rw [hbe] at h
          exact h
        rw [bl_app hbe, (head_app_ne hbe z).1, (head_app_ne hbe z).2]
        split
        · rename_i h93
          rw [if_pos h93] at h
          cases h
        · rename_i h93
          rw [if_neg h93] at h
          exact (ih (2 * (blanksL l.tail).length + 1) (by omega)).2.2 deep _ _ _ e (Nat.le_refl _) h
      by_cases h34 : l.head? = some 34
      · rw [valL_str deep l h34] at h
        rw [valL_str deep _ (head_app h34 z)]
        cases ht : textL l with
        | none => rw [ht] at h; rw [textL_F hz ht]; exact h
        | some p => rw [ht] at h; cases h
      rw [valL_else deep l h91 h123 h34] at h
      have hh := (head_app_ne hl z).1
      rw [valL_else deep (l ++ z) (by rw [hh]; exact h91) (by rw [hh]; exact h123) (by rw [hh]; exact h34)]
      have tk : ∀ (n : Nat) (w : List UInt8), (∀ c ∈ w, blankB c = false) → w.length = n → l.take n ≠ w → (l ++ z).take n ≠ w := fun n w hw hn hne e => by
        have := take_bl hz hw hn e
        rw [List.take_append_of_le_length this] at e
        exact hne e
      by_cases t1 : l.take 4 = [110, 117, 108, 108]
      · rw [if_pos t1] at h; cases h
      rw [if_neg t1] at h
      rw [if_neg (tk 4 _ (by decide) rfl t1)]
      by_cases t2 : l.take 5 = [102, 97, 108, 115, 101]
      · rw [if_pos t2] at h; cases h
      rw [if_neg t2] at h
      rw [if_neg (tk 5 _ (by decide) rfl t2)]
      by_cases t3 : l.take 4 = [116, 114, 117, 101]
      · rw [if_pos t3] at h; cases h
      rw [if_neg t3] at h
      rw [if_neg (tk 4 _ (by decide) rfl t3)]
      cases ht : numL l with
      | none => rw [ht] at h; rw [numL_F hz ht]; exact h
      | some p => rw [ht] at h; cases h
    · intro deep l ns e hN h
      have hb := blanksL_le l
      have hv2 : valL (deep + 1) (blanksL (l ++ z)) = match valL (deep + 1) (blanksL l) with | .error e => .error e | .ok (n, r) => if blanksL l = [] then .ok (n, r) else valL (deep + 1) (blanksL l ++ z) := by
        by_cases hbe : blanksL l = []
        · rw [bl_none hbe hz, hbe, valL_bz hnil]
        · rw [bl_app hbe]
          cases hv : valL (deep + 1) (blanksL l) with
          | error e => exact (ih (2 * (blanksL l).length) (by omega)).1 _ _ e (Nat.le_refl _) hv
          | ok p => simp only; rw [if_neg hbe]
      rw [arrL_eq] at h ⊢
      rw [hv2]
      cases hv : valL (deep + 1) (blanksL l) with
      | error e => rw [hv] at h; exact h
      | ok p =>
        obtain ⟨x, r1⟩ := p
        have hr1 := (valL_le hv).2
        have hbe : blanksL l ≠ [] := fun e => by rw [e] at hr1; simp at hr1
        rw [hv] at h
        simp only at h ⊢
        rw [if_neg hbe, (val_S z _).1 (deep + 1) _ x r1 (Nat.le_refl _) hv (.inr (.inr hz.numEnd))]
        have hb1 := blanksL_le r1
        simp only
        by_cases hr1e : blanksL r1 = []
        · rw [bl_none hr1e hz]
          rw [hr1e] at h
          exact h
        rw [bl_app hr1e, (head_app_ne hr1e z).1, (head_app_ne hr1e z).2]
        split
        · rename_i h93
          rw [if_pos h93] at h
          cases h
        · rename_i h93
          rw [if_neg h93] at h
          split
          · rename_i h44
            rw [if_pos h44] at h
            have ht := tail_lt h44
            exact (ih (2 * (blanksL r1).tail.length + 1) (by omega)).2.1 deep _ _ e (Nat.le_refl _) h
          · rename_i h44
            rw [if_neg h44] at h; exact h
    · intro deep l ks ns e hN h
      have hb := blanksL_le l
      rw [objL_eq] at h ⊢
      cases ht : textL (blanksL l) with
      | none =>
        rw [ht] at h
        have : textL (blanksL (l ++ z)) = none := by
          by_cases hbe : blanksL l = []
          · rw [bl_none hbe hz, ← hbe]; exact ht
          · rw [bl_app hbe]; exact textL_F hz ht
        rw [this]; exact h
      | some p =>
        obtain ⟨k, r0⟩ := p
        rw [ht] at h
        simp only at h
        have hr0 := (textL_le ht).2
        have hbe : blanksL l ≠ [] := fun e => by rw [e] at hr0; simp at hr0
        have hb0 := blanksL_le r0
        rw [bl_app hbe, show textL (blanksL l ++ z) = some (k, r0 ++ z) from textL_S z ht]
        simp only
        split
        · rename_i hany
          rw [if_pos hany] at h; exact h
        rename_i hany
        rw [if_neg hany] at h
        by_cases hr0e : blanksL r0 = []
        · rw [bl_none hr0e hz]
          rw [hr0e] at h
          exact h
        rw [bl_app hr0e, (head_app_ne hr0e z).1, (head_app_ne hr0e z).2]
        by_cases h58 : (blanksL r0).head? = some 58
        · rw [if_pos h58] at h ⊢
          have h58 := tail_lt h58
          have hb2 := blanksL_le (blanksL r0).tail
          cases hv : valL (deep + 1) (blanksL (blanksL r0).tail) with
          | error e' =>
            rw [hv] at h
            have : valL (deep + 1) (blanksL ((blanksL r0).tail ++ z)) = .error e' := by
              by_cases hte : blanksL (blanksL r0).tail = []
              · rw [bl_none hte hz, ← hte]; exact hv
              · rw [bl_app hte]
                exact (ih (2 * (blanksL (blanksL r0).tail).length) (by omega)).1 _ _ e' (Nat.le_refl _) hv
            rw [this]; exact h
          | ok p =>
            obtain ⟨x, r1⟩ := p
            rw [hv] at h
            simp only at h
            have hr1 := (valL_le hv).2
            have hb1 := blanksL_le r1
            have hte : blanksL (blanksL r0).tail ≠ [] := fun e => by rw [e] at hr1; simp at hr1
            rw [bl_app hte, (val_S z _).1 (deep + 1) _ x r1 (Nat.le_refl _) hv (.inr (.inr hz.numEnd))]
            simp only
            by_cases hr1e : blanksL r1 = []
            · rw [bl_none hr1e hz]
              rw [hr1e] at h
              exact h
            rw [bl_app hr1e, (head_app_ne hr1e z).1, (head_app_ne hr1e z).2]
            split
            · rename_i h93
              rw [if_pos h93] at h
              cases h
            · rename_i h93
              rw [if_neg h93] at h
              split
              · rename_i h44
                rw [if_pos h44] at h
                have ht := tail_lt h44
                exact (ih (2 * (blanksL r1).tail.length + 1) (by omega)).2.2 deep _ _ _ e (Nat.le_refl _) h
              · rename_i h44
                rw [if_neg h44] at h; exact h
        · rw [if_neg h58] at h ⊢; exact h
/-- blanks around a value change nothing -/
theorem parse_blanks (a l z : List UInt8) (ha : Bz a) (hz : Bz z) (hl : a.length + l.length + z.length ≤ 65536) : parseL (a ++ l ++ z) = parseL l := by
  have e0 : blanksL (a ++ l ++ z) = blanksL (l ++ z) := by
    rw [List.append_assoc]
    clear hl
    induction a with
    | nil => rfl
    | cons c a ih =>
      have : blanksL (c :: a ++ (l ++ z)) = blanksL (a ++ (l ++ z)) := by
        unfold blanksL
        rw [List.cons_append, List.dropWhile_cons, if_pos (ha c (by simp))]
      rw [this]
      exact ih (fun x hx => ha x (by simp [hx]))
  unfold parseL
  rw [if_neg (by simp; omega), if_neg (by omega), e0]
  by_cases hbe : blanksL l = []
  · rw [bl_none hbe hz, hbe]
  rw [bl_app hbe]
  cases hv : valL 0 (blanksL l) with
  | error e => rw [(val_F hz _).1 0 _ e (Nat.le_refl _) hv]
  | ok p =>
    obtain ⟨n, r⟩ := p
    rw [(val_S z _).1 0 _ n r (Nat.le_refl _) hv (.inr (.inr hz.numEnd))]
    simp only
    by_cases hr : blanksL r = []
    · rw [bl_none hr hz, hr]
    · rw [bl_app hr, if_neg hr, if_neg (by simp [hr])]
/-- another byte behind a value that is no number -/
theorem parse_more (l : List UInt8) (n : Nd) (c : UInt8) (h : parseL l = .ok n) (hk : kindN n ≠ 4) (hc : blankB c = false) (hl : l.length + 1 ≤ 65536) : parseL (l ++ [c]) = .error 3 := by
  unfold parseL at h ⊢
  rw [if_neg (by omega)] at h
  rw [if_neg (by simp; omega)]
  cases hv : valL 0 (blanksL l) with
  | error e => rw [hv] at h; cases h
  | ok p =>
    obtain ⟨m, r⟩ := p
    rw [hv] at h
    simp only at h
    split at h
    · rename_i hr
      cases h
      have hr1 := (valL_le hv).2
      have hbe : blanksL l ≠ [] := fun e => by rw [e] at hr1; simp at hr1
      rw [bl_app hbe, (val_S [c] _).1 0 _ n r (Nat.le_refl _) hv (.inr (.inl hk))]
      simp only
      rw [if_neg]
      unfold blanksL
      intro e
      rw [dw_nil] at e
      have := e c (by simp)
      rw [hc] at this; cases this
    · cases h
end Go.Proofs.Ytjigceoponlphaa
/-! Plain laws of reading JSON: a value whose text is short is no great one. -/
namespace Go.Proofs.Ytjigceoponlphaa
open Go.RowKit Go.PlainAid
set_option linter.unusedVariables false
set_option linter.unusedSimpArgs false
theorem putU_pos (n : Nd) : 1 ≤ (putU n).length := by
  obtain ⟨c, t, h, _⟩ := putU_head n []
  rw [List.append_nil] at h
  rw [h]; simp
theorem key_len : ∀ (ms : List Nd) (kk : List ByteArray), kk.length = ms.length → ∀ k ∈ kk, k.size ≤ (putL true kk ms true).length
  | [], [], _, k, hk => by simp at hk
  | [], _ :: _, h, _, _ => by simp at h
  | n :: ms, [], h, _, _ => by simp at h
  | n :: ms, a :: kk, h, k, hk => by
    rw [putL_len, if_pos rfl, List.headD_cons, List.tail_cons]
    rcases List.mem_cons.1 hk with rfl | hk
    · have := quote_ge k.toList
      rw [tl_len'] at this
      omega
    · have := key_len ms kk (by simpa using h) k hk
      have hne : ms ≠ [] := by
        rintro rfl
        have : kk = [] := List.eq_nil_of_length_eq_zero (by simpa using h)
        subst this; simp at hk
      rw [if_neg hne]
      omega
mutual
theorem gN_put : ∀ (n : Nd) (deep : Int), rightD n deep = true → gN n + 10 ≤ 60 * (putU n).length ∧ ((putU n).length ≤ 1000000000 → goodN n)
  | .mk k num t ks ns, deep, hr => by
    unfold rightD rightN bareF at hr
    simp only [Bool.and_eq_true, Bool.or_eq_true, beq_iff_eq, decide_eq_true_eq] at hr
    obtain ⟨⟨⟨⟨b1, b2⟩, b3⟩, b4⟩, hr⟩ := hr
    have hp := putU_pos (.mk k num t ks ns)
    have nokid : ¬ (k = 6 ∨ k = 7) → ks = [] ∧ ns = [] := fun h => ⟨List.eq_nil_of_length_eq_zero (by rcases b3 with h' | h'; omega; exact h'), List.eq_nil_of_length_eq_zero (by rcases b4 with (h' | h') | h'; omega; omega; exact h')⟩
    have ht : k ≠ 5 → t = ⟨#[]⟩ := fun h => by rcases b2 with h' | h'; exact absurd h' h; exact h'
    have hnum : -9223372036854775808 ≤ num ∧ num ≤ 9223372036854775807 := by
      rcases hr with ((((rfl | rfl) | rfl) | ⟨rfl, h1, h2⟩) | ⟨rfl, hv⟩) | ⟨⟨⟨h67, hdp⟩, hk⟩, hkid⟩ <;> omega
    by_cases h67 : k = 6 ∨ k = 7
    · have hkid : rightL 9007199254740991 24 ns (deep + 1) = true ∧ (k = 6 ∨ ks.length = ns.length ∧ keysB ks = true) := by
        rcases hr with ((((rfl | rfl) | rfl) | ⟨rfl, _⟩) | ⟨rfl, _⟩) | ⟨⟨⟨_, _⟩, hk⟩, hkid⟩
        · omega
        · omega
        · omega
        · omega
        · omega
        · exact ⟨hkid, hk⟩
      have e2 := ht (by omega)
      subst e2
      have hks : k = 6 → ks = [] := fun h => List.eq_nil_of_length_eq_zero (by rcases b3 with h' | h'; omega; exact h')
      obtain ⟨g1, g2⟩ := gL_put (k == 7) ks ns (deep + 1) hkid.1 (by
        intro h
        have : k = 7 := by simpa using h
        rcases hkid.2 with h' | h'
        · omega
        · exact h'.1) (by
        intro h
        have : k ≠ 7 := by simpa using h
        exact hks (by omega))
      have hput : (putU (.mk k num ⟨#[]⟩ ks ns)).length = 2 + (putL (k == 7) ks ns true).length := by
        unfold putU
        rw [if_neg (by omega), if_neg (by omega), if_neg (by omega), if_neg (by omega), if_neg (by omega)]
        split <;> (simp; omega)
      rw [hput]
      unfold gN goodN
      refine ⟨?_, fun hl => ⟨hnum, fun h => ?_, by decide, ?_, g2 (by omega)⟩⟩
      · have : (⟨#[]⟩ : ByteArray).size = 0 := rfl
        omega
      · rcases hkid.2 with h' | h'
        · omega
        · exact h'.1
      · intro s hs
        by_cases h6 : k = 6
        · rw [hks h6] at hs; cases hs
        · have h7 : k = 7 := by omega
          have hb : (k == 7) = true := by simp [h7]
          rw [hb] at hput hl
          have hlen : ks.length = ns.length := by
            rcases hkid.2 with h' | h'
            · omega
            · exact h'.1
          obtain ⟨i, hi⟩ := List.getElem?_of_mem hs
          have := key_len ns ks hlen s hs
          omega
    · obtain ⟨rfl, rfl⟩ := nokid h67
      unfold gN goodN gL goodL
      by_cases h5 : k = 5
      · subst h5
        have hput : (putU (.mk 5 num t [] [])).length = (quoteU t.toList).length := by
          unfold putU
          rw [if_neg (by omega), if_neg (by omega), if_neg (by omega), if_neg (by omega), if_pos rfl]
        have hq := quote_ge t.toList
        rw [tl_len'] at hq
        rw [hput]
        exact ⟨by omega, fun hl => ⟨hnum, by omega, by omega, by simp, trivial⟩⟩
      · have e2 := ht h5
        subst e2
        have : (⟨#[]⟩ : ByteArray).size = 0 := rfl
        exact ⟨by omega, fun hl => ⟨hnum, by omega, by omega, by simp, trivial⟩⟩
theorem gL_put : ∀ (obj : Bool) (ks : List ByteArray) (ns : List Nd) (deep : Int), rightL 9007199254740991 24 ns deep = true → (obj = true → ks.length = ns.length) → (obj = false → ks = []) →
    gL ks ns ≤ 60 * (putL obj ks ns true).length ∧ ((putL obj ks ns true).length ≤ 1000000000 → goodL ns)
  | obj, ks, [], deep, hr, h1, h2 => by unfold gL goodL; exact ⟨by omega, fun _ => trivial⟩
  | obj, ks, n :: ns, deep, hr, h1, h2 => by
    unfold rightL at hr
    rw [Bool.and_eq_true] at hr
    obtain ⟨g1, g2⟩ := gN_put n deep hr.1
    obtain ⟨g3, g4⟩ := gL_put obj ks.tail ns deep hr.2 (fun h => by have := h1 h; simp at this ⊢; omega) (fun h => by rw [h2 h]; rfl)
    have hl := putL_len obj ks n ns
    have hns : ns = [] → (putL obj ks.tail ns true).length = 0 := fun h => by rw [h]; unfold putL; rfl
    have hle : (putL obj ks.tail ns true).length ≤ (if ns = [] then 0 else 1 + (putL obj ks.tail ns true).length) := by
      split
      · rename_i h; rw [hns h]; exact Nat.le_refl _
      · omega
    unfold gL goodL
    cases obj with
    | true =>
      have hq := quote_ge (ks.headD ⟨#[]⟩).toList
      rw [tl_len'] at hq
      rw [if_pos rfl] at hl
      exact ⟨by omega, fun h => ⟨g2 (by omega), g4 (by omega)⟩⟩
    | false =>
      rw [h2 rfl] at hl ⊢
      rw [if_neg (by simp)] at hl
      have : ([].headD (⟨#[]⟩ : ByteArray)).size = 0 := rfl
      rw [h2 rfl] at g3 g4 hle
      exact ⟨by simp only [List.tail_nil] at *; omega, fun h => ⟨g2 (by omega), g4 (by simp only [List.tail_nil] at *; omega)⟩⟩
end
end Go.Proofs.Ytjigceoponlphaa
/-! The walk of the reference's put. -/
namespace Go.Proofs.Ytjigceoponlphaa
open Go.RowKit Go.PlainAid
set_option linter.unusedVariables false
set_option linter.unusedSimpArgs false
def PutC (B : Nat) (v : Value) (vs : Array Value) (l' : List UInt8) (w : World) : Prop := Calls Try.prog 29 #[v, .agg vs] w (OutIs B l' w)
def PutH (B : Nat) (ns : List Nd) : Prop := ∀ (i : Nat) (n : Nd), ns[i]? = some n → ∀ (cs : List Value) (v : Value) (l : List UInt8) (w : World), NdIs w B n cs → OwnU w B v l → B ≤ w.heap.size → l.length + gN n ≤ 99990000000000 → PutC B v cs.toArray (l ++ putU n) w
theorem KU.reads {B : Nat} {w w' : World} (h : KU B w w') {size n : Nat} {A : Option Addr} {xs : List Value} (hr : Reads w B size A n xs) : Reads w' B size A n xs := hr.keep fun p hp => h.1.cell hp
theorem KU.nds {B : Nat} {w w' : World} (h : KU B w w') {ns : List Nd} {xs : List Value} (hr : NdsIs w B ns xs) : NdsIs w' B ns xs := NdsIs.keep (fun p hp => h.1.cell hp) _ _ hr
theorem digS_itoa (n : Int) (h : 0 ≤ n) : (digS n).toList = Lib.itoa n := by
  unfold digS
  rw [ByteArray.toList_eq, show max n 0 = n by omega]
theorem itoa_neg' (n : Int) (h : n < 0) : Lib.itoa n = 45 :: Lib.itoa (-n) := by
  unfold Lib.itoa
  rw [if_pos h, if_neg (by omega)]
  congr 2
  omega
set_option maxRecDepth 100000 in
set_option maxHeartbeats 3000000 in
theorem rput_c1 (num : Int) (t : ByteArray) (ks : List ByteArray) (ns : List Nd) (A A2 : Option Addr) (ck cc : Nat) (xs : List Value) (B : Nat) (v : Value) (l : List UInt8) (w : World)
    (hO : OwnU w B v l) (hB : B ≤ w.heap.size) (hl : l.length + 100 ≤ 100000000000000) :
    PutC B v #[.int .i64 1, .int .i64 num, .string t, .slice A ks.length ck, .slice A2 ns.length cc] (l ++ putU (.mk 1 num t ks ns)) w := by
  show Calls Try.prog 29 #[v, .agg #[.int .i64 1, .int .i64 num, .string t, .slice A ks.length ck, .slice A2 ns.length cc]] w (OutIs B _ w)
  have K0 : Hid (KU B w (w.alloc (.cells #[.int .i64 1, .int .i64 num, .string t, .slice A ks.length ck, .slice A2 ns.length cc] 27))) := (KU.refl _ _).alloc hB _
  have HO : Hid (OwnU (w.alloc (.cells #[.int .i64 1, .int .i64 num, .string t, .slice A ks.length ck, .slice A2 ns.length cc] 27)) B v l) := hO.old ((Below.refl _ _).alloc (Nat.le_refl _) _)
  clear hO
  have HE : Hid (putU (.mk 1 num t ks ns) = [110, 117, 108, 108]) := by show _ = _; unfold putU; rfl
  generalize putU (.mk 1 num t ks ns) = X at *
  go_enter Try.func29, Try.ntmps29
  go_wp2_with (at_builtin; refine wpList_pushS _ rfl _ _ rfl B _ l rfl HO.out _ rfl [110, 117, 108, 108] (by kernel_rfl) (by simp; omega) (by simp; omega) ?_; intro v1 w1 n1 k1; have N1 := Lib.hid n1; have K1 := Lib.hid k1; clear n1 k1)
  go_ret
  exact ⟨_, rfl, by rw [HE.out]; exact N1.out, K0.out.trans K1.out⟩
set_option maxRecDepth 100000 in
set_option maxHeartbeats 3000000 in
theorem rput_c2 (num : Int) (t : ByteArray) (ks : List ByteArray) (ns : List Nd) (A A2 : Option Addr) (ck cc : Nat) (xs : List Value) (B : Nat) (v : Value) (l : List UInt8) (w : World)
    (hO : OwnU w B v l) (hB : B ≤ w.heap.size) (hl : l.length + 100 ≤ 100000000000000) :
    PutC B v #[.int .i64 2, .int .i64 num, .string t, .slice A ks.length ck, .slice A2 ns.length cc] (l ++ putU (.mk 2 num t ks ns)) w := by
  show Calls Try.prog 29 #[v, .agg #[.int .i64 2, .int .i64 num, .string t, .slice A ks.length ck, .slice A2 ns.length cc]] w (OutIs B _ w)
  have K0 : Hid (KU B w (w.alloc (.cells #[.int .i64 2, .int .i64 num, .string t, .slice A ks.length ck, .slice A2 ns.length cc] 27))) := (KU.refl _ _).alloc hB _
  have HO : Hid (OwnU (w.alloc (.cells #[.int .i64 2, .int .i64 num, .string t, .slice A ks.length ck, .slice A2 ns.length cc] 27)) B v l) := hO.old ((Below.refl _ _).alloc (Nat.le_refl _) _)
  clear hO
  have HE : Hid (putU (.mk 2 num t ks ns) = [102, 97, 108, 115, 101]) := by show _ = _; unfold putU; rfl
  generalize putU (.mk 2 num t ks ns) = X at *
  go_enter Try.func29, Try.ntmps29
  go_wp2_with (at_builtin; refine wpList_pushS _ rfl _ _ rfl B _ l rfl HO.out _ rfl [102, 97, 108, 115, 101] (by kernel_rfl) (by simp; omega) (by simp; omega) ?_; intro v1 w1 n1 k1; have N1 := Lib.hid n1; have K1 := Lib.hid k1; clear n1 k1)
  go_ret
  exact ⟨_, rfl, by rw [HE.out]; exact N1.out, K0.out.trans K1.out⟩
set_option maxRecDepth 100000 in
set_option maxHeartbeats 3000000 in
theorem rput_c3 (num : Int) (t : ByteArray) (ks : List ByteArray) (ns : List Nd) (A A2 : Option Addr) (ck cc : Nat) (xs : List Value) (B : Nat) (v : Value) (l : List UInt8) (w : World)
    (hO : OwnU w B v l) (hB : B ≤ w.heap.size) (hl : l.length + 100 ≤ 100000000000000) :
    PutC B v #[.int .i64 3, .int .i64 num, .string t, .slice A ks.length ck, .slice A2 ns.length cc] (l ++ putU (.mk 3 num t ks ns)) w := by
  show Calls Try.prog 29 #[v, .agg #[.int .i64 3, .int .i64 num, .string t, .slice A ks.length ck, .slice A2 ns.length cc]] w (OutIs B _ w)
  have K0 : Hid (KU B w (w.alloc (.cells #[.int .i64 3, .int .i64 num, .string t, .slice A ks.length ck, .slice A2 ns.length cc] 27))) := (KU.refl _ _).alloc hB _
  have HO : Hid (OwnU (w.alloc (.cells #[.int .i64 3, .int .i64 num, .string t, .slice A ks.length ck, .slice A2 ns.length cc] 27)) B v l) := hO.old ((Below.refl _ _).alloc (Nat.le_refl _) _)
  clear hO
  have HE : Hid (putU (.mk 3 num t ks ns) = [116, 114, 117, 101]) := by show _ = _; unfold putU; rfl
  generalize putU (.mk 3 num t ks ns) = X at *
  go_enter Try.func29, Try.ntmps29
  go_wp2_with (at_builtin; refine wpList_pushS _ rfl _ _ rfl B _ l rfl HO.out _ rfl [116, 114, 117, 101] (by kernel_rfl) (by simp; omega) (by simp; omega) ?_; intro v1 w1 n1 k1; have N1 := Lib.hid n1; have K1 := Lib.hid k1; clear n1 k1)
  go_ret
  exact ⟨_, rfl, by rw [HE.out]; exact N1.out, K0.out.trans K1.out⟩
set_option maxRecDepth 100000 in
set_option maxHeartbeats 3000000 in
theorem rput_str (num : Int) (t : ByteArray) (ks : List ByteArray) (ns : List Nd) (A A2 : Option Addr) (ck cc : Nat) (xs : List Value) (B : Nat) (v : Value) (l : List UInt8) (w : World)
    (hO : OwnU w B v l) (hB : B ≤ w.heap.size) (hl : l.length + 7000000000 ≤ 100000000000000) (hs : t.size ≤ 1000000000) :
    PutC B v #[.int .i64 5, .int .i64 num, .string t, .slice A ks.length ck, .slice A2 ns.length cc] (l ++ putU (.mk 5 num t ks ns)) w := by
  show Calls Try.prog 29 #[v, .agg #[.int .i64 5, .int .i64 num, .string t, .slice A ks.length ck, .slice A2 ns.length cc]] w (OutIs B _ w)
  have K0 : Hid (KU B w (w.alloc (.cells #[.int .i64 5, .int .i64 num, .string t, .slice A ks.length ck, .slice A2 ns.length cc] 27))) := (KU.refl _ _).alloc hB _
  have HO : Hid (OwnU (w.alloc (.cells #[.int .i64 5, .int .i64 num, .string t, .slice A ks.length ck, .slice A2 ns.length cc] 27)) B v l) := hO.old ((Below.refl _ _).alloc (Nat.le_refl _) _)
  clear hO
  have HE : Hid (putU (.mk 5 num t ks ns) = quoteU t.toList) := by show _ = _; unfold putU; rfl
  generalize putU (.mk 5 num t ks ns) = X at *
  go_enter Try.func29, Try.ntmps29
  go_wp2_with fail
  refine (rquote_any B v l t _ HO.out (by omega) hs (by simp; omega)).mono ?_; rintro e w1 ⟨v1, rfl, n1, k1⟩
  go_wp2_with fail
  go_ret
  exact ⟨_, rfl, by rw [HE.out]; exact n1, K0.out.trans k1⟩
set_option maxRecDepth 100000 in
set_option maxHeartbeats 3000000 in
theorem rput_num_neg (num : Int) (t : ByteArray) (ks : List ByteArray) (ns : List Nd) (A A2 : Option Addr) (ck cc : Nat) (xs : List Value) (B : Nat) (v : Value) (l : List UInt8) (w : World)
    (hO : OwnU w B v l) (hB : B ≤ w.heap.size) (hl : l.length + 100 ≤ 100000000000000) (h0 : num < 0) (hlo : -9007199254740991 ≤ num) (hhi : num ≤ 9007199254740991) :
    PutC B v #[.int .i64 4, .int .i64 num, .string t, .slice A ks.length ck, .slice A2 ns.length cc] (l ++ putU (.mk 4 num t ks ns)) w := by
  show Calls Try.prog 29 #[v, .agg #[.int .i64 4, .int .i64 num, .string t, .slice A ks.length ck, .slice A2 ns.length cc]] w (OutIs B _ w)
  have K0 : Hid (KU B w (w.alloc (.cells #[.int .i64 4, .int .i64 num, .string t, .slice A ks.length ck, .slice A2 ns.length cc] 27))) := (KU.refl _ _).alloc hB _
  have HO : Hid (OwnU (w.alloc (.cells #[.int .i64 4, .int .i64 num, .string t, .slice A ks.length ck, .slice A2 ns.length cc] 27)) B v l) := hO.old ((Below.refl _ _).alloc (Nat.le_refl _) _)
  clear hO
  have HE : Hid (putU (.mk 4 num t ks ns) = 45 :: Lib.itoa (-num)) := by show _ = _; unfold putU; exact itoa_neg' num h0
  generalize putU (.mk 4 num t ks ns) = X at *
  have HD : Hid (∀ w' : World, Calls Try.prog 20 #[.int .i64 (-num)] w' fun e w'' => e = .returned (.string (digS (-num))) ∧ Below w'.heap.size w' w'') := fun w' => rdigits_any 9223372036854775807 (-num) w' (by omega) (by omega)
  have hdl : (Lib.itoa (-num)).length ≤ 21 := Lib.itoa_length_le (-num) (by omega) (by omega)
  have hdt : Hid ((digS (-num)).toList = Lib.itoa (-num)) := digS_itoa (-num) (by omega)
  have hmx : max num (-num) = (-num) := by omega
  have hwr : IntKind.i64.wrap (-num) = -num := IntWalk.i64_in _ (by omega)
  have hc0 : decide (num < 0) = true := by simp; omega
  generalize Lib.itoa (-num) = D at *
  generalize digS (-num) = T at *
  go_enter Try.func29, Try.ntmps29
  go_wp2_with (at_builtin; refine wpList_pushL _ rfl _ _ rfl B _ l rfl HO.out [45] 1 rfl _ rfl (by first | rfl | (simp [Act.eval])) (by simp; omega) (by first | omega | (simp; omega)) ?_; intro v0 w0 n0 k0; have N0 := Lib.hid n0; have K00 := Lib.hid k0; have z0 := k0.1.size; have hx0 : Hid (Blk w0 w.heap.size 27 #[.int .i64 4, .int .i64 num, .string t, .slice A ks.length ck, .slice A2 ns.length cc]) := k0.blk (Blk.new w _ _); have c0 : w0.cell? ⟨w.heap.size, 0, none⟩ = some (.int .i64 4) := hx0.out.cell 0; have c1 : w0.cell? ⟨w.heap.size, 1, none⟩ = some (.int .i64 num) := hx0.out.cell 1; clear n0 k0)
  refine (HD.out _).mono ?_; rintro e w2 ⟨rfl, hw2⟩
  have HO2 : Hid (OwnU w2 B _ (l ++ [45])) := (N0.out).old hw2
  have z2 := hw2.size
  go_wp2_with (at_builtin; refine wpList_pushS _ rfl _ _ rfl B _ (l ++ [45]) rfl HO2.out _ rfl D hdt.out (by first | omega | (simp; omega)) (by first | omega | (simp at *; omega)) ?_; intro v3 w3 n3 k3)
  go_ret
  exact ⟨_, rfl, by rw [HE.out]; simpa using n3, (K0.out.trans K00.out).trans ((KU.old hw2 (by simp at *; omega)).trans k3)⟩
set_option maxRecDepth 100000 in
set_option maxHeartbeats 3000000 in
theorem rput_num_pos (num : Int) (t : ByteArray) (ks : List ByteArray) (ns : List Nd) (A A2 : Option Addr) (ck cc : Nat) (xs : List Value) (B : Nat) (v : Value) (l : List UInt8) (w : World)
    (hO : OwnU w B v l) (hB : B ≤ w.heap.size) (hl : l.length + 100 ≤ 100000000000000) (h0 : 0 ≤ num) (hlo : -9007199254740991 ≤ num) (hhi : num ≤ 9007199254740991) :
    PutC B v #[.int .i64 4, .int .i64 num, .string t, .slice A ks.length ck, .slice A2 ns.length cc] (l ++ putU (.mk 4 num t ks ns)) w := by
  show Calls Try.prog 29 #[v, .agg #[.int .i64 4, .int .i64 num, .string t, .slice A ks.length ck, .slice A2 ns.length cc]] w (OutIs B _ w)
  have K0 : Hid (KU B w (w.alloc (.cells #[.int .i64 4, .int .i64 num, .string t, .slice A ks.length ck, .slice A2 ns.length cc] 27))) := (KU.refl _ _).alloc hB _
  have HO : Hid (OwnU (w.alloc (.cells #[.int .i64 4, .int .i64 num, .string t, .slice A ks.length ck, .slice A2 ns.length cc] 27)) B v l) := hO.old ((Below.refl _ _).alloc (Nat.le_refl _) _)
  clear hO
  have HE : Hid (putU (.mk 4 num t ks ns) = Lib.itoa num) := by show _ = _; unfold putU; rfl
  generalize putU (.mk 4 num t ks ns) = X at *
  have HD : Hid (∀ w' : World, Calls Try.prog 20 #[.int .i64 num] w' fun e w'' => e = .returned (.string (digS num)) ∧ Below w'.heap.size w' w'') := fun w' => rdigits_any 9223372036854775807 num w' (by omega) (by omega)
  have hdl : (Lib.itoa num).length ≤ 21 := Lib.itoa_length_le num (by omega) (by omega)
  have hdt : Hid ((digS num).toList = Lib.itoa num) := digS_itoa num (by omega)
  have hmx : max num (-num) = num := by omega
  have hwr : IntKind.i64.wrap (-num) = -num := IntWalk.i64_in _ (by omega)
  have hc0 : decide (num < 0) = false := by simp; omega
  generalize Lib.itoa num = D at *
  generalize digS num = T at *
  go_enter Try.func29, Try.ntmps29
  go_wp2_with fail
  refine (HD.out _).mono ?_; rintro e w2 ⟨rfl, hw2⟩
  have HO2 : Hid (OwnU w2 B _ l) := (HO.out).old hw2
  have z2 := hw2.size
  go_wp2_with (at_builtin; refine wpList_pushS _ rfl _ _ rfl B _ l rfl HO2.out _ rfl D hdt.out (by first | omega | (simp; omega)) (by first | omega | (simp at *; omega)) ?_; intro v3 w3 n3 k3)
  go_ret
  exact ⟨_, rfl, by rw [HE.out]; simpa using n3, K0.out.trans ((KU.old hw2 (by simp at *; omega)).trans k3)⟩
set_option maxRecDepth 100000 in
set_option maxHeartbeats 3000000 in
theorem rput_k6 (num : Int) (t : ByteArray) (ks : List ByteArray) (ns : List Nd) (A A2 : Option Addr) (ck cc : Nat) (xs : List Value) (B : Nat) (v : Value) (l : List UInt8) (w : World)
    (hO : OwnU w B v l) (hB : B ≤ w.heap.size) (hks : Reads w B 1 A ks.length (ks.map Value.string)) (hxs : Reads w B 5 A2 ns.length xs) (hns : NdsIs w B ns xs) (hk1 : ks.length ≤ 9223372036854775807) (hk2 : ns.length ≤ 9223372036854775807)
    (hsz : ∀ s ∈ ks, s.size ≤ 1000000000)  (hgl : goodL ns) (HIH : Hid (PutH B ns)) (hl : l.length + (40 + gL ks ns) ≤ 99990000000000) :
    PutC B v #[.int .i64 6, .int .i64 num, .string t, .slice A ks.length ck, .slice A2 ns.length cc] (l ++ putU (.mk 6 num t ks ns)) w := by
  show Calls Try.prog 29 #[v, .agg #[.int .i64 6, .int .i64 num, .string t, .slice A ks.length ck, .slice A2 ns.length cc]] w (OutIs B _ w)
  have K0 : Hid (KU B w (w.alloc (.cells #[.int .i64 6, .int .i64 num, .string t, .slice A ks.length ck, .slice A2 ns.length cc] 27))) := (KU.refl _ _).alloc hB _
  have HO : Hid (OwnU (w.alloc (.cells #[.int .i64 6, .int .i64 num, .string t, .slice A ks.length ck, .slice A2 ns.length cc] 27)) B v l) := hO.old ((Below.refl _ _).alloc (Nat.le_refl _) _)
  clear hO
  have HE : Hid (putU (.mk 6 num t ks ns) = [91] ++ putL false ks ns true ++ [93]) := by show _ = _; unfold putU; rfl
  generalize putU (.mk 6 num t ks ns) = X at *
  have HKS := Lib.hid hks
  have HXS := Lib.hid hxs
  have HNS := Lib.hid hns
  have HSZ := Lib.hid hsz
  have HGL := Lib.hid hgl
  clear hks hxs hns hsz hgl 
  have hlp : (l ++ [91]).length + gL (ks.drop 0) (ns.drop 0) ≤ 99990000000000 := by simp only [List.length_append, List.length_cons, List.length_nil, List.drop_zero]; omega
  have HLP := Lib.hid hlp
  have hl1 : l.length + 1 ≤ 99990000000000 := by omega
  clear hlp hl
  have HV0 : Hid (l ++ X = (l ++ [91]) ++ putL false (ks.drop 0) (ns.drop 0) (decide (0 = 0)) ++ [93]) := by show _ = _; rw [HE.out]; simp
  clear HE
  go_enter Try.func29, Try.ntmps29
  go_wp2_with (at_builtin; refine wpList_pushL _ rfl _ _ rfl B _ l rfl HO.out [91] 1 rfl _ rfl (by first | rfl | (simp [Act.eval])) (by simp; omega) (by simp; omega) ?_; intro v1 w1 n1 k1)
  have K1 := Lib.hid (K0.out.trans k1)
  have HX1 : Hid (Blk w1 w.heap.size 27 #[.int .i64 6, .int .i64 num, .string t, .slice A ks.length ck, .slice A2 ns.length cc]) := k1.blk (Blk.new w _ _)
  have N1 := Lib.hid n1
  have z1 : w.heap.size < w1.heap.size := HX1.out.lt
  clear n1 k1
  go_wp2_with fail
  generalize l ++ X = V at *
  go_loopw [0, 7] (fun tv t7 wr => ∃ (i : Nat) (Y : List UInt8), i ≤ ns.length ∧ t7 = .int .i64 i ∧ Hid (V = Y ++ putL false (ks.drop i) (ns.drop i) (decide (i = 0)) ++ [93]) ∧ Hid (OwnU wr B tv Y) ∧ Hid (Blk wr w.heap.size 27 #[.int .i64 6, .int .i64 num, .string t, .slice A ks.length ck, .slice A2 ns.length cc]) ∧ Hid (KU B w wr) ∧ Y.length + gL (ks.drop i) (ns.drop i) ≤ 99990000000000 ∧ w.heap.size < wr.heap.size) (fun _ t7 _ => ns.length - (intOf t7).toNat)
  case atStart => exact ⟨0, _, by omega, rfl, HV0, N1, HX1, K1, HLP.out, z1⟩
  case round =>
    clear N1 HX1 K1 HLP HV0 z1 HO K0
    obtain ⟨i, Y, hi, rfl, hv, ho, hx, hk, hY, hz⟩ := hrel
    obtain ⟨wo, rfl⟩ : ∃ wo : World, wo = wr := ⟨_, rfl⟩
    rename_i tv _
    have c0 : wo.cell? ⟨w.heap.size, 0, none⟩ = some (.int .i64 6) := hx.out.cell 0
    have c3 : wo.cell? ⟨w.heap.size, 3, none⟩ = some (.slice A ks.length ck) := hx.out.cell 3
    have c4 : wo.cell? ⟨w.heap.size, 4, none⟩ = some (.slice A2 ns.length cc) := hx.out.cell 4
    have hBo : B ≤ wo.heap.size := by omega
    by_cases hlt : i < ns.length
    · obtain ⟨ad, n, y0, y1, y2, y3, y4, rfl, hadb, hni, hnd, e0, e1, e2, e3, e4⟩ := (hk.out.reads HXS.out).nd (hk.out.nds HNS.out) hlt
      obtain ⟨x0, x1, x2, x3, x4, x5, x6, x7, x8, rfl, rfl, rfl, rfl, rfl⟩ := hnd.form
      have hgn := goodL_at ns i n hni HGL.out
      have hgd := putU_le n hgn
      have hga := gL_at ks ns i n hni
      rw [hga] at hY
      have HAT := Lib.hid (putL_at false ks ns i n ⟨#[]⟩ (decide (i = 0)) hni (fun h => by cases h))
      have HNI := Lib.hid hni
      have HND := Lib.hid hnd
      have HGA := Lib.hid hga
      have HYY := Lib.hid hY
      have HGD := Lib.hid hgd
      have hY1 : Y.length + 10 + gN n ≤ 99990000000000 := by omega
      
      clear hni hnd hga hY hgd hgn 
      by_cases hi0 : i = 0
      · have g1 : decide (0 < i) = false := by simp; omega
        have g2 : ¬ (0 < i) := by omega
        have g3 : decide ((0 : Int) < (i : Int)) = false := by simp; omega
        have HI0 : Hid (decide (i = 0) = true) := decide_eq_true hi0
        clear hi0
        go_wp2_with fail
        have HNC := HIH.out i n HNI.out [.int .i64 x0, .int .i64 x1, .string x2, .slice x3 x4 x5, .slice x6 x7 x8] _ Y _ (NdIs.keep (fun p hp => (KU.refl B wo).1.cell hp) _ _ HND.out) ho.out (by omega) (by first | omega | (simp only [List.length_append, List.length_cons, List.length_nil]; omega))
        refine (HNC : Calls _ _ _ _ _).mono ?_; rintro e w9 ⟨v9, rfl, n9, k9⟩
        have KC9 := Lib.hid (hk.out.trans ((KU.refl B wo).trans k9))
        have HB9 : Hid (Blk w9 w.heap.size 27 #[.int .i64 6, .int .i64 num, .string t, .slice A ks.length ck, .slice (some ad) ns.length cc]) := ((KU.refl B wo).trans k9).blk hx.out
        have M9 := Lib.hid n9
        have z9 : w.heap.size < w9.heap.size := HB9.out.lt
        clear n9 k9 HNC
        have HVV : Hid (V = (Y ++ putU n) ++ putL false (ks.drop (i + 1)) (ns.drop (i + 1)) (decide (i + 1 = 0)) ++ [93]) := by
          show _ = _
          rw [hv.out, HAT.out, HI0.out, show decide (i + 1 = 0) = false by simp]
          simp
        have hln : (Y ++ putU n).length + gL (ks.drop (i + 1)) (ns.drop (i + 1)) ≤ 99990000000000 := by
          have a1 := HYY.out
          have a2 := HGD.out
          simp only [List.length_append, List.length_cons, List.length_nil]; omega
        have HLN := Lib.hid hln
        clear hln
        go_wp2_with fail
        go_roundw
        case rel => exact ⟨i + 1, _, by omega, by go_num, HVV, M9, HB9, KC9, HLN.out, z9⟩
        case measure => simp [intOf]; omega
      · have g1 : decide (0 < i) = true := by simp; omega
        have g2 : 0 < i := by omega
        have g3 : decide ((0 : Int) < (i : Int)) = true := by simp; omega
        have HI0 : Hid (decide (i = 0) = false) := decide_eq_false hi0
        clear hi0
        go_wp2_with (at_builtin; refine wpList_pushL _ rfl _ _ rfl B _ Y rfl ho.out [44] 1 rfl _ rfl rfl (by simp; omega) (by omega) ?_; intro v1 w1 n1 k1; have M1 := Lib.hid n1; have KCw1 := Lib.hid k1; clear n1; have HBw1 : Hid (Blk w1 w.heap.size 27 #[.int .i64 6, .int .i64 num, .string t, .slice A ks.length ck, .slice (some ad) ns.length cc]) := k1.blk hx.out; have d0w1 : w1.cell? ⟨w.heap.size, 0, none⟩ = some (.int .i64 6) := HBw1.out.cell 0; have d3w1 : w1.cell? ⟨w.heap.size, 3, none⟩ = some (.slice A ks.length ck) := HBw1.out.cell 3; have d4w1 : w1.cell? ⟨w.heap.size, 4, none⟩ = some (.slice (some ad) ns.length cc) := HBw1.out.cell 4; have q0w1 : w1.cell? (ad.add (i * 5)) = some (.int .i64 x0) := (KCw1.out.1.cell (by rw [block_of_add]; exact hadb)).trans e0; have q1w1 : w1.cell? ⟨(ad.add (i * 5)).block, (ad.add (i * 5)).off + 1, none⟩ = some (.int .i64 x1) := (KCw1.out.1.cell (by rw [block_of_add]; exact hadb)).trans e1; have q2w1 : w1.cell? ⟨(ad.add (i * 5)).block, (ad.add (i * 5)).off + 2, none⟩ = some (.string x2) := (KCw1.out.1.cell (by rw [block_of_add]; exact hadb)).trans e2; have q3w1 : w1.cell? ⟨(ad.add (i * 5)).block, (ad.add (i * 5)).off + 3, none⟩ = some (.slice x3 x4 x5) := (KCw1.out.1.cell (by rw [block_of_add]; exact hadb)).trans e3; have q4w1 : w1.cell? ⟨(ad.add (i * 5)).block, (ad.add (i * 5)).off + 4, none⟩ = some (.slice x6 x7 x8) := (KCw1.out.1.cell (by rw [block_of_add]; exact hadb)).trans e4; have zw1 : B ≤ w1.heap.size := (by have := KCw1.out.1.size; omega); clear k1)
        have HNC := HIH.out i n HNI.out [.int .i64 x0, .int .i64 x1, .string x2, .slice x3 x4 x5, .slice x6 x7 x8] _ (Y ++ [44]) _ (NdIs.keep (fun p hp => KCw1.out.1.cell hp) _ _ HND.out) M1.out (by omega) (by first | omega | (simp only [List.length_append, List.length_cons, List.length_nil]; omega))
        refine (HNC : Calls _ _ _ _ _).mono ?_; rintro e w9 ⟨v9, rfl, n9, k9⟩
        have KC9 := Lib.hid (hk.out.trans (KCw1.out.trans k9))
        have HB9 : Hid (Blk w9 w.heap.size 27 #[.int .i64 6, .int .i64 num, .string t, .slice A ks.length ck, .slice (some ad) ns.length cc]) := (KCw1.out.trans k9).blk hx.out
        have M9 := Lib.hid n9
        have z9 : w.heap.size < w9.heap.size := HB9.out.lt
        clear n9 k9 HNC
        have HVV : Hid (V = ((Y ++ [44]) ++ putU n) ++ putL false (ks.drop (i + 1)) (ns.drop (i + 1)) (decide (i + 1 = 0)) ++ [93]) := by
          show _ = _
          rw [hv.out, HAT.out, HI0.out, show decide (i + 1 = 0) = false by simp]
          simp
        have hln : ((Y ++ [44]) ++ putU n).length + gL (ks.drop (i + 1)) (ns.drop (i + 1)) ≤ 99990000000000 := by
          have a1 := HYY.out
          have a2 := HGD.out
          simp only [List.length_append, List.length_cons, List.length_nil]; omega
        have HLN := Lib.hid hln
        clear hln
        go_wp2_with fail
        go_roundw
        case rel => exact ⟨i + 1, _, by omega, by go_num, HVV, M9, HB9, KC9, HLN.out, z9⟩
        case measure => simp [intOf]; omega
    · have HEE : Hid (V = Y ++ [93]) := by
        show _ = _
        rw [hv.out, List.drop_eq_nil_of_le (show ns.length ≤ i by omega)]
        unfold putL; simp
      have hlx : Y.length + 1 ≤ 100000000000001 := by omega
      go_wp2_with (at_builtin; refine wpList_pushL _ rfl _ _ rfl B _ Y rfl ho.out [93] 1 rfl _ rfl rfl (by simp; omega) (by omega) ?_; intro v1 w1 n1 k1)
      go_ret
      exact ⟨_, rfl, by rw [HEE.out]; exact n1, hk.out.trans k1⟩
set_option maxRecDepth 100000 in
set_option maxHeartbeats 3000000 in
theorem rput_k7 (num : Int) (t : ByteArray) (ks : List ByteArray) (ns : List Nd) (A A2 : Option Addr) (ck cc : Nat) (xs : List Value) (B : Nat) (v : Value) (l : List UInt8) (w : World)
    (hO : OwnU w B v l) (hB : B ≤ w.heap.size) (hks : Reads w B 1 A ks.length (ks.map Value.string)) (hxs : Reads w B 5 A2 ns.length xs) (hns : NdsIs w B ns xs) (hk1 : ks.length ≤ 9223372036854775807) (hk2 : ns.length ≤ 9223372036854775807)
    (hsz : ∀ s ∈ ks, s.size ≤ 1000000000) (hkl : ks.length = ns.length) (hgl : goodL ns) (HIH : Hid (PutH B ns)) (hl : l.length + (40 + gL ks ns) ≤ 99990000000000) :
    PutC B v #[.int .i64 7, .int .i64 num, .string t, .slice A ks.length ck, .slice A2 ns.length cc] (l ++ putU (.mk 7 num t ks ns)) w := by
  show Calls Try.prog 29 #[v, .agg #[.int .i64 7, .int .i64 num, .string t, .slice A ks.length ck, .slice A2 ns.length cc]] w (OutIs B _ w)
  have K0 : Hid (KU B w (w.alloc (.cells #[.int .i64 7, .int .i64 num, .string t, .slice A ks.length ck, .slice A2 ns.length cc] 27))) := (KU.refl _ _).alloc hB _
  have HO : Hid (OwnU (w.alloc (.cells #[.int .i64 7, .int .i64 num, .string t, .slice A ks.length ck, .slice A2 ns.length cc] 27)) B v l) := hO.old ((Below.refl _ _).alloc (Nat.le_refl _) _)
  clear hO
  have HE : Hid (putU (.mk 7 num t ks ns) = [123] ++ putL true ks ns true ++ [125]) := by show _ = _; unfold putU; rfl
  generalize putU (.mk 7 num t ks ns) = X at *
  have HKS := Lib.hid hks
  have HXS := Lib.hid hxs
  have HNS := Lib.hid hns
  have HSZ := Lib.hid hsz
  have HGL := Lib.hid hgl
  have HKL := Lib.hid hkl
  clear hks hxs hns hsz hgl hkl
  have hlp : (l ++ [123]).length + gL (ks.drop 0) (ns.drop 0) ≤ 99990000000000 := by simp only [List.length_append, List.length_cons, List.length_nil, List.drop_zero]; omega
  have HLP := Lib.hid hlp
  have hl1 : l.length + 1 ≤ 99990000000000 := by omega
  clear hlp hl
  have HV0 : Hid (l ++ X = (l ++ [123]) ++ putL true (ks.drop 0) (ns.drop 0) (decide (0 = 0)) ++ [125]) := by show _ = _; rw [HE.out]; simp
  clear HE
  go_enter Try.func29, Try.ntmps29
  go_wp2_with (at_builtin; refine wpList_pushL _ rfl _ _ rfl B _ l rfl HO.out [123] 1 rfl _ rfl (by first | rfl | (simp [Act.eval])) (by simp; omega) (by simp; omega) ?_; intro v1 w1 n1 k1)
  have K1 := Lib.hid (K0.out.trans k1)
  have HX1 : Hid (Blk w1 w.heap.size 27 #[.int .i64 7, .int .i64 num, .string t, .slice A ks.length ck, .slice A2 ns.length cc]) := k1.blk (Blk.new w _ _)
  have N1 := Lib.hid n1
  have z1 : w.heap.size < w1.heap.size := HX1.out.lt
  clear n1 k1
  go_wp2_with fail
  generalize l ++ X = V at *
  go_loopw [0, 7] (fun tv t7 wr => ∃ (i : Nat) (Y : List UInt8), i ≤ ns.length ∧ t7 = .int .i64 i ∧ Hid (V = Y ++ putL true (ks.drop i) (ns.drop i) (decide (i = 0)) ++ [125]) ∧ Hid (OwnU wr B tv Y) ∧ Hid (Blk wr w.heap.size 27 #[.int .i64 7, .int .i64 num, .string t, .slice A ks.length ck, .slice A2 ns.length cc]) ∧ Hid (KU B w wr) ∧ Y.length + gL (ks.drop i) (ns.drop i) ≤ 99990000000000 ∧ w.heap.size < wr.heap.size) (fun _ t7 _ => ns.length - (intOf t7).toNat)
  case atStart => exact ⟨0, _, by omega, rfl, HV0, N1, HX1, K1, HLP.out, z1⟩
  case round =>
    clear N1 HX1 K1 HLP HV0 z1 HO K0
    obtain ⟨i, Y, hi, rfl, hv, ho, hx, hk, hY, hz⟩ := hrel
    obtain ⟨wo, rfl⟩ : ∃ wo : World, wo = wr := ⟨_, rfl⟩
    rename_i tv _
    have c0 : wo.cell? ⟨w.heap.size, 0, none⟩ = some (.int .i64 7) := hx.out.cell 0
    have c3 : wo.cell? ⟨w.heap.size, 3, none⟩ = some (.slice A ks.length ck) := hx.out.cell 3
    have c4 : wo.cell? ⟨w.heap.size, 4, none⟩ = some (.slice A2 ns.length cc) := hx.out.cell 4
    have hBo : B ≤ wo.heap.size := by omega
    by_cases hlt : i < ns.length
    · obtain ⟨ad, n, y0, y1, y2, y3, y4, rfl, hadb, hni, hnd, e0, e1, e2, e3, e4⟩ := (hk.out.reads HXS.out).nd (hk.out.nds HNS.out) hlt
      obtain ⟨x0, x1, x2, x3, x4, x5, x6, x7, x8, rfl, rfl, rfl, rfl, rfl⟩ := hnd.form
      have hgn := goodL_at ns i n hni HGL.out
      have hgd := putU_le n hgn
      have hga := gL_at ks ns i n hni
      rw [hga] at hY
      have hik : i < ks.length := by have := HKL.out; omega
      obtain ⟨adk, s, rfl, hadk, hks, hcs⟩ := (hk.out.reads HKS.out).str (show i < ks.length by have := HKL.out; omega)
      have hss := HSZ.out s (List.mem_of_getElem? hks)
      have hqh : ((ks.drop i).headD ⟨#[]⟩).size = s.size := by
        rw [List.drop_eq_getElem_cons (List.getElem?_eq_some_iff.1 hks).1, (List.getElem?_eq_some_iff.1 hks).2]; rfl
      have hq := quoteU_le s.toList
      rw [tl_len'] at hq
      rw [hqh] at hY
      have HAT := Lib.hid (putL_at true ks ns i n s (decide (i = 0)) hni (fun _ => hks))
      clear hks
      have HNI := Lib.hid hni
      have HND := Lib.hid hnd
      have HGA := Lib.hid hga
      have HYY := Lib.hid hY
      have HGD := Lib.hid hgd
      have hY1 : Y.length + 10 + gN n ≤ 99990000000000 := by omega
      have hY2 : Y.length + 4 + (quoteU s.toList).length + gN n ≤ 99990000000000 := by omega
      have HQ := Lib.hid hq
      clear hni hnd hga hY hgd hgn hq hqh
      by_cases hi0 : i = 0
      · have g1 : decide (0 < i) = false := by simp; omega
        have g2 : ¬ (0 < i) := by omega
        have g3 : decide ((0 : Int) < (i : Int)) = false := by simp; omega
        have HI0 : Hid (decide (i = 0) = true) := decide_eq_true hi0
        clear hi0
        go_wp2_with fail
        refine (rquote_any B _ Y s _ ho.out (by first | omega | (simp; omega)) hss (by omega)).mono ?_; rintro e w2 ⟨v2, rfl, n2, k2⟩
        have M2 := Lib.hid n2
        have KCw2 := Lib.hid ((KU.refl B wo).trans k2)
        clear n2
        have HBw2 : Hid (Blk w2 w.heap.size 27 #[.int .i64 7, .int .i64 num, .string t, .slice (some adk) ks.length ck, .slice (some ad) ns.length cc]) := KCw2.out.blk hx.out
        have d0w2 : w2.cell? ⟨w.heap.size, 0, none⟩ = some (.int .i64 7) := HBw2.out.cell 0
        have d3w2 : w2.cell? ⟨w.heap.size, 3, none⟩ = some (.slice (some adk) ks.length ck) := HBw2.out.cell 3
        have d4w2 : w2.cell? ⟨w.heap.size, 4, none⟩ = some (.slice (some ad) ns.length cc) := HBw2.out.cell 4
        have q0w2 : w2.cell? (ad.add (i * 5)) = some (.int .i64 x0) := (KCw2.out.1.cell (by rw [block_of_add]; exact hadb)).trans e0
        have q1w2 : w2.cell? ⟨(ad.add (i * 5)).block, (ad.add (i * 5)).off + 1, none⟩ = some (.int .i64 x1) := (KCw2.out.1.cell (by rw [block_of_add]; exact hadb)).trans e1
        have q2w2 : w2.cell? ⟨(ad.add (i * 5)).block, (ad.add (i * 5)).off + 2, none⟩ = some (.string x2) := (KCw2.out.1.cell (by rw [block_of_add]; exact hadb)).trans e2
        have q3w2 : w2.cell? ⟨(ad.add (i * 5)).block, (ad.add (i * 5)).off + 3, none⟩ = some (.slice x3 x4 x5) := (KCw2.out.1.cell (by rw [block_of_add]; exact hadb)).trans e3
        have q4w2 : w2.cell? ⟨(ad.add (i * 5)).block, (ad.add (i * 5)).off + 4, none⟩ = some (.slice x6 x7 x8) := (KCw2.out.1.cell (by rw [block_of_add]; exact hadb)).trans e4
        have zw2 : B ≤ w2.heap.size := (by have := KCw2.out.1.size; omega)
        have qsw2 : w2.cell? (adk.add i) = some (.string s) := (KCw2.out.1.cell (by rw [block_of_add]; exact hadk)).trans hcs
        clear k2
        go_wp2_with (at_builtin; refine wpList_pushL _ rfl _ _ rfl B _ (Y ++ quoteU s.toList) rfl M2.out [58] 1 rfl _ rfl rfl (by simp; omega) (by omega) ?_; intro v3 w3 n3 k3; have M3 := Lib.hid n3; have KCw3 := Lib.hid (KCw2.out.trans k3); clear n3; have HBw3 : Hid (Blk w3 w.heap.size 27 #[.int .i64 7, .int .i64 num, .string t, .slice (some adk) ks.length ck, .slice (some ad) ns.length cc]) := KCw3.out.blk hx.out; have d0w3 : w3.cell? ⟨w.heap.size, 0, none⟩ = some (.int .i64 7) := HBw3.out.cell 0; have d3w3 : w3.cell? ⟨w.heap.size, 3, none⟩ = some (.slice (some adk) ks.length ck) := HBw3.out.cell 3; have d4w3 : w3.cell? ⟨w.heap.size, 4, none⟩ = some (.slice (some ad) ns.length cc) := HBw3.out.cell 4; have q0w3 : w3.cell? (ad.add (i * 5)) = some (.int .i64 x0) := (KCw3.out.1.cell (by rw [block_of_add]; exact hadb)).trans e0; have q1w3 : w3.cell? ⟨(ad.add (i * 5)).block, (ad.add (i * 5)).off + 1, none⟩ = some (.int .i64 x1) := (KCw3.out.1.cell (by rw [block_of_add]; exact hadb)).trans e1; have q2w3 : w3.cell? ⟨(ad.add (i * 5)).block, (ad.add (i * 5)).off + 2, none⟩ = some (.string x2) := (KCw3.out.1.cell (by rw [block_of_add]; exact hadb)).trans e2; have q3w3 : w3.cell? ⟨(ad.add (i * 5)).block, (ad.add (i * 5)).off + 3, none⟩ = some (.slice x3 x4 x5) := (KCw3.out.1.cell (by rw [block_of_add]; exact hadb)).trans e3; have q4w3 : w3.cell? ⟨(ad.add (i * 5)).block, (ad.add (i * 5)).off + 4, none⟩ = some (.slice x6 x7 x8) := (KCw3.out.1.cell (by rw [block_of_add]; exact hadb)).trans e4; have zw3 : B ≤ w3.heap.size := (by have := KCw3.out.1.size; omega); have qsw3 : w3.cell? (adk.add i) = some (.string s) := (KCw3.out.1.cell (by rw [block_of_add]; exact hadk)).trans hcs; clear k3)
        have HNC := HIH.out i n HNI.out [.int .i64 x0, .int .i64 x1, .string x2, .slice x3 x4 x5, .slice x6 x7 x8] _ ((Y ++ quoteU s.toList) ++ [58]) _ (NdIs.keep (fun p hp => KCw3.out.1.cell hp) _ _ HND.out) M3.out (by omega) (by first | omega | (simp only [List.length_append, List.length_cons, List.length_nil]; omega))
        refine (HNC : Calls _ _ _ _ _).mono ?_; rintro e w9 ⟨v9, rfl, n9, k9⟩
        have KC9 := Lib.hid (hk.out.trans (KCw3.out.trans k9))
        have HB9 : Hid (Blk w9 w.heap.size 27 #[.int .i64 7, .int .i64 num, .string t, .slice (some adk) ks.length ck, .slice (some ad) ns.length cc]) := (KCw3.out.trans k9).blk hx.out
        have M9 := Lib.hid n9
        have z9 : w.heap.size < w9.heap.size := HB9.out.lt
        clear n9 k9 HNC
        have HVV : Hid (V = (((Y ++ quoteU s.toList) ++ [58]) ++ putU n) ++ putL true (ks.drop (i + 1)) (ns.drop (i + 1)) (decide (i + 1 = 0)) ++ [125]) := by
          show _ = _
          rw [hv.out, HAT.out, HI0.out, show decide (i + 1 = 0) = false by simp]
          simp
        have hln : (((Y ++ quoteU s.toList) ++ [58]) ++ putU n).length + gL (ks.drop (i + 1)) (ns.drop (i + 1)) ≤ 99990000000000 := by
          have a1 := HYY.out
          have a2 := HGD.out
          have a3 := HQ.out
          simp only [List.length_append, List.length_cons, List.length_nil]; omega
        have HLN := Lib.hid hln
        clear hln
        go_wp2_with fail
        go_roundw
        case rel => exact ⟨i + 1, _, by omega, by go_num, HVV, M9, HB9, KC9, HLN.out, z9⟩
        case measure => simp [intOf]; omega
      · have g1 : decide (0 < i) = true := by simp; omega
        have g2 : 0 < i := by omega
        have g3 : decide ((0 : Int) < (i : Int)) = true := by simp; omega
        have HI0 : Hid (decide (i = 0) = false) := decide_eq_false hi0
        clear hi0
        go_wp2_with (at_builtin; refine wpList_pushL _ rfl _ _ rfl B _ Y rfl ho.out [44] 1 rfl _ rfl rfl (by simp; omega) (by omega) ?_; intro v1 w1 n1 k1; have M1 := Lib.hid n1; have KCw1 := Lib.hid k1; clear n1; have HBw1 : Hid (Blk w1 w.heap.size 27 #[.int .i64 7, .int .i64 num, .string t, .slice (some adk) ks.length ck, .slice (some ad) ns.length cc]) := k1.blk hx.out; have d0w1 : w1.cell? ⟨w.heap.size, 0, none⟩ = some (.int .i64 7) := HBw1.out.cell 0; have d3w1 : w1.cell? ⟨w.heap.size, 3, none⟩ = some (.slice (some adk) ks.length ck) := HBw1.out.cell 3; have d4w1 : w1.cell? ⟨w.heap.size, 4, none⟩ = some (.slice (some ad) ns.length cc) := HBw1.out.cell 4; have q0w1 : w1.cell? (ad.add (i * 5)) = some (.int .i64 x0) := (KCw1.out.1.cell (by rw [block_of_add]; exact hadb)).trans e0; have q1w1 : w1.cell? ⟨(ad.add (i * 5)).block, (ad.add (i * 5)).off + 1, none⟩ = some (.int .i64 x1) := (KCw1.out.1.cell (by rw [block_of_add]; exact hadb)).trans e1; have q2w1 : w1.cell? ⟨(ad.add (i * 5)).block, (ad.add (i * 5)).off + 2, none⟩ = some (.string x2) := (KCw1.out.1.cell (by rw [block_of_add]; exact hadb)).trans e2; have q3w1 : w1.cell? ⟨(ad.add (i * 5)).block, (ad.add (i * 5)).off + 3, none⟩ = some (.slice x3 x4 x5) := (KCw1.out.1.cell (by rw [block_of_add]; exact hadb)).trans e3; have q4w1 : w1.cell? ⟨(ad.add (i * 5)).block, (ad.add (i * 5)).off + 4, none⟩ = some (.slice x6 x7 x8) := (KCw1.out.1.cell (by rw [block_of_add]; exact hadb)).trans e4; have zw1 : B ≤ w1.heap.size := (by have := KCw1.out.1.size; omega); have qsw1 : w1.cell? (adk.add i) = some (.string s) := (KCw1.out.1.cell (by rw [block_of_add]; exact hadk)).trans hcs; clear k1)
        refine (rquote_any B _ (Y ++ [44]) s _ M1.out (by first | omega | (simp; omega)) hss (by omega)).mono ?_; rintro e w2 ⟨v2, rfl, n2, k2⟩
        have M2 := Lib.hid n2
        have KCw2 := Lib.hid (KCw1.out.trans k2)
        clear n2
        have HBw2 : Hid (Blk w2 w.heap.size 27 #[.int .i64 7, .int .i64 num, .string t, .slice (some adk) ks.length ck, .slice (some ad) ns.length cc]) := KCw2.out.blk hx.out
        have d0w2 : w2.cell? ⟨w.heap.size, 0, none⟩ = some (.int .i64 7) := HBw2.out.cell 0
        have d3w2 : w2.cell? ⟨w.heap.size, 3, none⟩ = some (.slice (some adk) ks.length ck) := HBw2.out.cell 3
        have d4w2 : w2.cell? ⟨w.heap.size, 4, none⟩ = some (.slice (some ad) ns.length cc) := HBw2.out.cell 4
        have q0w2 : w2.cell? (ad.add (i * 5)) = some (.int .i64 x0) := (KCw2.out.1.cell (by rw [block_of_add]; exact hadb)).trans e0
        have q1w2 : w2.cell? ⟨(ad.add (i * 5)).block, (ad.add (i * 5)).off + 1, none⟩ = some (.int .i64 x1) := (KCw2.out.1.cell (by rw [block_of_add]; exact hadb)).trans e1
        have q2w2 : w2.cell? ⟨(ad.add (i * 5)).block, (ad.add (i * 5)).off + 2, none⟩ = some (.string x2) := (KCw2.out.1.cell (by rw [block_of_add]; exact hadb)).trans e2
        have q3w2 : w2.cell? ⟨(ad.add (i * 5)).block, (ad.add (i * 5)).off + 3, none⟩ = some (.slice x3 x4 x5) := (KCw2.out.1.cell (by rw [block_of_add]; exact hadb)).trans e3
        have q4w2 : w2.cell? ⟨(ad.add (i * 5)).block, (ad.add (i * 5)).off + 4, none⟩ = some (.slice x6 x7 x8) := (KCw2.out.1.cell (by rw [block_of_add]; exact hadb)).trans e4
        have zw2 : B ≤ w2.heap.size := (by have := KCw2.out.1.size; omega)
        have qsw2 : w2.cell? (adk.add i) = some (.string s) := (KCw2.out.1.cell (by rw [block_of_add]; exact hadk)).trans hcs
        clear k2
        go_wp2_with (at_builtin; refine wpList_pushL _ rfl _ _ rfl B _ ((Y ++ [44]) ++ quoteU s.toList) rfl M2.out [58] 1 rfl _ rfl rfl (by simp; omega) (by omega) ?_; intro v3 w3 n3 k3; have M3 := Lib.hid n3; have KCw3 := Lib.hid (KCw2.out.trans k3); clear n3; have HBw3 : Hid (Blk w3 w.heap.size 27 #[.int .i64 7, .int .i64 num, .string t, .slice (some adk) ks.length ck, .slice (some ad) ns.length cc]) := KCw3.out.blk hx.out; have d0w3 : w3.cell? ⟨w.heap.size, 0, none⟩ = some (.int .i64 7) := HBw3.out.cell 0; have d3w3 : w3.cell? ⟨w.heap.size, 3, none⟩ = some (.slice (some adk) ks.length ck) := HBw3.out.cell 3; have d4w3 : w3.cell? ⟨w.heap.size, 4, none⟩ = some (.slice (some ad) ns.length cc) := HBw3.out.cell 4; have q0w3 : w3.cell? (ad.add (i * 5)) = some (.int .i64 x0) := (KCw3.out.1.cell (by rw [block_of_add]; exact hadb)).trans e0; have q1w3 : w3.cell? ⟨(ad.add (i * 5)).block, (ad.add (i * 5)).off + 1, none⟩ = some (.int .i64 x1) := (KCw3.out.1.cell (by rw [block_of_add]; exact hadb)).trans e1; have q2w3 : w3.cell? ⟨(ad.add (i * 5)).block, (ad.add (i * 5)).off + 2, none⟩ = some (.string x2) := (KCw3.out.1.cell (by rw [block_of_add]; exact hadb)).trans e2; have q3w3 : w3.cell? ⟨(ad.add (i * 5)).block, (ad.add (i * 5)).off + 3, none⟩ = some (.slice x3 x4 x5) := (KCw3.out.1.cell (by rw [block_of_add]; exact hadb)).trans e3; have q4w3 : w3.cell? ⟨(ad.add (i * 5)).block, (ad.add (i * 5)).off + 4, none⟩ = some (.slice x6 x7 x8) := (KCw3.out.1.cell (by rw [block_of_add]; exact hadb)).trans e4; have zw3 : B ≤ w3.heap.size := (by have := KCw3.out.1.size; omega); have qsw3 : w3.cell? (adk.add i) = some (.string s) := (KCw3.out.1.cell (by rw [block_of_add]; exact hadk)).trans hcs; clear k3)
        have HNC := HIH.out i n HNI.out [.int .i64 x0, .int .i64 x1, .string x2, .slice x3 x4 x5, .slice x6 x7 x8] _ (((Y ++ [44]) ++ quoteU s.toList) ++ [58]) _ (NdIs.keep (fun p hp => KCw3.out.1.cell hp) _ _ HND.out) M3.out (by omega) (by first | omega | (simp only [List.length_append, List.length_cons, List.length_nil]; omega))
        refine (HNC : Calls _ _ _ _ _).mono ?_; rintro e w9 ⟨v9, rfl, n9, k9⟩
        have KC9 := Lib.hid (hk.out.trans (KCw3.out.trans k9))
        have HB9 : Hid (Blk w9 w.heap.size 27 #[.int .i64 7, .int .i64 num, .string t, .slice (some adk) ks.length ck, .slice (some ad) ns.length cc]) := (KCw3.out.trans k9).blk hx.out
        have M9 := Lib.hid n9
        have z9 : w.heap.size < w9.heap.size := HB9.out.lt
        clear n9 k9 HNC
        have HVV : Hid (V = ((((Y ++ [44]) ++ quoteU s.toList) ++ [58]) ++ putU n) ++ putL true (ks.drop (i + 1)) (ns.drop (i + 1)) (decide (i + 1 = 0)) ++ [125]) := by
          show _ = _
          rw [hv.out, HAT.out, HI0.out, show decide (i + 1 = 0) = false by simp]
          simp
        have hln : ((((Y ++ [44]) ++ quoteU s.toList) ++ [58]) ++ putU n).length + gL (ks.drop (i + 1)) (ns.drop (i + 1)) ≤ 99990000000000 := by
          have a1 := HYY.out
          have a2 := HGD.out
          have a3 := HQ.out
          simp only [List.length_append, List.length_cons, List.length_nil]; omega
        have HLN := Lib.hid hln
        clear hln
        go_wp2_with fail
        go_roundw
        case rel => exact ⟨i + 1, _, by omega, by go_num, HVV, M9, HB9, KC9, HLN.out, z9⟩
        case measure => simp [intOf]; omega
    · have HEE : Hid (V = Y ++ [125]) := by
        show _ = _
        rw [hv.out, List.drop_eq_nil_of_le (show ns.length ≤ i by omega)]
        unfold putL; simp
      have hlx : Y.length + 1 ≤ 100000000000001 := by omega
      go_wp2_with (at_builtin; refine wpList_pushL _ rfl _ _ rfl B _ Y rfl ho.out [125] 1 rfl _ rfl rfl (by simp; omega) (by omega) ?_; intro v1 w1 n1 k1)
      go_ret
      exact ⟨_, rfl, by rw [HEE.out]; exact n1, hk.out.trans k1⟩
theorem rputn_any : ∀ (m : Nat) (n : Nd), n.count ≤ m → ∀ (B : Nat) (cs : List Value) (v : Value) (l : List UInt8) (w : World) (deep : Int), NdIs w B n cs → OwnU w B v l → B ≤ w.heap.size → goodN n → rightD n deep = true → l.length + gN n ≤ 99990000000000 → PutC B v cs.toArray (l ++ putU n) w := by
  intro m
  induction m with
  | zero => intro n hm; have := n.count_pos; omega
  | succ m ih =>
    intro n hm B cs v l w deep hn hO hB hg hr hl
    cases n with
    | mk k num t ks ns =>
      have h := hn
      unfold NdIs at h
      obtain ⟨A, ck, A2, cc, xs, rfl, hks, hxs, hns, ik, inn, ht, hkl, hk, hmm⟩ := h
      unfold maxLen at *
      unfold goodN at hg
      obtain ⟨g1, g2, g3, g4, g5⟩ := hg
      rw [rightD_eq, Bool.and_eq_true] at hr
      obtain ⟨_, hr⟩ := hr
      have hgn : gN (.mk k num t ks ns) = 40 + 6 * t.size + gL ks ns := by unfold gN; rfl
      rw [hgn] at hl
      by_cases h1 : k = 1
      · subst h1; exact rput_c1 num t ks ns A A2 ck cc xs B v l w hO hB (by omega)
      by_cases h2 : k = 2
      · subst h2; exact rput_c2 num t ks ns A A2 ck cc xs B v l w hO hB (by omega)
      by_cases h3 : k = 3
      · subst h3; exact rput_c3 num t ks ns A A2 ck cc xs B v l w hO hB (by omega)
      by_cases h4 : k = 4
      · subst h4
        have hb : -9007199254740991 ≤ num ∧ num ≤ 9007199254740991 := by simpa using hr
        by_cases h0 : num < 0
        · exact rput_num_neg num t ks ns A A2 ck cc xs B v l w hO hB (by omega) h0 hb.1 hb.2
        · exact rput_num_pos num t ks ns A A2 ck cc xs B v l w hO hB (by omega) (by omega) hb.1 hb.2
      by_cases h5 : k = 5
      · subst h5; exact rput_str num t ks ns A A2 ck cc xs B v l w hO hB (by omega) g3
      have hrl : rightLD ns (deep + 1) = true := by
        simp only [h1, h2, h3, h4, h5, Bool.or_eq_true, Bool.and_eq_true, beq_iff_eq, decide_eq_true_eq, false_and, false_or, or_false] at hr
        exact hr.2
      have HIH : Hid (PutH B ns) := by
        intro i n hi cs v l w e1 e2 e3 e4
        refine ih n ?_ B cs v l w (deep + 1) e1 e2 e3 (goodL_at ns i n hi g5) (rightLD_get ns _ i n hi hrl) e4
        have := Nd.counts_get ns i n hi
        simp only [Nd.count] at hm; omega
      by_cases h6 : k = 6
      · subst h6; exact rput_k6 num t ks ns A A2 ck cc xs B v l w hO hB hks hxs hns hk hmm g4 g5 HIH (by omega)
      by_cases h7 : k = 7
      · subst h7; exact rput_k7 num t ks ns A A2 ck cc xs B v l w hO hB hks hxs hns hk hmm g4 (g2 rfl) g5 HIH (by omega)
      simp [h1, h2, h3, h4, h5, h6, h7] at hr
end Go.Proofs.Ytjigceoponlphaa
/-! The walk of the reference's Print. -/
namespace Go.Proofs.Ytjigceoponlphaa
open Go.RowKit Go.PlainAid
set_option linter.unusedVariables false
set_option linter.unusedSimpArgs false
theorem OwnU.form {w : World} {B : Nat} {v : Value} {l : List UInt8} (h : OwnU w B v l) : ∃ A c, v = .slice A l.length c := by
  rcases h.2 with ⟨rfl, hx⟩ | ⟨g, cap, cur, rfl, _⟩
  · rw [nums_len] at hx; rw [hx]; exact ⟨_, _, rfl⟩
  · rw [nums_len]; exact ⟨_, _, rfl⟩
set_option maxRecDepth 100000 in
set_option maxHeartbeats 1000000 in
theorem rPrint_any (n : Nd) (cs : List Value) (w : World) (B : Nat) (hn : NdIs w B n cs) (hB : B ≤ w.heap.size) (hg : rightD n 0 = true → goodN n) (hs : gN n ≤ 10000000000000) :
    Calls Try.prog 17 #[.agg cs.toArray] w (StrErr (printS n) (printE n) w) := by
  have hl := hn.len
  have hW := Below.refl w.heap.size w
  match cs, hl with
  | [v0, v1, v2, v3, v4], _ =>
    have HR : Hid (∀ w', Below w.heap.size w w' → Calls Try.prog 28 #[.agg #[v0, v1, v2, v3, v4]] w' (BoolBel (rightD n 0) w')) := fun w' hb =>
      rRight_any n [v0, v1, v2, v3, v4] w' B (hn.below (hb.mono hB)) (by have := hb.size; omega)
    have HN : Hid (∀ w', rightD n 0 = true → Below w.heap.size w w' → PutC w'.heap.size (.slice none 0 0) #[v0, v1, v2, v3, v4] (putU n) w') := fun w' hr hb => by
      have := rputn_any n.count n (Nat.le_refl _) w'.heap.size [v0, v1, v2, v3, v4] (.slice none 0 0) [] w' 0 (NdIs.more (Nat.le_trans hB hb.size) _ _ (hn.below (hb.mono hB))) (OwnU.nil _ _) (Nat.le_refl _) (hg hr) hr (by simp; omega)
      simpa using this
    have HPS : Hid (printS n = if rightD n 0 = false then ⟨#[]⟩ else if 65536 < (putU n).length then ⟨#[]⟩ else ⟨(putU n).toArray⟩) := printS_eq n
    have HPE : Hid (printE n = if rightD n 0 = false then 1 else if 65536 < (putU n).length then 2 else 0) := printE_eq n
    have hol : rightD n 0 = true → (putU n).length ≤ 10000000000000 := fun hr => by have := putU_le n (hg hr); omega
    obtain ⟨x0, x1, x2, x3, x4, x5, x6, x7, x8, rfl, rfl, rfl, rfl, rfl⟩ := hn.form
    show Calls Try.prog 17 #[.agg #[_, _, _, _, _]] w (StrErr _ _ w)
    clear hn hg hs
    have hA : Below w.heap.size w (w.alloc (.cells #[.int .i64 x0, .int .i64 x1, .string x2, .slice x3 x4 x5, .slice x6 x7 x8] 27)) := hW.alloc hW.size _
    generalize printS n = S at *
    generalize printE n = E at *
    generalize rightD n 0 = R at *
    generalize putU n = O at *
    cases R with
    | false =>
      have e1 : Hid (S = ⟨#[]⟩) := by show _ = _; rw [HPS.out, if_pos rfl]
      have e2 : Hid (E = 1) := by show _ = _; rw [HPE.out, if_pos rfl]
      clear HPS HPE
      go_enter Try.func17, Try.ntmps17
      go_wp2_with fail
      refine (HR.out _ hA).mono ?_; rintro e w1 ⟨rfl, hw1⟩
      go_wp2_with fail
      go_ret2
      exact ⟨by rw [e1.out, e2.out]; rfl, hA.trans (hw1.mono (by simp))⟩
    | true =>
      have hol : O.length ≤ 10000000000000 := hol (by trivial)
      have main : ∀ b : Bool, decide (65536 < O.length) = b → Hid (S = if b = true then ⟨#[]⟩ else ⟨O.toArray⟩) → Hid (E = if b = true then 2 else 0) → Calls Try.prog 17 #[.agg #[.int .i64 x0, .int .i64 x1, .string x2, .slice x3 x4 x5, .slice x6 x7 x8]] w (StrErr S E w) := by
        intro b hb e1 e2
        clear HPS HPE
        have hb2 : decide ((65536 : Int) < (O.length : Int)) = b := by
          rw [← hb]
          by_cases h : 65536 < O.length
          · rw [decide_eq_true h, decide_eq_true (by omega)]
          · rw [decide_eq_false h, decide_eq_false (by omega)]
        have HB2 := Lib.hid hb2
        clear hb hb2
        go_enter Try.func17, Try.ntmps17
        go_wp2_with fail
        refine (HR.out _ hA).mono ?_; rintro e w1 ⟨rfl, hw1⟩
        have hW1 : Below w.heap.size w w1 := hA.trans (hw1.mono (by simp))
        have hx1 : Blk w1 w.heap.size 27 #[.int .i64 x0, .int .i64 x1, .string x2, .slice x3 x4 x5, .slice x6 x7 x8] := (Blk.new w _ _).below hw1 (by simp)
        have c0 := hx1.cell 0
        have c1 := hx1.cell 1
        have c2 := hx1.cell 2
        have c3 := hx1.cell 3
        have c4 := hx1.cell 4
        simp at c0 c1 c2 c3 c4
        clear hx1
        go_wp2_with fail
        have HNC := HN.out w1 (by trivial) hW1
        refine (HNC : Calls _ _ _ _ _).mono ?_; rintro e w2 ⟨v2, rfl, n2, k2⟩
        obtain ⟨A, c, rfl⟩ := n2.form
        have hcv := n2.conv
        have hW2 := hW1.trans (k2.1.mono hW1.size)
        clear n2 HNC c0 c1 c2 c3 c4
        cases b with
        | true =>
          have hq := HB2.out
          go_wp2_with fail
          go_ret2
          exact ⟨by rw [e1.out, e2.out]; rfl, hW2⟩
        | false =>
          have hq := HB2.out
          go_wp2_with fail
          go_ret2
          exact ⟨by rw [e1.out, e2.out]; rfl, hW2⟩
      by_cases hb : 65536 < O.length
      · exact main true (decide_eq_true hb) (by show _ = _; rw [HPS.out, if_neg (by simp), if_pos hb]; rfl) (by show _ = _; rw [HPE.out, if_neg (by simp), if_pos hb]; rfl)
      · exact main false (decide_eq_false hb) (by show _ = _; rw [HPS.out, if_neg (by simp), if_neg hb]; rfl) (by show _ = _; rw [HPE.out, if_neg (by simp), if_neg hb]; rfl)
end Go.Proofs.Ytjigceoponlphaa
/-! What the laws of json call themselves: bytes that are parsed, the example. -/
namespace Go.Proofs.Ytjigceoponlphaa
open Go.RowKit Go.PlainAid
set_option linter.unusedVariables false
set_option linter.unusedSimpArgs false
theorem jnum_any (n : Int) (w : World) : Calls Try.prog 16 #[.int .i64 n] w fun e w' => e = .returned (.int .i64 n) ∧ w = w' := by
  go_enter Try.func16, Try.ntmps16
  go_wp2_with fail
  go_ret
  exact ⟨rfl, rfl⟩
/-- a slice of bytes reads as this text, from here on -/
def BytesAt (w : World) (A : Option Addr) (c : Nat) (s : ByteArray) : Prop := ∀ w', Below w.heap.size w w' → (convert 22 9 (.slice A s.size c)).run Try.prog w' = .ok (.string s) w'
theorem BytesAt.later {w w' : World} {A : Option Addr} {c : Nat} {s : ByteArray} (h : BytesAt w A c s) (hb : Below w.heap.size w w') : BytesAt w' A c s := fun w2 h2 => h w2 (nextB hb h2)
theorem bt_all (s : ByteArray) : strOfNums ((List.range s.size).map (bt s)) = s := by
  apply ba_ext'
  rw [nums_toList, List.map_map]
  apply List.ext_getElem?
  intro i
  rw [List.getElem?_map]
  by_cases hi : i < s.size
  · rw [List.getElem?_range hi]
    have h := get_bt s i hi
    rw [ByteArray.toList_eq]
    have hl : i < s.data.toList.length := by simpa using hi
    rw [List.getElem?_eq_getElem hl]
    simp only [Option.map_some, Function.comp, Option.some.injEq]
    rw [← h]
    simp
    rfl
  · rw [List.getElem?_eq_none (by simpa using hi), List.getElem?_eq_none (by rw [toList_len]; omega)]
    rfl
theorem BytesAt.of_cells {w : World} {b off c : Nat} {s : ByteArray} (hb : 0 < s.size → b < w.heap.size) (h : ∀ i, i < s.size → w.cell? ⟨b, off + i, none⟩ = some (.int .u8 (bt s i))) : BytesAt w (some ⟨b, off, none⟩) c s := by
  intro w' hw
  have := run_convert_bytes_arg w' 22 5 Try.underlying22 Try.underlying5 b off s.size c ((List.range s.size).map (bt s)) (by simp) (fun i hi => by
    rw [hw.cell (by show b < _; exact hb (by omega)), h i hi]
    simp [List.getD, hi]) 9 Try.underlying9
  rw [bt_all] at this
  exact this
theorem BytesAt.of_row {w : World} {g c : Nat} {s : ByteArray} (hg : g < w.heap.size) (h : RowF w g s.size (bt s)) : BytesAt w (some ⟨g, 0, none⟩) c s :=
  BytesAt.of_cells (fun _ => hg) (fun i hi => by rw [Nat.zero_add]; exact (h i hi).1)
theorem BytesAt.of_nil (w : World) (c : Nat) : BytesAt w none c ⟨#[]⟩ := fun w' _ => by
  have := run_convert_bytes_nil w' 22 5 Try.underlying22 Try.underlying5 0 c 9 Try.underlying9
  exact this
theorem bt_nums (zs : List Int) (i : Nat) (hi : i < zs.length) (h0 : 0 ≤ zs.getD i 0) (h1 : zs.getD i 0 ≤ 255) : bt (strOfNums zs) i = zs.getD i 0 := by
  have hz : zs.getD i 0 = zs[i] := by simp [List.getD, hi]
  rw [hz] at h0 h1 ⊢
  rw [bt_eq (strOfNums zs) i (UInt8.ofNat (zs[i]).toNat) (by rw [nums_toList, List.getElem?_map, List.getElem?_eq_getElem hi]; rfl)]
  exact toNat_ofNat _ h0 (by omega)
/-- a slice of bytes that came in -/
theorem BytesAt.of_arg {w : World} {a : Option Addr} {len cap : Nat} {zs : List Int} (h : IsRow .u8 w a len cap zs) : ∃ s : ByteArray, s.size = len ∧ BytesAt w a cap s ∧ len ≤ cap ∧ cap ≤ maxLen ∧ (∀ i, i < len → 0 ≤ zs.getD i 0 ∧ zs.getD i 0 ≤ 255 ∧ bt s i = zs.getD i 0) ∧ (0 < len → ∃ b off, a = some ⟨b, off, none⟩ ∧ b < w.heap.size ∧ ∀ i, i < len → w.cell? ⟨b, off + i, none⟩ = some (.int .u8 (bt s i))) := by
  rcases h with ⟨rfl, rfl, rfl, rfl⟩ | ⟨x, rfl, h1, h2, h3, h4, h5⟩
  · exact ⟨⟨#[]⟩, rfl, BytesAt.of_nil w 0, Nat.le_refl _, by simp, fun i hi => by omega, fun h => by omega⟩
  · have hlen : (strOfNums (zs.take len)).size = len := by rw [strOfNums_size, List.length_take]; omega
    have hv : ∀ i, i < len → 0 ≤ zs.getD i 0 ∧ zs.getD i 0 ≤ 255 ∧ bt (strOfNums (zs.take len)) i = zs.getD i 0 := fun i hi => by
      have hm := h5 (zs.getD i 0) (by simp [List.getD, show i < zs.length by omega])
      have hr : 0 ≤ zs.getD i 0 ∧ zs.getD i 0 ≤ 255 := by
        simp [Lit.wf] at hm
        have e1 : IntKind.u8.min = 0 := rfl
        have e2 : IntKind.u8.max = 255 := rfl
        rw [e1, e2] at hm
        simpa [List.getD] using hm
      have e : (zs.take len).getD i 0 = zs.getD i 0 := by simp [List.getD, List.getElem?_take, hi]
      have := bt_nums (zs.take len) i (by rw [List.length_take]; omega) (by rw [e]; exact hr.1) (by rw [e]; exact hr.2)
      rw [e] at this
      exact ⟨hr.1, hr.2, this⟩
    by_cases h0 : len = 0
    · subst h0
      refine ⟨⟨#[]⟩, rfl, ?_, h1, h2, fun i hi => by omega, fun h => by omega⟩
      intro w' hw
      have hl : (loadCells x 0).run Try.prog w' = .ok #[] w' := by
        have := run_loadCells_list (P := Try.prog) w' x [] (fun j v hj => by simp at hj)
        simpa using this
      show (convert 22 9 (.slice (some x) 0 cap)).run Try.prog w' = _
      rw [run_convert_bytes_string w' 22 9 5 _ 0 cap Try.underlying22 Try.underlying5 Try.underlying9, run_bytesToString w' _ 0 cap [] (by simpa using hl)]
      rfl
    · obtain ⟨b, off, rfl, h6⟩ := ints_at h4 (by omega)
      have hc : ∀ i, i < len → w.cell? ⟨b, off + i, none⟩ = some (.int .u8 (bt (strOfNums (zs.take len)) i)) := fun i hi => by rw [h6 i (by omega), (hv i hi).2.2]
      have hb : b < w.heap.size := World.block_lt_of_cell? _ _ (h6 0 (by omega))
      exact ⟨strOfNums (zs.take len), hlen, BytesAt.of_cells (fun _ => hb) (by rw [hlen]; exact hc), h1, h2, hv, fun _ => ⟨b, off, rfl, hb, hc⟩⟩
/-- what Parse ends with, for its callers -/
def PEnd (r : Except Int Nd) (w : World) (e : Ending) (w' : World) : Prop :=
  match r with
  | .error c => e = .returned (.tuple #[.agg #[.int .i64 0, .int .i64 0, .string ⟨#[]⟩, .slice none 0 0, .slice none 0 0], .int .i64 c]) ∧ Below w.heap.size w w'
  | .ok n => ∃ (c0 c1 : Int) (c2 : ByteArray) (c3 : Option Addr) (c4 c5 : Nat) (c6 : Option Addr) (c7 c8 : Nat),
      e = .returned (.tuple #[.agg #[.int .i64 c0, .int .i64 c1, .string c2, .slice c3 c4 c5, .slice c6 c7 c8], .int .i64 0]) ∧ NdIs w' w'.heap.size n [.int .i64 c0, .int .i64 c1, .string c2, .slice c3 c4 c5, .slice c6 c7 c8] ∧ Below w.heap.size w w'
theorem parse_law (s : ByteArray) (A : Option Addr) (c : Nat) (w : World) (h : BytesAt w A c s) : Calls Try.prog 13 #[.slice A s.size c] w (PEnd (parseL s.toList) w) := by
  refine (Parse_any s A c w h).mono ?_
  intro e w' hp
  cases hr : parseL s.toList with
  | error c => rw [hr] at hp; exact hp
  | ok n =>
    rw [hr] at hp
    obtain ⟨c0, c1, c2, c3, c4, c5, c6, c7, c8, he, hn, hb⟩ := hp
    exact ⟨c0, c1, c2, c3, c4, c5, c6, c7, c8, he, NdIn.is (fun b hb => hb.2) _ _ hn, hb⟩
theorem parse_ex : parseL [91, 49, 44, 32, 34, 97, 34, 93] = .ok (.mk 6 0 ⟨#[]⟩ [] [.mk 4 1 ⟨#[]⟩ [] [], .mk 5 0 ⟨#[97]⟩ [] []]) := by
  unfold parseL
  rw [if_neg (by simp), blanks_ne _ (by decide), valL_arr 0 _ rfl (by omega), List.tail_cons, blanks_ne _ (by decide), if_neg (by simp), arrL_eq, blanks_ne _ (by decide), valL_num 1 _ 49 rfl (.inr (by decide))]
  rw [show numL [49, 44, 32, 34, 97, 34, 93] = some (1, [44, 32, 34, 97, 34, 93]) by decide]
  simp only
  rw [blanks_ne _ (by decide), if_neg (by simp), if_pos (by simp), List.tail_cons, arrL_eq, show blanksL [32, 34, 97, 34, 93] = quoteU [97] ++ [93] by decide, valL_str 1 _ rfl, textL_quote [97] (ValidP.ascii 97 (by decide))]
  simp only
  rw [blanks_ne _ (by decide), if_pos (by simp)]
  rfl
/-- the cells of a kid of an array -/
theorem kid_cells {w : World} {B : Nat} {k m : Int} {t : ByteArray} {ks : List ByteArray} {ns : List Nd} {v0 v1 v2 v3 : Value} {A : Option Addr} {l c : Nat} (h : NdIs w B (.mk k m t ks ns) [v0, v1, v2, v3, .slice A l c]) : l = ns.length ∧ (0 < ns.length → ∃ b off, A = some ⟨b, off, none⟩ ∧ b < B ∧ ∀ (i : Nat) (n : Nd), ns[i]? = some n → ∃ cs, NdIs w B n cs ∧ ∀ j u, cs[j]? = some u → w.cell? ⟨b, off + (i * 5 + j), none⟩ = some u) := by
  unfold NdIs at h
  obtain ⟨A1, ck, A2, c2, xs, h1, h2, h3, h4, h5⟩ := h
  simp only [List.cons.injEq, Value.slice.injEq, and_true] at h1
  obtain ⟨_, _, _, _, rfl, rfl, rfl⟩ := h1
  refine ⟨rfl, fun hn => ?_⟩
  obtain ⟨ad, rfl, hb, hc⟩ := h3.2 hn
  have hx : 0 < xs.length := by rw [h3.1]; omega
  have hsp := spot_none (hc 0 xs[0] (List.getElem?_eq_getElem hx))
  obtain ⟨b, off, sp⟩ := ad
  have hs : sp = none := by
    unfold Addr.add at hsp
    split at hsp <;> simp_all
  subst hs
  refine ⟨b, off, rfl, hb, fun i n hi => ?_⟩
  obtain ⟨cs, k1, k2⟩ := NdsIs.at_ ns xs i n h4 hi
  refine ⟨cs, k1, fun j u hu => ?_⟩
  have hj : j < 5 := by
    have := (List.getElem?_eq_some_iff.1 hu).1
    rw [k1.len] at this; exact this
  have := hc (i * 5 + j) u (by rw [k2 j hj]; exact hu)
  have e : (⟨b, off, none⟩ : Addr).add (i * 5 + j) = ⟨b, off + (i * 5 + j), none⟩ := by unfold Addr.add; split <;> simp_all
  rw [e] at this
  exact this
theorem NdIs.head {w : World} {B : Nat} {k m : Int} {t : ByteArray} {ks : List ByteArray} {ns : List Nd} {cs : List Value} (h : NdIs w B (.mk k m t ks ns) cs) : cs[0]? = some (.int .i64 k) ∧ cs[1]? = some (.int .i64 m) ∧ cs[2]? = some (.string t) := by
  unfold NdIs at h
  obtain ⟨A1, ck, A2, c2, xs, rfl, _⟩ := h
  exact ⟨rfl, rfl, rfl⟩
set_option maxRecDepth 100000 in
set_option maxHeartbeats 2000000 in
theorem awake7_any (w : World) : Calls Try.prog 12 #[] w (BoolBel true w) := by
  have hby : BytesAt (w.alloc (.cells #[.int .u8 91, .int .u8 49, .int .u8 44, .int .u8 32, .int .u8 34, .int .u8 97, .int .u8 34, .int .u8 93] 5 (8, 9))) (some ⟨w.heap.size, 0, none⟩) 8 ⟨#[91, 49, 44, 32, 34, 97, 34, 93]⟩ := by
    refine BytesAt.of_cells (fun _ => by simp) (fun i hi => ?_)
    have hi : i < 8 := hi
    rw [World.cell?_alloc_mark]
    have : i = 0 ∨ i = 1 ∨ i = 2 ∨ i = 3 ∨ i = 4 ∨ i = 5 ∨ i = 6 ∨ i = 7 := by omega
    rcases this with rfl | rfl | rfl | rfl | rfl | rfl | rfl | rfl <;> rfl
  have HP := Lib.hid (parse_law _ _ _ _ hby)
  rw [lit_toList, parse_ex] at HP
  have HA : Hid (Below w.heap.size w (w.alloc (.cells #[.int .u8 91, .int .u8 49, .int .u8 44, .int .u8 32, .int .u8 34, .int .u8 97, .int .u8 34, .int .u8 93] 5 (8, 9)))) := (Below.refl _ _).alloc (Nat.le_refl _) _
  have kc := fun (w : World) (C : Array Value) (n c : Nat) => Lib.run_convert_bytes_const (P := Try.prog) w 22 5 C n c Try.underlying22 Try.underlying5
  clear hby
  go_enter Try.func12, Try.ntmps12
  go_wp2_with fail
  refine (HP.out : Calls _ _ _ _ _).mono ?_
  rintro e w1 ⟨c0, c1, c2, c3, c4, c5, c6, c7, c8, rfl, hn, hb⟩
  obtain ⟨hd0, hd1, hd2⟩ := hn.head
  obtain ⟨hl, hk⟩ := kid_cells hn
  obtain ⟨b, off, hA, hbl, hkid⟩ := hk (by simp)
  obtain ⟨k0, n0, m0⟩ := hkid 0 _ rfl
  obtain ⟨k1, n1, m1⟩ := hkid 1 _ rfl
  have x0 := m0 1 _ n0.head.2.1
  have x1 := m1 2 _ n1.head.2.2
  simp at hd0 hd1 hd2 hl x0 x1
  subst hd0 hd1 hd2 hl hA
  have y0 : (w1.alloc (.cells #[.int .i64 6, .int .i64 0, .string ⟨#[]⟩, .slice c3 c4 c5, .slice (some ⟨b, off, none⟩) 2 c8] 27)).cell? ⟨b, off + 1, none⟩ = some (.int .i64 1) := (World.cell?_alloc_lt _ _ _ hbl).trans x0
  have y1 : (w1.alloc (.cells #[.int .i64 6, .int .i64 0, .string ⟨#[]⟩, .slice c3 c4 c5, .slice (some ⟨b, off, none⟩) 2 c8] 27)).cell? ⟨b, off + 7, none⟩ = some (.string ⟨#[97]⟩) := (World.cell?_alloc_lt _ _ _ hbl).trans x1
  have HB := Lib.hid (nextB HA.out hb)
  clear hn hk hkid n0 n1 m0 m1 x0 x1 hb kc HP
  go_wp2_with fail
  refine (jnum_any _ _).mono ?_; rintro e w2 ⟨rfl, hw⟩; obtain rfl : _ = w2 := hw
  go_wp2_with fail
  go_ret
  exact ⟨rfl, HB.out.alloc HB.out.size _⟩
end Go.Proofs.Ytjigceoponlphaa
