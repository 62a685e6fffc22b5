/- Texts of one seat,one behind the other: Right2,Cprint,Rq,Rref1,Rref2,Rref3,Rref,Rput0,Jspec,Sizes,NdIn,Copied. No condition. -/
import Derived.Test.YthbjehbpanhdoaaDoorN1
import Derived.Lib.OwnKind
import Derived.Deep.RegionLaw
import Derived.Deep.RegionWith
import Derived.Deep.RegionHeld3
namespace Go.Proofs.YthbjehbpanhdoaaDoor
open Go.RowKit Go.PlainAid
set_option linter.unusedVariables false
set_option linter.unusedSimpArgs false
set_option maxRecDepth 100000 in
set_option maxHeartbeats 1000000 in
theorem sContainsFunc_right (ns:List Nd) (A:Option Addr) (cc:Nat) (xs:List Value) (w:World) (B:Nat) (deep:Int) (p:Addr) (hxs:Reads w B 5 A ns.length xs) (hns:NdsIs w B ns xs) (hB:B ≤ w.heap.size) (hk:ns.length ≤ 9223372036854775807)
  (hc:w.cell? p = some (.int .i64 deep)) (hp:p.block < w.heap.size) (d0:0 ≤ deep) (d1:deep < 24)
  (HIH:Hid (∀ (i:Nat) (n:Nd) (cs:List Value) (w':World),ns[i]? = some n → NdIs w' B n cs → B ≤ w'.heap.size → RightC cs.toArray (deep + 1) (rightD n (deep + 1)) w')) :
  Calls Tryd.prog 32 #[.slice A ns.length cc,.func (.func 80) #[] #[.pointer (some p)]] w (BoolBel (!rightLD ns (deep + 1)) w):=by
 have HC:=Lib.hid (sIndexFunc_right ns A cc xs w B deep p hxs hns hB hk hc hp d0 d1 HIH)
 clear hxs hns hc d0 d1 HIH
 generalize rightLD ns (deep + 1) = V at *
 go_enter Tryd.func32,Tryd.ntmps32
 go_wp2_with fail
 refine HC.out.mono ?_;rintro e w1 ⟨v,rfl,hv,hw1⟩
 go_wp2_with fail
 go_ret
 exact ⟨by first | rfl | (rw [← hv]),hw1⟩
def RightHyp (B:Nat) (ns:List Nd):Prop:=∀ (i:Nat) (n:Nd) (cs:List Value) (w':World) (deep:Int),ns[i]? = some n → NdIs w' B n cs → B ≤ w'.heap.size → 0 ≤ deep → deep ≤ 24 → RightC cs.toArray deep (rightD n deep) w'
set_option maxRecDepth 100000 in
set_option maxHeartbeats 3000000 in
theorem cright_step (k num:Int) (t:ByteArray) (ks:List ByteArray) (ns:List Nd) (A A2:Option Addr) (ck cc:Nat) (xs:List Value) (w:World) (B:Nat) (deep:Int)
  (hks:Reads w B 1 A ks.length (ks.map Value.string)) (hxs:Reads w B 5 A2 ns.length xs) (hns:NdsIs w B ns xs) (ht:t.size ≤ 9223372036854775807) (hsz:∀ s ∈ ks,s.size ≤ 9223372036854775807) (hk1:ks.length ≤ 9223372036854775807) (hk2:ns.length ≤ 9223372036854775807)
  (hB:B ≤ w.heap.size) (d0:0 ≤ deep) (d1:deep ≤ 24) (HIH:Hid (RightHyp B ns)) :
  Calls Tryd.prog 68 #[.agg (nA k num t A ks.length ck A2 ns.length cc),.int .i64 deep] w (BoolBel (rightD (.mk k num t ks ns) deep) w):=by
 have hW:=Below.refl w.heap.size w
 have HV:Hid (rightD (.mk k num t ks ns) deep = (bareF k num t ks.length ns.length &&
  (k == 1 || k == 2 || k == 3 || (k == 4 && decide (-9007199254740991 ≤ num ∧ num ≤ 9007199254740991)) || (k == 5 && validB t.toList) ||
   ((k == 6 || k == 7) && decide (deep < 24) && (k == 6 || (decide (ks.length = ns.length) && keysB ks)) && rightLD ns (deep + 1))))):=by
  show _ = _
  unfold rightLD rightD
  conv => lhs;unfold rightN
 generalize rightD (.mk k num t ks ns) deep = V at *
 have hA:Below w.heap.size w ((w.alloc (.cells (nA k num t A ks.length ck A2 ns.length cc) 25)).alloc (.cells #[.int .i64 deep] 3)):=(hW.alloc hW.size _).alloc (by simp) _
 have HKC:Hid (∀ w',Below w.heap.size w w' → Calls Tryd.prog 79 #[.slice A ks.length ck] w' fun e w'' => e = .returned (.bool (keysB ks)) ∧ Below w'.heap.size w' w''):=fun w' hb =>
  keys_any ks A ck B w' (hks.keep fun p hp => hb.cell (by omega)) hsz hk1 (by have:=hb.size;omega)
 have HVC:Hid (∀ w':World,Calls Tryd.prog 78 #[.string t] w' fun e w'' => e = .returned (.bool (validB t.toList)) ∧ Below w'.heap.size w' w''):=fun w' => valid_any t w' ht
 have HCC:Hid (∀ w' p,deep < 24 → Below w.heap.size w w' → w'.cell? p = some (.int .i64 deep) → p.block < w'.heap.size → Calls Tryd.prog 32 #[.slice A2 ns.length cc,.func (.func 80) #[] #[.pointer (some p)]] w' (BoolBel (!rightLD ns (deep + 1)) w')):=fun w' p hd hb hc hp =>
  sContainsFunc_right ns A2 cc xs w' B deep p (hxs.keep fun p hp => hb.cell (by omega)) (NdsIs.keep (fun p hp => hb.cell (by omega)) _ _ hns) (by have:=hb.size;omega) hk2 hc hp d0 hd
   (fun i n cs w'' h1 h2 h3 => HIH.out i n cs w'' (deep + 1) h1 h2 h3 (by omega) (by omega))
 have HBC:Hid (∀ w':World,Calls Tryd.prog 77 #[.agg (nA k num t A ks.length ck A2 ns.length cc)] w' fun e w'' => e = .returned (.bool (bareF k num t ks.length ns.length)) ∧ Below w'.heap.size w' w''):=fun w' =>
  bare_any k num t A A2 ks.length ns.length ck cc w'
 clear hks hxs hns hsz HIH
 generalize hvl:validB t.toList = vl at *
 generalize hkb:keysB ks = kb at *
 generalize hrl:rightLD ns (deep + 1) = rl at *
 clear hvl hkb hrl
 cases hb:bareF k num t ks.length ns.length with
 | false =>
  have HE:Hid (V = false):=by show _ = _;rw [HV.out,hb];rfl
  rw [hb] at HBC
  clear HV hb
  go_enter Tryd.func68,Tryd.ntmps68
  go_wp2_with fail
  refine (HBC.out _).mono ?_;rintro e w1 ⟨rfl,hw1⟩
  go_wp2_with fail
  go_ret
  exact ⟨by rw [HE.out];rfl,hA.trans (hw1.mono (by simp;omega))⟩
 | true =>
 rw [hb] at HBC HV
 clear hb
 by_cases h1:k = 1
 ·subst h1
  have HE:Hid (V = true):=by show _ = _;rw [HV.out];simp
  clear HV
  go_enter Tryd.func68,Tryd.ntmps68
  go_wp2_with fail
  refine (HBC.out _).mono ?_;rintro e w1 ⟨rfl,hw1⟩
  have hW1:=hA.trans (hw1.mono (by simp;omega))
  have c0:w1.cell? (qa w.heap.size 0) = some (.int .i64 1):=(hw1.cell (by simp;omega)).trans (by simp [go_sem])
  have c1:w1.cell? (qa w.heap.size 1) = some (.int .i64 num):=(hw1.cell (by simp;omega)).trans (by simp [go_sem])
  have c2:w1.cell? (qa w.heap.size 2) = some (.string t):=(hw1.cell (by simp;omega)).trans (by simp [go_sem])
  have c3:w1.cell? (qa w.heap.size 3) = some (.slice A ks.length ck):=(hw1.cell (by simp;omega)).trans (by simp [go_sem])
  have c4:w1.cell? (qa w.heap.size 4) = some (.slice A2 ns.length cc):=(hw1.cell (by simp;omega)).trans (by simp [go_sem])
  have cd:w1.cell? (qa (w.heap.size + 1) 0) = some (.int .i64 deep):=(hw1.cell (by simp)).trans (by simp [go_sem])
  have hs1:w.heap.size + 2 ≤ w1.heap.size:=by have:=hw1.size;simp at this;omega
  go_wp2_with fail
  go_ret
  exact ⟨by rw [HE.out];rfl,hW1⟩
 by_cases h2:k = 2
 ·subst h2
  have HE:Hid (V = true):=by show _ = _;rw [HV.out];simp
  clear HV
  go_enter Tryd.func68,Tryd.ntmps68
  go_wp2_with fail
  refine (HBC.out _).mono ?_;rintro e w1 ⟨rfl,hw1⟩
  have hW1:=hA.trans (hw1.mono (by simp;omega))
  have c0:w1.cell? (qa w.heap.size 0) = some (.int .i64 2):=(hw1.cell (by simp;omega)).trans (by simp [go_sem])
  have c1:w1.cell? (qa w.heap.size 1) = some (.int .i64 num):=(hw1.cell (by simp;omega)).trans (by simp [go_sem])
  have c2:w1.cell? (qa w.heap.size 2) = some (.string t):=(hw1.cell (by simp;omega)).trans (by simp [go_sem])
  have c3:w1.cell? (qa w.heap.size 3) = some (.slice A ks.length ck):=(hw1.cell (by simp;omega)).trans (by simp [go_sem])
  have c4:w1.cell? (qa w.heap.size 4) = some (.slice A2 ns.length cc):=(hw1.cell (by simp;omega)).trans (by simp [go_sem])
  have cd:w1.cell? (qa (w.heap.size + 1) 0) = some (.int .i64 deep):=(hw1.cell (by simp)).trans (by simp [go_sem])
  have hs1:w.heap.size + 2 ≤ w1.heap.size:=by have:=hw1.size;simp at this;omega
  go_wp2_with fail
  go_ret
  exact ⟨by rw [HE.out];rfl,hW1⟩
 by_cases h3:k = 3
 ·subst h3
  have HE:Hid (V = true):=by show _ = _;rw [HV.out];simp
  clear HV
  go_enter Tryd.func68,Tryd.ntmps68
  go_wp2_with fail
  refine (HBC.out _).mono ?_;rintro e w1 ⟨rfl,hw1⟩
  have hW1:=hA.trans (hw1.mono (by simp;omega))
  have c0:w1.cell? (qa w.heap.size 0) = some (.int .i64 3):=(hw1.cell (by simp;omega)).trans (by simp [go_sem])
  have c1:w1.cell? (qa w.heap.size 1) = some (.int .i64 num):=(hw1.cell (by simp;omega)).trans (by simp [go_sem])
  have c2:w1.cell? (qa w.heap.size 2) = some (.string t):=(hw1.cell (by simp;omega)).trans (by simp [go_sem])
  have c3:w1.cell? (qa w.heap.size 3) = some (.slice A ks.length ck):=(hw1.cell (by simp;omega)).trans (by simp [go_sem])
  have c4:w1.cell? (qa w.heap.size 4) = some (.slice A2 ns.length cc):=(hw1.cell (by simp;omega)).trans (by simp [go_sem])
  have cd:w1.cell? (qa (w.heap.size + 1) 0) = some (.int .i64 deep):=(hw1.cell (by simp)).trans (by simp [go_sem])
  have hs1:w.heap.size + 2 ≤ w1.heap.size:=by have:=hw1.size;simp at this;omega
  go_wp2_with fail
  go_ret
  exact ⟨by rw [HE.out];rfl,hW1⟩
 by_cases h4:k = 4
 ·subst h4
  cases e1:decide (-9007199254740991 ≤ num) with
  | false =>
   have HE:Hid (V = false):=by show _ = _;rw [HV.out];(have h9:=of_decide_eq_false e1);simp;intro h;exact absurd h h9
   clear HV
   go_enter Tryd.func68,Tryd.ntmps68
   go_wp2_with fail
   refine (HBC.out _).mono ?_;rintro e w1 ⟨rfl,hw1⟩
   have hW1:=hA.trans (hw1.mono (by simp;omega))
   have c0:w1.cell? (qa w.heap.size 0) = some (.int .i64 4):=(hw1.cell (by simp;omega)).trans (by simp [go_sem])
   have c1:w1.cell? (qa w.heap.size 1) = some (.int .i64 num):=(hw1.cell (by simp;omega)).trans (by simp [go_sem])
   have c2:w1.cell? (qa w.heap.size 2) = some (.string t):=(hw1.cell (by simp;omega)).trans (by simp [go_sem])
   have c3:w1.cell? (qa w.heap.size 3) = some (.slice A ks.length ck):=(hw1.cell (by simp;omega)).trans (by simp [go_sem])
   have c4:w1.cell? (qa w.heap.size 4) = some (.slice A2 ns.length cc):=(hw1.cell (by simp;omega)).trans (by simp [go_sem])
   have cd:w1.cell? (qa (w.heap.size + 1) 0) = some (.int .i64 deep):=(hw1.cell (by simp)).trans (by simp [go_sem])
   have hs1:w.heap.size + 2 ≤ w1.heap.size:=by have:=hw1.size;simp at this;omega
   go_wp2_with fail
   go_ret
   exact ⟨by rw [HE.out];rfl,hW1⟩
  | true =>
  cases e2:decide (num ≤ 9007199254740991) with
  | false =>
   have HE:Hid (V = false):=by show _ = _;rw [HV.out];(have h9:=of_decide_eq_false e2);simp;intro h;omega
   clear HV
   go_enter Tryd.func68,Tryd.ntmps68
   go_wp2_with fail
   refine (HBC.out _).mono ?_;rintro e w1 ⟨rfl,hw1⟩
   have hW1:=hA.trans (hw1.mono (by simp;omega))
   have c0:w1.cell? (qa w.heap.size 0) = some (.int .i64 4):=(hw1.cell (by simp;omega)).trans (by simp [go_sem])
   have c1:w1.cell? (qa w.heap.size 1) = some (.int .i64 num):=(hw1.cell (by simp;omega)).trans (by simp [go_sem])
   have c2:w1.cell? (qa w.heap.size 2) = some (.string t):=(hw1.cell (by simp;omega)).trans (by simp [go_sem])
   have c3:w1.cell? (qa w.heap.size 3) = some (.slice A ks.length ck):=(hw1.cell (by simp;omega)).trans (by simp [go_sem])
   have c4:w1.cell? (qa w.heap.size 4) = some (.slice A2 ns.length cc):=(hw1.cell (by simp;omega)).trans (by simp [go_sem])
   have cd:w1.cell? (qa (w.heap.size + 1) 0) = some (.int .i64 deep):=(hw1.cell (by simp)).trans (by simp [go_sem])
   have hs1:w.heap.size + 2 ≤ w1.heap.size:=by have:=hw1.size;simp at this;omega
   go_wp2_with fail
   go_ret
   exact ⟨by rw [HE.out];rfl,hW1⟩
  | true =>
   have HE:Hid (V = true):=by show _ = _;rw [HV.out];simp [(by simpa using e1 : -9007199254740991 ≤ num),(by simpa using e2:num ≤ 9007199254740991)]
   clear HV
   go_enter Tryd.func68,Tryd.ntmps68
   go_wp2_with fail
   refine (HBC.out _).mono ?_;rintro e w1 ⟨rfl,hw1⟩
   have hW1:=hA.trans (hw1.mono (by simp;omega))
   have c0:w1.cell? (qa w.heap.size 0) = some (.int .i64 4):=(hw1.cell (by simp;omega)).trans (by simp [go_sem])
   have c1:w1.cell? (qa w.heap.size 1) = some (.int .i64 num):=(hw1.cell (by simp;omega)).trans (by simp [go_sem])
   have c2:w1.cell? (qa w.heap.size 2) = some (.string t):=(hw1.cell (by simp;omega)).trans (by simp [go_sem])
   have c3:w1.cell? (qa w.heap.size 3) = some (.slice A ks.length ck):=(hw1.cell (by simp;omega)).trans (by simp [go_sem])
   have c4:w1.cell? (qa w.heap.size 4) = some (.slice A2 ns.length cc):=(hw1.cell (by simp;omega)).trans (by simp [go_sem])
   have cd:w1.cell? (qa (w.heap.size + 1) 0) = some (.int .i64 deep):=(hw1.cell (by simp)).trans (by simp [go_sem])
   have hs1:w.heap.size + 2 ≤ w1.heap.size:=by have:=hw1.size;simp at this;omega
   go_wp2_with fail
   go_ret
   exact ⟨by rw [HE.out];rfl,hW1⟩
 by_cases h5:k = 5
 ·subst h5
  have HE:Hid (V = vl):=by show _ = _;rw [HV.out];simp
  clear HV
  go_enter Tryd.func68,Tryd.ntmps68
  go_wp2_with fail
  refine (HBC.out _).mono ?_;rintro e w1 ⟨rfl,hw1⟩
  have hW1:=hA.trans (hw1.mono (by simp;omega))
  have c0:w1.cell? (qa w.heap.size 0) = some (.int .i64 5):=(hw1.cell (by simp;omega)).trans (by simp [go_sem])
  have c1:w1.cell? (qa w.heap.size 1) = some (.int .i64 num):=(hw1.cell (by simp;omega)).trans (by simp [go_sem])
  have c2:w1.cell? (qa w.heap.size 2) = some (.string t):=(hw1.cell (by simp;omega)).trans (by simp [go_sem])
  have c3:w1.cell? (qa w.heap.size 3) = some (.slice A ks.length ck):=(hw1.cell (by simp;omega)).trans (by simp [go_sem])
  have c4:w1.cell? (qa w.heap.size 4) = some (.slice A2 ns.length cc):=(hw1.cell (by simp;omega)).trans (by simp [go_sem])
  have cd:w1.cell? (qa (w.heap.size + 1) 0) = some (.int .i64 deep):=(hw1.cell (by simp)).trans (by simp [go_sem])
  have hs1:w.heap.size + 2 ≤ w1.heap.size:=by have:=hw1.size;simp at this;omega
  go_wp2_with fail
  refine (HVC.out _).mono ?_;rintro e w2 ⟨rfl,hw2⟩
  go_wp2_with fail
  go_ret
  exact ⟨by rw [HE.out];rfl,hW1.trans (hw2.mono hW1.size)⟩
 by_cases h6:k = 6
 ·subst h6
  by_cases hd:24 ≤ deep
  ·have hd':¬ deep < 24:=by omega
   have HE:Hid (V = false):=by show _ = _;rw [HV.out];simp [hd']
   clear HV
   go_enter Tryd.func68,Tryd.ntmps68
   go_wp2_with fail
   refine (HBC.out _).mono ?_;rintro e w1 ⟨rfl,hw1⟩
   have hW1:=hA.trans (hw1.mono (by simp;omega))
   have c0:w1.cell? (qa w.heap.size 0) = some (.int .i64 6):=(hw1.cell (by simp;omega)).trans (by simp [go_sem])
   have c1:w1.cell? (qa w.heap.size 1) = some (.int .i64 num):=(hw1.cell (by simp;omega)).trans (by simp [go_sem])
   have c2:w1.cell? (qa w.heap.size 2) = some (.string t):=(hw1.cell (by simp;omega)).trans (by simp [go_sem])
   have c3:w1.cell? (qa w.heap.size 3) = some (.slice A ks.length ck):=(hw1.cell (by simp;omega)).trans (by simp [go_sem])
   have c4:w1.cell? (qa w.heap.size 4) = some (.slice A2 ns.length cc):=(hw1.cell (by simp;omega)).trans (by simp [go_sem])
   have cd:w1.cell? (qa (w.heap.size + 1) 0) = some (.int .i64 deep):=(hw1.cell (by simp)).trans (by simp [go_sem])
   have hs1:w.heap.size + 2 ≤ w1.heap.size:=by have:=hw1.size;simp at this;omega
   go_wp2_with fail
   go_ret
   exact ⟨by rw [HE.out];rfl,hW1⟩
  ·have hd':deep < 24:=by omega
   have HE:Hid (V = rl):=by show _ = _;rw [HV.out];simp [hd']
   clear HV
   go_enter Tryd.func68,Tryd.ntmps68
   go_wp2_with fail
   refine (HBC.out _).mono ?_;rintro e w1 ⟨rfl,hw1⟩
   have hW1:=hA.trans (hw1.mono (by simp;omega))
   have c0:w1.cell? (qa w.heap.size 0) = some (.int .i64 6):=(hw1.cell (by simp;omega)).trans (by simp [go_sem])
   have c1:w1.cell? (qa w.heap.size 1) = some (.int .i64 num):=(hw1.cell (by simp;omega)).trans (by simp [go_sem])
   have c2:w1.cell? (qa w.heap.size 2) = some (.string t):=(hw1.cell (by simp;omega)).trans (by simp [go_sem])
   have c3:w1.cell? (qa w.heap.size 3) = some (.slice A ks.length ck):=(hw1.cell (by simp;omega)).trans (by simp [go_sem])
   have c4:w1.cell? (qa w.heap.size 4) = some (.slice A2 ns.length cc):=(hw1.cell (by simp;omega)).trans (by simp [go_sem])
   have cd:w1.cell? (qa (w.heap.size + 1) 0) = some (.int .i64 deep):=(hw1.cell (by simp)).trans (by simp [go_sem])
   have hs1:w.heap.size + 2 ≤ w1.heap.size:=by have:=hw1.size;simp at this;omega
   go_wp2_with fail
   refine (HCC.out _ _ hd' hW1 cd (by simp;omega)).mono ?_;rintro e w2 ⟨rfl,hw2⟩
   go_wp2_with fail
   go_ret
   exact ⟨by rw [HE.out];simp,hW1.trans (hw2.mono hW1.size)⟩
 by_cases h7:k = 7
 ·subst h7
  by_cases hd:24 ≤ deep
  ·have hd':¬ deep < 24:=by omega
   have HE:Hid (V = false):=by show _ = _;rw [HV.out];simp [hd']
   clear HV
   go_enter Tryd.func68,Tryd.ntmps68
   go_wp2_with fail
   refine (HBC.out _).mono ?_;rintro e w1 ⟨rfl,hw1⟩
   have hW1:=hA.trans (hw1.mono (by simp;omega))
   have c0:w1.cell? (qa w.heap.size 0) = some (.int .i64 7):=(hw1.cell (by simp;omega)).trans (by simp [go_sem])
   have c1:w1.cell? (qa w.heap.size 1) = some (.int .i64 num):=(hw1.cell (by simp;omega)).trans (by simp [go_sem])
   have c2:w1.cell? (qa w.heap.size 2) = some (.string t):=(hw1.cell (by simp;omega)).trans (by simp [go_sem])
   have c3:w1.cell? (qa w.heap.size 3) = some (.slice A ks.length ck):=(hw1.cell (by simp;omega)).trans (by simp [go_sem])
   have c4:w1.cell? (qa w.heap.size 4) = some (.slice A2 ns.length cc):=(hw1.cell (by simp;omega)).trans (by simp [go_sem])
   have cd:w1.cell? (qa (w.heap.size + 1) 0) = some (.int .i64 deep):=(hw1.cell (by simp)).trans (by simp [go_sem])
   have hs1:w.heap.size + 2 ≤ w1.heap.size:=by have:=hw1.size;simp at this;omega
   go_wp2_with fail
   go_ret
   exact ⟨by rw [HE.out];rfl,hW1⟩
  have hd':deep < 24:=by omega
  by_cases hl:ks.length = ns.length
  case neg =>
   have n4:((ks.length:Int) != (ns.length:Int)) = true:=by rw [bne_iff_ne];omega
   have HE:Hid (V = false):=by show _ = _;rw [HV.out];simp [hl]
   clear HV
   go_enter Tryd.func68,Tryd.ntmps68
   go_wp2_with fail
   refine (HBC.out _).mono ?_;rintro e w1 ⟨rfl,hw1⟩
   have hW1:=hA.trans (hw1.mono (by simp;omega))
   have c0:w1.cell? (qa w.heap.size 0) = some (.int .i64 7):=(hw1.cell (by simp;omega)).trans (by simp [go_sem])
   have c1:w1.cell? (qa w.heap.size 1) = some (.int .i64 num):=(hw1.cell (by simp;omega)).trans (by simp [go_sem])
   have c2:w1.cell? (qa w.heap.size 2) = some (.string t):=(hw1.cell (by simp;omega)).trans (by simp [go_sem])
   have c3:w1.cell? (qa w.heap.size 3) = some (.slice A ks.length ck):=(hw1.cell (by simp;omega)).trans (by simp [go_sem])
   have c4:w1.cell? (qa w.heap.size 4) = some (.slice A2 ns.length cc):=(hw1.cell (by simp;omega)).trans (by simp [go_sem])
   have cd:w1.cell? (qa (w.heap.size + 1) 0) = some (.int .i64 deep):=(hw1.cell (by simp)).trans (by simp [go_sem])
   have hs1:w.heap.size + 2 ≤ w1.heap.size:=by have:=hw1.size;simp at this;omega
   go_wp2_with fail
   go_ret
   exact ⟨by rw [HE.out];rfl,hW1⟩
  have n4:((ks.length:Int) != (ns.length:Int)) = false:=by rw [bne_eq_false_iff_eq];omega
  cases kb with
  | false =>
   have hl2:decide (ks.length = ns.length) = true:=decide_eq_true hl
   clear hl
   have HE:Hid (V = false):=by show _ = _;rw [HV.out];simp
   clear HV
   go_enter Tryd.func68,Tryd.ntmps68
   go_wp2_with fail
   refine (HBC.out _).mono ?_;rintro e w1 ⟨rfl,hw1⟩
   have hW1:=hA.trans (hw1.mono (by simp;omega))
   have c0:w1.cell? (qa w.heap.size 0) = some (.int .i64 7):=(hw1.cell (by simp;omega)).trans (by simp [go_sem])
   have c1:w1.cell? (qa w.heap.size 1) = some (.int .i64 num):=(hw1.cell (by simp;omega)).trans (by simp [go_sem])
   have c2:w1.cell? (qa w.heap.size 2) = some (.string t):=(hw1.cell (by simp;omega)).trans (by simp [go_sem])
   have c3:w1.cell? (qa w.heap.size 3) = some (.slice A ks.length ck):=(hw1.cell (by simp;omega)).trans (by simp [go_sem])
   have c4:w1.cell? (qa w.heap.size 4) = some (.slice A2 ns.length cc):=(hw1.cell (by simp;omega)).trans (by simp [go_sem])
   have cd:w1.cell? (qa (w.heap.size + 1) 0) = some (.int .i64 deep):=(hw1.cell (by simp)).trans (by simp [go_sem])
   have hs1:w.heap.size + 2 ≤ w1.heap.size:=by have:=hw1.size;simp at this;omega
   go_wp2_with fail
   refine (HKC.out _ hW1).mono ?_;rintro e w2 ⟨rfl,hw2⟩
   go_wp2_with fail
   go_ret
   exact ⟨by rw [HE.out];rfl,hW1.trans (hw2.mono hW1.size)⟩
  | true =>
   have hl2:decide (ks.length = ns.length) = true:=decide_eq_true hl
   clear hl
   have HE:Hid (V = rl):=by show _ = _;rw [HV.out];simp [hd',hl2]
   clear HV
   go_enter Tryd.func68,Tryd.ntmps68
   go_wp2_with fail
   refine (HBC.out _).mono ?_;rintro e w1 ⟨rfl,hw1⟩
   have hW1:=hA.trans (hw1.mono (by simp;omega))
   have c0:w1.cell? (qa w.heap.size 0) = some (.int .i64 7):=(hw1.cell (by simp;omega)).trans (by simp [go_sem])
   have c1:w1.cell? (qa w.heap.size 1) = some (.int .i64 num):=(hw1.cell (by simp;omega)).trans (by simp [go_sem])
   have c2:w1.cell? (qa w.heap.size 2) = some (.string t):=(hw1.cell (by simp;omega)).trans (by simp [go_sem])
   have c3:w1.cell? (qa w.heap.size 3) = some (.slice A ks.length ck):=(hw1.cell (by simp;omega)).trans (by simp [go_sem])
   have c4:w1.cell? (qa w.heap.size 4) = some (.slice A2 ns.length cc):=(hw1.cell (by simp;omega)).trans (by simp [go_sem])
   have cd:w1.cell? (qa (w.heap.size + 1) 0) = some (.int .i64 deep):=(hw1.cell (by simp)).trans (by simp [go_sem])
   have hs1:w.heap.size + 2 ≤ w1.heap.size:=by have:=hw1.size;simp at this;omega
   go_wp2_with fail
   refine (HKC.out _ hW1).mono ?_;rintro e w2 ⟨rfl,hw2⟩
   have hW2:=hW1.trans (hw2.mono hW1.size)
   have g4:w2.cell? (qa w.heap.size 4) = some (.slice A2 ns.length cc):=(hw2.cell (by simp;omega)).trans c4
   have gd:w2.cell? (qa (w.heap.size + 1) 0) = some (.int .i64 deep):=(hw2.cell (by simp;omega)).trans cd
   have hs2:=hw2.size
   go_wp2_with fail
   refine (HCC.out _ _ hd' hW2 gd (by simp;omega)).mono ?_;rintro e w3 ⟨rfl,hw3⟩
   go_wp2_with fail
   go_ret
   exact ⟨by rw [HE.out];simp,hW2.trans (hw3.mono hW2.size)⟩
 have HE:Hid (V = false):=by show _ = _;rw [HV.out];simp [h1,h2,h3,h4,h5,h6,h7]
 clear HV
 go_enter Tryd.func68,Tryd.ntmps68
 go_wp2_with fail
 refine (HBC.out _).mono ?_;rintro e w1 ⟨rfl,hw1⟩
 have hW1:=hA.trans (hw1.mono (by simp;omega))
 have c0:w1.cell? (qa w.heap.size 0) = some (.int .i64 k):=(hw1.cell (by simp;omega)).trans (by simp [go_sem])
 have c1:w1.cell? (qa w.heap.size 1) = some (.int .i64 num):=(hw1.cell (by simp;omega)).trans (by simp [go_sem])
 have c2:w1.cell? (qa w.heap.size 2) = some (.string t):=(hw1.cell (by simp;omega)).trans (by simp [go_sem])
 have c3:w1.cell? (qa w.heap.size 3) = some (.slice A ks.length ck):=(hw1.cell (by simp;omega)).trans (by simp [go_sem])
 have c4:w1.cell? (qa w.heap.size 4) = some (.slice A2 ns.length cc):=(hw1.cell (by simp;omega)).trans (by simp [go_sem])
 have cd:w1.cell? (qa (w.heap.size + 1) 0) = some (.int .i64 deep):=(hw1.cell (by simp)).trans (by simp [go_sem])
 have hs1:w.heap.size + 2 ≤ w1.heap.size:=by have:=hw1.size;simp at this;omega
 go_wp2_with fail
 go_ret
 exact ⟨by rw [HE.out];rfl,hW1⟩
theorem cright_any:∀ (m:Nat) (n:Nd),n.count ≤ m → ∀ (B:Nat) (cs:List Value) (w:World) (deep:Int),NdIs w B n cs → B ≤ w.heap.size → 0 ≤ deep → deep ≤ 24 → RightC cs.toArray deep (rightD n deep) w:=by
 intro m
 induction m with
 | zero => intro n hm;have:=n.count_pos;omega
 | succ m ih =>
  intro n hm B cs w deep hn hB d0 d1
  cases n with
  | mk k num t ks ns =>
   unfold NdIs at hn
   obtain ⟨A,ck,A2,cc,xs,rfl,hks,hxs,hns,ik,inn,ht,hkl,hk,hmm⟩:=hn
   unfold maxLen at *
   refine cright_step k num t ks ns A A2 ck cc xs w B deep hks hxs hns ht hkl hk hmm hB d0 d1 ?_
   intro i n cs w' deep h1 h2 h3 h4 h5
   refine ih n ?_ B cs w' deep h2 h3 h4 h5
   have:=Nd.counts_get ns i n h1
   simp only [Nd.count] at hm;omega
theorem CRight_any (n:Nd) (cs:List Value) (w:World) (B:Nat) (hn:NdIs w B n cs) (hB:B ≤ w.heap.size):Calls Tryd.prog 54 #[.agg cs.toArray] w (BoolBel (rightD n 0) w):=by
 have hl:=hn.len
 have hW:=Below.refl w.heap.size w
 match cs,hl with
 | [v0,v1,v2,v3,v4],_ =>
  have HC:Hid (∀ w',Below w.heap.size w w' → RightC #[v0,v1,v2,v3,v4] 0 (rightD n 0) w'):=fun w' hb =>
   cright_any n.count n (Nat.le_refl _) B [v0,v1,v2,v3,v4] w' 0 (hn.below (hb.mono (by omega))) (by have:=hb.size;omega) (by omega) (by omega)
  obtain ⟨x0,x1,x2,x3,x4,x5,x6,x7,x8,rfl,rfl,rfl,rfl,rfl⟩:=hn.form
  show Calls Tryd.prog 54 #[.agg #[_,_,_,_,_]] w (BoolBel _ w)
  clear hn
  generalize rightD n 0 = W at *
  go_enter Tryd.func54,Tryd.ntmps54
  go_wp2_with fail
  refine (HC.out _ (hW.alloc hW.size _)).mono ?_;rintro e w1 ⟨rfl,hw1⟩
  go_wp2_with fail
  go_ret
  exact ⟨rfl,nextA hW hw1⟩
noncomputable def printS (n:Nd):ByteArray:=if rightD n 0 = false then ⟨#[]⟩ else if 65536 < (outN n []).length then ⟨#[]⟩ else ⟨(outN n []).toArray⟩
noncomputable def printE (n:Nd):Int:=if rightD n 0 = false then 1 else if 65536 < (outN n []).length then 2 else 0
def StrErr (s:ByteArray) (k:Int) (w:World) (e:Ending) (w':World):Prop:=e = .returned (.tuple #[.string s,.int .i64 k]) ∧ Below w.heap.size w w'
theorem decDigits_ne (u:Nat):Lib.decDigits u ≠ []:=by
 unfold Lib.decDigits
 split <;> simp
end Go.Proofs.YthbjehbpanhdoaaDoor
namespace Go.Proofs.YthbjehbpanhdoaaDoor
open Go.RowKit Go.PlainAid
set_option linter.unusedVariables false
set_option linter.unusedSimpArgs false
set_option maxRecDepth 100000
def nums (l:List UInt8):List Int:=l.map fun c => (c.toNat:Int)
theorem nums_app (a b:List UInt8):nums (a ++ b) = nums a ++ nums b:=by simp [nums]
theorem nums_len (a:List UInt8):(nums a).length = a.length:=by simp [nums]
theorem strOfNums_nums (l:List UInt8):strOfNums (nums l) = ⟨l.toArray⟩:=by
 unfold strOfNums nums
 congr 1
 apply Array.ext'
 simp [Function.comp_def]
def OwnU (w:World) (B:Nat) (v:Value) (l:List UInt8):Prop:=OwnB w B v (nums l)
theorem OwnU.nil (w:World) (B:Nat):OwnU w B (.slice none 0 0) []:=OwnB.nil w B
def KU (B:Nat) (w w':World):Prop:=Below B w w' ∧ Lib.OthersKept 5 none w w'
theorem KU.of_grown {B:Nat} {w w':World} {v:Value} {l:List UInt8} (h:OwnU w B v l) (hB:B ≤ w.heap.size) (hg:w.grownBy w' v.ownBlock):KU B w w':=
 ⟨(Below.refl _ _).grown hg hB (fun k hk => (World.ownsRow.lt h k hk).1),(Lib.OthersKept.refl _ _ w).grown hg (Lib.ownsRow_kind h)⟩
theorem OwnU.old {B:Nat} {v:Value} {l:List UInt8} {w w':World} (h:OwnU w B v l) (k:Below w.heap.size w w'):OwnU w' B v l:=by
 have hg:w.grownBy w' none:=⟨k.os,k.tape,k.output,k.size,fun i hi _ => k.block i hi⟩
 exact World.ownsRow.kept h hg (by cases v.ownBlock <;> simp)
theorem OwnU.conv {w:World} {B:Nat} {v:Value} {l:List UInt8} (h:OwnU w B v l):(convert 52 9 v).run Tryd.prog w = .ok (.string ⟨l.toArray⟩) w:=by
 rw [← strOfNums_nums];exact OwnB.conv h
def OutIs (B:Nat) (l:List UInt8) (w:World) (e:Ending) (w':World):Prop:=∃ v',e = .returned v' ∧ OwnU w' B v' l ∧ KU B w w'
theorem wpList_pushS (w:World) {ops:Array Oper} {rest:List Oper} {o:Oper} {a:Act} {Q:Exit → Act → World → Prop} (hgd:o.guard = none) (s x:Operand)
  (ho:o.op = .call { callee:=.builtin .append,args:=#[s,x],argTypes:=#[52,9] })
  (B:Nat) (v:Value) (l:List UInt8) (hs:a.eval s = v) (hown:OwnU w B v l) (t:ByteArray) (hx:a.eval x = .string t) (m:List UInt8) (hm:t.toList = m)
  (hlim:l.length + m.length ≤ 120000000000000) (hB:B ≤ w.heap.size)
  (h:∀ v' w',OwnU w' B v' (l ++ m) → KU B w w' → wpList Tryd.prog ops Q rest (a.put o.dst v') w'):wpList Tryd.prog ops Q (o :: rest) a w:=by
 obtain ⟨i0,hi0,hz0,hz1,hz2⟩:=info_parts u8Info
 have hts:t.size = m.length:=by rw [← hm];exact (tl_len' t).symm
 refine Lib.wpList_append_own_string w hgd s x 52 9 ho B 5 i0 Tryd.underlying52 Tryd.underlying9 hi0 hz0 hz1 hz2 v (nums l).length _ hs hown t hx
  (by rw [nums_len];simp only [maxLen];omega) (by rw [nums_len];omega) hB (fun v' w' h1 h2 _ => h v' w' ?_ (KU.of_grown hown hB h2))
 have e:(nums (l ++ m)).map (Value.int .u8) = (nums l).map (Value.int .u8) ++ Lib.strCells t:=by
  rw [nums_app,List.map_append]
  congr 1
  subst hm
  rw [ByteArray.toList_eq]
  simp [nums,Lib.strCells]
 show w'.ownsRow B 5 1 v' (nums (l ++ m)).length ((nums (l ++ m)).map (Value.int .u8))
 rw [e,nums_app,List.length_append,nums_len m,← hts]
 exact h1
end Go.Proofs.YthbjehbpanhdoaaDoor
namespace Go.Proofs.YthbjehbpanhdoaaDoor
open Go.RowKit Go.PlainAid
set_option linter.unusedVariables false
set_option linter.unusedSimpArgs false
def RrightC (vs:Array Value) (deep:Int) (b:Bool) (w:World):Prop:=Calls Tryd.prog 19 #[.agg vs,.int .i64 deep] w (BoolBel b w)
def RrightHyp (B:Nat) (ns:List Nd):Prop:=∀ (i:Nat) (n:Nd) (cs:List Value) (w':World) (deep:Int),ns[i]? = some n → NdIs w' B n cs → B ≤ w'.heap.size → 0 ≤ deep → deep ≤ 24 → RrightC cs.toArray deep (rightD n deep) w'
theorem keysB_nil:keysB [] = true:=by unfold keysB;exact decide_eq_true ⟨List.nodup_nil,by simp⟩
theorem keysB_all {ks:List ByteArray} {i:Nat} (hi:i = ks.length) (h:(ks.take i).Nodup ∧ ∀ s ∈ ks.take i,validB s.toList = true):keysB ks = true:=by
 subst hi
 rw [List.take_length] at h
 unfold keysB
 exact decide_eq_true h
theorem rightD_eq (k num:Int) (t:ByteArray) (ks:List ByteArray) (ns:List Nd) (deep:Int):rightD (.mk k num t ks ns) deep = (bareF k num t ks.length ns.length &&
  (k == 1 || k == 2 || k == 3 || (k == 4 && decide (-9007199254740991 ≤ num ∧ num ≤ 9007199254740991)) || (k == 5 && validB t.toList) ||
   ((k == 6 || k == 7) && decide (deep < 24) && (k == 6 || (decide (ks.length = ns.length) && keysB ks)) && rightLD ns (deep + 1)))):=by
  unfold rightLD rightD
  conv => lhs;unfold rightN
theorem take_ne {ks:List ByteArray} {i:Nat} {s:ByteArray} (h:∀ (j:Nat) (u:ByteArray),j < i → ks[j]? = some u → (u.toList == s.toList) = false):s ∉ ks.take i:=by
 intro hm
 obtain ⟨j,hj⟩:=List.getElem?_of_mem hm
 have hl:=(List.getElem?_eq_some_iff.1 hj).1
 rw [List.length_take] at hl
 rw [List.getElem?_take_of_lt (by omega)] at hj
 have:=h j s (by omega) hj
 simp at this
theorem take_in {ks:List ByteArray} {i j:Nat} {u:ByteArray} (hj:j < i) (h:ks[j]? = some u):u ∈ ks.take i:=by
 have:(ks.take i)[j]? = some u:=by rw [List.getElem?_take_of_lt hj];exact h
 exact List.mem_of_getElem? this
set_option maxRecDepth 100000 in
set_option maxHeartbeats 3000000 in
theorem rright_const (k num:Int) (t:ByteArray) (ks:List ByteArray) (ns:List Nd) (A A2:Option Addr) (ck cc:Nat) (xs:List Value) (w:World) (B:Nat) (deep:Int)
  (hks:Reads w B 1 A ks.length (ks.map Value.string)) (hxs:Reads w B 5 A2 ns.length xs) (hns:NdsIs w B ns xs) (ht:t.size ≤ 9223372036854775807) (hsz:∀ s ∈ ks,s.size ≤ 9223372036854775807) (hk1:ks.length ≤ 9223372036854775807) (hk2:ns.length ≤ 9223372036854775807)
  (hB:B ≤ w.heap.size) (d0:0 ≤ deep) (d1:deep ≤ 24) (HIH:Hid (RrightHyp B ns)) (hk:k = 1 ∨ k = 2 ∨ k = 3) :
  Calls Tryd.prog 19 #[.agg (nA k num t A ks.length ck A2 ns.length cc),.int .i64 deep] w (BoolBel (rightD (.mk k num t ks ns) deep) w):=by
 have hW:=Below.refl w.heap.size w
 have HV:Hid (_ = _):=rightD_eq k num t ks ns deep
 have HVC:Hid (∀ w':World,Calls Tryd.prog 27 #[.string t] w' fun e w'' => e = .returned (.bool (validB t.toList)) ∧ Below w'.heap.size w' w''):=fun w' => rvalid_any t w' ht
 have hA:Below w.heap.size w (w.alloc (.cells (nA k num t A ks.length ck A2 ns.length cc) 25)):=hW.alloc hW.size _
 generalize rightD (.mk k num t ks ns) deep = V at *
 rcases hk with rfl | rfl | rfl
 ·by_cases hn:num = 0
  case neg =>
   have HE:Hid (V = false):=by show _ = _;rw [HV.out];simp [bareF,hn]
   clear HV hks hxs hns hsz HIH
   go_enter Tryd.func19,Tryd.ntmps19
   go_wp2_with fail
   go_ret
   exact ⟨by rw [HE.out];rfl,hA⟩
  subst hn
  by_cases ht0:t = ⟨#[]⟩
  case neg =>
   have ht2:decide (t = ⟨#[]⟩) = false:=decide_eq_false ht0
   have ht3:¬ t.toList = []:=fun h => ht0 (by cases t with | mk d => rw [ByteArray.toList_eq] at h;simp at h;rw [h])
   have ht4:t.toList.isEmpty = false:=by simp [ht3]
   have HE:Hid (V = false):=by show _ = _;rw [HV.out];simp [bareF,ht0]
   clear HV hks hxs hns hsz HIH
   go_enter Tryd.func19,Tryd.ntmps19
   go_wp2_with fail
   go_ret
   exact ⟨by rw [HE.out];rfl,hA⟩
  have ht2:decide (t = ⟨#[]⟩) = true:=decide_eq_true ht0
  have ht3:t.toList = []:=by rw [ht0,ByteArray.toList_eq]
  have ht4:t.toList.isEmpty = true:=by rw [ht3];rfl
  have hvt:validB t.toList = true:=by rw [ht3];exact validB_nil
  rw [hvt] at HVC
  rw [ht3] at HV
  clear hvt ht0
  by_cases hb0:0 < ns.length
  case pos =>
   have hb2:ns ≠ []:=fun h => by rw [h] at hb0;simp at hb0
   have HE:Hid (V = false):=by show _ = _;rw [HV.out];simp [bareF,hb2]
   clear HV hks hxs hns hsz HIH
   go_enter Tryd.func19,Tryd.ntmps19
   go_wp2_with fail
   refine (HVC.out _).mono ?_;rintro e w1 ⟨rfl,hw1⟩
   have hW1:=hA.trans (hw1.mono (by simp))
   have c0:w1.cell? (qa w.heap.size 0) = some (.int .i64 1):=(hw1.cell (by simp)).trans (by simp [go_sem])
   have c1:w1.cell? (qa w.heap.size 1) = some (.int .i64 0):=(hw1.cell (by simp)).trans (by simp [go_sem])
   have c2:w1.cell? (qa w.heap.size 2) = some (.string t):=(hw1.cell (by simp)).trans (by simp [go_sem])
   have c3:w1.cell? (qa w.heap.size 3) = some (.slice A ks.length ck):=(hw1.cell (by simp)).trans (by simp [go_sem])
   have c4:w1.cell? (qa w.heap.size 4) = some (.slice A2 ns.length cc):=(hw1.cell (by simp)).trans (by simp [go_sem])
   go_wp2_with fail
   go_ret
   exact ⟨by rw [HE.out];rfl,hW1⟩
  have hb3:ns.length < 1:=by omega
  have HBN:Hid (ns = []):=List.eq_nil_of_length_eq_zero (by omega)
  clear hb0
  by_cases ha0:0 < ks.length
  case pos =>
   have ha2:ks ≠ []:=fun h => by rw [h] at ha0;simp at ha0
   have HE:Hid (V = false):=by show _ = _;rw [HV.out];simp [bareF,ha2]
   clear HV hks hxs hns hsz HIH
   go_enter Tryd.func19,Tryd.ntmps19
   go_wp2_with fail
   refine (HVC.out _).mono ?_;rintro e w1 ⟨rfl,hw1⟩
   have hW1:=hA.trans (hw1.mono (by simp))
   have c0:w1.cell? (qa w.heap.size 0) = some (.int .i64 1):=(hw1.cell (by simp)).trans (by simp [go_sem])
   have c1:w1.cell? (qa w.heap.size 1) = some (.int .i64 0):=(hw1.cell (by simp)).trans (by simp [go_sem])
   have c2:w1.cell? (qa w.heap.size 2) = some (.string t):=(hw1.cell (by simp)).trans (by simp [go_sem])
   have c3:w1.cell? (qa w.heap.size 3) = some (.slice A ks.length ck):=(hw1.cell (by simp)).trans (by simp [go_sem])
   have c4:w1.cell? (qa w.heap.size 4) = some (.slice A2 ns.length cc):=(hw1.cell (by simp)).trans (by simp [go_sem])
   go_wp2_with fail
   go_ret
   exact ⟨by rw [HE.out];rfl,hW1⟩
  have ha3:ks.length < 1:=by omega
  have HAN:Hid (ks = []):=List.eq_nil_of_length_eq_zero (by omega)
  clear ha0
  have HE:Hid (V = true):=by show _ = _;rw [HV.out,HAN.out,HBN.out];simp [bareF, *]
  clear HV hks hxs hns hsz HIH
  go_enter Tryd.func19,Tryd.ntmps19
  go_wp2_with fail
  refine (HVC.out _).mono ?_;rintro e w1 ⟨rfl,hw1⟩
  have hW1:=hA.trans (hw1.mono (by simp))
  have c0:w1.cell? (qa w.heap.size 0) = some (.int .i64 1):=(hw1.cell (by simp)).trans (by simp [go_sem])
  have c1:w1.cell? (qa w.heap.size 1) = some (.int .i64 0):=(hw1.cell (by simp)).trans (by simp [go_sem])
  have c2:w1.cell? (qa w.heap.size 2) = some (.string t):=(hw1.cell (by simp)).trans (by simp [go_sem])
  have c3:w1.cell? (qa w.heap.size 3) = some (.slice A ks.length ck):=(hw1.cell (by simp)).trans (by simp [go_sem])
  have c4:w1.cell? (qa w.heap.size 4) = some (.slice A2 ns.length cc):=(hw1.cell (by simp)).trans (by simp [go_sem])
  go_wp2_with fail
  refine wp_loop_rounds 1 ?_;rw [rounds_succ]
  go_wp2_with fail
  refine wp_loop_rounds 1 ?_;rw [rounds_succ]
  go_wp2_with fail
  go_ret
  exact ⟨by rw [HE.out];rfl,hW1⟩
 ·by_cases hn:num = 0
  case neg =>
   have HE:Hid (V = false):=by show _ = _;rw [HV.out];simp [bareF,hn]
   clear HV hks hxs hns hsz HIH
   go_enter Tryd.func19,Tryd.ntmps19
   go_wp2_with fail
   go_ret
   exact ⟨by rw [HE.out];rfl,hA⟩
  subst hn
  by_cases ht0:t = ⟨#[]⟩
  case neg =>
   have ht2:decide (t = ⟨#[]⟩) = false:=decide_eq_false ht0
   have ht3:¬ t.toList = []:=fun h => ht0 (by cases t with | mk d => rw [ByteArray.toList_eq] at h;simp at h;rw [h])
   have ht4:t.toList.isEmpty = false:=by simp [ht3]
   have HE:Hid (V = false):=by show _ = _;rw [HV.out];simp [bareF,ht0]
   clear HV hks hxs hns hsz HIH
   go_enter Tryd.func19,Tryd.ntmps19
   go_wp2_with fail
   go_ret
   exact ⟨by rw [HE.out];rfl,hA⟩
  have ht2:decide (t = ⟨#[]⟩) = true:=decide_eq_true ht0
  have ht3:t.toList = []:=by rw [ht0,ByteArray.toList_eq]
  have ht4:t.toList.isEmpty = true:=by rw [ht3];rfl
  have hvt:validB t.toList = true:=by rw [ht3];exact validB_nil
  rw [hvt] at HVC
  rw [ht3] at HV
  clear hvt ht0
  by_cases hb0:0 < ns.length
  case pos =>
   have hb2:ns ≠ []:=fun h => by rw [h] at hb0;simp at hb0
   have HE:Hid (V = false):=by show _ = _;rw [HV.out];simp [bareF,hb2]
   clear HV hks hxs hns hsz HIH
   go_enter Tryd.func19,Tryd.ntmps19
   go_wp2_with fail
   refine (HVC.out _).mono ?_;rintro e w1 ⟨rfl,hw1⟩
   have hW1:=hA.trans (hw1.mono (by simp))
   have c0:w1.cell? (qa w.heap.size 0) = some (.int .i64 2):=(hw1.cell (by simp)).trans (by simp [go_sem])
   have c1:w1.cell? (qa w.heap.size 1) = some (.int .i64 0):=(hw1.cell (by simp)).trans (by simp [go_sem])
   have c2:w1.cell? (qa w.heap.size 2) = some (.string t):=(hw1.cell (by simp)).trans (by simp [go_sem])
   have c3:w1.cell? (qa w.heap.size 3) = some (.slice A ks.length ck):=(hw1.cell (by simp)).trans (by simp [go_sem])
   have c4:w1.cell? (qa w.heap.size 4) = some (.slice A2 ns.length cc):=(hw1.cell (by simp)).trans (by simp [go_sem])
   go_wp2_with fail
   go_ret
   exact ⟨by rw [HE.out];rfl,hW1⟩
  have hb3:ns.length < 1:=by omega
  have HBN:Hid (ns = []):=List.eq_nil_of_length_eq_zero (by omega)
  clear hb0
  by_cases ha0:0 < ks.length
  case pos =>
   have ha2:ks ≠ []:=fun h => by rw [h] at ha0;simp at ha0
   have HE:Hid (V = false):=by show _ = _;rw [HV.out];simp [bareF,ha2]
   clear HV hks hxs hns hsz HIH
   go_enter Tryd.func19,Tryd.ntmps19
   go_wp2_with fail
   refine (HVC.out _).mono ?_;rintro e w1 ⟨rfl,hw1⟩
   have hW1:=hA.trans (hw1.mono (by simp))
   have c0:w1.cell? (qa w.heap.size 0) = some (.int .i64 2):=(hw1.cell (by simp)).trans (by simp [go_sem])
   have c1:w1.cell? (qa w.heap.size 1) = some (.int .i64 0):=(hw1.cell (by simp)).trans (by simp [go_sem])
   have c2:w1.cell? (qa w.heap.size 2) = some (.string t):=(hw1.cell (by simp)).trans (by simp [go_sem])
   have c3:w1.cell? (qa w.heap.size 3) = some (.slice A ks.length ck):=(hw1.cell (by simp)).trans (by simp [go_sem])
   have c4:w1.cell? (qa w.heap.size 4) = some (.slice A2 ns.length cc):=(hw1.cell (by simp)).trans (by simp [go_sem])
   go_wp2_with fail
   go_ret
   exact ⟨by rw [HE.out];rfl,hW1⟩
  have ha3:ks.length < 1:=by omega
  have HAN:Hid (ks = []):=List.eq_nil_of_length_eq_zero (by omega)
  clear ha0
  have HE:Hid (V = true):=by show _ = _;rw [HV.out,HAN.out,HBN.out];simp [bareF, *]
  clear HV hks hxs hns hsz HIH
  go_enter Tryd.func19,Tryd.ntmps19
  go_wp2_with fail
  refine (HVC.out _).mono ?_;rintro e w1 ⟨rfl,hw1⟩
  have hW1:=hA.trans (hw1.mono (by simp))
  have c0:w1.cell? (qa w.heap.size 0) = some (.int .i64 2):=(hw1.cell (by simp)).trans (by simp [go_sem])
  have c1:w1.cell? (qa w.heap.size 1) = some (.int .i64 0):=(hw1.cell (by simp)).trans (by simp [go_sem])
  have c2:w1.cell? (qa w.heap.size 2) = some (.string t):=(hw1.cell (by simp)).trans (by simp [go_sem])
  have c3:w1.cell? (qa w.heap.size 3) = some (.slice A ks.length ck):=(hw1.cell (by simp)).trans (by simp [go_sem])
  have c4:w1.cell? (qa w.heap.size 4) = some (.slice A2 ns.length cc):=(hw1.cell (by simp)).trans (by simp [go_sem])
  go_wp2_with fail
  refine wp_loop_rounds 1 ?_;rw [rounds_succ]
  go_wp2_with fail
  refine wp_loop_rounds 1 ?_;rw [rounds_succ]
  go_wp2_with fail
  go_ret
  exact ⟨by rw [HE.out];rfl,hW1⟩
 ·by_cases hn:num = 0
  case neg =>
   have HE:Hid (V = false):=by show _ = _;rw [HV.out];simp [bareF,hn]
   clear HV hks hxs hns hsz HIH
   go_enter Tryd.func19,Tryd.ntmps19
   go_wp2_with fail
   go_ret
   exact ⟨by rw [HE.out];rfl,hA⟩
  subst hn
  by_cases ht0:t = ⟨#[]⟩
  case neg =>
   have ht2:decide (t = ⟨#[]⟩) = false:=decide_eq_false ht0
   have ht3:¬ t.toList = []:=fun h => ht0 (by cases t with | mk d => rw [ByteArray.toList_eq] at h;simp at h;rw [h])
   have ht4:t.toList.isEmpty = false:=by simp [ht3]
   have HE:Hid (V = false):=by show _ = _;rw [HV.out];simp [bareF,ht0]
   clear HV hks hxs hns hsz HIH
   go_enter Tryd.func19,Tryd.ntmps19
   go_wp2_with fail
   go_ret
   exact ⟨by rw [HE.out];rfl,hA⟩
  have ht2:decide (t = ⟨#[]⟩) = true:=decide_eq_true ht0
  have ht3:t.toList = []:=by rw [ht0,ByteArray.toList_eq]
  have ht4:t.toList.isEmpty = true:=by rw [ht3];rfl
  have hvt:validB t.toList = true:=by rw [ht3];exact validB_nil
  rw [hvt] at HVC
  rw [ht3] at HV
  clear hvt ht0
  by_cases hb0:0 < ns.length
  case pos =>
   have hb2:ns ≠ []:=fun h => by rw [h] at hb0;simp at hb0
   have HE:Hid (V = false):=by show _ = _;rw [HV.out];simp [bareF,hb2]
   clear HV hks hxs hns hsz HIH
   go_enter Tryd.func19,Tryd.ntmps19
   go_wp2_with fail
   refine (HVC.out _).mono ?_;rintro e w1 ⟨rfl,hw1⟩
   have hW1:=hA.trans (hw1.mono (by simp))
   have c0:w1.cell? (qa w.heap.size 0) = some (.int .i64 3):=(hw1.cell (by simp)).trans (by simp [go_sem])
   have c1:w1.cell? (qa w.heap.size 1) = some (.int .i64 0):=(hw1.cell (by simp)).trans (by simp [go_sem])
   have c2:w1.cell? (qa w.heap.size 2) = some (.string t):=(hw1.cell (by simp)).trans (by simp [go_sem])
   have c3:w1.cell? (qa w.heap.size 3) = some (.slice A ks.length ck):=(hw1.cell (by simp)).trans (by simp [go_sem])
   have c4:w1.cell? (qa w.heap.size 4) = some (.slice A2 ns.length cc):=(hw1.cell (by simp)).trans (by simp [go_sem])
   go_wp2_with fail
   go_ret
   exact ⟨by rw [HE.out];rfl,hW1⟩
  have hb3:ns.length < 1:=by omega
  have HBN:Hid (ns = []):=List.eq_nil_of_length_eq_zero (by omega)
  clear hb0
  by_cases ha0:0 < ks.length
  case pos =>
   have ha2:ks ≠ []:=fun h => by rw [h] at ha0;simp at ha0
   have HE:Hid (V = false):=by show _ = _;rw [HV.out];simp [bareF,ha2]
   clear HV hks hxs hns hsz HIH
   go_enter Tryd.func19,Tryd.ntmps19
   go_wp2_with fail
   refine (HVC.out _).mono ?_;rintro e w1 ⟨rfl,hw1⟩
   have hW1:=hA.trans (hw1.mono (by simp))
   have c0:w1.cell? (qa w.heap.size 0) = some (.int .i64 3):=(hw1.cell (by simp)).trans (by simp [go_sem])
   have c1:w1.cell? (qa w.heap.size 1) = some (.int .i64 0):=(hw1.cell (by simp)).trans (by simp [go_sem])
   have c2:w1.cell? (qa w.heap.size 2) = some (.string t):=(hw1.cell (by simp)).trans (by simp [go_sem])
   have c3:w1.cell? (qa w.heap.size 3) = some (.slice A ks.length ck):=(hw1.cell (by simp)).trans (by simp [go_sem])
   have c4:w1.cell? (qa w.heap.size 4) = some (.slice A2 ns.length cc):=(hw1.cell (by simp)).trans (by simp [go_sem])
   go_wp2_with fail
   go_ret
   exact ⟨by rw [HE.out];rfl,hW1⟩
  have ha3:ks.length < 1:=by omega
  have HAN:Hid (ks = []):=List.eq_nil_of_length_eq_zero (by omega)
  clear ha0
  have HE:Hid (V = true):=by show _ = _;rw [HV.out,HAN.out,HBN.out];simp [bareF, *]
  clear HV hks hxs hns hsz HIH
  go_enter Tryd.func19,Tryd.ntmps19
  go_wp2_with fail
  refine (HVC.out _).mono ?_;rintro e w1 ⟨rfl,hw1⟩
  have hW1:=hA.trans (hw1.mono (by simp))
  have c0:w1.cell? (qa w.heap.size 0) = some (.int .i64 3):=(hw1.cell (by simp)).trans (by simp [go_sem])
  have c1:w1.cell? (qa w.heap.size 1) = some (.int .i64 0):=(hw1.cell (by simp)).trans (by simp [go_sem])
  have c2:w1.cell? (qa w.heap.size 2) = some (.string t):=(hw1.cell (by simp)).trans (by simp [go_sem])
  have c3:w1.cell? (qa w.heap.size 3) = some (.slice A ks.length ck):=(hw1.cell (by simp)).trans (by simp [go_sem])
  have c4:w1.cell? (qa w.heap.size 4) = some (.slice A2 ns.length cc):=(hw1.cell (by simp)).trans (by simp [go_sem])
  go_wp2_with fail
  refine wp_loop_rounds 1 ?_;rw [rounds_succ]
  go_wp2_with fail
  refine wp_loop_rounds 1 ?_;rw [rounds_succ]
  go_wp2_with fail
  go_ret
  exact ⟨by rw [HE.out];rfl,hW1⟩
set_option maxRecDepth 100000 in
set_option maxHeartbeats 3000000 in
theorem rright_num (k num:Int) (t:ByteArray) (ks:List ByteArray) (ns:List Nd) (A A2:Option Addr) (ck cc:Nat) (xs:List Value) (w:World) (B:Nat) (deep:Int)
  (hks:Reads w B 1 A ks.length (ks.map Value.string)) (hxs:Reads w B 5 A2 ns.length xs) (hns:NdsIs w B ns xs) (ht:t.size ≤ 9223372036854775807) (hsz:∀ s ∈ ks,s.size ≤ 9223372036854775807) (hk1:ks.length ≤ 9223372036854775807) (hk2:ns.length ≤ 9223372036854775807)
  (hB:B ≤ w.heap.size) (d0:0 ≤ deep) (d1:deep ≤ 24) (HIH:Hid (RrightHyp B ns)) (hk:k = 4) :
  Calls Tryd.prog 19 #[.agg (nA k num t A ks.length ck A2 ns.length cc),.int .i64 deep] w (BoolBel (rightD (.mk k num t ks ns) deep) w):=by
 have hW:=Below.refl w.heap.size w
 have HV:Hid (_ = _):=rightD_eq k num t ks ns deep
 have HVC:Hid (∀ w':World,Calls Tryd.prog 27 #[.string t] w' fun e w'' => e = .returned (.bool (validB t.toList)) ∧ Below w'.heap.size w' w''):=fun w' => rvalid_any t w' ht
 have hA:Below w.heap.size w (w.alloc (.cells (nA k num t A ks.length ck A2 ns.length cc) 25)):=hW.alloc hW.size _
 generalize rightD (.mk k num t ks ns) deep = V at *
 subst hk
 cases e1:decide (9007199254740991 < num) with
 | true =>
  have HE:Hid (V = false):=by show _ = _;rw [HV.out];have h9:=of_decide_eq_true e1;simp;omega
  clear HV hks hxs hns hsz HIH
  go_enter Tryd.func19,Tryd.ntmps19
  go_wp2_with fail
  go_ret
  exact ⟨by rw [HE.out];rfl,hA⟩
 | false =>
 cases e2:decide (num < -9007199254740991) with
 | true =>
  have HE:Hid (V = false):=by show _ = _;rw [HV.out];have h9:=of_decide_eq_true e2;simp;omega
  clear HV hks hxs hns hsz HIH
  go_enter Tryd.func19,Tryd.ntmps19
  go_wp2_with fail
  go_ret
  exact ⟨by rw [HE.out];rfl,hA⟩
 | false =>
 by_cases ht0:t = ⟨#[]⟩
 case neg =>
  have ht2:decide (t = ⟨#[]⟩) = false:=decide_eq_false ht0
  have ht3:¬ t.toList = []:=fun h => ht0 (by cases t with | mk d => rw [ByteArray.toList_eq] at h;simp at h;rw [h])
  have ht4:t.toList.isEmpty = false:=by simp [ht3]
  have HE:Hid (V = false):=by show _ = _;rw [HV.out];simp [bareF,ht0]
  clear HV hks hxs hns hsz HIH
  go_enter Tryd.func19,Tryd.ntmps19
  go_wp2_with fail
  go_ret
  exact ⟨by rw [HE.out];rfl,hA⟩
 have ht2:decide (t = ⟨#[]⟩) = true:=decide_eq_true ht0
 have ht3:t.toList = []:=by rw [ht0,ByteArray.toList_eq]
 have ht4:t.toList.isEmpty = true:=by rw [ht3];rfl
 have hvt:validB t.toList = true:=by rw [ht3];exact validB_nil
 rw [hvt] at HVC
 rw [ht3] at HV
 clear hvt ht0
 by_cases hb0:0 < ns.length
 case pos =>
  have hb2:ns ≠ []:=fun h => by rw [h] at hb0;simp at hb0
  have HE:Hid (V = false):=by show _ = _;rw [HV.out];simp [bareF,hb2]
  clear HV hks hxs hns hsz HIH
  go_enter Tryd.func19,Tryd.ntmps19
  go_wp2_with fail
  refine (HVC.out _).mono ?_;rintro e w1 ⟨rfl,hw1⟩
  have hW1:=hA.trans (hw1.mono (by simp))
  have c0:w1.cell? (qa w.heap.size 0) = some (.int .i64 4):=(hw1.cell (by simp)).trans (by simp [go_sem])
  have c1:w1.cell? (qa w.heap.size 1) = some (.int .i64 num):=(hw1.cell (by simp)).trans (by simp [go_sem])
  have c2:w1.cell? (qa w.heap.size 2) = some (.string t):=(hw1.cell (by simp)).trans (by simp [go_sem])
  have c3:w1.cell? (qa w.heap.size 3) = some (.slice A ks.length ck):=(hw1.cell (by simp)).trans (by simp [go_sem])
  have c4:w1.cell? (qa w.heap.size 4) = some (.slice A2 ns.length cc):=(hw1.cell (by simp)).trans (by simp [go_sem])
  go_wp2_with fail
  go_ret
  exact ⟨by rw [HE.out];rfl,hW1⟩
 have hb3:ns.length < 1:=by omega
 have HBN:Hid (ns = []):=List.eq_nil_of_length_eq_zero (by omega)
 clear hb0
 by_cases ha0:0 < ks.length
 case pos =>
  have ha2:ks ≠ []:=fun h => by rw [h] at ha0;simp at ha0
  have HE:Hid (V = false):=by show _ = _;rw [HV.out];simp [bareF,ha2]
  clear HV hks hxs hns hsz HIH
  go_enter Tryd.func19,Tryd.ntmps19
  go_wp2_with fail
  refine (HVC.out _).mono ?_;rintro e w1 ⟨rfl,hw1⟩
  have hW1:=hA.trans (hw1.mono (by simp))
  have c0:w1.cell? (qa w.heap.size 0) = some (.int .i64 4):=(hw1.cell (by simp)).trans (by simp [go_sem])
  have c1:w1.cell? (qa w.heap.size 1) = some (.int .i64 num):=(hw1.cell (by simp)).trans (by simp [go_sem])
  have c2:w1.cell? (qa w.heap.size 2) = some (.string t):=(hw1.cell (by simp)).trans (by simp [go_sem])
  have c3:w1.cell? (qa w.heap.size 3) = some (.slice A ks.length ck):=(hw1.cell (by simp)).trans (by simp [go_sem])
  have c4:w1.cell? (qa w.heap.size 4) = some (.slice A2 ns.length cc):=(hw1.cell (by simp)).trans (by simp [go_sem])
  go_wp2_with fail
  go_ret
  exact ⟨by rw [HE.out];rfl,hW1⟩
 have ha3:ks.length < 1:=by omega
 have HAN:Hid (ks = []):=List.eq_nil_of_length_eq_zero (by omega)
 clear ha0
 have HE:Hid (V = true):=by show _ = _;rw [HV.out,HAN.out,HBN.out];have h8:=of_decide_eq_false e1;have h9:=of_decide_eq_false e2;simp [bareF, *];omega
 clear HV hks hxs hns hsz HIH
 go_enter Tryd.func19,Tryd.ntmps19
 go_wp2_with fail
 refine (HVC.out _).mono ?_;rintro e w1 ⟨rfl,hw1⟩
 have hW1:=hA.trans (hw1.mono (by simp))
 have c0:w1.cell? (qa w.heap.size 0) = some (.int .i64 4):=(hw1.cell (by simp)).trans (by simp [go_sem])
 have c1:w1.cell? (qa w.heap.size 1) = some (.int .i64 num):=(hw1.cell (by simp)).trans (by simp [go_sem])
 have c2:w1.cell? (qa w.heap.size 2) = some (.string t):=(hw1.cell (by simp)).trans (by simp [go_sem])
 have c3:w1.cell? (qa w.heap.size 3) = some (.slice A ks.length ck):=(hw1.cell (by simp)).trans (by simp [go_sem])
 have c4:w1.cell? (qa w.heap.size 4) = some (.slice A2 ns.length cc):=(hw1.cell (by simp)).trans (by simp [go_sem])
 go_wp2_with fail
 refine wp_loop_rounds 1 ?_;rw [rounds_succ]
 go_wp2_with fail
 refine wp_loop_rounds 1 ?_;rw [rounds_succ]
 go_wp2_with fail
 go_ret
 exact ⟨by rw [HE.out];rfl,hW1⟩
set_option maxRecDepth 100000 in
set_option maxHeartbeats 3000000 in
theorem rright_str (k num:Int) (t:ByteArray) (ks:List ByteArray) (ns:List Nd) (A A2:Option Addr) (ck cc:Nat) (xs:List Value) (w:World) (B:Nat) (deep:Int)
  (hks:Reads w B 1 A ks.length (ks.map Value.string)) (hxs:Reads w B 5 A2 ns.length xs) (hns:NdsIs w B ns xs) (ht:t.size ≤ 9223372036854775807) (hsz:∀ s ∈ ks,s.size ≤ 9223372036854775807) (hk1:ks.length ≤ 9223372036854775807) (hk2:ns.length ≤ 9223372036854775807)
  (hB:B ≤ w.heap.size) (d0:0 ≤ deep) (d1:deep ≤ 24) (HIH:Hid (RrightHyp B ns)) (hk:k = 5) :
  Calls Tryd.prog 19 #[.agg (nA k num t A ks.length ck A2 ns.length cc),.int .i64 deep] w (BoolBel (rightD (.mk k num t ks ns) deep) w):=by
 have hW:=Below.refl w.heap.size w
 have HV:Hid (_ = _):=rightD_eq k num t ks ns deep
 have HVC:Hid (∀ w':World,Calls Tryd.prog 27 #[.string t] w' fun e w'' => e = .returned (.bool (validB t.toList)) ∧ Below w'.heap.size w' w''):=fun w' => rvalid_any t w' ht
 have hA:Below w.heap.size w (w.alloc (.cells (nA k num t A ks.length ck A2 ns.length cc) 25)):=hW.alloc hW.size _
 generalize rightD (.mk k num t ks ns) deep = V at *
 subst hk
 by_cases hn:num = 0
 case neg =>
  have HE:Hid (V = false):=by show _ = _;rw [HV.out];simp [bareF,hn]
  clear HV hks hxs hns hsz HIH
  go_enter Tryd.func19,Tryd.ntmps19
  go_wp2_with fail
  go_ret
  exact ⟨by rw [HE.out];rfl,hA⟩
 subst hn
 generalize validB t.toList = vl at *
 cases vl with
 | false =>
  have HE:Hid (V = false):=by show _ = _;rw [HV.out];simp
  clear HV hks hxs hns hsz HIH
  go_enter Tryd.func19,Tryd.ntmps19
  go_wp2_with fail
  refine (HVC.out _).mono ?_;rintro e w1 ⟨rfl,hw1⟩
  have hW1:=hA.trans (hw1.mono (by simp))
  have c0:w1.cell? (qa w.heap.size 0) = some (.int .i64 5):=(hw1.cell (by simp)).trans (by simp [go_sem])
  have c1:w1.cell? (qa w.heap.size 1) = some (.int .i64 0):=(hw1.cell (by simp)).trans (by simp [go_sem])
  have c2:w1.cell? (qa w.heap.size 2) = some (.string t):=(hw1.cell (by simp)).trans (by simp [go_sem])
  have c3:w1.cell? (qa w.heap.size 3) = some (.slice A ks.length ck):=(hw1.cell (by simp)).trans (by simp [go_sem])
  have c4:w1.cell? (qa w.heap.size 4) = some (.slice A2 ns.length cc):=(hw1.cell (by simp)).trans (by simp [go_sem])
  go_wp2_with fail
  go_ret
  exact ⟨by rw [HE.out];rfl,hW1⟩
 | true =>
 by_cases hb0:0 < ns.length
 case pos =>
  have hb2:ns ≠ []:=fun h => by rw [h] at hb0;simp at hb0
  have HE:Hid (V = false):=by show _ = _;rw [HV.out];simp [bareF,hb2]
  clear HV hks hxs hns hsz HIH
  go_enter Tryd.func19,Tryd.ntmps19
  go_wp2_with fail
  refine (HVC.out _).mono ?_;rintro e w1 ⟨rfl,hw1⟩
  have hW1:=hA.trans (hw1.mono (by simp))
  have c0:w1.cell? (qa w.heap.size 0) = some (.int .i64 5):=(hw1.cell (by simp)).trans (by simp [go_sem])
  have c1:w1.cell? (qa w.heap.size 1) = some (.int .i64 0):=(hw1.cell (by simp)).trans (by simp [go_sem])
  have c2:w1.cell? (qa w.heap.size 2) = some (.string t):=(hw1.cell (by simp)).trans (by simp [go_sem])
  have c3:w1.cell? (qa w.heap.size 3) = some (.slice A ks.length ck):=(hw1.cell (by simp)).trans (by simp [go_sem])
  have c4:w1.cell? (qa w.heap.size 4) = some (.slice A2 ns.length cc):=(hw1.cell (by simp)).trans (by simp [go_sem])
  go_wp2_with fail
  go_ret
  exact ⟨by rw [HE.out];rfl,hW1⟩
 have hb3:ns.length < 1:=by omega
 have HBN:Hid (ns = []):=List.eq_nil_of_length_eq_zero (by omega)
 clear hb0
 by_cases ha0:0 < ks.length
 case pos =>
  have ha2:ks ≠ []:=fun h => by rw [h] at ha0;simp at ha0
  have HE:Hid (V = false):=by show _ = _;rw [HV.out];simp [bareF,ha2]
  clear HV hks hxs hns hsz HIH
  go_enter Tryd.func19,Tryd.ntmps19
  go_wp2_with fail
  refine (HVC.out _).mono ?_;rintro e w1 ⟨rfl,hw1⟩
  have hW1:=hA.trans (hw1.mono (by simp))
  have c0:w1.cell? (qa w.heap.size 0) = some (.int .i64 5):=(hw1.cell (by simp)).trans (by simp [go_sem])
  have c1:w1.cell? (qa w.heap.size 1) = some (.int .i64 0):=(hw1.cell (by simp)).trans (by simp [go_sem])
  have c2:w1.cell? (qa w.heap.size 2) = some (.string t):=(hw1.cell (by simp)).trans (by simp [go_sem])
  have c3:w1.cell? (qa w.heap.size 3) = some (.slice A ks.length ck):=(hw1.cell (by simp)).trans (by simp [go_sem])
  have c4:w1.cell? (qa w.heap.size 4) = some (.slice A2 ns.length cc):=(hw1.cell (by simp)).trans (by simp [go_sem])
  go_wp2_with fail
  go_ret
  exact ⟨by rw [HE.out];rfl,hW1⟩
 have ha3:ks.length < 1:=by omega
 have HAN:Hid (ks = []):=List.eq_nil_of_length_eq_zero (by omega)
 clear ha0
 have HE:Hid (V = true):=by show _ = _;rw [HV.out,HAN.out,HBN.out];simp [bareF, *]
 clear HV hks hxs hns hsz HIH
 go_enter Tryd.func19,Tryd.ntmps19
 go_wp2_with fail
 refine (HVC.out _).mono ?_;rintro e w1 ⟨rfl,hw1⟩
 have hW1:=hA.trans (hw1.mono (by simp))
 have c0:w1.cell? (qa w.heap.size 0) = some (.int .i64 5):=(hw1.cell (by simp)).trans (by simp [go_sem])
 have c1:w1.cell? (qa w.heap.size 1) = some (.int .i64 0):=(hw1.cell (by simp)).trans (by simp [go_sem])
 have c2:w1.cell? (qa w.heap.size 2) = some (.string t):=(hw1.cell (by simp)).trans (by simp [go_sem])
 have c3:w1.cell? (qa w.heap.size 3) = some (.slice A ks.length ck):=(hw1.cell (by simp)).trans (by simp [go_sem])
 have c4:w1.cell? (qa w.heap.size 4) = some (.slice A2 ns.length cc):=(hw1.cell (by simp)).trans (by simp [go_sem])
 go_wp2_with fail
 refine wp_loop_rounds 1 ?_;rw [rounds_succ]
 go_wp2_with fail
 refine wp_loop_rounds 1 ?_;rw [rounds_succ]
 go_wp2_with fail
 go_ret
 exact ⟨by rw [HE.out];rfl,hW1⟩
set_option maxRecDepth 100000 in
set_option maxHeartbeats 3000000 in
theorem rright_odd (k num:Int) (t:ByteArray) (ks:List ByteArray) (ns:List Nd) (A A2:Option Addr) (ck cc:Nat) (xs:List Value) (w:World) (B:Nat) (deep:Int)
  (hks:Reads w B 1 A ks.length (ks.map Value.string)) (hxs:Reads w B 5 A2 ns.length xs) (hns:NdsIs w B ns xs) (ht:t.size ≤ 9223372036854775807) (hsz:∀ s ∈ ks,s.size ≤ 9223372036854775807) (hk1:ks.length ≤ 9223372036854775807) (hk2:ns.length ≤ 9223372036854775807)
  (hB:B ≤ w.heap.size) (d0:0 ≤ deep) (d1:deep ≤ 24) (HIH:Hid (RrightHyp B ns)) (hk:k < 1 ∨ 7 < k) :
  Calls Tryd.prog 19 #[.agg (nA k num t A ks.length ck A2 ns.length cc),.int .i64 deep] w (BoolBel (rightD (.mk k num t ks ns) deep) w):=by
 have hW:=Below.refl w.heap.size w
 have HV:Hid (_ = _):=rightD_eq k num t ks ns deep
 have HVC:Hid (∀ w':World,Calls Tryd.prog 27 #[.string t] w' fun e w'' => e = .returned (.bool (validB t.toList)) ∧ Below w'.heap.size w' w''):=fun w' => rvalid_any t w' ht
 have hA:Below w.heap.size w (w.alloc (.cells (nA k num t A ks.length ck A2 ns.length cc) 25)):=hW.alloc hW.size _
 generalize rightD (.mk k num t ks ns) deep = V at *
 have e:∀ m:Int,1 ≤ m → m ≤ 7 → (k == m) = false:=fun m h1 h2 => by simp;omega
 have HE:Hid (V = false):=by show _ = _;rw [HV.out];simp [e 1 (by omega) (by omega),e 2 (by omega) (by omega),e 3 (by omega) (by omega),e 4 (by omega) (by omega),e 5 (by omega) (by omega),e 6 (by omega) (by omega),e 7 (by omega) (by omega)]
 clear HV hks hxs hns hsz HIH e
 rcases hk with hk | hk
 ·go_enter Tryd.func19,Tryd.ntmps19
  go_wp2_with fail
  go_ret
  exact ⟨by rw [HE.out];rfl,hA⟩
 ·go_enter Tryd.func19,Tryd.ntmps19
  go_wp2_with fail
  go_ret
  exact ⟨by rw [HE.out];rfl,hA⟩
set_option maxRecDepth 100000 in
set_option maxHeartbeats 3000000 in
theorem rright_arr (k num:Int) (t:ByteArray) (ks:List ByteArray) (ns:List Nd) (A A2:Option Addr) (ck cc:Nat) (xs:List Value) (w:World) (B:Nat) (deep:Int)
  (hks:Reads w B 1 A ks.length (ks.map Value.string)) (hxs:Reads w B 5 A2 ns.length xs) (hns:NdsIs w B ns xs) (ht:t.size ≤ 9223372036854775807) (hsz:∀ s ∈ ks,s.size ≤ 9223372036854775807) (hk1:ks.length ≤ 9223372036854775807) (hk2:ns.length ≤ 9223372036854775807)
  (hB:B ≤ w.heap.size) (d0:0 ≤ deep) (d1:deep ≤ 24) (HIH:Hid (RrightHyp B ns)) (hk:k = 6) :
  Calls Tryd.prog 19 #[.agg (nA k num t A ks.length ck A2 ns.length cc),.int .i64 deep] w (BoolBel (rightD (.mk k num t ks ns) deep) w):=by
 have hW:=Below.refl w.heap.size w
 have HV:Hid (_ = _):=rightD_eq k num t ks ns deep
 have HVC:Hid (∀ w':World,Calls Tryd.prog 27 #[.string t] w' fun e w'' => e = .returned (.bool (validB t.toList)) ∧ Below w'.heap.size w' w''):=fun w' => rvalid_any t w' ht
 have hA:Below w.heap.size w (w.alloc (.cells (nA k num t A ks.length ck A2 ns.length cc) 25)):=hW.alloc hW.size _
 generalize rightD (.mk k num t ks ns) deep = V at *
 subst hk
 by_cases hn:num = 0
 case neg =>
  have HE:Hid (V = false):=by show _ = _;rw [HV.out];simp [bareF,hn]
  clear HV hks hxs hns hsz HIH
  go_enter Tryd.func19,Tryd.ntmps19
  go_wp2_with fail
  go_ret
  exact ⟨by rw [HE.out];rfl,hA⟩
 subst hn
 by_cases ht0:t = ⟨#[]⟩
 case neg =>
  have ht2:decide (t = ⟨#[]⟩) = false:=decide_eq_false ht0
  have ht3:¬ t.toList = []:=fun h => ht0 (by cases t with | mk d => rw [ByteArray.toList_eq] at h;simp at h;rw [h])
  have ht4:t.toList.isEmpty = false:=by simp [ht3]
  have HE:Hid (V = false):=by show _ = _;rw [HV.out];simp [bareF,ht0]
  clear HV hks hxs hns hsz HIH
  go_enter Tryd.func19,Tryd.ntmps19
  go_wp2_with fail
  go_ret
  exact ⟨by rw [HE.out];rfl,hA⟩
 have ht2:decide (t = ⟨#[]⟩) = true:=decide_eq_true ht0
 have ht3:t.toList = []:=by rw [ht0,ByteArray.toList_eq]
 have ht4:t.toList.isEmpty = true:=by rw [ht3];rfl
 have hvt:validB t.toList = true:=by rw [ht3];exact validB_nil
 rw [hvt] at HVC
 rw [ht3] at HV
 clear hvt ht0
 by_cases ha0:0 < ks.length
 case pos =>
  have ha2:ks ≠ []:=fun h => by rw [h] at ha0;simp at ha0
  have HE:Hid (V = false):=by show _ = _;rw [HV.out];simp [bareF,ha2]
  clear HV hks hxs hns hsz HIH
  go_enter Tryd.func19,Tryd.ntmps19
  go_wp2_with fail
  refine (HVC.out _).mono ?_;rintro e w1 ⟨rfl,hw1⟩
  have hW1:=hA.trans (hw1.mono (by simp))
  have c0:w1.cell? (qa w.heap.size 0) = some (.int .i64 6):=(hw1.cell (by simp)).trans (by simp [go_sem])
  have c1:w1.cell? (qa w.heap.size 1) = some (.int .i64 0):=(hw1.cell (by simp)).trans (by simp [go_sem])
  have c2:w1.cell? (qa w.heap.size 2) = some (.string t):=(hw1.cell (by simp)).trans (by simp [go_sem])
  have c3:w1.cell? (qa w.heap.size 3) = some (.slice A ks.length ck):=(hw1.cell (by simp)).trans (by simp [go_sem])
  have c4:w1.cell? (qa w.heap.size 4) = some (.slice A2 ns.length cc):=(hw1.cell (by simp)).trans (by simp [go_sem])
  go_wp2_with fail
  go_ret
  exact ⟨by rw [HE.out];rfl,hW1⟩
 have ha3:ks.length < 1:=by omega
 have HAN:Hid (ks = []):=List.eq_nil_of_length_eq_zero (by omega)
 clear ha0
 by_cases hd:24 ≤ deep
 case pos =>
  have HE:Hid (V = false):=by show _ = _;rw [HV.out];(have hd':¬ deep < 24:=by omega);simp [hd']
  clear HV hks hxs hns hsz HIH
  go_enter Tryd.func19,Tryd.ntmps19
  go_wp2_with fail
  refine (HVC.out _).mono ?_;rintro e w1 ⟨rfl,hw1⟩
  have hW1:=hA.trans (hw1.mono (by simp))
  have c0:w1.cell? (qa w.heap.size 0) = some (.int .i64 6):=(hw1.cell (by simp)).trans (by simp [go_sem])
  have c1:w1.cell? (qa w.heap.size 1) = some (.int .i64 0):=(hw1.cell (by simp)).trans (by simp [go_sem])
  have c2:w1.cell? (qa w.heap.size 2) = some (.string t):=(hw1.cell (by simp)).trans (by simp [go_sem])
  have c3:w1.cell? (qa w.heap.size 3) = some (.slice A ks.length ck):=(hw1.cell (by simp)).trans (by simp [go_sem])
  have c4:w1.cell? (qa w.heap.size 4) = some (.slice A2 ns.length cc):=(hw1.cell (by simp)).trans (by simp [go_sem])
  go_wp2_with fail
  go_ret
  exact ⟨by rw [HE.out];rfl,hW1⟩
 have hd':deep < 24:=by omega
 have HV2:Hid (V = (rightLD (ns.drop 0) (deep + 1) && keysB ks)):=by show _ = _;rw [HV.out,HAN.out];simp [bareF,ht2,hd',keysB_nil]
 clear HV hd
 have HXS:=Lib.hid hxs
 have HKS:=Lib.hid hks
 have HNS:=Lib.hid hns
 have HSZ:=Lib.hid hsz
 have HD:Hid (0 ≤ deep ∧ deep < 24):=⟨d0,hd'⟩
 clear hks hxs hns hsz
 go_enter Tryd.func19,Tryd.ntmps19
 go_wp2_with fail
 refine (HVC.out _).mono ?_;rintro e w1 ⟨rfl,hw1⟩
 have hx1:Blk w1 w.heap.size 25 (nA 6 0 t A ks.length ck A2 ns.length cc):=(Blk.new w _ _).below hw1 (by simp)
 have hz1:w.heap.size < w1.heap.size:=by have:=hw1.size;simp at this;omega
 have hW1:=hA.trans (hw1.mono (by simp))
 have c0:w1.cell? (qa w.heap.size 0) = some (.int .i64 6):=(hw1.cell (by simp)).trans (by simp [go_sem])
 have c1:w1.cell? (qa w.heap.size 1) = some (.int .i64 0):=(hw1.cell (by simp)).trans (by simp [go_sem])
 have c2:w1.cell? (qa w.heap.size 2) = some (.string t):=(hw1.cell (by simp)).trans (by simp [go_sem])
 have c3:w1.cell? (qa w.heap.size 3) = some (.slice A ks.length ck):=(hw1.cell (by simp)).trans (by simp [go_sem])
 have c4:w1.cell? (qa w.heap.size 4) = some (.slice A2 ns.length cc):=(hw1.cell (by simp)).trans (by simp [go_sem])
 go_wp2_with fail
 have HX1:=Lib.hid hx1
 clear hx1 c0 c1 c2 c3 c4 hw1 d0 d1
 go_loopw [5] (fun t5 wr => ∃ i:Nat,i ≤ ns.length ∧ t5 = .int .i64 i ∧ Hid (V = (rightLD (ns.drop i) (deep + 1) && keysB ks)) ∧ Hid (Blk wr w.heap.size 25 (nA 6 0 t A ks.length ck A2 ns.length cc)) ∧ Hid (Below w.heap.size w wr) ∧ w.heap.size < wr.heap.size) (fun t5 _ => ns.length - (intOf t5).toNat)
 case atStart => exact ⟨0,by omega,rfl,HV2,HX1,hW1,hz1⟩
 case round =>
  clear HX1 hW1 hz1
  obtain ⟨i,hi,rfl,hv,hx,hW,hz⟩:=hrel
  obtain ⟨wo,rfl⟩:∃ wo:World,wo = wr:=⟨_,rfl⟩
  have c3:wo.cell? (qa w.heap.size 3) = some (.slice A ks.length ck):=hx.out.cell 3
  have c4:wo.cell? (qa w.heap.size 4) = some (.slice A2 ns.length cc):=hx.out.cell 4
  by_cases hlt:i < ns.length
  ·have hkeep:∀ p:Addr,p.block < B → wo.cell? p = w.cell? p:=fun p hp => hW.out.cell (by omega)
   obtain ⟨ad,n,v0,v1,v2,v3,v4,rfl,hadb,hni,hnd,e0,e1,e2,e3,e4⟩:=(HXS.out.keep hkeep).nd (NdsIs.keep hkeep _ _ HNS.out) hlt
   obtain ⟨x0,x1,x2,x3,x4,x5,x6,x7,x8,rfl,rfl,rfl,rfl,rfl⟩:=hnd.form
   have HST:=Lib.hid (rightLD_at ns i n (deep + 1) hni)
   have HC:Hid (RrightC (nA x0 x1 x2 x3 x4 x5 x6 x7 x8) (deep + 1) (rightD n (deep + 1)) wo):=HIH.out i n (nL x0 x1 x2 x3 x4 x5 x6 x7 x8) wo (deep + 1) hni hnd (by omega) (by have:=HD.out;omega) (by have:=HD.out;omega)
   have i0:deep + 1 ≤ 25:=by have:=HD.out;omega
   have i1:0 ≤ deep:=HD.out.1
   clear hni hnd hkeep
   generalize rightD n (deep + 1) = b at *
   go_wp2_with fail
   refine (HC.out:Calls _ _ _ _ _).mono ?_;rintro e w2 ⟨rfl,hw2⟩
   have hW2:=hW.out.trans (hw2.mono (by omega))
   cases b with
   | false =>
    have HE:Hid (V = false):=by show _ = _;rw [hv.out,HST.out];rfl
    go_wp2_with fail
    go_ret
    exact ⟨by rw [HE.out];rfl,hW2⟩
   | true =>
    have HE:Hid (V = (rightLD (ns.drop (i + 1)) (deep + 1) && keysB ks)):=by show _ = _;rw [hv.out,HST.out];rfl
    have hx2:Hid (Blk w2 w.heap.size 25 #[.int .i64 6,.int .i64 0,.string t,.slice A ks.length ck,.slice (some ad) ns.length cc]):=hx.out.below hw2 (by omega)
    have hz2:w.heap.size < w2.heap.size:=by have:=hw2.size;omega
    have HW2:=Lib.hid hW2
    clear hW2
    go_wp2_with fail
    go_roundw
    case rel => exact ⟨i + 1,by omega,by go_num,HE,hx2,HW2,hz2⟩
    case measure => simp [intOf];omega
  ·have HE:Hid (V = keysB ks):=by
    show _ = _
    rw [hv.out,List.drop_eq_nil_of_le (show ns.length ≤ i by omega),rightLD_nil];rfl
   go_wp2_with fail
   clear c3 c4
   go_loopw [6] (fun t6 wr => ∃ i:Nat,i ≤ ks.length ∧ t6 = .int .i64 i ∧ Hid ((ks.take i).Nodup ∧ ∀ s ∈ ks.take i,validB s.toList = true) ∧ Hid (Blk wr w.heap.size 25 (nA 6 0 t A ks.length ck A2 ns.length cc)) ∧ Hid (Below w.heap.size w wr) ∧ w.heap.size < wr.heap.size) (fun t6 _ => ks.length - (intOf t6).toNat)
   case atStart => exact ⟨0,by omega,rfl,by constructor <;> simp,hx,hW,hz⟩
   case round =>
    clear hx hW hz
    obtain ⟨i,hi,rfl,hgd,hx,hW,hz⟩:=hrel
    obtain ⟨wo,rfl⟩:∃ wo:World,wo = wr:=⟨_,rfl⟩
    have c3:wo.cell? (qa w.heap.size 3) = some (.slice A ks.length ck):=hx.out.cell 3
    by_cases hlt:i < ks.length
    ·exact absurd hlt (by omega)
    ·have HF:Hid (V = true):=by show _ = _;rw [HE.out];exact keysB_all (show i = ks.length by omega) hgd.out
     go_wp2_with fail
     go_ret
     exact ⟨by rw [HF.out];rfl,hW.out⟩
set_option maxRecDepth 100000 in
set_option maxHeartbeats 3000000 in
theorem rright_obj (k num:Int) (t:ByteArray) (ks:List ByteArray) (ns:List Nd) (A A2:Option Addr) (ck cc:Nat) (xs:List Value) (w:World) (B:Nat) (deep:Int)
  (hks:Reads w B 1 A ks.length (ks.map Value.string)) (hxs:Reads w B 5 A2 ns.length xs) (hns:NdsIs w B ns xs) (ht:t.size ≤ 9223372036854775807) (hsz:∀ s ∈ ks,s.size ≤ 9223372036854775807) (hk1:ks.length ≤ 9223372036854775807) (hk2:ns.length ≤ 9223372036854775807)
  (hB:B ≤ w.heap.size) (d0:0 ≤ deep) (d1:deep ≤ 24) (HIH:Hid (RrightHyp B ns)) (hk:k = 7) :
  Calls Tryd.prog 19 #[.agg (nA k num t A ks.length ck A2 ns.length cc),.int .i64 deep] w (BoolBel (rightD (.mk k num t ks ns) deep) w):=by
 have hW:=Below.refl w.heap.size w
 have HV:Hid (_ = _):=rightD_eq k num t ks ns deep
 have HVC:Hid (∀ w':World,Calls Tryd.prog 27 #[.string t] w' fun e w'' => e = .returned (.bool (validB t.toList)) ∧ Below w'.heap.size w' w''):=fun w' => rvalid_any t w' ht
 have hA:Below w.heap.size w (w.alloc (.cells (nA k num t A ks.length ck A2 ns.length cc) 25)):=hW.alloc hW.size _
 generalize rightD (.mk k num t ks ns) deep = V at *
 subst hk
 by_cases hn:num = 0
 case neg =>
  have HE:Hid (V = false):=by show _ = _;rw [HV.out];simp [bareF,hn]
  clear HV hks hxs hns hsz HIH
  go_enter Tryd.func19,Tryd.ntmps19
  go_wp2_with fail
  go_ret
  exact ⟨by rw [HE.out];rfl,hA⟩
 subst hn
 by_cases ht0:t = ⟨#[]⟩
 case neg =>
  have ht2:decide (t = ⟨#[]⟩) = false:=decide_eq_false ht0
  have ht3:¬ t.toList = []:=fun h => ht0 (by cases t with | mk d => rw [ByteArray.toList_eq] at h;simp at h;rw [h])
  have ht4:t.toList.isEmpty = false:=by simp [ht3]
  have HE:Hid (V = false):=by show _ = _;rw [HV.out];simp [bareF,ht0]
  clear HV hks hxs hns hsz HIH
  go_enter Tryd.func19,Tryd.ntmps19
  go_wp2_with fail
  go_ret
  exact ⟨by rw [HE.out];rfl,hA⟩
 have ht2:decide (t = ⟨#[]⟩) = true:=decide_eq_true ht0
 have ht3:t.toList = []:=by rw [ht0,ByteArray.toList_eq]
 have ht4:t.toList.isEmpty = true:=by rw [ht3];rfl
 have hvt:validB t.toList = true:=by rw [ht3];exact validB_nil
 rw [hvt] at HVC
 rw [ht3] at HV
 clear hvt ht0
 by_cases hl:ks.length = ns.length
 case neg =>
  have n4:((ks.length:Int) != (ns.length:Int)) = true:=by rw [bne_iff_ne];omega
  have HE:Hid (V = false):=by show _ = _;rw [HV.out];simp [hl]
  clear HV hks hxs hns hsz HIH
  go_enter Tryd.func19,Tryd.ntmps19
  go_wp2_with fail
  refine (HVC.out _).mono ?_;rintro e w1 ⟨rfl,hw1⟩
  have hW1:=hA.trans (hw1.mono (by simp))
  have c0:w1.cell? (qa w.heap.size 0) = some (.int .i64 7):=(hw1.cell (by simp)).trans (by simp [go_sem])
  have c1:w1.cell? (qa w.heap.size 1) = some (.int .i64 0):=(hw1.cell (by simp)).trans (by simp [go_sem])
  have c2:w1.cell? (qa w.heap.size 2) = some (.string t):=(hw1.cell (by simp)).trans (by simp [go_sem])
  have c3:w1.cell? (qa w.heap.size 3) = some (.slice A ks.length ck):=(hw1.cell (by simp)).trans (by simp [go_sem])
  have c4:w1.cell? (qa w.heap.size 4) = some (.slice A2 ns.length cc):=(hw1.cell (by simp)).trans (by simp [go_sem])
  go_wp2_with fail
  go_ret
  exact ⟨by rw [HE.out];rfl,hW1⟩
 have n4:((ks.length:Int) != (ns.length:Int)) = false:=by rw [bne_eq_false_iff_eq];omega
 have hl2:decide (ks.length = ns.length) = true:=decide_eq_true hl
 clear hl
 by_cases hd:24 ≤ deep
 case pos =>
  have HE:Hid (V = false):=by show _ = _;rw [HV.out];(have hd':¬ deep < 24:=by omega);simp [hd']
  clear HV hks hxs hns hsz HIH
  go_enter Tryd.func19,Tryd.ntmps19
  go_wp2_with fail
  refine (HVC.out _).mono ?_;rintro e w1 ⟨rfl,hw1⟩
  have hW1:=hA.trans (hw1.mono (by simp))
  have c0:w1.cell? (qa w.heap.size 0) = some (.int .i64 7):=(hw1.cell (by simp)).trans (by simp [go_sem])
  have c1:w1.cell? (qa w.heap.size 1) = some (.int .i64 0):=(hw1.cell (by simp)).trans (by simp [go_sem])
  have c2:w1.cell? (qa w.heap.size 2) = some (.string t):=(hw1.cell (by simp)).trans (by simp [go_sem])
  have c3:w1.cell? (qa w.heap.size 3) = some (.slice A ks.length ck):=(hw1.cell (by simp)).trans (by simp [go_sem])
  have c4:w1.cell? (qa w.heap.size 4) = some (.slice A2 ns.length cc):=(hw1.cell (by simp)).trans (by simp [go_sem])
  go_wp2_with fail
  go_ret
  exact ⟨by rw [HE.out];rfl,hW1⟩
 have hd':deep < 24:=by omega
 have HV2:Hid (V = (rightLD (ns.drop 0) (deep + 1) && keysB ks)):=by show _ = _;rw [HV.out];simp [bareF,ht2,hd',hl2];exact Bool.and_comm _ _
 clear HV hd
 have HXS:=Lib.hid hxs
 have HKS:=Lib.hid hks
 have HNS:=Lib.hid hns
 have HSZ:=Lib.hid hsz
 have HD:Hid (0 ≤ deep ∧ deep < 24):=⟨d0,hd'⟩
 clear hks hxs hns hsz
 go_enter Tryd.func19,Tryd.ntmps19
 go_wp2_with fail
 refine (HVC.out _).mono ?_;rintro e w1 ⟨rfl,hw1⟩
 have hx1:Blk w1 w.heap.size 25 (nA 7 0 t A ks.length ck A2 ns.length cc):=(Blk.new w _ _).below hw1 (by simp)
 have hz1:w.heap.size < w1.heap.size:=by have:=hw1.size;simp at this;omega
 have hW1:=hA.trans (hw1.mono (by simp))
 have c0:w1.cell? (qa w.heap.size 0) = some (.int .i64 7):=(hw1.cell (by simp)).trans (by simp [go_sem])
 have c1:w1.cell? (qa w.heap.size 1) = some (.int .i64 0):=(hw1.cell (by simp)).trans (by simp [go_sem])
 have c2:w1.cell? (qa w.heap.size 2) = some (.string t):=(hw1.cell (by simp)).trans (by simp [go_sem])
 have c3:w1.cell? (qa w.heap.size 3) = some (.slice A ks.length ck):=(hw1.cell (by simp)).trans (by simp [go_sem])
 have c4:w1.cell? (qa w.heap.size 4) = some (.slice A2 ns.length cc):=(hw1.cell (by simp)).trans (by simp [go_sem])
 go_wp2_with fail
 have HX1:=Lib.hid hx1
 clear hx1 c0 c1 c2 c3 c4 hw1 d0 d1
 go_loopw [5] (fun t5 wr => ∃ i:Nat,i ≤ ns.length ∧ t5 = .int .i64 i ∧ Hid (V = (rightLD (ns.drop i) (deep + 1) && keysB ks)) ∧ Hid (Blk wr w.heap.size 25 (nA 7 0 t A ks.length ck A2 ns.length cc)) ∧ Hid (Below w.heap.size w wr) ∧ w.heap.size < wr.heap.size) (fun t5 _ => ns.length - (intOf t5).toNat)
 case atStart => exact ⟨0,by omega,rfl,HV2,HX1,hW1,hz1⟩
 case round =>
  clear HX1 hW1 hz1
  obtain ⟨i,hi,rfl,hv,hx,hW,hz⟩:=hrel
  obtain ⟨wo,rfl⟩:∃ wo:World,wo = wr:=⟨_,rfl⟩
  have c3:wo.cell? (qa w.heap.size 3) = some (.slice A ks.length ck):=hx.out.cell 3
  have c4:wo.cell? (qa w.heap.size 4) = some (.slice A2 ns.length cc):=hx.out.cell 4
  by_cases hlt:i < ns.length
  ·have hkeep:∀ p:Addr,p.block < B → wo.cell? p = w.cell? p:=fun p hp => hW.out.cell (by omega)
   obtain ⟨ad,n,v0,v1,v2,v3,v4,rfl,hadb,hni,hnd,e0,e1,e2,e3,e4⟩:=(HXS.out.keep hkeep).nd (NdsIs.keep hkeep _ _ HNS.out) hlt
   obtain ⟨x0,x1,x2,x3,x4,x5,x6,x7,x8,rfl,rfl,rfl,rfl,rfl⟩:=hnd.form
   have HST:=Lib.hid (rightLD_at ns i n (deep + 1) hni)
   have HC:Hid (RrightC (nA x0 x1 x2 x3 x4 x5 x6 x7 x8) (deep + 1) (rightD n (deep + 1)) wo):=HIH.out i n (nL x0 x1 x2 x3 x4 x5 x6 x7 x8) wo (deep + 1) hni hnd (by omega) (by have:=HD.out;omega) (by have:=HD.out;omega)
   have i0:deep + 1 ≤ 25:=by have:=HD.out;omega
   have i1:0 ≤ deep:=HD.out.1
   clear hni hnd hkeep
   generalize rightD n (deep + 1) = b at *
   go_wp2_with fail
   refine (HC.out:Calls _ _ _ _ _).mono ?_;rintro e w2 ⟨rfl,hw2⟩
   have hW2:=hW.out.trans (hw2.mono (by omega))
   cases b with
   | false =>
    have HE:Hid (V = false):=by show _ = _;rw [hv.out,HST.out];rfl
    go_wp2_with fail
    go_ret
    exact ⟨by rw [HE.out];rfl,hW2⟩
   | true =>
    have HE:Hid (V = (rightLD (ns.drop (i + 1)) (deep + 1) && keysB ks)):=by show _ = _;rw [hv.out,HST.out];rfl
    have hx2:Hid (Blk w2 w.heap.size 25 #[.int .i64 7,.int .i64 0,.string t,.slice A ks.length ck,.slice (some ad) ns.length cc]):=hx.out.below hw2 (by omega)
    have hz2:w.heap.size < w2.heap.size:=by have:=hw2.size;omega
    have HW2:=Lib.hid hW2
    clear hW2
    go_wp2_with fail
    go_roundw
    case rel => exact ⟨i + 1,by omega,by go_num,HE,hx2,HW2,hz2⟩
    case measure => simp [intOf];omega
  ·have HE:Hid (V = keysB ks):=by
    show _ = _
    rw [hv.out,List.drop_eq_nil_of_le (show ns.length ≤ i by omega),rightLD_nil];rfl
   go_wp2_with fail
   clear c3 c4
   go_loopw [6] (fun t6 wr => ∃ i:Nat,i ≤ ks.length ∧ t6 = .int .i64 i ∧ Hid ((ks.take i).Nodup ∧ ∀ s ∈ ks.take i,validB s.toList = true) ∧ Hid (Blk wr w.heap.size 25 (nA 7 0 t A ks.length ck A2 ns.length cc)) ∧ Hid (Below w.heap.size w wr) ∧ w.heap.size < wr.heap.size) (fun t6 _ => ks.length - (intOf t6).toNat)
   case atStart => exact ⟨0,by omega,rfl,by constructor <;> simp,hx,hW,hz⟩
   case round =>
    clear hx hW hz
    obtain ⟨i,hi,rfl,hgd,hx,hW,hz⟩:=hrel
    obtain ⟨wo,rfl⟩:∃ wo:World,wo = wr:=⟨_,rfl⟩
    have c3:wo.cell? (qa w.heap.size 3) = some (.slice A ks.length ck):=hx.out.cell 3
    by_cases hlt:i < ks.length
    ·obtain ⟨ad,s,rfl,hadb,hks,hc⟩:=(HKS.out.keep fun p hp => hW.out.cell (by omega)).str hlt
     have hss:=HSZ.out s (List.mem_of_getElem? hks)
     have HVS:Hid (∀ w':World,Calls Tryd.prog 27 #[.string s] w' fun e w'' => e = .returned (.bool (validB s.toList)) ∧ Below w'.heap.size w' w''):=fun w' => rvalid_any s w' hss
     have HKI:=Lib.hid hks
     clear hks
     cases hvb:validB s.toList with
     | false =>
      have HF:Hid (V = false):=by show _ = _;rw [HE.out];exact keysB_bad HKI.out hvb
      rw [hvb] at HVS
      go_wp2_with fail
      refine (HVS.out _).mono ?_;rintro e w2 ⟨rfl,hw2⟩
      have hW2:=hW.out.trans (hw2.mono (by omega))
      go_wp2_with fail
      go_ret
      exact ⟨by rw [HF.out];rfl,hW2⟩
     | true =>
      have HVB:=Lib.hid hvb
      rw [hvb] at HVS
      clear hvb
      go_wp2_with fail
      refine (HVS.out _).mono ?_;rintro e w2 ⟨rfl,hw2⟩
      have HW2:=Lib.hid (hW.out.trans (hw2.mono (by omega)))
      have hx2:Hid (Blk w2 w.heap.size 25 #[.int .i64 7,.int .i64 0,.string t,.slice (some ad) ks.length ck,.slice A2 ns.length cc]):=hx.out.below hw2 (by omega)
      have hz2:w.heap.size < w2.heap.size:=by have:=hw2.size;omega
      clear c3 hc hx hW
      go_wp2_with fail
      go_loopw [7] (fun t7 wr => ∃ j:Nat,j ≤ i ∧ t7 = .int .i64 j ∧ Hid (∀ (m:Nat) (u:ByteArray),m < j → ks[m]? = some u → (u.toList == s.toList) = false) ∧ Hid (Blk wr w.heap.size 25 #[.int .i64 7,.int .i64 0,.string t,.slice (some ad) ks.length ck,.slice A2 ns.length cc]) ∧ Hid (Below w.heap.size w wr) ∧ w.heap.size < wr.heap.size) (fun t7 _ => i - (intOf t7).toNat)
      case atStart => exact ⟨0,by omega,rfl,fun m u hm => by omega,hx2,HW2,hz2⟩
      case round =>
       clear hx2 HW2 hz2 hw2
       obtain ⟨j,hj,rfl,hne,hx,hW,hz⟩:=hrel
       obtain ⟨wi,rfl⟩:∃ wi:World,wi = wr:=⟨_,rfl⟩
       have c3:wi.cell? (qa w.heap.size 3) = some (.slice (some ad) ks.length ck):=hx.out.cell 3
       by_cases hjt:j < i
       ·obtain ⟨ad',u,ea,hadb',hku,hcu⟩:=(HKS.out.keep fun p hp => hW.out.cell (by omega)).str (show j < ks.length by omega)
        obtain ⟨ad2,s2,ea2,hadb2,hks2,hc2⟩:=(HKS.out.keep fun p hp => hW.out.cell (by omega)).str hlt
        injection ea with ea;subst ea
        injection ea2 with ea2;subst ea2
        rw [HKI.out] at hks2
        injection hks2 with hs2;subst hs2
        have HKU:=Lib.hid hku
        have j0:(j:Int) < (ks.length:Int):=by omega
        have j1:(i:Int) < (ks.length:Int):=by omega
        clear hku
        cases hq:(u.toList == s.toList) with
        | true =>
         have HF:Hid (V = false):=by
          show _ = _
          rw [HE.out]
          have e:u = s:=by have:=eq_of_beq hq;rw [ByteArray.toList_eq,ByteArray.toList_eq] at this;cases u;cases s;simp at this;rw [this]
          exact keysB_twice HKI.out (e ▸ take_in hjt HKU.out)
         go_wp2_with fail
         go_quiet (fail)
         go_wp2_with fail
         go_ret
         exact ⟨by rw [HF.out];rfl,below_drewN hW.out _⟩
        | false =>
         have hne2:Hid (∀ (m:Nat) (u:ByteArray),m < j + 1 → ks[m]? = some u → (u.toList == s.toList) = false):=fun m u' hm hu => by
          by_cases e:m = j
          ·subst e;rw [HKU.out] at hu;injection hu with e2;subst e2;exact hq
          ·exact hne.out m u' (by omega) hu
         go_wp2_with fail
         go_quiet (fail)
         go_wp2_with fail
         go_roundw
         case rel => exact ⟨j + 1,by omega,by go_num,hne2,hx.out.drewN _,below_drewN hW.out _,hz⟩
         case measure => simp [intOf];omega
       ·have hji:j = i:=by omega
        have hgd2:Hid ((ks.take (i + 1)).Nodup ∧ ∀ s ∈ ks.take (i + 1),validB s.toList = true):=by
         show _ ∧ _
         have hm:=take_ne (ks:=ks) (i:=i) (s:=s) (fun m u hm hu => hne.out m u (by omega) hu)
         rw [take_snoc HKI.out]
         refine ⟨?_,?_⟩
         ·rw [List.nodup_append]
          refine ⟨hgd.out.1,by simp,?_⟩
          intro a ha b hb e
          simp at hb
          subst hb;subst e;exact hm ha
         ·intro u hu
          rw [List.mem_append] at hu
          rcases hu with hu | hu
          ·exact hgd.out.2 u hu
          ·simp at hu;subst hu;exact HVB.out
        clear c3 hji
        go_wp2_with fail
        go_roundw
        case rel => exact ⟨i + 1,by omega,by go_num,hgd2,hx,hW,hz⟩
        case measure => simp [intOf];omega
    ·have HF:Hid (V = true):=by show _ = _;rw [HE.out];exact keysB_all (show i = ks.length by omega) hgd.out
     go_wp2_with fail
     go_ret
     exact ⟨by rw [HF.out];rfl,hW.out⟩
theorem rright_any:∀ (m:Nat) (n:Nd),n.count ≤ m → ∀ (B:Nat) (cs:List Value) (w:World) (deep:Int),NdIs w B n cs → B ≤ w.heap.size → 0 ≤ deep → deep ≤ 24 → RrightC cs.toArray deep (rightD n deep) w:=by
 intro m
 induction m with
 | zero => intro n hm;have:=n.count_pos;omega
 | succ m ih =>
  intro n hm B cs w deep hn hB d0 d1
  cases n with
  | mk k num t ks ns =>
   unfold NdIs at hn
   obtain ⟨A,ck,A2,cc,xs,rfl,hks,hxs,hns,ik,inn,ht,hkl,hk,hmm⟩:=hn
   unfold maxLen at *
   have HIH:Hid (RrightHyp B ns):=by
    intro i n cs w' deep h1 h2 h3 h4 h5
    refine ih n ?_ B cs w' deep h2 h3 h4 h5
    have:=Nd.counts_get ns i n h1
    simp only [Nd.count] at hm;omega
   by_cases h1:k = 1 ∨ k = 2 ∨ k = 3
   ·exact rright_const k num t ks ns A A2 ck cc xs w B deep hks hxs hns ht hkl hk hmm hB d0 d1 HIH h1
   by_cases h4:k = 4
   ·exact rright_num k num t ks ns A A2 ck cc xs w B deep hks hxs hns ht hkl hk hmm hB d0 d1 HIH h4
   by_cases h5:k = 5
   ·exact rright_str k num t ks ns A A2 ck cc xs w B deep hks hxs hns ht hkl hk hmm hB d0 d1 HIH h5
   by_cases h6:k = 6
   ·exact rright_arr k num t ks ns A A2 ck cc xs w B deep hks hxs hns ht hkl hk hmm hB d0 d1 HIH h6
   by_cases h7:k = 7
   ·exact rright_obj k num t ks ns A A2 ck cc xs w B deep hks hxs hns ht hkl hk hmm hB d0 d1 HIH h7
   exact rright_odd k num t ks ns A A2 ck cc xs w B deep hks hxs hns ht hkl hk hmm hB d0 d1 HIH (by omega)
theorem rRight_any (n:Nd) (cs:List Value) (w:World) (B:Nat) (hn:NdIs w B n cs) (hB:B ≤ w.heap.size):Calls Tryd.prog 7 #[.agg cs.toArray] w (BoolBel (rightD n 0) w):=by
 have hl:=hn.len
 have hW:=Below.refl w.heap.size w
 match cs,hl with
 | [v0,v1,v2,v3,v4],_ =>
  have HC:Hid (∀ w',Below w.heap.size w w' → RrightC #[v0,v1,v2,v3,v4] 0 (rightD n 0) w'):=fun w' hb =>
   rright_any n.count n (Nat.le_refl _) B [v0,v1,v2,v3,v4] w' 0 (hn.below (hb.mono (by omega))) (by have:=hb.size;omega) (by omega) (by omega)
  obtain ⟨x0,x1,x2,x3,x4,x5,x6,x7,x8,rfl,rfl,rfl,rfl,rfl⟩:=hn.form
  show Calls Tryd.prog 7 #[.agg #[_,_,_,_,_]] w (BoolBel _ w)
  clear hn
  generalize rightD n 0 = W at *
  go_enter Tryd.func7,Tryd.ntmps7
  go_wp2_with fail
  refine (HC.out _ (hW.alloc hW.size _)).mono ?_;rintro e w1 ⟨rfl,hw1⟩
  go_wp2_with fail
  go_ret
  exact ⟨rfl,nextA hW hw1⟩
mutual
def putU:Nd → List UInt8
 | .mk k num t ks ns =>
  if k = 1 then [110,117,108,108] else if k = 2 then [102,97,108,115,101] else if k = 3 then [116,114,117,101]
  else if k = 4 then Lib.itoa num else if k = 5 then quoteU t.toList else if k = 6 then [91] ++ putL (k == 7) ks ns true ++ [93] else [123] ++ putL (k == 7) ks ns true ++ [125]
def putL:Bool → List ByteArray → List Nd → Bool → List UInt8
 | _,_,[],_ => []
 | obj,ks,n :: ns,first => (if first = true then [] else [44]) ++ (if obj = true then quoteU (ks.headD ⟨#[]⟩).toList ++ [58] else []) ++ putU n ++ putL obj ks.tail ns false
end
def Cutted (a full:List UInt8):Prop:=a = full ∨ (65536 < a.length ∧ a.length ≤ full.length)
def blankB (c:UInt8):Bool:=c == 32 || c == 9 || c == 10 || c == 13
def blanksL (l:List UInt8):List UInt8:=l.dropWhile blankB
theorem blanksL_le (l:List UInt8):(blanksL l).length ≤ l.length:=(List.dropWhile_suffix _).length_le
def digB (c:UInt8):Bool:=decide (48 ≤ c.toNat ∧ c.toNat ≤ 57)
def valD (n:Int) (ds:List UInt8):Int:=ds.foldl (fun n c => n * 10 + ((c.toNat:Int) - 48)) n
def pointB (l:List UInt8):Bool:=match l with
 | [] => false
 | c :: _ => c == 46 || c == 101 || c == 69
def numTail (neg:Bool) (l:List UInt8):Option (Int × List UInt8):=
 if l.takeWhile digB = [] ∨ (1 < (l.takeWhile digB).length ∧ l.head? = some 48) ∨ 9007199254740991 < valD 0 (l.takeWhile digB) ∨ (neg = true ∧ valD 0 (l.takeWhile digB) = 0) ∨ pointB (l.dropWhile digB) = true then none
 else some (if neg = true then - valD 0 (l.takeWhile digB) else valD 0 (l.takeWhile digB),l.dropWhile digB)
def numL (l:List UInt8):Option (Int × List UInt8):=if l.head? = some 45 then numTail true l.tail else numTail false l
def hexD (c:UInt8):Option Int:=
 if 48 ≤ c.toNat ∧ c.toNat ≤ 57 then some ((c.toNat:Int) - 48) else if 97 ≤ c.toNat ∧ c.toNat ≤ 102 then some ((c.toNat:Int) - 87) else if 65 ≤ c.toNat ∧ c.toNat ≤ 70 then some ((c.toNat:Int) - 55) else none
def unitL:Nat → Int → List UInt8 → Option (Int × List UInt8)
 | 0,n,l => some (n,l)
 | _ + 1,_,[] => none
 | k + 1,n,c :: l => match hexD c with
  | none => none
  | some h => unitL k (n * 16 + h) l
def pointL (l:List UInt8):Option (Int × List UInt8):=
 match unitL 4 0 l with
 | none => none
 | some (n,r) => if n < 55296 ∨ 57343 < n then some (n,r) else if 56320 ≤ n then none else if r.take 2 = [92,117] then
   (match unitL 4 0 (r.drop 2) with
   | none => none
   | some (low,r2) => if low < 56320 ∨ 57343 < low then none else some (65536 + (n % 1024) * 1024 + low % 1024,r2))
  else none
def escL (l:List UInt8):Option (List UInt8 × List UInt8):=
 match l with
 | [] => none
 | c :: r => if c = 34 ∨ c = 92 ∨ c = 47 then some ([c],r) else if c = 98 then some ([8],r) else if c = 102 then some ([12],r) else if c = 110 then some ([10],r) else if c = 114 then some ([13],r) else if c = 116 then some ([9],r)
  else if c = 117 then (match pointL r with
   | none => none
   | some (n,r2) => some (putB n,r2))
  else none
set_option maxRecDepth 20000 in
def textT (l acc:List UInt8):Option (List UInt8 × List UInt8):=
 match l with
 | [] => none
 | c :: r => if c < 32 then none else if c = 34 then some (acc,r) else if c = 92 then (match escL r with
   | none => none
   | some (b,r2) => if r2.length ≤ r.length then textT r2 (acc ++ b) else none)
  else match decL (c :: r) with
   | none => none
   | some (_,m) => if 0 < m then textT ((c :: r).drop m) (acc ++ (c :: r).take m) else none
termination_by l.length
decreasing_by
 ·simp only [List.length_cons];omega
 ·simp only [List.length_drop,List.length_cons];omega
def textL (l:List UInt8):Option (List UInt8 × List UInt8):=if l.head? = some 34 then textT l.tail [] else none
def nd0 (k:Int):Nd:=.mk k 0 ⟨#[]⟩ [] []
mutual
def valL (deep:Nat) (l:List UInt8):Except Int (Nd × List UInt8):=
 if (l.head? = some 91 ∨ l.head? = some 123) ∧ 24 ≤ deep then .error 4
 else if l.head? = some 91 then
  (if (blanksL l.tail).head? = some 93 then .ok (.mk 6 0 ⟨#[]⟩ [] [],(blanksL l.tail).tail) else if (blanksL l.tail).length < l.length then arrL deep (blanksL l.tail) [] else .error 3)
 else if l.head? = some 123 then
  (if (blanksL l.tail).head? = some 125 then .ok (.mk 7 0 ⟨#[]⟩ [] [],(blanksL l.tail).tail) else if (blanksL l.tail).length < l.length then objL deep (blanksL l.tail) [] [] else .error 3)
 else if l.head? = some 34 then
  (match textL l with
  | none => .error 3
  | some (t,r) => .ok (.mk 5 0 ⟨t.toArray⟩ [] [],r))
 else if l.take 4 = [110,117,108,108] then .ok (nd0 1,l.drop 4)
 else if l.take 5 = [102,97,108,115,101] then .ok (nd0 2,l.drop 5)
 else if l.take 4 = [116,114,117,101] then .ok (nd0 3,l.drop 4)
 else match numL l with
  | none => .error 3
  | some (n,r) => .ok (.mk 4 n ⟨#[]⟩ [] [],r)
termination_by 2 * l.length
decreasing_by all_goals omega
def arrL (deep:Nat) (l:List UInt8) (ns:List Nd):Except Int (Nd × List UInt8):=
 match valL (deep + 1) (blanksL l) with
 | .error e => .error e
 | .ok (n,r) => if (blanksL r).head? = some 93 then .ok (.mk 6 0 ⟨#[]⟩ [] (ns ++ [n]),(blanksL r).tail)
  else if (blanksL r).head? = some 44 then (if (blanksL r).tail.length < l.length then arrL deep (blanksL r).tail (ns ++ [n]) else .error 3)
  else .error 3
termination_by 2 * l.length + 1
decreasing_by
 ·have:=blanksL_le l;omega
 ·omega
def objL (deep:Nat) (l:List UInt8) (ks:List ByteArray) (ns:List Nd):Except Int (Nd × List UInt8):=
 match textL (blanksL l) with
 | none => .error 3
 | some (k,r) => if ks.any (fun s => s.toList == k) = true then .error 5
  else if (blanksL r).head? = some 58 then (if (blanksL (blanksL r).tail).length < l.length then
   (match valL (deep + 1) (blanksL (blanksL r).tail) with
   | .error e => .error e
   | .ok (n,r2) => if (blanksL r2).head? = some 125 then .ok (.mk 7 0 ⟨#[]⟩ (ks ++ [⟨k.toArray⟩]) (ns ++ [n]),(blanksL r2).tail)
    else if (blanksL r2).head? = some 44 then (if (blanksL r2).tail.length < l.length then objL deep (blanksL r2).tail (ks ++ [⟨k.toArray⟩]) (ns ++ [n]) else .error 3)
    else .error 3)
   else .error 3)
  else .error 3
termination_by 2 * l.length + 1
decreasing_by all_goals omega
end
def parseL (l:List UInt8):Except Int Nd:=
 if 65536 < l.length then .error 2 else match valL 0 (blanksL l) with
 | .error e => .error e
 | .ok (n,r) => if blanksL r = [] then .ok n else .error 3
theorem blanksL_suf (l:List UInt8):blanksL l <:+ l:=List.dropWhile_suffix _
theorem numTail_le {b:Bool} {l:List UInt8} {n:Int} {r:List UInt8} (h:numTail b l = some (n,r)):r <:+ l ∧ r.length < l.length:=by
 unfold numTail at h
 split at h
 ·cases h
 ·rename_i hn
  simp only [Option.some.injEq,Prod.mk.injEq] at h
  obtain ⟨_,rfl⟩:=h
  have h0:l.takeWhile digB ≠ []:=fun e => hn (.inl e)
  have h1:l.takeWhile digB ++ l.dropWhile digB = l:=List.takeWhile_append_dropWhile
  have h2:=congrArg List.length h1
  rw [List.length_append] at h2
  have h3:0 < (l.takeWhile digB).length:=List.length_pos_iff.2 h0
  exact ⟨List.dropWhile_suffix _,by omega⟩
theorem numL_le {l:List UInt8} {n:Int} {r:List UInt8} (h:numL l = some (n,r)):r <:+ l ∧ r.length < l.length:=by
 unfold numL at h
 split at h
 ·have:=numTail_le h
  cases l with
  | nil => simp at *
  | cons c l => exact ⟨this.1.trans (List.suffix_cons _ _),by have:=this.2;simp at *;omega⟩
 ·exact numTail_le h
theorem unitL_le:∀ (k:Nat) (n:Int) (l:List UInt8) (m:Int) (r:List UInt8),unitL k n l = some (m,r) → r <:+ l ∧ r.length + k = l.length
 | 0,n,l,m,r,h => by
  unfold unitL at h;simp at h;obtain ⟨_,rfl⟩:=h;exact ⟨List.suffix_refl _,rfl⟩
 | k + 1,n,[],m,r,h => by unfold unitL at h;cases h
 | k + 1,n,c :: l,m,r,h => by
  unfold unitL at h
  split at h
  ·cases h
  ·have:=unitL_le k _ l m r h
   exact ⟨this.1.trans (List.suffix_cons _ _),by simp;omega⟩
theorem hexD_bd {c:UInt8} {h:Int} (e:hexD c = some h):0 ≤ h ∧ h < 16:=by
 unfold hexD at e
 split at e
 ·cases e;omega
 ·split at e
  ·cases e;omega
  ·split at e
   ·cases e;omega
   ·cases e
theorem unitL_bd:∀ (k:Nat) (n:Int) (l:List UInt8) (m:Int) (r:List UInt8),0 ≤ n → unitL k n l = some (m,r) → 0 ≤ m ∧ m < (n + 1) * 16 ^ k
 | 0,n,l,m,r,h0,h => by unfold unitL at h;simp at h;obtain ⟨rfl,_⟩:=h;simp;omega
 | k + 1,n,[],m,r,h0,h => by unfold unitL at h;cases h
 | k + 1,n,c :: l,m,r,h0,h => by
  unfold unitL at h
  split at h
  ·cases h
  ·rename_i x hx
   have hb:=hexD_bd hx
   have:=unitL_bd k (n * 16 + x) l m r (by omega) h
   refine ⟨this.1,Int.lt_of_lt_of_le this.2 ?_⟩
   rw [Int.pow_succ,Int.mul_comm (16 ^ k) 16,← Int.mul_assoc]
   exact Int.mul_le_mul_of_nonneg_right (by omega) (Int.pow_nonneg (by omega))
theorem pointL_le {l:List UInt8} {n:Int} {r:List UInt8} (h:pointL l = some (n,r)):r <:+ l ∧ r.length < l.length:=by
 unfold pointL at h
 split at h
 ·cases h
 ·rename_i n1 r1 h1
  have k1:=unitL_le _ _ _ _ _ h1
  split at h
  ·simp at h;obtain ⟨_,rfl⟩:=h;exact ⟨k1.1,by omega⟩
  ·split at h
   ·cases h
   ·split at h
    ·split at h
     ·cases h
     ·rename_i n2 r2 h2
      have k2:=unitL_le _ _ _ _ _ h2
      split at h
      ·cases h
      ·simp at h
       obtain ⟨_,rfl⟩:=h
       have:=List.length_drop (l:=r1) (i:=2)
       exact ⟨(k2.1.trans (List.drop_suffix _ _)).trans k1.1,by omega⟩
    ·cases h
theorem escL_le {l b r:List UInt8} (h:escL l = some (b,r)):r <:+ l ∧ r.length < l.length:=by
 unfold escL at h
 cases l with
 | nil => simp at h
 | cons c l =>
  have hs:l <:+ c :: l ∧ l.length < (c :: l).length:=⟨List.suffix_cons _ _,by simp⟩
  simp only at h
  split at h
  ·cases h;exact hs
  split at h
  ·cases h;exact hs
  split at h
  ·cases h;exact hs
  split at h
  ·cases h;exact hs
  split at h
  ·cases h;exact hs
  split at h
  ·cases h;exact hs
  split at h
  ·split at h
   ·cases h
   ·rename_i n r2 h2
    cases h
    have:=pointL_le h2
    exact ⟨this.1.trans hs.1,by have:=this.2;simp;omega⟩
  ·cases h
theorem textT_nil (acc:List UInt8):textT [] acc = none:=by rw [textT]
theorem textT_cons (c:UInt8) (r acc:List UInt8):textT (c :: r) acc =
  if c < 32 then none else if c = 34 then some (acc,r) else if c = 92 then (match escL r with
   | none => none
   | some (b,r2) => textT r2 (acc ++ b))
  else match decL (c :: r) with
   | none => none
   | some (_,m) => textT ((c :: r).drop m) (acc ++ (c :: r).take m):=by
 conv => lhs;rw [textT]
 split
 ·rfl
 split
 ·rfl
 split
 ·cases he:escL r with
  | none => rfl
  | some p =>
   obtain ⟨b,r2⟩:=p
   have:=(escL_le he).2
   simp only
   rw [if_pos (by omega)]
 ·cases he:decL (c :: r) with
  | none => rfl
  | some p =>
   obtain ⟨x,m⟩:=p
   have:=(dec_le _ _ _ he).1
   simp only
   rw [if_pos this]
theorem textT_le:∀ (k:Nat) (l acc b r:List UInt8),l.length ≤ k → textT l acc = some (b,r) → r <:+ l ∧ r.length < l.length
 | 0,l,acc,b,r,hk,h => by
  have:l = []:=List.eq_nil_of_length_eq_zero (by omega)
  subst this
  rw [textT_nil] at h;cases h
 | k + 1,[],acc,b,r,hk,h => by rw [textT_nil] at h;cases h
 | k + 1,c :: l,acc,b,r,hk,h => by
  rw [textT_cons] at h
  have hs:l <:+ c :: l ∧ l.length < (c :: l).length:=⟨List.suffix_cons _ _,by simp⟩
  simp only [List.length_cons] at hk
  split at h
  ·cases h
  split at h
  ·cases h;exact hs
  split at h
  ·split at h
   ·cases h
   ·rename_i b2 r2 h2
    have k2:=escL_le h2
    have k3:=textT_le k _ _ _ _ (by omega) h
    exact ⟨(k3.1.trans k2.1).trans hs.1,by simp;omega⟩
  ·split at h
   ·cases h
   ·rename_i x m h2
    have k2:=dec_le _ _ _ h2
    have hd:=List.length_drop (l:=c :: l) (i:=m)
    simp only [List.length_cons] at hd k2
    have k3:=textT_le k _ _ _ _ (by omega) h
    exact ⟨k3.1.trans (List.drop_suffix _ _),by simp only [List.length_cons];omega⟩
theorem textL_le {l b r:List UInt8} (h:textL l = some (b,r)):r <:+ l ∧ r.length < l.length:=by
 unfold textL at h
 split at h
 ·have:=textT_le _ _ _ _ _ (Nat.le_refl _) h
  cases l with
  | nil => simp at *
  | cons c l => exact ⟨this.1.trans (List.suffix_cons _ _),by have:=this.2;simp at *;omega⟩
 ·cases h
theorem nd0_is (k:Int) (hk:I64 k) (w:World) (B:Nat):NdIs w B (nd0 k) [.int .i64 k,.int .i64 0,.string ⟨#[]⟩,.slice none 0 0,.slice none 0 0]:=by
 unfold nd0 NdIs
 exact ⟨none,0,none,0,[],rfl,Reads.none_,Reads.none_,(by unfold NdsIs;rfl),hk,by unfold I64;omega,by (show (0:Nat) ≤ maxLen);exact Nat.zero_le _,by simp,by simp [maxLen],by simp [maxLen]⟩
theorem Blk.cells5 {w:World} {g:Nat} {t:TypeId} {a b c d e:Value} (h:Blk w g t #[a,b,c,d,e]):w.cell? (qa g 0) = some a ∧ w.cell? (qa g 1) = some b ∧ w.cell? (qa g 2) = some c ∧ w.cell? (qa g 3) = some d ∧ w.cell? (qa g 4) = some e:=
 ⟨h.cell 0,h.cell 1,h.cell 2,h.cell 3,h.cell 4⟩
mutual
def sizeOk:Nd → Prop
 | .mk k num t ks ns => (-9223372036854775808 ≤ num ∧ num ≤ 9223372036854775807) ∧ t.size ≤ 1000000000 ∧ (∀ s ∈ ks,s.size ≤ 1000000000) ∧ (ks.length ≤ 1000000 ∧ ns.length ≤ 1000000) ∧ sizeOkL ns
def sizeOkL:List Nd → Prop
 | [] => True
 | n :: ns => sizeOk n ∧ sizeOkL ns
end
theorem tooLong_all {ks:List ByteArray} (h:tooLong ks = false):∀ s ∈ ks,s.size ≤ 2000:=by
 induction ks with
 | nil => simp
 | cons a ks ih =>
  simp only [tooLong,Bool.or_eq_false_iff,decide_eq_false_iff_not] at h
  intro s hs
  rcases List.mem_cons.1 hs with rfl | hs
  ·omega
  ·exact ih h.2 s hs
theorem weightL_ge:∀ (ns:List Nd) (deep acc:Int),0 ≤ deep → deep ≤ 41 → 0 ≤ acc → acc ≤ weightL ns deep acc
 | [],deep,acc,_,_,_ => by unfold weightL;omega
 | n :: ns,deep,acc,h0,h1,h2 => by
  unfold weightL
  split
  ·have:=weightN_le n deep h0 h1
   have:=weightL_ge ns deep (acc + weightN n deep) h0 h1 (by omega)
   omega
  ·omega
mutual
theorem gN_weight:∀ (n:Nd) (deep:Int),0 ≤ deep → deep ≤ 41 → weightN n deep < 3000 → (gN n:Int) ≤ 30000 * weightN n deep - 15000
 | .mk k m t ks ns,deep,h0,h1,h => by
  unfold weightN at h ⊢
  split at h
  ·omega
  rename_i hn
  rw [if_neg hn]
  split at h
  ·omega
  rename_i hk
  rw [if_neg hk]
  have hks:=tooLong_all (ks:=ks) (by simpa using hk)
  have:=gL_weight ns ks (deep + 1) 1 (by omega) (by omega) (by omega) h hks
  unfold gN
  omega
theorem gL_weight:∀ (ns:List Nd) (ks:List ByteArray) (deep acc:Int),0 ≤ deep → deep ≤ 41 → 0 ≤ acc → weightL ns deep acc < 3000 → (∀ s ∈ ks,s.size ≤ 2000) → (gL ks ns:Int) ≤ 30000 * (weightL ns deep acc - acc)
 | [],ks,deep,acc,_,_,_,h,_ => by unfold weightL gL;omega
 | n :: ns,ks,deep,acc,h0,h1,h2,h,hk => by
  unfold weightL at h ⊢
  by_cases ha:acc < 3000
  ·rw [if_pos ha] at h ⊢
   have hw:=weightN_le n deep h0 h1
   have hge:=weightL_ge ns deep (acc + weightN n deep) h0 h1 (by omega)
   have i1:=gN_weight n deep h0 h1 (by omega)
   have i2:=gL_weight ns ks.tail deep (acc + weightN n deep) h0 h1 (by omega) h (fun s hs => hk s (List.mem_of_mem_tail hs))
   have i3:(ks.headD ⟨#[]⟩).size ≤ 2000:=by
    cases ks with
    | nil => exact (by decide:(0:Nat) ≤ 2000)
    | cons a ks => exact hk a (by simp)
   unfold gL
   omega
  ·rw [if_neg ha] at h;omega
end
mutual
theorem size_of_weight {w:World} {B:Nat}:∀ (n:Nd) (cs:List Value) (deep:Int),NdIs w B n cs → 0 ≤ deep → deep ≤ 41 → weightN n deep < 3000 → sizeOk n
 | .mk k m t ks ns,cs,deep,hn,h0,h1,h => by
  unfold NdIs at hn
  obtain ⟨A,ck,A2,cc,xs,rfl,hks,hxs,hns,ik,im,ht,hkl,hk',hmm⟩:=hn
  unfold weightN at h
  split at h
  ·omega
  rename_i hn
  split at h
  ·omega
  rename_i hk
  have hks:=tooLong_all (ks:=ks) (by simpa using hk)
  unfold sizeOk
  exact ⟨im,by omega,fun s hs => by have:=hks s hs;omega,⟨by omega,by omega⟩,sizeL_of_weight ns xs (deep + 1) 1 hns (by omega) (by omega) (by omega) h⟩
theorem sizeL_of_weight {w:World} {B:Nat}:∀ (ns:List Nd) (xs:List Value) (deep acc:Int),NdsIs w B ns xs → 0 ≤ deep → deep ≤ 41 → 0 ≤ acc → weightL ns deep acc < 3000 → sizeOkL ns
 | [],xs,deep,acc,hn,_,_,_,h => by unfold sizeOkL;trivial
 | n :: ns,xs,deep,acc,hn,h0,h1,h2,h => by
  unfold NdsIs at hn
  obtain ⟨cs,ys,rfl,hn1,hn2⟩:=hn
  unfold weightL at h
  by_cases ha:acc < 3000
  ·rw [if_pos ha] at h
   have hw:=weightN_le n deep h0 h1
   have hge:=weightL_ge ns deep (acc + weightN n deep) h0 h1 (by omega)
   unfold sizeOkL
   exact ⟨size_of_weight n cs deep hn1 h0 h1 (by omega),sizeL_of_weight ns ys deep _ hn2 h0 h1 (by omega) h⟩
  ·rw [if_neg ha] at h;omega
end
theorem not_great {w:World} {B:Nat} {n:Nd} {cs:List Value} (hn:NdIs w B n cs) (h:greatN n = false):sizeOk n ∧ gN n ≤ 60000000:=by
 unfold greatN at h
 have h:=of_decide_eq_false h
 have h1:=size_of_weight n cs 0 hn (by omega) (by omega) (by omega)
 have h2:=gN_weight n 0 (by omega) (by omega) (by omega)
 exact ⟨h1,by omega⟩
def RS (w:World) (S:Nat → Prop) (size:Nat) (A:Option Addr) (n:Nat) (xs:List Value):Prop:=
 xs.length = n * size ∧ (0 < n → ∃ ad,A = some ad ∧ S ad.block ∧ ∀ j u,xs[j]? = some u → w.cell? (ad.add j) = some u)
theorem RS.keep {w w':World} {S:Nat → Prop} {size n:Nat} {A:Option Addr} {xs:List Value} (h:RS w S size A n xs) (hk:∀ p:Addr,S p.block → w'.cell? p = w.cell? p):RS w' S size A n xs:=
 ⟨h.1,fun hn => by
  obtain ⟨ad,e,hb,hc⟩:=h.2 hn
  exact ⟨ad,e,hb,fun j u hu => (hk _ (by rw [block_of_add];exact hb)).trans (hc j u hu)⟩⟩
theorem RS.mono {w:World} {S S':Nat → Prop} {size n:Nat} {A:Option Addr} {xs:List Value} (h:RS w S size A n xs) (hs:∀ b,S b → S' b):RS w S' size A n xs:=
 ⟨h.1,fun hn => by
  obtain ⟨ad,e,hb,hc⟩:=h.2 hn
  exact ⟨ad,e,hs _ hb,hc⟩⟩
theorem RS.reads {w:World} {S:Nat → Prop} {size n B:Nat} {A:Option Addr} {xs:List Value} (h:RS w S size A n xs) (hs:∀ b,S b → b < B):Reads w B size A n xs:=h.mono hs
theorem RS.none_ {w:World} {S:Nat → Prop} {size:Nat} {A:Option Addr}:RS w S size A 0 []:=⟨by simp,fun h => absurd h (by omega)⟩
mutual
def NdIn (w:World) (S:Nat → Prop):Nd → List Value → Prop
 | .mk k n t ks ns,cs => ∃ (A:Option Addr) (ck:Nat) (A2:Option Addr) (c:Nat) (xs:List Value),cs = (nL k n t A ks.length ck A2 ns.length c) ∧
   RS w S 1 A ks.length (ks.map Value.string) ∧ RS w S 5 A2 ns.length xs ∧ NdsIn w S ns xs ∧
   I64 k ∧ I64 n ∧ t.size ≤ maxLen ∧ (∀ s ∈ ks,s.size ≤ maxLen) ∧ ks.length ≤ maxLen ∧ ns.length ≤ maxLen
def NdsIn (w:World) (S:Nat → Prop):List Nd → List Value → Prop
 | [],xs => xs = []
 | n :: ns,xs => ∃ cs ys,xs = cs ++ ys ∧ NdIn w S n cs ∧ NdsIn w S ns ys
end
mutual
theorem NdIn.keep {w w':World} {S S':Nat → Prop} (hk:∀ p:Addr,S p.block → w'.cell? p = w.cell? p) (hs:∀ b,S b → S' b):∀ (n:Nd) (cs:List Value),NdIn w S n cs → NdIn w' S' n cs
 | .mk k m t ks ns,cs,h => by
  unfold NdIn at h ⊢
  obtain ⟨A,ck,A2,c,xs,h1,h2,h3,h4,h5⟩:=h
  exact ⟨A,ck,A2,c,xs,h1,(h2.keep hk).mono hs,(h3.keep hk).mono hs,NdsIn.keep hk hs ns xs h4,h5⟩
theorem NdsIn.keep {w w':World} {S S':Nat → Prop} (hk:∀ p:Addr,S p.block → w'.cell? p = w.cell? p) (hs:∀ b,S b → S' b):∀ (ns:List Nd) (xs:List Value),NdsIn w S ns xs → NdsIn w' S' ns xs
 | [],xs,h => by unfold NdsIn at h ⊢;exact h
 | n :: ns,xs,h => by
  unfold NdsIn at h ⊢
  obtain ⟨cs,ys,h1,h2,h3⟩:=h
  exact ⟨cs,ys,h1,NdIn.keep hk hs n cs h2,NdsIn.keep hk hs ns ys h3⟩
end
mutual
theorem NdIn.is {w:World} {S:Nat → Prop} {B:Nat} (hs:∀ b,S b → b < B):∀ (n:Nd) (cs:List Value),NdIn w S n cs → NdIs w B n cs
 | .mk k m t ks ns,cs,h => by
  unfold NdIn at h
  unfold NdIs
  obtain ⟨A,ck,A2,c,xs,h1,h2,h3,h4,h5⟩:=h
  exact ⟨A,ck,A2,c,xs,h1,h2.reads hs,h3.reads hs,NdsIn.is hs ns xs h4,h5⟩
theorem NdsIn.is {w:World} {S:Nat → Prop} {B:Nat} (hs:∀ b,S b → b < B):∀ (ns:List Nd) (xs:List Value),NdsIn w S ns xs → NdsIs w B ns xs
 | [],xs,h => by unfold NdsIn at h;unfold NdsIs;exact h
 | n :: ns,xs,h => by
  unfold NdsIn at h
  unfold NdsIs
  obtain ⟨cs,ys,h1,h2,h3⟩:=h
  exact ⟨cs,ys,h1,NdIn.is hs n cs h2,NdsIn.is hs ns ys h3⟩
end
mutual
theorem NdIs.in_ {w:World} {B:Nat}:∀ (n:Nd) (cs:List Value),NdIs w B n cs → NdIn w (· < B) n cs
 | .mk k m t ks ns,cs,h => by
  unfold NdIs at h
  unfold NdIn
  obtain ⟨A,ck,A2,c,xs,h1,h2,h3,h4,h5⟩:=h
  exact ⟨A,ck,A2,c,xs,h1,h2,h3,NdsIs.in_ ns xs h4,h5⟩
theorem NdsIs.in_ {w:World} {B:Nat}:∀ (ns:List Nd) (xs:List Value),NdsIs w B ns xs → NdsIn w (· < B) ns xs
 | [],xs,h => by unfold NdsIs at h;unfold NdsIn;exact h
 | n :: ns,xs,h => by
  unfold NdsIs at h
  unfold NdsIn
  obtain ⟨cs,ys,h1,h2,h3⟩:=h
  exact ⟨cs,ys,h1,NdIs.in_ n cs h2,NdsIs.in_ ns ys h3⟩
end
theorem NdIn.form {w:World} {S:Nat → Prop} {n:Nd} {cs:List Value} (h:NdIn w S n cs):∃ (k m:Int) (t:ByteArray) (A:Option Addr) (a c:Nat) (A2:Option Addr) (b d:Nat),
  cs = (nL k m t A a c A2 b d):=by
 cases n
 unfold NdIn at h
 obtain ⟨A,ck,A2,c,xs,h1,_⟩:=h
 exact ⟨_,_,_,_,_,_,_,_,_,h1⟩
theorem NdsIn.app {w:World} {S:Nat → Prop}:∀ (ns:List Nd) (xs:List Value) (n:Nd) (cs:List Value),NdsIn w S ns xs → NdIn w S n cs → NdsIn w S (ns ++ [n]) (xs ++ cs)
 | [],xs,n,cs,h,hn => by
  unfold NdsIn at h
  subst h
  show NdsIn w S (n :: []) _
  unfold NdsIn
  exact ⟨cs,[],by simp,hn,by unfold NdsIn;rfl⟩
 | m :: ns,xs,n,cs,h,hn => by
  unfold NdsIn at h
  obtain ⟨ds,ys,rfl,h2,h3⟩:=h
  show NdsIn w S (m :: (ns ++ [n])) _
  unfold NdsIn
  exact ⟨ds,ys ++ cs,by simp,h2,NdsIn.app ns ys n cs h3 hn⟩
theorem NdsIn.nil {w:World} {S:Nat → Prop}:NdsIn w S [] []:=by unfold NdsIn;rfl
theorem NdsIn.len {w:World} {S:Nat → Prop}:∀ (ns:List Nd) (xs:List Value),NdsIn w S ns xs → xs.length = ns.length * 5
 | [],xs,h => by unfold NdsIn at h;subst h;rfl
 | n :: ns,xs,h => by
  unfold NdsIn at h
  obtain ⟨cs,ys,rfl,h2,h3⟩:=h
  obtain ⟨_,_,_,_,_,_,_,_,_,rfl⟩:=h2.form
  have:=NdsIn.len ns ys h3
  simp;omega
theorem nodeInfo:(Tryd.prog.info? 25).map (fun i => (i.zero,i.size,i.bytes)) = some (some (.agg Zn),5,80):=by kernel_rfl
def SK (h:Nat) (w:World) (v:Value) (b:Nat):Prop:=h ≤ b ∧ b < w.heap.size ∧ v.ownBlock ≠ some b
theorem own_lt {w:World} {base size n:Nat} {e:TypeId} {v:Value} {xs:List Value} (h:w.ownsRow base e size v n xs) {g:Nat} (hg:v.ownBlock = some g):base ≤ g ∧ g < w.heap.size:=World.ownsRow.lt h g hg
theorem wpList_pushNd (w:World) {ops:Array Oper} {rest:List Oper} {o:Oper} {a:Act} {Q:Exit → Act → World → Prop} (hgd:o.guard = none) (s x:Operand)
  (ho:o.op = .call { callee:=.builtin .append,args:=#[s,x],argTypes:=#[23,23] })
  (B:Nat) (v:Value) (n:Nat) (xs:List Value) (hs:a.eval s = v) (hown:w.ownsRow B 25 5 v n xs) (c0 c1:Int) (c2:ByteArray) (c3:Option Addr) (c4 c5:Nat) (c6:Option Addr) (c7 c8:Nat)
  (hx:a.eval x = .slice (some (qa w.heap.size 0)) 1 1)
  (hlim:n + 1 ≤ 1000000000000) (hB:B ≤ w.heap.size)
  (h:∀ v' w',w'.ownsRow B 25 5 v' (n + 1) (xs ++ (nL c0 c1 c2 c3 c4 c5 c6 c7 c8)) → w.grownBy w' v.ownBlock → (v'.ownBlock = v.ownBlock ∨ ∃ g,v'.ownBlock = some g ∧ w.heap.size ≤ g) → wpList Tryd.prog ops Q rest (a.put o.dst v') w') :
  wpList Tryd.prog ops Q (o :: rest) a (w.alloc (.cells (nA c0 c1 c2 c3 c4 c5 c6 c7 c8) 25)):=by
 obtain ⟨i0,hi0,hz0,hz1,hz2⟩:=info_parts nodeInfo
 have hr:Reads (w.alloc (.cells (nA c0 c1 c2 c3 c4 c5 c6 c7 c8) 25)) (w.heap.size + 1) 5 (some (qa w.heap.size 0)) 1 (nL c0 c1 c2 c3 c4 c5 c6 c7 c8):=by
  refine ⟨rfl,fun _ => ⟨_,rfl,by simp,fun j u hj => ?_⟩⟩
  have e:((qa w.heap.size 0):Addr).add j = (qa w.heap.size j):=by unfold Addr.add;split <;> simp_all
  rw [e,World.cell?_alloc_mark]
  simpa using hj
 refine wpList_plain hgd fun K hK => ?_
 obtain ⟨v',w',h1,h2,h3,h4⟩:=run_append_any (P:=Tryd.prog) _ B 23 o.type 25 i0 _ 5 80 Tryd.underlying23 hi0 hz0 hz1 hz2 rfl (by omega) v n _ (World.ownsRow.alloc hown _) (w.heap.size + 1) _ 1 1 _ hr
  (fun u hu => by simp at hu;rcases hu with rfl | rfl | rfl | rfl | rfl <;> rfl) (by simp only [maxLen];omega) (by omega) (by simp;omega)
 unfold Oper.wp execOp
 simp only [ho,resolve,invoke,builtin,Sem.run_bind,Sem.run_pure,Result.andThen_ok,List.map_toArray,List.map_cons,List.map_nil,hs,hx,h1]
 refine hK _ _ (h v' w' h2 ((World.grownBy_alloc w _ _).trans h3) ?_)
 rcases h4 with h4 | h4
 ·exact .inl h4
 ·exact .inr ⟨_,h4,by simp⟩
theorem own_old {w w':World} {base size n:Nat} {e:TypeId} {v:Value} {xs:List Value} (h:w.ownsRow base e size v n xs) (k:Below w.heap.size w w'):w'.ownsRow base e size v n xs:=by
 have hg:w.grownBy w' none:=⟨k.os,k.tape,k.output,k.size,fun i hi _ => k.block i hi⟩
 exact World.ownsRow.kept h hg (by cases v.ownBlock <;> simp)
theorem own_form {w:World} {base size n:Nat} {e:TypeId} {v:Value} {xs:List Value} (h:w.ownsRow base e size v n xs):∃ A c,v = .slice A n c:=by
 rcases h.2 with ⟨rfl,hx⟩ | ⟨g,cap,cur,rfl,_⟩
 ·rw [hx];exact ⟨_,_,rfl⟩
 ·exact ⟨_,_,rfl⟩
theorem push_keep {h:Nat} {w w2 w3:World} {v v':Value} (hb:Below w.heap.size w w2) (hg:w2.grownBy w3 v.ownBlock):∀ p:Addr,SK h w v p.block → w3.cell? p = w.cell? p:=fun p hp =>
 (World.cell?_of_block (hg.block p.block (by have:=hb.size;have:=hp.2.1;omega) (fun e => hp.2.2 e.symm))).trans (hb.cell hp.2.1)
theorem push_sub {h:Nat} {w w2 w3:World} {v v':Value} (hb:Below w.heap.size w w2) (hg:w2.grownBy w3 v.ownBlock) (hv:v'.ownBlock = v.ownBlock ∨ ∃ g,v'.ownBlock = some g ∧ w2.heap.size ≤ g):∀ b,SK h w v b → SK h w3 v' b:=fun b hp => by
 refine ⟨hp.1,by have:=hb.size;have:=hg.size;have:=hp.2.1;omega,?_⟩
 rcases hv with e | ⟨g,e,hge⟩
 ·rw [e];exact hp.2.2
 ·rw [e];intro e2;injection e2 with e2;have:=hb.size;have:=hp.2.1;omega
theorem push_new_keep {B:Nat} {wa w2 w3:World} {v:Value} (hg:w2.grownBy w3 v.ownBlock) (ho:∀ g,v.ownBlock = some g → g < wa.heap.size):∀ p:Addr,wa.heap.size ≤ p.block ∧ p.block < w2.heap.size → w3.cell? p = w2.cell? p:=fun p hp =>
 World.cell?_of_block (hg.block p.block hp.2 (fun e => by have:=ho _ e.symm;omega))
theorem push_new_sub {h:Nat} {wa w2 w3:World} {v v':Value} (hh:h ≤ wa.heap.size) (hg:w2.grownBy w3 v.ownBlock) (ho:∀ g,v.ownBlock = some g → g < wa.heap.size) (hv:v'.ownBlock = v.ownBlock ∨ ∃ g,v'.ownBlock = some g ∧ w2.heap.size ≤ g) :
  ∀ b,wa.heap.size ≤ b ∧ b < w2.heap.size → SK h w3 v' b:=fun b hp => by
 refine ⟨by omega,by have:=hg.size;omega,?_⟩
 rcases hv with e | ⟨g,e,hge⟩
 ·rw [e];intro e2;have:=ho b e2;omega
 ·rw [e];intro e2;injection e2 with e2;omega
def Since (w w':World) (b:Nat):Prop:=w.heap.size ≤ b ∧ b < w'.heap.size
theorem spot_none {w:World} {a:Addr} {v:Value} (h:w.cell? a = some v):a.spot = none:=by
 unfold World.cell? at h
 split at h
 ·split at h
  ·cases h
  ·rename_i hs
   simpa using hs
 ·cases h
theorem clone_any (ks:List ByteArray) (A:Option Addr) (ck B:Nat) (w:World) (hks:Reads w B 1 A ks.length (ks.map Value.string)) (hl:ks.length ≤ 1000000) (hB:B ≤ w.heap.size) :
  Calls Tryd.prog 51 #[.slice A ks.length ck] w fun e w' => ∃ A' c',e = .returned (.slice A' ks.length c') ∧ RS w' (Since w w') 1 A' ks.length (ks.map Value.string) ∧ Below w.heap.size w w':=by
 cases A with
 | none =>
  have:ks = []:=by
   rcases Nat.eq_zero_or_pos ks.length with h | h
   ·exact List.eq_nil_of_length_eq_zero h
   ·obtain ⟨ad,h,_⟩:=hks.2 h;cases h
  subst this
  refine (Tryd.slices_Clone_string_nil _ ck w).mono ?_
  rintro e w' ⟨rfl,rfl⟩
  exact ⟨none,0,rfl,RS.none_,Below.refl _ _⟩
 | some a =>
  rcases Nat.eq_zero_or_pos ks.length with h | h
  ·have:ks = []:=List.eq_nil_of_length_eq_zero h
   subst this
   refine (Tryd.slices_Clone_string_zero a ck w).mono ?_
   rintro e w' ⟨v',rfl,ho,hne,hb⟩
   rcases ho.2 with ⟨rfl,_⟩ | ⟨g,cap,cur,rfl,_⟩
   ·exact absurd rfl hne
   ·exact ⟨_,_,rfl,RS.none_,hb⟩
  ·obtain ⟨ad,e,hb,hc⟩:=hks.2 h
   injection e with e
   subst e
   have h0:=hc 0 _ (List.getElem?_eq_getElem (by simpa using h))
   have hs:=spot_none h0
   rw [show a.add 0 = a by simp [Addr.add]] at hs
   have ha:a = (qa a.block a.off):=by cases a;simp at hs;subst hs;rfl
   rw [ha]
   refine (Tryd.slices_Clone_string a.block a.off ks.length ck ks w (Nat.le_refl _) (by omega) (fun j hj => ?_)).mono ?_
   ·have h1:=hc j (.string (ks.getD j ByteArray.empty)) (by rw [List.getElem?_map,List.getElem?_eq_getElem hj];simp [List.getD,hj])
    rw [← h1]
    congr 1
    unfold Addr.add
    split
    ·rename_i h0;subst h0;rw [ha];rfl
    ·rfl
   ·rintro e w' ⟨v',rfl,ho,hne,hb'⟩
    rw [List.take_length] at ho
    obtain ⟨g,cap,hv,hg1,hg2⟩:=ho.form h
    subst hv
    refine ⟨_,_,rfl,⟨by simp,fun _ => ⟨_,rfl,⟨hg1,hg2⟩,ho.cells (g:=g) rfl⟩⟩,hb'⟩
def NewNd (n:Nd) (w:World) (e:Ending) (w':World):Prop:=∃ (c0 c1:Int) (c2:ByteArray) (c3:Option Addr) (c4 c5:Nat) (c6:Option Addr) (c7 c8:Nat),
 e = .returned (.agg (nA c0 c1 c2 c3 c4 c5 c6 c7 c8)) ∧ NdIn w' (Since w w') n (nL c0 c1 c2 c3 c4 c5 c6 c7 c8) ∧ Below w.heap.size w w'
def CopyC (vs:Array Value) (n:Nd) (w:World):Prop:=Calls Tryd.prog 36 #[.agg vs] w (NewNd n w)
def CopyH (B:Nat) (ns:List Nd):Prop:=∀ (i:Nat) (n:Nd) (cs:List Value) (w':World),ns[i]? = some n → NdIs w' B n cs → B ≤ w'.heap.size → CopyC cs.toArray n w'
set_option maxRecDepth 100000 in
set_option maxHeartbeats 3000000 in
theorem copied_step (k num:Int) (t:ByteArray) (ks:List ByteArray) (ns:List Nd) (A A2:Option Addr) (ck cc:Nat) (xs:List Value) (w:World) (B:Nat)
  (hks:Reads w B 1 A ks.length (ks.map Value.string)) (hxs:Reads w B 5 A2 ns.length xs) (hns:NdsIs w B ns xs) (ht:t.size ≤ maxLen) (hsz:∀ s ∈ ks,s.size ≤ maxLen) (hk1:ks.length ≤ 1000000) (hk2:ns.length ≤ 1000000)
  (hk0:I64 k) (hn0:I64 num) (hB:B ≤ w.heap.size) (HIH:Hid (CopyH B ns)) :
  CopyC (nA k num t A ks.length ck A2 ns.length cc) (.mk k num t ks ns) w:=by
 show Calls Tryd.prog 36 #[.agg (nA k num t A ks.length ck A2 ns.length cc)] w _
 have HXS:=Lib.hid hxs
 have HNS:=Lib.hid hns
 have HCL:Hid (∀ w',Below w.heap.size w w' → Calls Tryd.prog 51 #[.slice A ks.length ck] w' fun e w'' => ∃ A' c',e = .returned (.slice A' ks.length c') ∧ RS w'' (Since w' w'') 1 A' ks.length (ks.map Value.string) ∧ Below w'.heap.size w' w''):=fun w' hb =>
  clone_any ks A ck B w' (hks.keep fun p hp => hb.cell (by omega)) hk1 (by have:=hb.size;omega)
 have HF:Hid (I64 k ∧ I64 num ∧ t.size ≤ maxLen ∧ (∀ s ∈ ks,s.size ≤ maxLen)):=⟨hk0,hn0,ht,hsz⟩
 have hA:Below w.heap.size w ((w.alloc (.cells (nA k num t A ks.length ck A2 ns.length cc) 25)).alloc (.cells Zn 25)):=((Below.refl _ _).alloc (Nat.le_refl _) _).alloc (by simp) _
 have hX:Blk ((w.alloc (.cells (nA k num t A ks.length ck A2 ns.length cc) 25)).alloc (.cells Zn 25)) w.heap.size 25 (nA k num t A ks.length ck A2 ns.length cc):=(Blk.new w _ _).alloc _
 have hY:Blk ((w.alloc (.cells (nA k num t A ks.length ck A2 ns.length cc) 25)).alloc (.cells Zn 25)) (w.heap.size + 1) 25 Zn:=by
  have:=Blk.new (w.alloc (.cells (nA k num t A ks.length ck A2 ns.length cc) 25)) 25 Zn
  simpa using this
 have HX:=Lib.hid hX
 have HY:=Lib.hid hY
 clear hks hxs hns ht hsz hk0 hn0 hX hY
 go_enter Tryd.func36,Tryd.ntmps36
 go_wp2_with fail
 refine (HCL.out _ hA).mono ?_;rintro e w1 ⟨A',c',rfl,hr1,hw1⟩
 have hB1:=hA.trans (hw1.mono (by simp;omega))
 have hX1:=HX.out.below hw1 (by simp;omega)
 have hY1:=HY.out.below hw1 (by simp)
 obtain ⟨c0,c1,c2,c3,c4⟩:=hX1.cells5
 have f3:w1.frozen? (qa w.heap.size 3) = false:=hX1.frozen 3
 have hs1:w.heap.size + 2 ≤ w1.heap.size:=by have:=hw1.size;simp at this;omega
 have HR1:Hid (RS (w1.setCell (qa w.heap.size 3) (.slice A' ks.length c')) (fun b => w.heap.size + 2 ≤ b ∧ b < w1.heap.size) 1 A' ks.length (ks.map Value.string)):=
  (hr1.mono (fun b hb => by have:=hb.1;simp at this;exact ⟨by omega,hb.2⟩)).keep (fun p hp => World.cell?_setCell_other _ _ _ _ (by intro e;subst e;have h5:w.heap.size + 2 ≤ w.heap.size:=hp.1;omega))
 have hX2:Hid (Blk (w1.setCell (qa w.heap.size 3) (.slice A' ks.length c')) w.heap.size 25 (nA k num t A' ks.length c' A2 ns.length cc)):=hX1.set_ 3 _
 have hY2:Hid (Blk (w1.setCell (qa w.heap.size 3) (.slice A' ks.length c')) (w.heap.size + 1) 25 Zn):=hY1.far (by simp) _
 have hB2:Hid (Below w.heap.size w (w1.setCell (qa w.heap.size 3) (.slice A' ks.length c'))):=hB1.setCell (p:=(qa w.heap.size 3)) (Nat.le_refl _) _
 have hs2:w.heap.size + 2 ≤ (w1.setCell (qa w.heap.size 3) (.slice A' ks.length c')).heap.size:=by simp;omega
 have HR2:Hid (RS (w1.setCell (qa w.heap.size 3) (.slice A' ks.length c')) (SK (w.heap.size + 2) (w1.setCell (qa w.heap.size 3) (.slice A' ks.length c')) (.slice none 0 0)) 1 A' ks.length (ks.map Value.string)):=
  HR1.out.mono fun b hb => ⟨hb.1,by simp;exact hb.2,by simp [Value.ownBlock]⟩
 clear hX1 hY1 hr1 hw1 hB1 HR1
 have d4:(w1.setCell (qa w.heap.size 3) (.slice A' ks.length c')).cell? (qa w.heap.size 4) = some (.slice A2 ns.length cc):=hX2.out.cell 4
 clear c0 c1 c2
 go_wp2_with fail
 go_loopw [3,13] (fun tv t13 wr => ∃ (i:Nat) (ys:List Value) (Aw:Option Addr) (cw:Nat),i ≤ ns.length ∧ t13 = .int .i64 i ∧ tv = .slice Aw i cw ∧ Hid (wr.ownsRow (w.heap.size + 2) 25 5 (.slice Aw i cw) i ys) ∧ Hid (NdsIn wr (SK (w.heap.size + 2) wr (.slice Aw i cw)) (ns.take i) ys) ∧ Hid (RS wr (SK (w.heap.size + 2) wr (.slice Aw i cw)) 1 A' ks.length (ks.map Value.string)) ∧
   Hid (Blk wr w.heap.size 25 (nA k num t A' ks.length c' A2 ns.length cc)) ∧ Hid (Blk wr (w.heap.size + 1) 25 Zn) ∧ Hid (Below w.heap.size w wr) ∧ w.heap.size + 2 ≤ wr.heap.size)
  (fun _ t13 _ => ns.length - (intOf t13).toNat)
 case atStart => exact ⟨0,[],none,0,by omega,rfl,rfl,World.ownsRow_nil _ _ _ _,NdsIn.nil,HR2,hX2,hY2,hB2,hs2⟩
 case round =>
  clear HR2 hX2 hY2 hB2 hs2 d4 c3 c4 f3
  obtain ⟨i,ys,Aw,cw,hi,rfl,rfl,ho,hn,hr,hx,hy,hb,hs⟩:=hrel
  obtain ⟨wo,rfl⟩:∃ wo:World,wo = wr:=⟨_,rfl⟩
  by_cases hlt:i < ns.length
  ·have hkeep:∀ p:Addr,p.block < B → wo.cell? p = w.cell? p:=fun p hp => hb.out.cell (by omega)
   obtain ⟨ad,n,v0,v1,v2,v3,v4,rfl,hadb,hni,hnd,e0,e1,e2,e3,e4⟩:=(HXS.out.keep hkeep).nd (NdsIs.keep hkeep _ _ HNS.out) hlt
   obtain ⟨x0,x1,x2,x3,x4,x5,x6,x7,x8,rfl,rfl,rfl,rfl,rfl⟩:=hnd.form
   have HNI:=Lib.hid hni
   have HND:=Lib.hid hnd
   have q3:¬ ad.block = wo.heap.size:=by omega
   have q4:¬ (ad.add (i * 5)).block = wo.heap.size:=by rw [block_of_add];omega
   clear hni hnd hkeep
   have hWA:Below wo.heap.size wo (wo.alloc (.cells (nA x0 x1 x2 x3 x4 x5 x6 x7 x8) 25)):=(Below.refl _ _).alloc (Nat.le_refl _) _
   have HWA:=Lib.hid hWA
   go_wp2_with fail
   have HC:=HIH.out i n (nL x0 x1 x2 x3 x4 x5 x6 x7 x8) _ HNI.out (HND.out.below (hWA.mono (by omega))) (by simp;omega)
   refine (HC:Calls _ _ _ _ _).mono ?_;rintro e w2 ⟨c0,c1,c2,c3,c4,c5,c6,c7,c8,rfl,hnew,hw2⟩
   have HNEW:=Lib.hid hnew
   have HB2:Hid (Below wo.heap.size wo w2):=HWA.out.trans (hw2.mono (by simp))
   have HO2:=Lib.hid (own_old ho.out HB2.out)
   have z2:w.heap.size + 2 ≤ w2.heap.size:=by have:=HB2.out.size;omega
   have HS2:Hid (wo.heap.size < w2.heap.size):=by have:=hw2.size;simp at this;show _ < _;omega
   clear HC hnew hw2 hWA e0 e1 e2 e3 e4
   go_wp2_with (at_builtin;refine wpList_pushNd _ rfl _ _ rfl (w.heap.size + 2) _ i ys rfl HO2.out c0 c1 c2 c3 c4 c5 c6 c7 c8 rfl (by omega) z2 ?_;intro v' w3 ho3 hg3 hv3;obtain ⟨Av,cv,rfl⟩:=own_form ho3;have HO3:=Lib.hid ho3;have HG3:=Lib.hid hg3;have HV3:=Lib.hid hv3;clear ho3 hg3 hv3)
   have hown:∀ g,(Value.slice Aw i cw).ownBlock = some g → g < wo.heap.size:=fun g hg => (own_lt ho.out hg).2
   have hown2:∀ g,(Value.slice Aw i cw).ownBlock = some g → g < (wo.alloc (.cells (nA x0 x1 x2 x3 x4 x5 x6 x7 x8) 25)).heap.size:=fun g hg => by have:=hown g hg;simp;omega
   have hown3:∀ g,g < w.heap.size + 2 → some g ≠ (Value.slice Aw i cw).ownBlock:=fun g hg e => by have:=(own_lt ho.out e.symm).1;omega
   have g1:Hid (NdsIn w3 (SK (w.heap.size + 2) w3 (.slice Av (i + 1) cv)) (ns.take (i + 1)) (ys ++ (nL c0 c1 c2 c3 c4 c5 c6 c7 c8))):=by
    show NdsIn _ _ _ _
    rw [take_snoc HNI.out]
    refine NdsIn.app _ _ _ _ (NdsIn.keep (push_keep (v':=.slice Av (i + 1) cv) HB2.out HG3.out) (push_sub HB2.out HG3.out HV3.out) _ _ hn.out) (NdIn.keep (S:=Since _ w2) (push_new_keep (B:=0) HG3.out hown2) (push_new_sub (by simp;omega) HG3.out hown2 HV3.out) _ _ HNEW.out)
   have g2:Hid (RS w3 (SK (w.heap.size + 2) w3 (.slice Av (i + 1) cv)) 1 A' ks.length (ks.map Value.string)):=(hr.out.keep (push_keep (v':=.slice Av (i + 1) cv) HB2.out HG3.out)).mono (push_sub HB2.out HG3.out HV3.out)
   have g3:Hid (Blk w3 w.heap.size 25 #[.int .i64 k,.int .i64 num,.string t,.slice A' ks.length c',.slice (some ad) ns.length cc]):=(hx.out.below HB2.out (by omega)).grown HG3.out (hown3 _ (by omega))
   have g4:Hid (Blk w3 (w.heap.size + 1) 25 Zn):=(hy.out.below HB2.out (by omega)).grown HG3.out (hown3 _ (by omega))
   have g5:Hid (Below w.heap.size w w3):=(hb.out.trans (HB2.out.mono (by omega))).grown HG3.out (by omega) (fun g hg => by have:=(own_lt ho.out hg).1;omega)
   have g6:w.heap.size + 2 ≤ w3.heap.size:=by have:=HG3.out.size;omega
   clear hown hown2 hown3
   go_wp2_with fail
   go_roundw
   case rel => exact ⟨i + 1,_,_,_,by omega,by go_num,rfl,HO3,g1,g2,g3,g4,g5,g6⟩
   case measure => simp [intOf];omega
  ·have hin:i = ns.length:=by omega
   have HIN:=Lib.hid hin
   clear hin
   have f4:wo.frozen? (qa w.heap.size 4) = false:=hx.out.frozen 4
   obtain ⟨c0,c1,c2,c3,c4⟩:=hx.out.cells5
   obtain ⟨d0,d1,d2,d3,d4⟩:=hy.out.cells5
   have e0:wo.frozen? (qa (w.heap.size + 1) 0) = false:=hy.out.frozen 0
   have e1:wo.frozen? (qa (w.heap.size + 1) 1) = false:=hy.out.frozen 1
   have e2:wo.frozen? (qa (w.heap.size + 1) 2) = false:=hy.out.frozen 2
   have e3:wo.frozen? (qa (w.heap.size + 1) 3) = false:=hy.out.frozen 3
   have e4:wo.frozen? (qa (w.heap.size + 1) 4) = false:=hy.out.frozen 4
   go_wp2_with fail
   have hfin:Hid (Blk ((((((wo.setCell (qa w.heap.size 4) (.slice Aw i cw)).setCell (qa (w.heap.size + 1) 0) (.int .i64 k)).setCell (qa (w.heap.size + 1) 1) (.int .i64 num)).setCell (qa (w.heap.size + 1) 2) (.string t)).setCell (qa (w.heap.size + 1) 3) (.slice A' ks.length c')).setCell (qa (w.heap.size + 1) 4) (.slice Aw i cw)) (w.heap.size + 1) 25 (nA k num t A' ks.length c' Aw i cw)):=((((((hy.out.far (by simp) _).set_ 0 _).set_ 1 _).set_ 2 _).set_ 3 _).set_ 4 _)
   have hbel:Hid (Below w.heap.size w ((((((wo.setCell (qa w.heap.size 4) (.slice Aw i cw)).setCell (qa (w.heap.size + 1) 0) (.int .i64 k)).setCell (qa (w.heap.size + 1) 1) (.int .i64 num)).setCell (qa (w.heap.size + 1) 2) (.string t)).setCell (qa (w.heap.size + 1) 3) (.slice A' ks.length c')).setCell (qa (w.heap.size + 1) 4) (.slice Aw i cw))):=(((((hb.out.setCell (p:=(qa w.heap.size 4)) (Nat.le_refl _) _).setCell (p:=(qa (w.heap.size + 1) 0)) (by simp) _).setCell (p:=(qa (w.heap.size + 1) 1)) (by simp) _).setCell (p:=(qa (w.heap.size + 1) 2)) (by simp) _).setCell (p:=(qa (w.heap.size + 1) 3)) (by simp) _).setCell (p:=(qa (w.heap.size + 1) 4)) (by simp) _
   have hkp:∀ p:Addr,SK (w.heap.size + 2) wo (.slice Aw i cw) p.block → (((((((wo.setCell (qa w.heap.size 4) (.slice Aw i cw)).setCell (qa (w.heap.size + 1) 0) (.int .i64 k)).setCell (qa (w.heap.size + 1) 1) (.int .i64 num)).setCell (qa (w.heap.size + 1) 2) (.string t)).setCell (qa (w.heap.size + 1) 3) (.slice A' ks.length c')).setCell (qa (w.heap.size + 1) 4) (.slice Aw i cw))).cell? p = wo.cell? p:=fun p hp => by
    have h1:=hp.1
    have ne:∀ (g o:Nat),g < w.heap.size + 2 → ((qa g o):Addr) ≠ p:=fun g o hg e => by subst e;have h2:w.heap.size + 2 ≤ g:=h1;omega
    rw [World.cell?_setCell_other _ _ _ _ (ne _ _ (by omega)),World.cell?_setCell_other _ _ _ _ (ne _ _ (by omega)),World.cell?_setCell_other _ _ _ _ (ne _ _ (by omega)),World.cell?_setCell_other _ _ _ _ (ne _ _ (by omega)),World.cell?_setCell_other _ _ _ _ (ne _ _ (by omega)),World.cell?_setCell_other _ _ _ _ (ne _ _ (by omega))]
   have hsz':((((((wo.setCell (qa w.heap.size 4) (.slice Aw i cw)).setCell (qa (w.heap.size + 1) 0) (.int .i64 k)).setCell (qa (w.heap.size + 1) 1) (.int .i64 num)).setCell (qa (w.heap.size + 1) 2) (.string t)).setCell (qa (w.heap.size + 1) 3) (.slice A' ks.length c')).setCell (qa (w.heap.size + 1) 4) (.slice Aw i cw)).heap.size = wo.heap.size:=by simp
   have hsub:∀ b,SK (w.heap.size + 2) wo (.slice Aw i cw) b → Since w ((((((wo.setCell (qa w.heap.size 4) (.slice Aw i cw)).setCell (qa (w.heap.size + 1) 0) (.int .i64 k)).setCell (qa (w.heap.size + 1) 1) (.int .i64 num)).setCell (qa (w.heap.size + 1) 2) (.string t)).setCell (qa (w.heap.size + 1) 3) (.slice A' ks.length c')).setCell (qa (w.heap.size + 1) 4) (.slice Aw i cw)) b:=fun b hp => ⟨by have:=hp.1;omega,by rw [hsz'];exact hp.2.1⟩
   have hrow:RS ((((((wo.setCell (qa w.heap.size 4) (.slice Aw i cw)).setCell (qa (w.heap.size + 1) 0) (.int .i64 k)).setCell (qa (w.heap.size + 1) 1) (.int .i64 num)).setCell (qa (w.heap.size + 1) 2) (.string t)).setCell (qa (w.heap.size + 1) 3) (.slice A' ks.length c')).setCell (qa (w.heap.size + 1) 4) (.slice Aw i cw)) (Since w ((((((wo.setCell (qa w.heap.size 4) (.slice Aw i cw)).setCell (qa (w.heap.size + 1) 0) (.int .i64 k)).setCell (qa (w.heap.size + 1) 1) (.int .i64 num)).setCell (qa (w.heap.size + 1) 2) (.string t)).setCell (qa (w.heap.size + 1) 3) (.slice A' ks.length c')).setCell (qa (w.heap.size + 1) 4) (.slice Aw i cw))) 5 Aw i ys:=by
    refine ⟨ho.out.1,fun hn0 => ?_⟩
    obtain ⟨g,cap,hv,hg1,hg2⟩:=ho.out.form hn0
    injection hv with hv1 hv2 hv3
    subst hv1
    refine ⟨_,rfl,⟨by show _ ≤ g;omega,by rw [hsz'];exact hg2⟩,fun j u hu => ?_⟩
    have:=ho.out.cells (g:=g) rfl j u hu
    rw [← this]
    have ne:∀ (g' o:Nat),g' < w.heap.size + 2 → ((qa g' o):Addr) ≠ ((qa g 0):Addr).add j:=fun g' o hg e => by
     have h2:=congrArg Addr.block e
     rw [block_of_add] at h2
     have h3:g' = g:=h2
     omega
    rw [World.cell?_setCell_other _ _ _ _ (ne _ _ (by omega)),World.cell?_setCell_other _ _ _ _ (ne _ _ (by omega)),World.cell?_setCell_other _ _ _ _ (ne _ _ (by omega)),World.cell?_setCell_other _ _ _ _ (ne _ _ (by omega)),World.cell?_setCell_other _ _ _ _ (ne _ _ (by omega)),World.cell?_setCell_other _ _ _ _ (ne _ _ (by omega))]
   have hnd:Hid (NdIn ((((((wo.setCell (qa w.heap.size 4) (.slice Aw i cw)).setCell (qa (w.heap.size + 1) 0) (.int .i64 k)).setCell (qa (w.heap.size + 1) 1) (.int .i64 num)).setCell (qa (w.heap.size + 1) 2) (.string t)).setCell (qa (w.heap.size + 1) 3) (.slice A' ks.length c')).setCell (qa (w.heap.size + 1) 4) (.slice Aw i cw)) (Since w ((((((wo.setCell (qa w.heap.size 4) (.slice Aw i cw)).setCell (qa (w.heap.size + 1) 0) (.int .i64 k)).setCell (qa (w.heap.size + 1) 1) (.int .i64 num)).setCell (qa (w.heap.size + 1) 2) (.string t)).setCell (qa (w.heap.size + 1) 3) (.slice A' ks.length c')).setCell (qa (w.heap.size + 1) 4) (.slice Aw i cw))) (.mk k num t ks ns) (nL k num t A' ks.length c' Aw i cw)):=by
    have ht:=hn.out
    have hin:=HIN.out
    subst hin
    rw [List.take_length] at ht
    show NdIn _ _ _ _
    unfold NdIn
    exact ⟨A',c',Aw,cw,ys,rfl,(hr.out.keep hkp).mono hsub,hrow,NdsIn.keep hkp hsub _ _ ht,HF.out.1,HF.out.2.1,HF.out.2.2.1,HF.out.2.2.2,by unfold maxLen;omega,by unfold maxLen;omega⟩
   have HFIN:=hfin.out
   clear hkp hsz' hsub hrow
   generalize ((((((wo.setCell (qa w.heap.size 4) (.slice Aw i cw)).setCell (qa (w.heap.size + 1) 0) (.int .i64 k)).setCell (qa (w.heap.size + 1) 1) (.int .i64 num)).setCell (qa (w.heap.size + 1) 2) (.string t)).setCell (qa (w.heap.size + 1) 3) (.slice A' ks.length c')).setCell (qa (w.heap.size + 1) 4) (.slice Aw i cw)) = WF at *
   obtain ⟨q0,q1,q2,q3,q4⟩:=HFIN.cells5
   refine bodyPost_ret (v:=.agg (nA k num t A' ks.length c' Aw i cw)) (by simp [results,Tryd.results36,go_sem,q0,q1,q2,q3,q4]) rfl ?_
   exact ⟨_,_,_,_,_,_,_,_,_,rfl,hnd.out,hbel.out⟩
theorem sizeOkL_get:∀ (ns:List Nd) (i:Nat) (n:Nd),ns[i]? = some n → sizeOkL ns → sizeOk n
 | [],i,n,h,_ => by simp at h
 | a :: ns,i,n,h,hs => by
  unfold sizeOkL at hs
  cases i with
  | zero => simp at h;subst h;exact hs.1
  | succ i => exact sizeOkL_get ns i n (by simpa using h) hs.2
theorem copied_any:∀ (m:Nat) (n:Nd),n.count ≤ m → ∀ (B:Nat) (cs:List Value) (w:World),NdIs w B n cs → B ≤ w.heap.size → sizeOk n → CopyC cs.toArray n w:=by
 intro m
 induction m with
 | zero => intro n hm;have:=n.count_pos;omega
 | succ m ih =>
  intro n hm B cs w hn hB hs
  cases n with
  | mk k num t ks ns =>
   unfold NdIs at hn
   obtain ⟨A,ck,A2,cc,xs,rfl,hks,hxs,hns,ik,inn,ht,hkl,hk,hmm⟩:=hn
   unfold sizeOk at hs
   obtain ⟨s1,s2,s3,s4,s5⟩:=hs
   refine copied_step k num t ks ns A A2 ck cc xs w B hks hxs hns ht hkl s4.1 s4.2 ik inn hB ?_
   intro i n cs w' h1 h2 h3
   refine ih n ?_ B cs w' h2 h3 (sizeOkL_get ns i n h1 s5)
   have:=Nd.counts_get ns i n h1
   simp only [Nd.count] at hm;omega
end Go.Proofs.YthbjehbpanhdoaaDoor
