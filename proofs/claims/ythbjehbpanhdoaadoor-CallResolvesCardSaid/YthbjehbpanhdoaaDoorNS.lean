/- Contracts of Go's library at this dump,out of the shelf,in plain words. No condition. -/
import Derived.Shelf.Strings.Builder1
import Derived.Shelf.Strings.Builder2
import Derived.Shelf.Small.Wraps
import Derived.Shelf.Strings.BuilderF
import Derived.Shelf.Strings.BuilderK
import Derived.Shelf.Utf8.RuneCount
import Derived.Shelf.Strings.Builder2Cap
import Derived.Shelf.Strings.Search1
import Derived.Shelf.Strings.Search2
import Derived.Shelf.Strings.Search3
import Derived.Shelf.Strings.Cut
import Derived.Shelf.Strings.Count
import Derived.Shelf.LaysM
import Derived.Shelf.Strings.Shaped
import Derived.Shelf.Strings.Prefix
import Derived.Shelf.Strings.Split
import Derived.Shelf.Strings.Replace
import Derived.Shelf.Strings.SplitShaped
import Derived.Shelf.Unicode.Decode
import Derived.Shelf.Strings.RuneCount
import Derived.Shelf.Unicode.DecodeSlow
import Derived.Shelf.Unicode.DecodeAny
import Derived.Shelf.Strings.BuilderCap
import Derived.Shelf.Slices.Turned
import Derived.Ground.Names2Prog
import Derived.Shelf.Slices.Clone
import Derived.Test.YthbjehbpanhdoaaDoorProg
namespace Go.Proofs
open Go.Shelf
def Tryd.lays103_ren:Go.Shelf.Ren:=⟨fun | 103 => 23 | 210 => 37 | 206 => 52 | n => n,fun | 9 => 9 | 4 => 4 | 24 => 53 | 3 => 3 | n => n,fun | n => n⟩
theorem Tryd.lays103:Go.Proofs.Lays.n103 Tryd.prog Tryd.lays103_ren:={
 mixed:=by kernel_rfl
 f103:=Tryd.func23.trans (congrArg some (by kernel_rfl))
 f206:=Tryd.func52.trans (congrArg some (by kernel_rfl))
 f210:=Tryd.func37.trans (congrArg some (by kernel_rfl))
 t3:=Tryd.underlying3
 a3:=Tryd.isAgg3
 z3:=Tryd.sizeOf3
 v3:=Tryd.zeroValue3
 t4:=Tryd.underlying4
 a4:=Tryd.isAgg4
 z4:=Tryd.sizeOf4
 v4:=Tryd.zeroValue4
 t9:=Tryd.underlying9
 a9:=Tryd.isAgg9
 z9:=Tryd.sizeOf9
 v9:=Tryd.zeroValue9
 t24:=Tryd.underlying53
 a24:=Tryd.isAgg53
 z24:=Tryd.sizeOf53
 v24:=Tryd.zeroValue53 }
open Go.RowKit in
theorem Tryd.strings_CutPrefix (s p:ByteArray) (w:World) :
  Calls Tryd.prog 23 #[.string s,.string p] w fun e w' => e = .returned (.tuple #[.string ⟨(Lib.trimPrefix s.data.toList p.data.toList).toArray⟩,.bool (Lib.hasPrefix s.data.toList p.data.toList)]) ∧ w' = w:=Any.strings_CutPrefix Tryd.lays103 s p w
def Tryd.lays145_ren:Go.Shelf.Ren:=⟨fun | 145 => 70 | 220 => 81 | 219 => 86 | 217 => 95 | 225 => 96 | 224 => 97 | 267 => 98 | 266 => 104 | 314 => 105 | n => n,fun | 9 => 9 | 4 => 4 | 59 => 98 | 3 => 3 | 5 => 5 | 46 => 90 | 146 => 126 | 51 => 125 | n => n,fun | 1 => 0 | n => n⟩
theorem Tryd.lays145:Go.Proofs.Lays.n145 Tryd.prog Tryd.lays145_ren:={
 mixed:=by kernel_rfl
 f145:=Tryd.func70.trans (congrArg some (by kernel_rfl))
 f217:=Tryd.func95.trans (congrArg some (by kernel_rfl))
 f219:=Tryd.func86.trans (congrArg some (by kernel_rfl))
 f220:=Tryd.func81.trans (congrArg some (by kernel_rfl))
 f224:=Tryd.func97.trans (congrArg some (by kernel_rfl))
 f225:=Tryd.func96.trans (congrArg some (by kernel_rfl))
 f266:=Tryd.func104.trans (congrArg some (by kernel_rfl))
 f267:=Tryd.func98.trans (congrArg some (by kernel_rfl))
 f314:=Tryd.func105.trans (congrArg some (by kernel_rfl))
 t3:=Tryd.underlying3
 a3:=Tryd.isAgg3
 z3:=Tryd.sizeOf3
 v3:=Tryd.zeroValue3
 t4:=Tryd.underlying4
 a4:=Tryd.isAgg4
 z4:=Tryd.sizeOf4
 v4:=Tryd.zeroValue4
 t5:=Tryd.underlying5
 a5:=Tryd.isAgg5
 z5:=Tryd.sizeOf5
 v5:=Tryd.zeroValue5
 t9:=Tryd.underlying9
 a9:=Tryd.isAgg9
 z9:=Tryd.sizeOf9
 v9:=Tryd.zeroValue9
 t46:=Tryd.underlying90
 a46:=Tryd.isAgg90
 z46:=Tryd.sizeOf90
 v46:=Tryd.zeroValue90
 t51:=Tryd.underlying125
 a51:=Tryd.isAgg125
 z51:=Tryd.sizeOf125
 v51:=Tryd.zeroValue125
 t59:=Tryd.underlying98
 a59:=Tryd.isAgg98
 z59:=Tryd.sizeOf98
 v59:=Tryd.zeroValue98
 t146:=Tryd.underlying126
 a146:=Tryd.isAgg126
 z146:=Tryd.sizeOf126
 v146:=Tryd.zeroValue126
 g1:=by kernel_rfl }
open Go.RowKit Go.Lib in
theorem Tryd.strings_Cut (s sep:ByteArray) (m:Int) (w:World) (hs:s.size < 4294967281) (hm:w.cell? ⟨0,0,none⟩ = some (.int .i64 m)) :
  Calls Tryd.prog 70 #[.string s,.string sep] w fun e w' => e = .returned (.tuple #[.string ⟨(Lib.cut s.data.toList sep.data.toList).1.toArray⟩,.string ⟨(Lib.cut s.data.toList sep.data.toList).2.1.toArray⟩,.bool (Lib.cut s.data.toList sep.data.toList).2.2]) ∧ ∃ n,w' = w.drewN n:=Any.strings_Cut Tryd.lays145 s sep m w hs hm
def Tryd.lays155_ren:Go.Shelf.Ren:=⟨fun | 155 => 71 | 154 => 82 | 138 => 87 | 165 => 88 | 143 => 89 | 166 => 90 | 197 => 91 | 169 => 92 | 195 => 99 | 218 => 100 | 240 => 101 | 241 => 102 | 219 => 86 | 260 => 103 | 276 => 106 | 277 => 107 | 217 => 95 | 225 => 96 | 224 => 97 | 267 => 98 | 266 => 104 | 314 => 105 | n => n,fun | 9 => 9 | 3 => 3 | 4 => 4 | 72 => 112 | 0 => 0 | 76 => 116 | 105 => 118 | 21 => 21 | 5 => 5 | 70 => 110 | 20 => 20 | 37 => 52 | 75 => 115 | 127 => 124 | 164 => 128 | 46 => 90 | 119 => 131 | 139 => 134 | 138 => 133 | 146 => 126 | 51 => 125 | 80 => 93 | n => n,fun | 1 => 0 | 3 => 1 | 4 => 2 | n => n⟩
theorem Tryd.lays155:Go.Proofs.Lays.n155 Tryd.prog Tryd.lays155_ren:={
 mixed:=by kernel_rfl
 f138:=Tryd.func87.trans (congrArg some (by kernel_rfl))
 f143:=Tryd.func89.trans (congrArg some (by kernel_rfl))
 f154:=Tryd.func82.trans (congrArg some (by kernel_rfl))
 f155:=Tryd.func71.trans (congrArg some (by kernel_rfl))
 f165:=Tryd.func88.trans (congrArg some (by kernel_rfl))
 f166:=Tryd.func90.trans (congrArg some (by kernel_rfl))
 f169:=Tryd.func92.trans (congrArg some (by kernel_rfl))
 f195:=Tryd.func99.trans (congrArg some (by kernel_rfl))
 f197:=Tryd.func91.trans (congrArg some (by kernel_rfl))
 f217:=Tryd.func95.trans (congrArg some (by kernel_rfl))
 f218:=Tryd.func100.trans (congrArg some (by kernel_rfl))
 f219:=Tryd.func86.trans (congrArg some (by kernel_rfl))
 f224:=Tryd.func97.trans (congrArg some (by kernel_rfl))
 f225:=Tryd.func96.trans (congrArg some (by kernel_rfl))
 f240:=Tryd.func101.trans (congrArg some (by kernel_rfl))
 f241:=Tryd.func102.trans (congrArg some (by kernel_rfl))
 f260:=Tryd.func103.trans (congrArg some (by kernel_rfl))
 f266:=Tryd.func104.trans (congrArg some (by kernel_rfl))
 f267:=Tryd.func98.trans (congrArg some (by kernel_rfl))
 f276:=Tryd.func106.trans (congrArg some (by kernel_rfl))
 f277:=Tryd.func107.trans (congrArg some (by kernel_rfl))
 f314:=Tryd.func105.trans (congrArg some (by kernel_rfl))
 t0:=Tryd.underlying0
 a0:=Tryd.isAgg0
 z0:=Tryd.sizeOf0
 v0:=Tryd.zeroValue0
 t3:=Tryd.underlying3
 a3:=Tryd.isAgg3
 z3:=Tryd.sizeOf3
 v3:=Tryd.zeroValue3
 t4:=Tryd.underlying4
 a4:=Tryd.isAgg4
 z4:=Tryd.sizeOf4
 v4:=Tryd.zeroValue4
 t5:=Tryd.underlying5
 a5:=Tryd.isAgg5
 z5:=Tryd.sizeOf5
 v5:=Tryd.zeroValue5
 t9:=Tryd.underlying9
 a9:=Tryd.isAgg9
 z9:=Tryd.sizeOf9
 v9:=Tryd.zeroValue9
 t20:=Tryd.underlying20
 a20:=Tryd.isAgg20
 z20:=Tryd.sizeOf20
 v20:=Tryd.zeroValue20
 t21:=Tryd.underlying21
 a21:=Tryd.isAgg21
 z21:=Tryd.sizeOf21
 v21:=Tryd.zeroValue21
 t37:=Tryd.underlying52
 a37:=Tryd.isAgg52
 z37:=Tryd.sizeOf52
 v37:=Tryd.zeroValue52
 t46:=Tryd.underlying90
 a46:=Tryd.isAgg90
 z46:=Tryd.sizeOf90
 v46:=Tryd.zeroValue90
 t51:=Tryd.underlying125
 a51:=Tryd.isAgg125
 z51:=Tryd.sizeOf125
 v51:=Tryd.zeroValue125
 t70:=Tryd.underlying110
 a70:=Tryd.isAgg110
 z70:=Tryd.sizeOf110
 v70:=Tryd.zeroValue110
 t72:=Tryd.underlying112
 a72:=Tryd.isAgg112
 z72:=Tryd.sizeOf112
 v72:=Tryd.zeroValue112
 t75:=Tryd.underlying115
 a75:=Tryd.isAgg115
 z75:=Tryd.sizeOf115
 v75:=Tryd.zeroValue115
 t76:=Tryd.underlying116
 a76:=Tryd.isAgg116
 z76:=Tryd.sizeOf116
 v76:=Tryd.zeroValue116
 t105:=Tryd.underlying118
 a105:=Tryd.isAgg118
 z105:=Tryd.sizeOf118
 v105:=Tryd.zeroValue118
 t119:=Tryd.underlying131
 a119:=Tryd.isAgg131
 z119:=Tryd.sizeOf131
 t127:=Tryd.underlying124
 a127:=Tryd.isAgg124
 z127:=Tryd.sizeOf124
 v127:=Tryd.zeroValue124
 t138:=Tryd.underlying133
 a138:=Tryd.isAgg133
 z138:=Tryd.sizeOf133
 v138:=Tryd.zeroValue133
 t139:=Tryd.underlying134
 a139:=Tryd.isAgg134
 z139:=Tryd.sizeOf134
 v139:=Tryd.zeroValue134
 t146:=Tryd.underlying126
 a146:=Tryd.isAgg126
 z146:=Tryd.sizeOf126
 v146:=Tryd.zeroValue126
 t164:=Tryd.underlying128
 a164:=Tryd.isAgg128
 z164:=Tryd.sizeOf128
 v164:=Tryd.zeroValue128
 g1:=by kernel_rfl
 g3:=by kernel_rfl
 g4:=by kernel_rfl }
theorem Tryd.Builder_Extra_155:Builder.Extra Tryd.prog Tryd.lays155_ren:={
 sizeBuilder:=by kernel_rfl
 liesBuilder:=by kernel_rfl
 t5:=Tryd.underlying5
 a5:=Tryd.isAgg5
 z5:=Tryd.sizeOf5
 v5:=Tryd.zeroValue5
 infoByte:=by kernel_rfl
 cellsByte:=by kernel_rfl
 sizeByte:=by kernel_rfl
 neB5:=by decide }
open Go.RowKit Go.Lib in
theorem Tryd.strings_ReplaceAll (s old new:ByteArray) (m:Int) (w:World) (hs:s.size < 4294967281) (hm:w.cell? ⟨0,0,none⟩ = some (.int .i64 m)) (h1:1 ≤ old.size) (hlen:s.size + Lib.countB s old * new.size ≤ 140737488355328) :
  Calls Tryd.prog 71 #[.string s,.string old,.string new] w fun e w' =>
   e = .returned (.string ⟨(Lib.replaceAll s.data.toList old.data.toList new.data.toList).toArray⟩) ∧ Below w.heap.size w w':=Any.strings_ReplaceAll Tryd.lays155 Tryd.Builder_Extra_155 s old new m w hs hm h1 hlen
def Tryd.laysM155_ren:Go.Shelf.Ren:=⟨fun | 155 => 71 | 154 => 82 | 138 => 87 | 165 => 88 | 143 => 89 | 166 => 90 | 197 => 91 | 169 => 92 | 195 => 99 | 218 => 100 | 240 => 101 | 241 => 102 | 219 => 86 | 260 => 103 | 276 => 106 | 277 => 107 | 217 => 95 | 225 => 96 | 224 => 97 | 267 => 98 | 266 => 104 | 314 => 105 | n => n,fun | 9 => 9 | 3 => 3 | 4 => 4 | 72 => 112 | 0 => 0 | 76 => 116 | 105 => 118 | 21 => 21 | 5 => 5 | 70 => 110 | 20 => 20 | 37 => 52 | 75 => 115 | 127 => 124 | 164 => 128 | 46 => 90 | 119 => 131 | 139 => 134 | 138 => 133 | 146 => 126 | 51 => 125 | 80 => 93 | n => n,fun | 1 => 0 | 3 => 1 | 4 => 2 | n => n⟩
theorem Tryd.laysM155:Go.Proofs.LaysM.n155 Tryd.prog Tryd.laysM155_ren:={
 mixed:=by kernel_rfl
 f138:=Tryd.func87.trans (congrArg some (by kernel_rfl))
 f143:=Tryd.func89.trans (congrArg some (by kernel_rfl))
 f154:=Tryd.func82.trans (congrArg some (by kernel_rfl))
 f155:=Tryd.func71.trans (congrArg some (by kernel_rfl))
 f165:=Tryd.func88.trans (congrArg some (by kernel_rfl))
 f166:=Tryd.func90.trans (congrArg some (by kernel_rfl))
 f169:=Tryd.func92.trans (congrArg some (by kernel_rfl))
 f195:=Tryd.func99.trans (congrArg some (by kernel_rfl))
 f197:=Tryd.func91.trans (congrArg some (by kernel_rfl))
 f217:=Tryd.func95.trans (congrArg some (by kernel_rfl))
 f218:=Tryd.func100.trans (congrArg some (by kernel_rfl))
 f219:=Tryd.func86.trans (congrArg some (by kernel_rfl))
 f224:=Tryd.func97.trans (congrArg some (by kernel_rfl))
 f225:=Tryd.func96.trans (congrArg some (by kernel_rfl))
 f240:=Tryd.func101.trans (congrArg some (by kernel_rfl))
 f241:=Tryd.func102.trans (congrArg some (by kernel_rfl))
 f260:=Tryd.func103.trans (congrArg some (by kernel_rfl))
 f266:=Tryd.func104.trans (congrArg some (by kernel_rfl))
 f267:=Tryd.func98.trans (congrArg some (by kernel_rfl))
 f276:=Tryd.func106.trans (congrArg some (by kernel_rfl))
 f277:=Tryd.func107.trans (congrArg some (by kernel_rfl))
 f314:=Tryd.func105.trans (congrArg some (by kernel_rfl))
 t0:=Tryd.underlying0
 a0:=Tryd.isAgg0
 z0:=Tryd.sizeOf0
 v0:=Tryd.zeroValue0
 t3:=Tryd.underlying3
 a3:=Tryd.isAgg3
 z3:=Tryd.sizeOf3
 v3:=Tryd.zeroValue3
 t4:=Tryd.underlying4
 a4:=Tryd.isAgg4
 z4:=Tryd.sizeOf4
 v4:=Tryd.zeroValue4
 t5:=Tryd.underlying5
 a5:=Tryd.isAgg5
 z5:=Tryd.sizeOf5
 v5:=Tryd.zeroValue5
 t9:=Tryd.underlying9
 a9:=Tryd.isAgg9
 z9:=Tryd.sizeOf9
 v9:=Tryd.zeroValue9
 t20:=Tryd.underlying20
 a20:=Tryd.isAgg20
 z20:=Tryd.sizeOf20
 v20:=Tryd.zeroValue20
 t21:=Tryd.underlying21
 a21:=Tryd.isAgg21
 z21:=Tryd.sizeOf21
 v21:=Tryd.zeroValue21
 t37:=Tryd.underlying52
 a37:=Tryd.isAgg52
 z37:=Tryd.sizeOf52
 v37:=Tryd.zeroValue52
 t46:=Tryd.underlying90
 a46:=Tryd.isAgg90
 z46:=Tryd.sizeOf90
 v46:=Tryd.zeroValue90
 t51:=Tryd.underlying125
 a51:=Tryd.isAgg125
 z51:=Tryd.sizeOf125
 v51:=Tryd.zeroValue125
 t70:=Tryd.underlying110
 a70:=Tryd.isAgg110
 z70:=Tryd.sizeOf110
 v70:=Tryd.zeroValue110
 t72:=Tryd.underlying112
 a72:=Tryd.isAgg112
 z72:=Tryd.sizeOf112
 v72:=Tryd.zeroValue112
 t75:=Tryd.underlying115
 a75:=Tryd.isAgg115
 z75:=Tryd.sizeOf115
 v75:=Tryd.zeroValue115
 t76:=Tryd.underlying116
 a76:=Tryd.isAgg116
 z76:=Tryd.sizeOf116
 v76:=Tryd.zeroValue116
 t105:=Tryd.underlying118
 a105:=Tryd.isAgg118
 z105:=Tryd.sizeOf118
 v105:=Tryd.zeroValue118
 t119:=Tryd.underlying131
 a119:=Tryd.isAgg131
 z119:=Tryd.sizeOf131
 t127:=Tryd.underlying124
 a127:=Tryd.isAgg124
 z127:=Tryd.sizeOf124
 v127:=Tryd.zeroValue124
 t138:=Tryd.underlying133
 a138:=Tryd.isAgg133
 z138:=Tryd.sizeOf133
 v138:=Tryd.zeroValue133
 t139:=Tryd.underlying134
 a139:=Tryd.isAgg134
 z139:=Tryd.sizeOf134
 v139:=Tryd.zeroValue134
 t146:=Tryd.underlying126
 a146:=Tryd.isAgg126
 z146:=Tryd.sizeOf126
 v146:=Tryd.zeroValue126
 t164:=Tryd.underlying128
 a164:=Tryd.isAgg128
 z164:=Tryd.sizeOf128
 v164:=Tryd.zeroValue128
 g1:=by kernel_rfl
 g3:=by kernel_rfl
 g4:=by kernel_rfl
 t80:=Tryd.underlying93
 a80:=Tryd.isAgg93
 z80:=Tryd.sizeOf93
 v80:=Tryd.zeroValue93
 i0:=by kernel_rfl
 i3:=by kernel_rfl
 i4:=by kernel_rfl
 i5:=by kernel_rfl
 i9:=by kernel_rfl
 i20:=by kernel_rfl
 i21:=by kernel_rfl
 i37:=by kernel_rfl
 i46:=by kernel_rfl
 i51:=by kernel_rfl
 i70:=by kernel_rfl
 i72:=by kernel_rfl
 i75:=by kernel_rfl
 i76:=by kernel_rfl
 i80:=by kernel_rfl
 i105:=by kernel_rfl
 i127:=by kernel_rfl
 i138:=by kernel_rfl
 i139:=by kernel_rfl
 i146:=by kernel_rfl
 i164:=by kernel_rfl
 m1:=by kernel_rfl
 s1_3:=fun w h => Go.Proofs.cell_of_shapedOpen_int (zero:=#[.int .i64 0]) (t:=3) h (of_decide_eq_true (by kernel_rfl)) (by kernel_rfl) rfl (by kernel_rfl) (by kernel_rfl) Tryd.underlying3
 m3:=by kernel_rfl
 m4:=by kernel_rfl }
def Tryd.laysNm216_ren:Go.Shelf.Ren:=⟨fun | 16 => 51 | n => n,fun | 24 => 22 | 9 => 9 | 4 => 4 | n => n,fun | n => n⟩
theorem Tryd.laysNm216:Go.Proofs.Lays2.n16 Tryd.prog Tryd.laysNm216_ren:={
 mixed:=by kernel_rfl
 f16:=Tryd.func51.trans (congrArg some (by kernel_rfl))
 t4:=Tryd.underlying4
 a4:=Tryd.isAgg4
 z4:=Tryd.sizeOf4
 v4:=Tryd.zeroValue4
 t9:=Tryd.underlying9
 a9:=Tryd.isAgg9
 z9:=Tryd.sizeOf9
 v9:=Tryd.zeroValue9
 t24:=Tryd.underlying22
 a24:=Tryd.isAgg22
 z24:=Tryd.sizeOf22
 v24:=Tryd.zeroValue22
 i9:=by kernel_rfl }
open Go.RowKit Go.Lib in
theorem Tryd.slices_Clone_string (b off n c:Nat) (zs:List ByteArray) (w:World) (hz:n ≤ zs.length) (hbig:n * 16 ≤ 140737488355328) (hc:∀ j,j < zs.length → w.cell? ⟨b,off + j,none⟩ = some (.string (zs.getD j ByteArray.empty))) :
  Calls Tryd.prog 51 #[.slice (some ⟨b,off,none⟩) n c] w fun e w' => ∃ v',e = .returned v' ∧ w'.ownsRow w.heap.size 9 1 v' n ((zs.take n).map (Value.string)) ∧ v' ≠ .slice none 0 0 ∧ Below w.heap.size w w':=Any.slices_Clone_string Tryd.laysNm216 b off n c zs w hz hbig hc
open Go.RowKit Go.Lib in
theorem Tryd.slices_Clone_string_nil (n c:Nat) (w:World) :
  Calls Tryd.prog 51 #[.slice none n c] w fun e w' => e = .returned (.slice none 0 0) ∧ w' = w:=Any.slices_Clone_string_nil Tryd.laysNm216 n c w
open Go.RowKit Go.Lib in
theorem Tryd.slices_Clone_string_zero (a:Addr) (c:Nat) (w:World) :
  Calls Tryd.prog 51 #[.slice (some a) 0 c] w fun e w' => ∃ v',e = .returned v' ∧ w'.ownsRow w.heap.size 9 1 v' 0 [] ∧ v' ≠ .slice none 0 0 ∧ Below w.heap.size w w':=Any.slices_Clone_string_zero Tryd.laysNm216 a c w
end Go.Proofs
