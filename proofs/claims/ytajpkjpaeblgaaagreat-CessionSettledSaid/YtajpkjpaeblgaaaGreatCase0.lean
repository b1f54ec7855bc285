/-
  Texts of the proof, one after the other.
-/
import Derived.Shelf.SlSortCmp.WholeK
import Derived.Shelf.SlSortCmp.NoneTotal
import Derived.Ground.SlsfProg
import Derived.Shelf.Small.Bits
import Derived.Shelf.Small.Wraps
import Derived.Shelf.Strconv.Itoa0
import Derived.Shelf.Sort.Plain
import Derived.Shelf.Bits.Mul64
import Derived.Ground.Names2Prog
import Derived.Shelf.Slices.CompactI
import Derived.Shelf.Slices.SearchI
import Derived.Shelf.Slices.Cells
import Derived.Shelf.Slices.In.SortNone
import Derived.Shelf.SlSortCmp.Insertion
import Derived.Shelf.SlSortCmp.InsertionK
import Derived.Shelf.SlSortCmp.SiftDownK
import Derived.Shelf.SlSortCmp.HeapSortK
import Derived.Shelf.SlSortCmp.MedianK
import Derived.Shelf.SlSortCmp.PivotK
import Derived.Shelf.SlSortCmp.ReverseRangeK
import Derived.Shelf.SlSortCmp.PartialInsertionK
import Derived.Shelf.SlSortCmp.PartitionEqualK
import Derived.Shelf.SlSortCmp.PartitionK
import Derived.Shelf.SlSortCmp.PdqK
import Derived.Shelf.SlSortCmp.SiftDown1
import Derived.Shelf.SlSortCmp.HeapSort1
import Derived.Shelf.SlSortCmp.Insertion1
import Derived.Shelf.SlSortCmp.Median1
import Derived.Shelf.SlSortCmp.Pivot1
import Derived.Shelf.SlSortCmp.ReverseRange1
import Derived.Shelf.SlSortCmp.PartialInsertion1
import Derived.Shelf.SlSortCmp.PartitionEqual1
import Derived.Shelf.SlSortCmp.Partition1
import Derived.Shelf.SlSortCmp.Pdq1
import Derived.Shelf.SlSortCmp.Whole1
import Derived.Test.YtajpkjpaeblgaaaGreatProg
namespace Go.Proofs
open Go.Shelf
def Tryz.lays125_ren:Go.Shelf.Ren:=⟨fun|125=>120|128=>168|129=>169|n=>n,fun|46=>204|3=>3|51=>54|53=>217|4=>4|5=>5|9=>9|n=>n,fun|n=>n⟩
theorem Tryz.lays125:Go.Proofs.Lays.n125 Tryz.prog Tryz.lays125_ren:={
 mixed:=by kernel_rfl
 f125:=Tryz.func120.trans (congrArg some (by kernel_rfl))
 f128:=Tryz.func168.trans (congrArg some (by kernel_rfl))
 f129:=Tryz.func169.trans (congrArg some (by kernel_rfl))
 t3:=Tryz.underlying3
 a3:=Tryz.isAgg3
 z3:=Tryz.sizeOf3
 v3:=Tryz.zeroValue3
 t4:=Tryz.underlying4
 a4:=Tryz.isAgg4
 z4:=Tryz.sizeOf4
 v4:=Tryz.zeroValue4
 t5:=Tryz.underlying5
 a5:=Tryz.isAgg5
 z5:=Tryz.sizeOf5
 v5:=Tryz.zeroValue5
 t9:=Tryz.underlying9
 a9:=Tryz.isAgg9
 z9:=Tryz.sizeOf9
 v9:=Tryz.zeroValue9
 t46:=Tryz.underlying204
 a46:=Tryz.isAgg204
 z46:=Tryz.sizeOf204
 v46:=Tryz.zeroValue204
 t51:=Tryz.underlying54
 a51:=Tryz.isAgg54
 z51:=Tryz.sizeOf54
 v51:=Tryz.zeroValue54
 t53:=Tryz.underlying217
 a53:=Tryz.isAgg217
 z53:=Tryz.sizeOf217
 v53:=Tryz.zeroValue217}
theorem Tryz.bits_Len (x:Int) (w:World) (h0:0≤x) (h1:x≤18446744073709551615):
  Calls Tryz.prog 120 #[.int .u64 x] w fun e w'=>e= .returned (.int .i64 (Lib.bitLen x.toNat))∧w'=w:=Any.bits_Len Tryz.lays125 x w h0 h1
def Tryz.lays134_ren:Go.Shelf.Ren:=⟨fun|134=>173|129=>169|n=>n,fun|53=>217|3=>3|4=>4|46=>204|5=>5|9=>9|n=>n,fun|n=>n⟩
theorem Tryz.lays134:Go.Proofs.Lays.n134 Tryz.prog Tryz.lays134_ren:={
 mixed:=by kernel_rfl
 f129:=Tryz.func169.trans (congrArg some (by kernel_rfl))
 f134:=Tryz.func173.trans (congrArg some (by kernel_rfl))
 t3:=Tryz.underlying3
 a3:=Tryz.isAgg3
 z3:=Tryz.sizeOf3
 v3:=Tryz.zeroValue3
 t4:=Tryz.underlying4
 a4:=Tryz.isAgg4
 z4:=Tryz.sizeOf4
 v4:=Tryz.zeroValue4
 t5:=Tryz.underlying5
 a5:=Tryz.isAgg5
 z5:=Tryz.sizeOf5
 v5:=Tryz.zeroValue5
 t9:=Tryz.underlying9
 a9:=Tryz.isAgg9
 z9:=Tryz.sizeOf9
 v9:=Tryz.zeroValue9
 t46:=Tryz.underlying204
 a46:=Tryz.isAgg204
 z46:=Tryz.sizeOf204
 v46:=Tryz.zeroValue204
 t53:=Tryz.underlying217
 a53:=Tryz.isAgg217
 z53:=Tryz.sizeOf217
 v53:=Tryz.zeroValue217}
theorem Tryz.bits_LeadingZeros64 (x:Int) (w:World) (h0:0≤x) (h1:x≤18446744073709551615):
  Calls Tryz.prog 173 #[.int .u64 x] w fun e w'=>e= .returned (.int .i64 (64 - (Lib.bitLen x.toNat:Int)))∧w'=w:=Any.bits_LeadingZeros64 Tryz.lays134 x w h0 h1
def Tryz.lays215_ren:Go.Shelf.Ren:=⟨fun|215=>121|n=>n,fun|3=>3|4=>4|n=>n,fun|n=>n⟩
open Go.RowKit in
def Tryz.lays122_ren:Go.Shelf.Ren:=⟨fun|122=>77|215=>121|n=>n,fun|3=>3|4=>4|n=>n,fun|n=>n⟩
theorem Tryz.lays122:Go.Proofs.Lays.n122 Tryz.prog Tryz.lays122_ren:={
 mixed:=by kernel_rfl
 f122:=Tryz.func77.trans (congrArg some (by kernel_rfl))
 f215:=Tryz.func121.trans (congrArg some (by kernel_rfl))
 t3:=Tryz.underlying3
 a3:=Tryz.isAgg3
 z3:=Tryz.sizeOf3
 v3:=Tryz.zeroValue3
 t4:=Tryz.underlying4
 a4:=Tryz.isAgg4
 z4:=Tryz.sizeOf4
 v4:=Tryz.zeroValue4}
open Go.RowKit in
theorem Tryz.cmp_Compare_int (x y:Int) (w:World):
  Calls Tryz.prog 77 #[.int .i64 x,.int .i64 y] w fun e w'=>e= .returned (.int .i64 (Lib.compareInt x y))∧w'=w:=Any.cmp_Compare_int Tryz.lays122 x y w
def Tryz.lays189_ren:Go.Shelf.Ren:=⟨fun|189=>114|125=>120|257=>157|128=>168|129=>169|294=>209|295=>210|296=>211|297=>212|298=>213|299=>214|216=>215|300=>216|301=>217|328=>248|329=>227|330=>228|331=>249|332=>250|215=>121|343=>261|n=>n,fun|28=>22|3=>3|46=>204|0=>0|51=>54|53=>217|4=>4|183=>250|182=>249|131=>254|5=>5|9=>9|218=>295|222=>299|228=>317|229=>78|n=>n,fun|n=>n⟩
theorem Tryz.lays189:Go.Proofs.Lays.n189 Tryz.prog Tryz.lays189_ren:={
 mixed:=by kernel_rfl
 f125:=Tryz.func120.trans (congrArg some (by kernel_rfl))
 f128:=Tryz.func168.trans (congrArg some (by kernel_rfl))
 f129:=Tryz.func169.trans (congrArg some (by kernel_rfl))
 f189:=Tryz.func114.trans (congrArg some (by kernel_rfl))
 f215:=Tryz.func121.trans (congrArg some (by kernel_rfl))
 f216:=Tryz.func215.trans (congrArg some (by kernel_rfl))
 f257:=Tryz.func157.trans (congrArg some (by kernel_rfl))
 f294:=Tryz.func209.trans (congrArg some (by kernel_rfl))
 f295:=Tryz.func210.trans (congrArg some (by kernel_rfl))
 f296:=Tryz.func211.trans (congrArg some (by kernel_rfl))
 f297:=Tryz.func212.trans (congrArg some (by kernel_rfl))
 f298:=Tryz.func213.trans (congrArg some (by kernel_rfl))
 f299:=Tryz.func214.trans (congrArg some (by kernel_rfl))
 f300:=Tryz.func216.trans (congrArg some (by kernel_rfl))
 f301:=Tryz.func217.trans (congrArg some (by kernel_rfl))
 f328:=Tryz.func248.trans (congrArg some (by kernel_rfl))
 f329:=Tryz.func227.trans (congrArg some (by kernel_rfl))
 f330:=Tryz.func228.trans (congrArg some (by kernel_rfl))
 f331:=Tryz.func249.trans (congrArg some (by kernel_rfl))
 f332:=Tryz.func250.trans (congrArg some (by kernel_rfl))
 f343:=Tryz.func261.trans (congrArg some (by kernel_rfl))
 t0:=Tryz.underlying0
 a0:=Tryz.isAgg0
 z0:=Tryz.sizeOf0
 v0:=Tryz.zeroValue0
 t3:=Tryz.underlying3
 a3:=Tryz.isAgg3
 z3:=Tryz.sizeOf3
 v3:=Tryz.zeroValue3
 t4:=Tryz.underlying4
 a4:=Tryz.isAgg4
 z4:=Tryz.sizeOf4
 v4:=Tryz.zeroValue4
 t5:=Tryz.underlying5
 a5:=Tryz.isAgg5
 z5:=Tryz.sizeOf5
 v5:=Tryz.zeroValue5
 t9:=Tryz.underlying9
 a9:=Tryz.isAgg9
 z9:=Tryz.sizeOf9
 v9:=Tryz.zeroValue9
 t28:=Tryz.underlying22
 a28:=Tryz.isAgg22
 z28:=Tryz.sizeOf22
 v28:=Tryz.zeroValue22
 t46:=Tryz.underlying204
 a46:=Tryz.isAgg204
 z46:=Tryz.sizeOf204
 v46:=Tryz.zeroValue204
 t51:=Tryz.underlying54
 a51:=Tryz.isAgg54
 z51:=Tryz.sizeOf54
 v51:=Tryz.zeroValue54
 t53:=Tryz.underlying217
 a53:=Tryz.isAgg217
 z53:=Tryz.sizeOf217
 v53:=Tryz.zeroValue217
 t131:=Tryz.underlying254
 a131:=Tryz.isAgg254
 z131:=Tryz.sizeOf254
 v131:=Tryz.zeroValue254
 t182:=Tryz.underlying249
 a182:=Tryz.isAgg249
 z182:=Tryz.sizeOf249
 v182:=Tryz.zeroValue249
 t183:=Tryz.underlying250
 a183:=Tryz.isAgg250
 z183:=Tryz.sizeOf250
 v183:=Tryz.zeroValue250
 t218:=Tryz.underlying295
 a218:=Tryz.isAgg295
 z218:=Tryz.sizeOf295
 v218:=Tryz.zeroValue295
 t222:=Tryz.underlying299
 a222:=Tryz.isAgg299
 z222:=Tryz.sizeOf299
 v222:=Tryz.zeroValue299
 t228:=Tryz.underlying317
 a228:=Tryz.isAgg317
 z228:=Tryz.sizeOf317
 v228:=Tryz.zeroValue317
 t229:=Tryz.underlying78
 a229:=Tryz.isAgg78
 z229:=Tryz.sizeOf78
 v229:=Tryz.zeroValue78}
open Go.Sort Go.RowKit in
theorem Tryz.slices_Sort_int (blk off cap:Nat) (zs:List Int) (w:World) (hH:Holds (Value.int .i64) w blk off zs.toArray) (hblk:blk<w.heap.size) (hsz:zs.length<4611686018427387904):
  Calls Tryz.prog 114 #[.slice (some ⟨blk,off,none⟩) zs.length cap] w fun e w'=>
   e= .returned (.tuple #[])∧∃ n os,w'=grow (putRow (Value.int .i64) (Sort.ahead w n) blk off (zs.mergeSort fun x y=>decide (x≤y)).toArray) os:=Any.slices_Sort_int Tryz.lays189 blk off cap zs w hH hblk hsz
def Tryz.lays264_ren:Go.Shelf.Ren:=⟨fun|264=>134|n=>n,fun|53=>217|46=>204|n=>n,fun|n=>n⟩
theorem Tryz.lays264:Go.Proofs.Lays.n264 Tryz.prog Tryz.lays264_ren:={
 mixed:=by kernel_rfl
 f264:=Tryz.func134.trans (congrArg some (by kernel_rfl))
 t46:=Tryz.underlying204
 a46:=Tryz.isAgg204
 z46:=Tryz.sizeOf204
 v46:=Tryz.zeroValue204
 t53:=Tryz.underlying217
 a53:=Tryz.isAgg217
 z53:=Tryz.sizeOf217
 v53:=Tryz.zeroValue217}
open Go.RowKit Go.Lib in
theorem Tryz.bits_Mul64 (x y:Nat) (hx:x<18446744073709551616) (hy:y<18446744073709551616) (w:World):
  Calls Tryz.prog 134 #[.int .u64 x,.int .u64 y] w fun e w'=>e= .returned (.tuple #[.int .u64 ((x*y / 18446744073709551616:Nat):Int),.int .u64 ((x*y % 18446744073709551616:Nat):Int)])∧w'=w:=Any.bits_Mul64 Tryz.lays264 x y hx hy w
def Tryz.laysNm220_ren:Go.Shelf.Ren:=⟨fun|20=>115|n=>n,fun|22=>22|3=>3|4=>4|0=>0|n=>n,fun|n=>n⟩
theorem Tryz.laysNm220:Go.Proofs.Lays2.n20 Tryz.prog Tryz.laysNm220_ren:={
 mixed:=by kernel_rfl
 f20:=Tryz.func115.trans (congrArg some (by kernel_rfl))
 t0:=Tryz.underlying0
 a0:=Tryz.isAgg0
 z0:=Tryz.sizeOf0
 v0:=Tryz.zeroValue0
 t3:=Tryz.underlying3
 a3:=Tryz.isAgg3
 z3:=Tryz.sizeOf3
 v3:=Tryz.zeroValue3
 t4:=Tryz.underlying4
 a4:=Tryz.isAgg4
 z4:=Tryz.sizeOf4
 v4:=Tryz.zeroValue4
 t22:=Tryz.underlying22
 a22:=Tryz.isAgg22
 z22:=Tryz.sizeOf22
 v22:=Tryz.zeroValue22
 i3:=by kernel_rfl}
open Go.RowKit Go.Lib Go.Sort in
open Go.RowKit Go.Lib Go.Sort in
theorem Tryz.slices_Compact_int (blk off cap:Nat) (zs:List Int) (w:World) (hH:Holds (Value.int .i64) w blk off zs.toArray) (hsz:zs.length≤9223372036854775807) (hcap:zs.length≤cap):
  Calls Tryz.prog 115 #[.slice (some ⟨blk,off,none⟩) zs.length cap] w fun e w'=>e= .returned (.slice (some ⟨blk,off,none⟩) (Lib.compact zs).length cap)∧∃ q,w'=putRow (Value.int .i64) (Sort.ahead w q) blk off (Lib.compact zs++List.replicate (zs.length - (Lib.compact zs).length) 0).toArray:=Any.slices_Compact_int Tryz.laysNm220 blk off cap zs w hH hsz hcap
open Go.RowKit Go.Lib Go.Sort in
theorem Tryz.slices_Compact_int_empty (a:Option Addr) (cap:Nat) (w:World):
  Calls Tryz.prog 115 #[.slice a 0 cap] w fun e w'=>e= .returned (.slice a 0 cap)∧w'=w:=Any.slices_Compact_int_empty Tryz.laysNm220 a cap w
open Go.RowKit Go.Lib in
open Go.RowKit Go.Lib in
open Go.RowKit Go.Lib Go.Sort in
open Go.RowKit Go.Sort in
theorem Tryz.slices_Sort_int_none (p:Option Addr) (cap:Nat) (w:World):
  Calls Tryz.prog 114 #[.slice p 0 cap] w fun e w'=>e= .returned (.tuple #[])∧w'=w:=Any.slices_Sort_int_none Tryz.lays189 p cap w
open Go.RowKit Go.Lib Go.Sort in
open Go.RowKit Go.Lib Go.Sort in
open Go.RowKit Go.Lib Go.Sort in
open Go.RowKit Go.Lib Go.Sort in
open Go.RowKit Go.Lib Go.Sort in
open Go.RowKit Go.Lib Go.Sort in
open Go.RowKit Go.Lib Go.Sort in
open Go.RowKit Go.Lib Go.Sort in
open Go.RowKit Go.Lib Go.Sort in
open Go.RowKit Go.Lib Go.Sort in
open Go.RowKit Go.Lib Go.Sort in
open Go.RowKit Go.Lib Go.Sort in
open Go.RowKit Go.Lib Go.Sort in
open Go.RowKit Go.Lib Go.Sort in
def Tryz.laysSlF06_f103_ren:Go.Shelf.Ren:=⟨fun|6=>103|15=>120|14=>150|28=>168|29=>169|20=>191|21=>192|22=>193|23=>194|24=>195|25=>196|26=>197|27=>198|46=>242|47=>227|48=>228|49=>243|50=>244|57=>259|n=>n,fun|22=>184|24=>174|25=>187|3=>3|39=>204|0=>0|53=>54|55=>217|4=>4|46=>250|45=>249|50=>254|5=>5|9=>9|66=>295|70=>299|76=>317|77=>78|n=>n,fun|n=>n⟩
open Go.RowKit Go.Lib Go.Sort in
open Go.RowKit Go.Lib Go.Sort in
open Go.RowKit Go.Lib Go.Sort in
open Go.RowKit Go.Lib Go.Sort in
open Go.RowKit Go.Lib Go.Sort in
open Go.RowKit Go.Lib Go.Sort in
open Go.RowKit Go.Lib Go.Sort in
open Go.RowKit Go.Lib Go.Sort in
open Go.RowKit Go.Lib Go.Sort in
open Go.RowKit Go.Lib Go.Sort in
open Go.RowKit Go.Lib Go.Sort in
open Go.RowKit Go.Lib Go.Sort in
open Go.RowKit Go.Lib Go.Sort in
open Go.RowKit Go.Lib Go.Sort in
def Tryz.laysSlF6_f110_ren:Go.Shelf.Ren:=⟨fun|6=>110|15=>120|14=>155|28=>168|29=>169|20=>201|21=>202|22=>203|23=>204|24=>205|25=>206|26=>207|27=>208|46=>245|47=>227|48=>228|49=>246|50=>247|57=>260|n=>n,fun|22=>22|24=>3|25=>100|3=>3|39=>204|0=>0|53=>54|55=>217|4=>4|46=>250|45=>249|50=>254|5=>5|9=>9|66=>295|70=>299|76=>317|77=>78|n=>n,fun|n=>n⟩
theorem Tryz.laysSlF6_f110:Go.Proofs.SlLaysF.n6 Tryz.prog Tryz.laysSlF6_f110_ren:={
 mixed:=by kernel_rfl
 f6:=⟨Tryz.f110.name,by decide,Tryz.func110.trans (congrArg some (by kernel_rfl))⟩
 f14:=⟨Tryz.f155.name,by decide,Tryz.func155.trans (congrArg some (by kernel_rfl))⟩
 f15:=Tryz.func120.trans (congrArg some (by kernel_rfl))
 f20:=⟨Tryz.f201.name,by decide,Tryz.func201.trans (congrArg some (by kernel_rfl))⟩
 f21:=⟨Tryz.f202.name,by decide,Tryz.func202.trans (congrArg some (by kernel_rfl))⟩
 f22:=⟨Tryz.f203.name,by decide,Tryz.func203.trans (congrArg some (by kernel_rfl))⟩
 f23:=⟨Tryz.f204.name,by decide,Tryz.func204.trans (congrArg some (by kernel_rfl))⟩
 f24:=⟨Tryz.f205.name,by decide,Tryz.func205.trans (congrArg some (by kernel_rfl))⟩
 f25:=⟨Tryz.f206.name,by decide,Tryz.func206.trans (congrArg some (by kernel_rfl))⟩
 f26:=⟨Tryz.f207.name,by decide,Tryz.func207.trans (congrArg some (by kernel_rfl))⟩
 f27:=⟨Tryz.f208.name,by decide,Tryz.func208.trans (congrArg some (by kernel_rfl))⟩
 f28:=Tryz.func168.trans (congrArg some (by kernel_rfl))
 f29:=Tryz.func169.trans (congrArg some (by kernel_rfl))
 f46:=⟨Tryz.f245.name,by decide,Tryz.func245.trans (congrArg some (by kernel_rfl))⟩
 f47:=Tryz.func227.trans (congrArg some (by kernel_rfl))
 f48:=Tryz.func228.trans (congrArg some (by kernel_rfl))
 f49:=⟨Tryz.f246.name,by decide,Tryz.func246.trans (congrArg some (by kernel_rfl))⟩
 f50:=⟨Tryz.f247.name,by decide,Tryz.func247.trans (congrArg some (by kernel_rfl))⟩
 f57:=⟨Tryz.f260.name,by decide,Tryz.func260.trans (congrArg some (by kernel_rfl))⟩
 t0:=Tryz.underlying0
 a0:=Tryz.isAgg0
 z0:=Tryz.sizeOf0
 v0:=Tryz.zeroValue0
 t3:=Tryz.underlying3
 a3:=Tryz.isAgg3
 z3:=Tryz.sizeOf3
 v3:=Tryz.zeroValue3
 t4:=Tryz.underlying4
 a4:=Tryz.isAgg4
 z4:=Tryz.sizeOf4
 v4:=Tryz.zeroValue4
 t5:=Tryz.underlying5
 a5:=Tryz.isAgg5
 z5:=Tryz.sizeOf5
 v5:=Tryz.zeroValue5
 t9:=Tryz.underlying9
 a9:=Tryz.isAgg9
 z9:=Tryz.sizeOf9
 v9:=Tryz.zeroValue9
 t22:=Tryz.underlying22
 a22:=Tryz.isAgg22
 z22:=Tryz.sizeOf22
 v22:=Tryz.zeroValue22
 a24:=Tryz.isAgg3
 z24:=Tryz.sizeOf3
 t25:=Tryz.underlying100
 a25:=Tryz.isAgg100
 z25:=Tryz.sizeOf100
 v25:=Tryz.zeroValue100
 t39:=Tryz.underlying204
 a39:=Tryz.isAgg204
 z39:=Tryz.sizeOf204
 v39:=Tryz.zeroValue204
 t45:=Tryz.underlying249
 a45:=Tryz.isAgg249
 z45:=Tryz.sizeOf249
 v45:=Tryz.zeroValue249
 t46:=Tryz.underlying250
 a46:=Tryz.isAgg250
 z46:=Tryz.sizeOf250
 v46:=Tryz.zeroValue250
 t50:=Tryz.underlying254
 a50:=Tryz.isAgg254
 z50:=Tryz.sizeOf254
 v50:=Tryz.zeroValue254
 t53:=Tryz.underlying54
 a53:=Tryz.isAgg54
 z53:=Tryz.sizeOf54
 v53:=Tryz.zeroValue54
 t55:=Tryz.underlying217
 a55:=Tryz.isAgg217
 z55:=Tryz.sizeOf217
 v55:=Tryz.zeroValue217
 t66:=Tryz.underlying295
 a66:=Tryz.isAgg295
 z66:=Tryz.sizeOf295
 v66:=Tryz.zeroValue295
 t70:=Tryz.underlying299
 a70:=Tryz.isAgg299
 z70:=Tryz.sizeOf299
 v70:=Tryz.zeroValue299
 t76:=Tryz.underlying317
 a76:=Tryz.isAgg317
 z76:=Tryz.sizeOf317
 v76:=Tryz.zeroValue317
 t77:=Tryz.underlying78
 a77:=Tryz.isAgg78
 z77:=Tryz.sizeOf78
 v77:=Tryz.zeroValue78}
open Go.RowKit Go.Lib Go.Sort in
open Go.RowKit Go.Lib Go.Sort in
theorem Tryz.slices_SortFunc_f110 {α:Type} [Inhabited α] (enc:α→Value) (h1:OneCell enc) (cf:α→α→Int) (hO:SWO (ltOf cf)) (g:Nat) (cb:Array Value) (blk off cap:Nat) (d:Array α) (w:World) (eg: ∀ args w,(callFunc g args).run Tryz.prog w= .ok (.enter g args) w) (hcmp:CmpLays1 Tryz.prog g cb enc cf blk off d.size w) (hH:Holds enc w blk off d) (hblk:blk<w.heap.size) (hsz:d.size<4611686018427387904):
  Calls Tryz.prog 110 #[.slice (some ⟨blk,off,none⟩) d.size cap,.func (.func g) #[] cb] w fun e w'=>
   e= .returned (.tuple #[])∧∃ d' n os,PermIn 0 d.size d d'∧SortedIn (ltOf cf) 0 d.size d'∧w'=sortWorld enc w blk off n d' os:=Any.slices_SortFunc Tryz.laysSlF6_f110 enc h1 cf hO g cb blk off cap d w eg hcmp hH hblk hsz
open Go.RowKit Go.Lib Go.Sort in
open Go.RowKit Go.Lib Go.Sort in
open Go.RowKit Go.Lib Go.Sort in
open Go.RowKit Go.Lib Go.Sort in
open Go.RowKit Go.Lib Go.Sort in
def Tryz.laysSlF06_f110_ren:Go.Shelf.Ren:=⟨fun|6=>110|15=>120|14=>155|28=>168|29=>169|20=>201|21=>202|22=>203|23=>204|24=>205|25=>206|26=>207|27=>208|46=>245|47=>227|48=>228|49=>246|50=>247|57=>260|n=>n,fun|22=>22|24=>3|25=>100|3=>3|39=>204|0=>0|53=>54|55=>217|4=>4|46=>250|45=>249|50=>254|5=>5|9=>9|66=>295|70=>299|76=>317|77=>78|n=>n,fun|n=>n⟩
theorem Tryz.laysSlF06_f110:Go.Proofs.SlLaysF0.n6 Tryz.prog Tryz.laysSlF06_f110_ren:={
 mixed:=by kernel_rfl
 f6:=⟨Tryz.f110.name,by decide,Tryz.func110.trans (congrArg some (by kernel_rfl))⟩
 f14:=⟨Tryz.f155.name,by decide,Tryz.func155.trans (congrArg some (by kernel_rfl))⟩
 f15:=Tryz.func120.trans (congrArg some (by kernel_rfl))
 f20:=⟨Tryz.f201.name,by decide,Tryz.func201.trans (congrArg some (by kernel_rfl))⟩
 f21:=⟨Tryz.f202.name,by decide,Tryz.func202.trans (congrArg some (by kernel_rfl))⟩
 f22:=⟨Tryz.f203.name,by decide,Tryz.func203.trans (congrArg some (by kernel_rfl))⟩
 f23:=⟨Tryz.f204.name,by decide,Tryz.func204.trans (congrArg some (by kernel_rfl))⟩
 f24:=⟨Tryz.f205.name,by decide,Tryz.func205.trans (congrArg some (by kernel_rfl))⟩
 f25:=⟨Tryz.f206.name,by decide,Tryz.func206.trans (congrArg some (by kernel_rfl))⟩
 f26:=⟨Tryz.f207.name,by decide,Tryz.func207.trans (congrArg some (by kernel_rfl))⟩
 f27:=⟨Tryz.f208.name,by decide,Tryz.func208.trans (congrArg some (by kernel_rfl))⟩
 f28:=Tryz.func168.trans (congrArg some (by kernel_rfl))
 f29:=Tryz.func169.trans (congrArg some (by kernel_rfl))
 f46:=⟨Tryz.f245.name,by decide,Tryz.func245.trans (congrArg some (by kernel_rfl))⟩
 f47:=Tryz.func227.trans (congrArg some (by kernel_rfl))
 f48:=Tryz.func228.trans (congrArg some (by kernel_rfl))
 f49:=⟨Tryz.f246.name,by decide,Tryz.func246.trans (congrArg some (by kernel_rfl))⟩
 f50:=⟨Tryz.f247.name,by decide,Tryz.func247.trans (congrArg some (by kernel_rfl))⟩
 f57:=⟨Tryz.f260.name,by decide,Tryz.func260.trans (congrArg some (by kernel_rfl))⟩
 t0:=Tryz.underlying0
 a0:=Tryz.isAgg0
 z0:=Tryz.sizeOf0
 v0:=Tryz.zeroValue0
 t3:=Tryz.underlying3
 a3:=Tryz.isAgg3
 z3:=Tryz.sizeOf3
 v3:=Tryz.zeroValue3
 t4:=Tryz.underlying4
 a4:=Tryz.isAgg4
 z4:=Tryz.sizeOf4
 v4:=Tryz.zeroValue4
 t5:=Tryz.underlying5
 a5:=Tryz.isAgg5
 z5:=Tryz.sizeOf5
 v5:=Tryz.zeroValue5
 t9:=Tryz.underlying9
 a9:=Tryz.isAgg9
 z9:=Tryz.sizeOf9
 v9:=Tryz.zeroValue9
 t22:=Tryz.underlying22
 a22:=Tryz.isAgg22
 z22:=Tryz.sizeOf22
 v22:=Tryz.zeroValue22
 t25:=Tryz.underlying100
 a25:=Tryz.isAgg100
 z25:=Tryz.sizeOf100
 v25:=Tryz.zeroValue100
 t39:=Tryz.underlying204
 a39:=Tryz.isAgg204
 z39:=Tryz.sizeOf204
 v39:=Tryz.zeroValue204
 t45:=Tryz.underlying249
 a45:=Tryz.isAgg249
 z45:=Tryz.sizeOf249
 v45:=Tryz.zeroValue249
 t46:=Tryz.underlying250
 a46:=Tryz.isAgg250
 z46:=Tryz.sizeOf250
 v46:=Tryz.zeroValue250
 t50:=Tryz.underlying254
 a50:=Tryz.isAgg254
 z50:=Tryz.sizeOf254
 v50:=Tryz.zeroValue254
 t53:=Tryz.underlying54
 a53:=Tryz.isAgg54
 z53:=Tryz.sizeOf54
 v53:=Tryz.zeroValue54
 t55:=Tryz.underlying217
 a55:=Tryz.isAgg217
 z55:=Tryz.sizeOf217
 v55:=Tryz.zeroValue217
 t66:=Tryz.underlying295
 a66:=Tryz.isAgg295
 z66:=Tryz.sizeOf295
 v66:=Tryz.zeroValue295
 t70:=Tryz.underlying299
 a70:=Tryz.isAgg299
 z70:=Tryz.sizeOf299
 v70:=Tryz.zeroValue299
 t76:=Tryz.underlying317
 a76:=Tryz.isAgg317
 z76:=Tryz.sizeOf317
 v76:=Tryz.zeroValue317
 t77:=Tryz.underlying78
 a77:=Tryz.isAgg78
 z77:=Tryz.sizeOf78
 v77:=Tryz.zeroValue78}
open Go.RowKit Go.Lib Go.Sort in
theorem Tryz.slices_SortFunc_none_f110 {α:Type} [Inhabited α] (p:Option Addr) (cap:Nat) (fv:Value) (w:World):
  Calls Tryz.prog 110 #[.slice p 0 cap,fv] w fun e w'=>e= .returned (.tuple #[])∧w'=w:=AnyF.slices_SortFunc_none Tryz.laysSlF06_f110 p cap fv w
open Go.RowKit Go.Lib Go.Sort in
open Go.RowKit Go.Lib Go.Sort in
def Tryz.sortWindow_ren:Go.Shelf.Ren:=⟨fun|6=>74|15=>120|14=>119|28=>168|29=>169|20=>160|21=>161|22=>162|23=>163|24=>164|25=>165|26=>166|27=>167|46=>226|47=>227|48=>228|49=>229|50=>230|57=>254|n=>n,fun|22=>37|24=>155|25=>158|3=>3|39=>204|0=>0|53=>54|55=>217|4=>4|46=>250|45=>249|50=>254|5=>5|9=>9|66=>295|70=>299|76=>317|77=>78|n=>n,fun|n=>n⟩
theorem Tryz.sortWindow:Go.Proofs.SlLaysF0.n6 Tryz.prog Tryz.sortWindow_ren:={
 mixed:=by kernel_rfl
 f6:=⟨Tryz.f74.name,by decide,Tryz.func74.trans (congrArg some (by kernel_rfl))⟩
 f14:=⟨Tryz.f119.name,by decide,Tryz.func119.trans (congrArg some (by kernel_rfl))⟩
 f15:=Tryz.func120.trans (congrArg some (by kernel_rfl))
 f20:=⟨Tryz.f160.name,by decide,Tryz.func160.trans (congrArg some (by kernel_rfl))⟩
 f21:=⟨Tryz.f161.name,by decide,Tryz.func161.trans (congrArg some (by kernel_rfl))⟩
 f22:=⟨Tryz.f162.name,by decide,Tryz.func162.trans (congrArg some (by kernel_rfl))⟩
 f23:=⟨Tryz.f163.name,by decide,Tryz.func163.trans (congrArg some (by kernel_rfl))⟩
 f24:=⟨Tryz.f164.name,by decide,Tryz.func164.trans (congrArg some (by kernel_rfl))⟩
 f25:=⟨Tryz.f165.name,by decide,Tryz.func165.trans (congrArg some (by kernel_rfl))⟩
 f26:=⟨Tryz.f166.name,by decide,Tryz.func166.trans (congrArg some (by kernel_rfl))⟩
 f27:=⟨Tryz.f167.name,by decide,Tryz.func167.trans (congrArg some (by kernel_rfl))⟩
 f28:=Tryz.func168.trans (congrArg some (by kernel_rfl))
 f29:=Tryz.func169.trans (congrArg some (by kernel_rfl))
 f46:=⟨Tryz.f226.name,by decide,Tryz.func226.trans (congrArg some (by kernel_rfl))⟩
 f47:=Tryz.func227.trans (congrArg some (by kernel_rfl))
 f48:=Tryz.func228.trans (congrArg some (by kernel_rfl))
 f49:=⟨Tryz.f229.name,by decide,Tryz.func229.trans (congrArg some (by kernel_rfl))⟩
 f50:=⟨Tryz.f230.name,by decide,Tryz.func230.trans (congrArg some (by kernel_rfl))⟩
 f57:=⟨Tryz.f254.name,by decide,Tryz.func254.trans (congrArg some (by kernel_rfl))⟩
 t0:=Tryz.underlying0
 a0:=Tryz.isAgg0
 z0:=Tryz.sizeOf0
 v0:=Tryz.zeroValue0
 t3:=Tryz.underlying3
 a3:=Tryz.isAgg3
 z3:=Tryz.sizeOf3
 v3:=Tryz.zeroValue3
 t4:=Tryz.underlying4
 a4:=Tryz.isAgg4
 z4:=Tryz.sizeOf4
 v4:=Tryz.zeroValue4
 t5:=Tryz.underlying5
 a5:=Tryz.isAgg5
 z5:=Tryz.sizeOf5
 v5:=Tryz.zeroValue5
 t9:=Tryz.underlying9
 a9:=Tryz.isAgg9
 z9:=Tryz.sizeOf9
 v9:=Tryz.zeroValue9
 t22:=Tryz.underlying37
 a22:=Tryz.isAgg37
 z22:=Tryz.sizeOf37
 v22:=Tryz.zeroValue37
 t25:=Tryz.underlying158
 a25:=Tryz.isAgg158
 z25:=Tryz.sizeOf158
 v25:=Tryz.zeroValue158
 t39:=Tryz.underlying204
 a39:=Tryz.isAgg204
 z39:=Tryz.sizeOf204
 v39:=Tryz.zeroValue204
 t45:=Tryz.underlying249
 a45:=Tryz.isAgg249
 z45:=Tryz.sizeOf249
 v45:=Tryz.zeroValue249
 t46:=Tryz.underlying250
 a46:=Tryz.isAgg250
 z46:=Tryz.sizeOf250
 v46:=Tryz.zeroValue250
 t50:=Tryz.underlying254
 a50:=Tryz.isAgg254
 z50:=Tryz.sizeOf254
 v50:=Tryz.zeroValue254
 t53:=Tryz.underlying54
 a53:=Tryz.isAgg54
 z53:=Tryz.sizeOf54
 v53:=Tryz.zeroValue54
 t55:=Tryz.underlying217
 a55:=Tryz.isAgg217
 z55:=Tryz.sizeOf217
 v55:=Tryz.zeroValue217
 t66:=Tryz.underlying295
 a66:=Tryz.isAgg295
 z66:=Tryz.sizeOf295
 v66:=Tryz.zeroValue295
 t70:=Tryz.underlying299
 a70:=Tryz.isAgg299
 z70:=Tryz.sizeOf299
 v70:=Tryz.zeroValue299
 t76:=Tryz.underlying317
 a76:=Tryz.isAgg317
 z76:=Tryz.sizeOf317
 v76:=Tryz.zeroValue317
 t77:=Tryz.underlying78
 a77:=Tryz.isAgg78
 z77:=Tryz.sizeOf78
 v77:=Tryz.zeroValue78}
def Tryz.sortPoint_ren:Go.Shelf.Ren:=⟨fun|6=>116|15=>120|14=>158|28=>168|29=>169|20=>218|21=>219|22=>220|23=>221|24=>222|25=>223|26=>224|27=>225|46=>251|47=>227|48=>228|49=>252|50=>253|57=>262|n=>n,fun|22=>145|24=>153|25=>200|3=>3|39=>204|0=>0|53=>54|55=>217|4=>4|46=>250|45=>249|50=>254|5=>5|9=>9|66=>295|70=>299|76=>317|77=>78|n=>n,fun|n=>n⟩
theorem Tryz.sortPoint:Go.Proofs.SlLaysF0.n6 Tryz.prog Tryz.sortPoint_ren:={
 mixed:=by kernel_rfl
 f6:=⟨Tryz.f116.name,by decide,Tryz.func116.trans (congrArg some (by kernel_rfl))⟩
 f14:=⟨Tryz.f158.name,by decide,Tryz.func158.trans (congrArg some (by kernel_rfl))⟩
 f15:=Tryz.func120.trans (congrArg some (by kernel_rfl))
 f20:=⟨Tryz.f218.name,by decide,Tryz.func218.trans (congrArg some (by kernel_rfl))⟩
 f21:=⟨Tryz.f219.name,by decide,Tryz.func219.trans (congrArg some (by kernel_rfl))⟩
 f22:=⟨Tryz.f220.name,by decide,Tryz.func220.trans (congrArg some (by kernel_rfl))⟩
 f23:=⟨Tryz.f221.name,by decide,Tryz.func221.trans (congrArg some (by kernel_rfl))⟩
 f24:=⟨Tryz.f222.name,by decide,Tryz.func222.trans (congrArg some (by kernel_rfl))⟩
 f25:=⟨Tryz.f223.name,by decide,Tryz.func223.trans (congrArg some (by kernel_rfl))⟩
 f26:=⟨Tryz.f224.name,by decide,Tryz.func224.trans (congrArg some (by kernel_rfl))⟩
 f27:=⟨Tryz.f225.name,by decide,Tryz.func225.trans (congrArg some (by kernel_rfl))⟩
 f28:=Tryz.func168.trans (congrArg some (by kernel_rfl))
 f29:=Tryz.func169.trans (congrArg some (by kernel_rfl))
 f46:=⟨Tryz.f251.name,by decide,Tryz.func251.trans (congrArg some (by kernel_rfl))⟩
 f47:=Tryz.func227.trans (congrArg some (by kernel_rfl))
 f48:=Tryz.func228.trans (congrArg some (by kernel_rfl))
 f49:=⟨Tryz.f252.name,by decide,Tryz.func252.trans (congrArg some (by kernel_rfl))⟩
 f50:=⟨Tryz.f253.name,by decide,Tryz.func253.trans (congrArg some (by kernel_rfl))⟩
 f57:=⟨Tryz.f262.name,by decide,Tryz.func262.trans (congrArg some (by kernel_rfl))⟩
 t0:=Tryz.underlying0
 a0:=Tryz.isAgg0
 z0:=Tryz.sizeOf0
 v0:=Tryz.zeroValue0
 t3:=Tryz.underlying3
 a3:=Tryz.isAgg3
 z3:=Tryz.sizeOf3
 v3:=Tryz.zeroValue3
 t4:=Tryz.underlying4
 a4:=Tryz.isAgg4
 z4:=Tryz.sizeOf4
 v4:=Tryz.zeroValue4
 t5:=Tryz.underlying5
 a5:=Tryz.isAgg5
 z5:=Tryz.sizeOf5
 v5:=Tryz.zeroValue5
 t9:=Tryz.underlying9
 a9:=Tryz.isAgg9
 z9:=Tryz.sizeOf9
 v9:=Tryz.zeroValue9
 t22:=Tryz.underlying145
 a22:=Tryz.isAgg145
 z22:=Tryz.sizeOf145
 v22:=Tryz.zeroValue145
 t25:=Tryz.underlying200
 a25:=Tryz.isAgg200
 z25:=Tryz.sizeOf200
 v25:=Tryz.zeroValue200
 t39:=Tryz.underlying204
 a39:=Tryz.isAgg204
 z39:=Tryz.sizeOf204
 v39:=Tryz.zeroValue204
 t45:=Tryz.underlying249
 a45:=Tryz.isAgg249
 z45:=Tryz.sizeOf249
 v45:=Tryz.zeroValue249
 t46:=Tryz.underlying250
 a46:=Tryz.isAgg250
 z46:=Tryz.sizeOf250
 v46:=Tryz.zeroValue250
 t50:=Tryz.underlying254
 a50:=Tryz.isAgg254
 z50:=Tryz.sizeOf254
 v50:=Tryz.zeroValue254
 t53:=Tryz.underlying54
 a53:=Tryz.isAgg54
 z53:=Tryz.sizeOf54
 v53:=Tryz.zeroValue54
 t55:=Tryz.underlying217
 a55:=Tryz.isAgg217
 z55:=Tryz.sizeOf217
 v55:=Tryz.zeroValue217
 t66:=Tryz.underlying295
 a66:=Tryz.isAgg295
 z66:=Tryz.sizeOf295
 v66:=Tryz.zeroValue295
 t70:=Tryz.underlying299
 a70:=Tryz.isAgg299
 z70:=Tryz.sizeOf299
 v70:=Tryz.zeroValue299
 t76:=Tryz.underlying317
 a76:=Tryz.isAgg317
 z76:=Tryz.sizeOf317
 v76:=Tryz.zeroValue317
 t77:=Tryz.underlying78
 a77:=Tryz.isAgg78
 z77:=Tryz.sizeOf78
 v77:=Tryz.zeroValue78}
end Go.Proofs
