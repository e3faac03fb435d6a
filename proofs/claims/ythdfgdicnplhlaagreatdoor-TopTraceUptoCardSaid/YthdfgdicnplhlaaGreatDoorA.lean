import Derived.Ground.GgzProg
import Derived.Ground.Names2Prog
import Derived.Ground.SlgfProg
import Derived.Ground.SlgmProg
import Derived.Ground.SlgnProg
import Derived.Ground.SlgqProg
import Derived.Ground.SlsfProg
import Derived.Shelf.Bits.Mul64
import Derived.Shelf.SlIterI.Nil
import Derived.Shelf.SlIterI.Sorted
import Derived.Shelf.SlSortCmp.HeapSortK
import Derived.Shelf.SlSortCmp.InsertionK
import Derived.Shelf.SlSortCmp.MedianK
import Derived.Shelf.SlSortCmp.NoneTotal
import Derived.Shelf.SlSortCmp.PartialInsertionK
import Derived.Shelf.SlSortCmp.PartitionEqualK
import Derived.Shelf.SlSortCmp.PartitionK
import Derived.Shelf.SlSortCmp.PdqK
import Derived.Shelf.SlSortCmp.PivotK
import Derived.Shelf.SlSortCmp.ReverseRangeK
import Derived.Shelf.SlSortCmp.SiftDownK
import Derived.Shelf.SlSortCmp.WholeK
import Derived.Shelf.Slices.Clone
import Derived.Shelf.Slices.In.SortNone
import Derived.Shelf.Slices.SearchI
import Derived.Shelf.Slices.Turned
import Derived.Shelf.SlicesE.Clone
import Derived.Shelf.SlicesE.DeleteFunc
import Derived.Shelf.SlicesE.Index
import Derived.Shelf.SlicesE.IndexFunc
import Derived.Shelf.SlicesQ.Equal
import Derived.Shelf.SlicesQ.IndexFunc
import Derived.Shelf.SlicesQ.Reverse
import Derived.Shelf.Small.Bits
import Derived.Shelf.Small.Strs
import Derived.Shelf.Small.Wraps
import Derived.Shelf.Sort.Plain
import Derived.Shelf.SortM.Plain
import Derived.Shelf.SortM.SortNone
import Derived.Shelf.Strconv.Itoa0
import Derived.Shelf.Strings.Builder1
import Derived.Shelf.Strings.BuilderCap
import Derived.Shelf.Strings.BuilderF
import Derived.Shelf.Strings.BuilderK
import Derived.Test.YthdfgdicnplhlaaGreatDoorProg
set_option maxHeartbeats 16000000
set_option maxRecDepth 100000
set_option linter.all false
namespace Go.Proofs
open Go.Shelf
theorem Tryz.br{k:Nat}{F:Func}(h:(((Tryz.prog.funcs[k]?).map Func.name).getD ""== "runtime.NumGoroutine")=false)(h2:Tryz.prog.funcs[k]?=some {F with name:=((Tryz.prog.funcs[k]?).map Func.name).getD ""}):Bears Tryz.prog k F:=⟨_,h,h2⟩
def Tryz.lays169_ren:Go.Shelf.Ren:=⟨fun|169=>161|n=>n,fun|70=>247|9=>9|0=>0|72=>250|37=>248|127=>323|3=>3|5=>5|n=>n,fun|n=>n⟩
theorem Tryz.lays169:Go.Proofs.Lays.n169 Tryz.prog Tryz.lays169_ren:=by
 constructor<;>first|kernel_rfl|(intro w;kernel_rfl)|exact Tryz.br (by kernel_rfl) (by kernel_rfl)
theorem Tryz.Builder_Extra_169:Builder.Extra Tryz.prog Tryz.lays169_ren:={
 sizeBuilder:=by kernel_rfl
 liesBuilder:=by kernel_rfl
 t5:=Tryz.underlying5
 a5:=Tryz.isAgg5
 z5:=Tryz.sizeOf5
 v5:=Tryz.zeroValue5
 infoByte:=by kernel_rfl
 cellsByte:=by kernel_rfl
 sizeByte:=by kernel_rfl
 neB5:=by decide}
open Go.RowKit in
theorem Tryz.Builder_String_any(B b:Nat)(l:List UInt8)(w:World)(h:Lib.IsBuilder 250 5 B b (Lib.byteCells l) w)(hBw:B≤w.heap.size):
  Calls Tryz.prog 161 #[.pointer (some ⟨b,0,none⟩)] w fun e w'=>e=.returned (.string ⟨l.toArray⟩)∧Below B w w':=Any.Builder_String_any Tryz.lays169 Tryz.Builder_Extra_169 B b l w h hBw
def Tryz.lays106_ren:Go.Shelf.Ren:=⟨fun|106=>265|213=>348|265=>388|n=>n,fun|9=>9|3=>3|n=>n,fun|n=>n⟩
theorem Tryz.lays106:Go.Proofs.Lays.n106 Tryz.prog Tryz.lays106_ren:=by
 constructor<;>first|kernel_rfl|(intro w;kernel_rfl)|exact Tryz.br (by kernel_rfl) (by kernel_rfl)
open Go.RowKit in
theorem Tryz.strings_Compare(a b:ByteArray)(w:World):
  Calls Tryz.prog 265 #[.string a,.string b] w fun e w'=>e=.returned (.int .i64 (Lib.compareBytes a.data.toList b.data.toList))∧w'=w:=Any.strings_Compare Tryz.lays106 a b w
def Tryz.lays122_ren:Go.Shelf.Ren:=⟨fun|122=>198|215=>300|n=>n,fun|3=>3|4=>4|n=>n,fun|n=>n⟩
theorem Tryz.lays122:Go.Proofs.Lays.n122 Tryz.prog Tryz.lays122_ren:=by
 constructor<;>first|kernel_rfl|(intro w;kernel_rfl)|exact Tryz.br (by kernel_rfl) (by kernel_rfl)
open Go.RowKit in
theorem Tryz.cmp_Compare_int(x y:Int)(w:World):
  Calls Tryz.prog 198 #[.int .i64 x,.int .i64 y] w fun e w'=>e=.returned (.int .i64 (Lib.compareInt x y))∧w'=w:=Any.cmp_Compare_int Tryz.lays122 x y w
def Tryz.lays129_ren:Go.Shelf.Ren:=⟨fun|129=>304|n=>n,fun|53=>286|3=>3|4=>4|46=>295|5=>5|9=>9|n=>n,fun|n=>n⟩
theorem Tryz.lays129:Go.Proofs.Lays.n129 Tryz.prog Tryz.lays129_ren:=by
 constructor<;>first|kernel_rfl|(intro w;kernel_rfl)|exact Tryz.br (by kernel_rfl) (by kernel_rfl)
theorem Tryz.bits_Len64(x:Int)(w:World)(h0:0≤x)(h1:x≤18446744073709551615):
  Calls Tryz.prog 304 #[.int .u64 x] w fun e w'=>e=.returned (.int .i64 (Lib.bitLen x.toNat))∧w'=w:=Any.bits_Len64 Tryz.lays129 x w h0 h1
def Tryz.lays264_ren:Go.Shelf.Ren:=⟨fun|264=>373|n=>n,fun|53=>286|46=>295|n=>n,fun|n=>n⟩
theorem Tryz.lays264:Go.Proofs.Lays.n264 Tryz.prog Tryz.lays264_ren:=by
 constructor<;>first|kernel_rfl|(intro w;kernel_rfl)|exact Tryz.br (by kernel_rfl) (by kernel_rfl)
open Go.RowKit Go.Lib in
theorem Tryz.bits_Mul64(x y:Nat)(hx:x < 18446744073709551616)(hy:y < 18446744073709551616)(w:World):
  Calls Tryz.prog 373 #[.int .u64 x,.int .u64 y] w fun e w'=>e=.returned (.tuple #[.int .u64 ((x*y / 18446744073709551616:Nat):Int),.int .u64 ((x*y % 18446744073709551616:Nat):Int)])∧w'=w:=Any.bits_Mul64 Tryz.lays264 x y hx hy w
def Tryz.lays189_ren:Go.Shelf.Ren:=⟨fun|189=>122|125=>215|257=>214|128=>318|129=>304|294=>309|295=>310|296=>311|297=>312|298=>313|299=>314|216=>315|300=>316|301=>317|328=>366|329=>367|330=>368|331=>369|332=>370|215=>300|343=>400|n=>n,fun|28=>34|3=>3|46=>295|0=>0|51=>379|53=>286|4=>4|183=>373|182=>372|131=>225|5=>5|9=>9|218=>407|222=>410|228=>434|229=>435|n=>n,fun|n=>n⟩
theorem Tryz.lays189:Go.Proofs.Lays.n189 Tryz.prog Tryz.lays189_ren:=by
 constructor<;>first|kernel_rfl|(intro w;kernel_rfl)|exact Tryz.br (by kernel_rfl) (by kernel_rfl)
open Go.Sort Go.RowKit in
theorem Tryz.slices_Sort_int(blk off cap:Nat)(zs:List Int)(w:World)(hH:Holds (Value.int .i64) w blk off zs.toArray)(hblk:blk < w.heap.size)(hsz:zs.length < 4611686018427387904):
  Calls Tryz.prog 122 #[.slice (some ⟨blk,off,none⟩) zs.length cap] w fun e w'=>
   e=.returned (.tuple #[])∧∃n os,w'=grow (putRow (Value.int .i64) (Sort.ahead w n) blk off (zs.mergeSort fun x y=>decide (x≤y)).toArray) os:=Any.slices_Sort_int Tryz.lays189 blk off cap zs w hH hblk hsz
def Tryz.lays107_ren:Go.Shelf.Ren:=⟨fun|107=>130|108=>222|n=>n,fun|28=>34|3=>3|4=>4|0=>0|n=>n,fun|n=>n⟩
theorem Tryz.lays107:Go.Proofs.Lays.n107 Tryz.prog Tryz.lays107_ren:=by
 constructor<;>first|kernel_rfl|(intro w;kernel_rfl)|exact Tryz.br (by kernel_rfl) (by kernel_rfl)
open Go.Lib in
theorem Tryz.slices_Contains_int(b off n c:Nat)(zs:List Int)(x:Int)(w:World)(hz:n≤zs.length)(hbig:n≤9223372036854775807)(hc:∀j,j < zs.length→w.cell? ⟨b,off+j,none⟩=some (.int .i64 (zs.getD j 0))):
  Calls Tryz.prog 130 #[.slice (some ⟨b,off,none⟩) n c,.int .i64 x] w fun e w'=>e=.returned (.bool ((zs.take n).contains x))∧w'=w:=Any.slices_Contains_int Tryz.lays107 b off n c zs x w hz hbig hc
open Go.Lib in
theorem Tryz.slices_Contains_int_empty(a:Option Addr)(c:Nat)(x:Int)(w:World):
  Calls Tryz.prog 130 #[.slice a 0 c,.int .i64 x] w fun e w'=>e=.returned (.bool false)∧w'=w:=Any.slices_Contains_int_empty Tryz.lays107 a c x w
open Go.RowKit Go.Sort in
theorem Tryz.slices_Sort_int_none(p:Option Addr)(cap:Nat)(w:World):
  Calls Tryz.prog 122 #[.slice p 0 cap] w fun e w'=>e=.returned (.tuple #[])∧w'=w:=Any.slices_Sort_int_none Tryz.lays189 p cap w
def Tryz.laysSlH6_f128_ren:Go.Shelf.Ren:=⟨fun|6=>128|n=>n,fun|22=>34|23=>3|25=>71|3=>3|0=>0|4=>4|n=>n,fun|n=>n⟩
theorem Tryz.laysSlH6_f128:Go.Proofs.SlLaysH.n6 Tryz.prog Tryz.laysSlH6_f128_ren:=by
 constructor<;>first|kernel_rfl|(intro w;kernel_rfl)|exact Tryz.br (by kernel_rfl) (by kernel_rfl)
open Go.RowKit Go.Lib in
theorem Tryz.slices_IndexFunc_empty_f128{α:Type}[Inhabited α](a:Option Addr)(c:Nat)(fv:Value)(w:World):
  Calls Tryz.prog 128 #[.slice a 0 c,fv] w fun e w'=>e=.returned (.int .i64 (-1))∧w'=w:=AnyE.slices_IndexFunc_empty Tryz.laysSlH6_f128 a c fv w
def Tryz.laysSlH10_f137_ren:Go.Shelf.Ren:=⟨fun|10=>137|6=>128|n=>n,fun|22=>34|23=>3|25=>71|3=>3|4=>4|0=>0|n=>n,fun|n=>n⟩
theorem Tryz.laysSlH10_f137:Go.Proofs.SlLaysH.n10 Tryz.prog Tryz.laysSlH10_f137_ren:=by
 constructor<;>first|kernel_rfl|(intro w;kernel_rfl)|exact Tryz.br (by kernel_rfl) (by kernel_rfl)
open Go.RowKit Go.Lib Go.Sort in
theorem Tryz.slices_DeleteFunc{α:Type}[Inhabited α](enc:α→Value)(hO:OneCell enc)(p:α→Bool)(g:Nat)(lb:Array Value)(eg:∀args w,(callFunc g args).run Tryz.prog w=.ok (.enter g args) w)(zr:α)(v23:∀w,(zeroValue 3).run Tryz.prog w=.ok (enc zr) w)(blk off cap:Nat)(d:Array α)(w:World)(hp:PredAt Tryz.prog g lb enc p w)(hpo:PredOver Tryz.prog g lb enc p blk off d.size w)(hH:Holds enc w blk off d)(hsz:d.size≤9223372036854775807)(hcap:d.size≤cap):
  Calls Tryz.prog 137 #[.slice (some ⟨blk,off,none⟩) d.size cap,.func (.func g) #[] lb] w fun e w'=>e=.returned (.slice (some ⟨blk,off,none⟩) (d.toList.filter fun x=>!p x).length cap)∧∃q,w'=putRow enc (Sort.ahead w q) blk off ((d.toList.filter fun x=>!p x)++List.replicate (d.size - (d.toList.filter fun x=>!p x).length) zr).toArray:=AnyE.slices_DeleteFunc Tryz.laysSlH10_f137 enc hO p g lb eg zr v23 blk off cap d w hp hpo hH hsz hcap
def Tryz.laysSlF06_f298_ren:Go.Shelf.Ren:=⟨fun|6=>298|15=>215|14=>365|28=>318|29=>304|20=>392|21=>393|22=>394|23=>395|24=>396|25=>397|26=>398|27=>399|46=>418|47=>367|48=>368|49=>419|50=>420|57=>427|n=>n,fun|22=>117|24=>121|25=>282|3=>3|39=>295|0=>0|53=>379|55=>286|4=>4|46=>373|45=>372|50=>225|5=>5|9=>9|66=>407|70=>410|76=>434|77=>435|n=>n,fun|n=>n⟩
theorem Tryz.laysSlF06_f298:Go.Proofs.SlLaysF0.n6 Tryz.prog Tryz.laysSlF06_f298_ren:=by
 constructor<;>first|kernel_rfl|(intro w;kernel_rfl)|exact Tryz.br (by kernel_rfl) (by kernel_rfl)
def Tryz.laysSlF06_f321_ren:Go.Shelf.Ren:=⟨fun|6=>321|15=>215|14=>371|28=>318|29=>304|20=>401|21=>402|22=>403|23=>404|24=>405|25=>406|26=>407|27=>408|46=>421|47=>367|48=>368|49=>422|50=>423|57=>428|n=>n,fun|22=>219|24=>300|25=>383|3=>3|39=>295|0=>0|53=>379|55=>286|4=>4|46=>373|45=>372|50=>225|5=>5|9=>9|66=>407|70=>410|76=>434|77=>435|n=>n,fun|n=>n⟩
theorem Tryz.laysSlF06_f321:Go.Proofs.SlLaysF0.n6 Tryz.prog Tryz.laysSlF06_f321_ren:=by
 constructor<;>first|kernel_rfl|(intro w;kernel_rfl)|exact Tryz.br (by kernel_rfl) (by kernel_rfl)
def Tryz.laysSlF06_f409_ren:Go.Shelf.Ren:=⟨fun|6=>409|15=>215|14=>424|28=>318|29=>304|20=>429|21=>430|22=>431|23=>432|24=>433|25=>434|26=>435|27=>436|46=>438|47=>367|48=>368|49=>439|50=>440|57=>441|n=>n,fun|22=>36|24=>42|25=>416|3=>3|39=>295|0=>0|53=>379|55=>286|4=>4|46=>373|45=>372|50=>225|5=>5|9=>9|66=>407|70=>410|76=>434|77=>435|n=>n,fun|n=>n⟩
theorem Tryz.laysSlF06_f409:Go.Proofs.SlLaysF0.n6 Tryz.prog Tryz.laysSlF06_f409_ren:=by
 constructor<;>first|kernel_rfl|(intro w;kernel_rfl)|exact Tryz.br (by kernel_rfl) (by kernel_rfl)
open Go.RowKit Go.Lib Go.Sort in
theorem Tryz.slices_SortFunc_f298{α:Type}[Inhabited α](k:Nat)(aE:∀w,(isAgg 121).run Tryz.prog w=.ok true w)(zE:∀w,(Go.sizeOf 121).run Tryz.prog w=.ok k w)(enc:α→List Value)(hk:∀x,(enc x).length=k)(h1:∀x,∀v∈enc x,v.oneCell'=true)(cf:α→α→Int)(hO:SWO (ltOf cf))(g:Nat)(cb:Array Value)(blk off cap:Nat)(d:Array α)(w:World)(eg:∀args w,(callFunc g args).run Tryz.prog w=.ok (.enter g args) w)(hcmp:CmpLays Tryz.prog g cb enc k cf blk off d.size w)(hH:HoldsK enc k w blk off d)(hblk:blk < w.heap.size)(hsz:d.size < 4611686018427387904):
  Calls Tryz.prog 298 #[.slice (some ⟨blk,off,none⟩) d.size cap,.func (.func g) #[] cb] w fun e w'=>
   e=.returned (.tuple #[])∧∃d' n os,PermIn 0 d.size d d'∧SortedIn (ltOf cf) 0 d.size d'∧w'=sortWorldK enc k w blk off n d' os:=AnyQ.slices_SortFunc Tryz.laysSlF06_f298 k aE zE enc hk h1 cf hO g cb blk off cap d w eg hcmp hH hblk hsz
open Go.RowKit Go.Lib Go.Sort in
theorem Tryz.slices_SortFunc_none_f298{α:Type}[Inhabited α](p:Option Addr)(cap:Nat)(fv:Value)(w:World):
  Calls Tryz.prog 298 #[.slice p 0 cap,fv] w fun e w'=>e=.returned (.tuple #[])∧w'=w:=AnyF.slices_SortFunc_none Tryz.laysSlF06_f298 p cap fv w
open Go.RowKit Go.Lib Go.Sort in
theorem Tryz.slices_SortFunc_none_f321{α:Type}[Inhabited α](p:Option Addr)(cap:Nat)(fv:Value)(w:World):
  Calls Tryz.prog 321 #[.slice p 0 cap,fv] w fun e w'=>e=.returned (.tuple #[])∧w'=w:=AnyF.slices_SortFunc_none Tryz.laysSlF06_f321 p cap fv w
open Go.RowKit Go.Lib Go.Sort in
theorem Tryz.slices_SortFunc_none_f409{α:Type}[Inhabited α](p:Option Addr)(cap:Nat)(fv:Value)(w:World):
  Calls Tryz.prog 409 #[.slice p 0 cap,fv] w fun e w'=>e=.returned (.tuple #[])∧w'=w:=AnyF.slices_SortFunc_none Tryz.laysSlF06_f409 p cap fv w
open Go.RowKit Go.Lib Go.Sort in
theorem Tryz.slices_SortFunc_total_f321{α:Type}[Inhabited α](k:Nat)(aE:∀w,(isAgg 300).run Tryz.prog w=.ok true w)(zE:∀w,(Go.sizeOf 300).run Tryz.prog w=.ok k w)(enc:α→List Value)(hk:∀x,(enc x).length=k)(h1:∀x,∀v∈enc x,v.oneCell'=true)(cf:α→α→Int)(hO:SWO (ltOf cf))(g:Nat)(cb:Array Value)(blk off cap:Nat)(d:Array α)(w:World)(eg:∀args w,(callFunc g args).run Tryz.prog w=.ok (.enter g args) w)(hcmp:CmpLays Tryz.prog g cb enc k cf blk off d.size w)(hH:HoldsK enc k w blk off d)(hblk:blk < w.heap.size)(hsz:d.size < 4611686018427387904)(hT:∀x y,(ltOf cf) x y=false→(ltOf cf) y x=false→x=y):
  Calls Tryz.prog 321 #[.slice (some ⟨blk,off,none⟩) d.size cap,.func (.func g) #[] cb] w fun e w'=>
   e=.returned (.tuple #[])∧∃n os,w'=sortWorldK enc k w blk off n (d.toList.mergeSort fun x y=>!(ltOf cf) y x).toArray os:=AnyQ.slices_SortFunc_total Tryz.laysSlF06_f321 k aE zE enc hk h1 cf hO g cb blk off cap d w eg hcmp hH hblk hsz hT
open Go.RowKit Go.Lib Go.Sort in
theorem Tryz.slices_SortFunc_total_f409{α:Type}[Inhabited α](k:Nat)(aE:∀w,(isAgg 42).run Tryz.prog w=.ok true w)(zE:∀w,(Go.sizeOf 42).run Tryz.prog w=.ok k w)(enc:α→List Value)(hk:∀x,(enc x).length=k)(h1:∀x,∀v∈enc x,v.oneCell'=true)(cf:α→α→Int)(hO:SWO (ltOf cf))(g:Nat)(cb:Array Value)(blk off cap:Nat)(d:Array α)(w:World)(eg:∀args w,(callFunc g args).run Tryz.prog w=.ok (.enter g args) w)(hcmp:CmpLays Tryz.prog g cb enc k cf blk off d.size w)(hH:HoldsK enc k w blk off d)(hblk:blk < w.heap.size)(hsz:d.size < 4611686018427387904)(hT:∀x y,(ltOf cf) x y=false→(ltOf cf) y x=false→x=y):
  Calls Tryz.prog 409 #[.slice (some ⟨blk,off,none⟩) d.size cap,.func (.func g) #[] cb] w fun e w'=>
   e=.returned (.tuple #[])∧∃n os,w'=sortWorldK enc k w blk off n (d.toList.mergeSort fun x y=>!(ltOf cf) y x).toArray os:=AnyQ.slices_SortFunc_total Tryz.laysSlF06_f409 k aE zE enc hk h1 cf hO g cb blk off cap d w eg hcmp hH hblk hsz hT
def Tryz.keysB_ren:Go.Shelf.Ren:=⟨fun|7=>221|10=>325|n=>n,fun|23=>198|26=>3|3=>4|28=>61|0=>0|27=>60|33=>71|4=>4|n=>n,fun|n=>n⟩
theorem Tryz.keysB:Go.Proofs.SlLaysZI.n7 Tryz.prog Tryz.keysB_ren:=by
 constructor<;>first|kernel_rfl|(intro w;kernel_rfl)|exact Tryz.br (by kernel_rfl) (by kernel_rfl)
def Tryz.keysS_ren:Go.Shelf.Ren:=⟨fun|7=>141|10=>232|n=>n,fun|23=>182|26=>3|3=>9|28=>61|0=>0|27=>60|33=>71|4=>4|n=>n,fun|n=>n⟩
theorem Tryz.keysS:Go.Proofs.SlLaysZI.n7 Tryz.prog Tryz.keysS_ren:=by
 constructor<;>first|kernel_rfl|(intro w;kernel_rfl)|exact Tryz.br (by kernel_rfl) (by kernel_rfl)
def Tryz.keysI_ren:Go.Shelf.Ren:=⟨fun|7=>326|10=>372|n=>n,fun|23=>179|26=>3|3=>3|28=>61|0=>0|27=>60|33=>71|4=>4|n=>n,fun|n=>n⟩
theorem Tryz.keysI:Go.Proofs.SlLaysZI.n7 Tryz.prog Tryz.keysI_ren:=by
 constructor<;>first|kernel_rfl|(intro w;kernel_rfl)|exact Tryz.br (by kernel_rfl) (by kernel_rfl)
def Tryz.keysQ_ren:Go.Shelf.Ren:=⟨fun|7=>63|10=>123|n=>n,fun|23=>86|26=>3|3=>144|28=>61|0=>0|27=>60|33=>71|4=>4|n=>n,fun|n=>n⟩
theorem Tryz.keysQ:Go.Proofs.SlLaysZI.n7 Tryz.prog Tryz.keysQ_ren:=by
 constructor<;>first|kernel_rfl|(intro w;kernel_rfl)|exact Tryz.br (by kernel_rfl) (by kernel_rfl)
def Tryz.sortedA_ren:Go.Shelf.Ren:=⟨fun|6=>62|8=>121|9=>122|11=>213|13=>215|12=>214|23=>318|24=>304|14=>309|15=>310|16=>311|17=>312|18=>313|19=>314|20=>315|21=>316|22=>317|25=>366|26=>367|27=>368|28=>369|29=>370|30=>300|31=>400|n=>n,fun|26=>3|28=>61|24=>34|0=>0|3=>3|37=>295|48=>379|50=>286|4=>4|40=>373|39=>372|45=>225|5=>5|9=>9|51=>407|55=>410|57=>434|58=>435|33=>71|n=>n,fun|n=>n⟩
theorem Tryz.sortedA:Go.Proofs.SlLaysZI.n6 Tryz.prog Tryz.sortedA_ren:=by
 constructor<;>first|kernel_rfl|(intro w;kernel_rfl)|exact Tryz.br (by kernel_rfl) (by kernel_rfl)
def Tryz.sortA_ren:Go.Shelf.Ren:=⟨fun|5=>122|8=>215|7=>214|19=>318|20=>304|10=>309|11=>310|12=>311|13=>312|14=>313|15=>314|16=>315|17=>316|18=>317|30=>366|31=>367|32=>368|33=>369|34=>370|35=>300|40=>400|n=>n,fun|23=>34|25=>3|3=>3|32=>295|22=>34|0=>0|44=>379|46=>286|4=>4|36=>373|35=>372|41=>225|5=>5|9=>9|53=>407|57=>410|63=>434|64=>435|n=>n,fun|n=>n⟩
theorem Tryz.sortA:Go.Proofs.SlLaysM.n5 Tryz.prog Tryz.sortA_ren:=by
 constructor<;>first|kernel_rfl|(intro w;kernel_rfl)|exact Tryz.br (by kernel_rfl) (by kernel_rfl)
end Go.Proofs
