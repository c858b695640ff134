/-
  DERIVED: THE SHELF's CONTRACTS AT THIS DUMP, IN PLAIN WORDS (tools/lay-plain.mjs out of 'TryzShelf.lean', which tools/lay-shelf.mjs wrote): THE SAME DECLARATIONS UNDER THE SAME NAMES: 'import', 'namespace', 'open', 'def', 'theorem' AND NOTHING ELSE: no command of the shelf's: FOR A HAND-IN. Each laying: the table of numbers ('.._ren') and one theorem, a field a fact of the dump's own or the kernel's comparison; each contract: ONE APPLICATION.
-/
import Derived.Shelf.Small.Strs
import Derived.Shelf.Strconv.Atoi
import Derived.Shelf.Strconv.Itoa0
import Derived.Shelf.Strconv.Itoa1
import Derived.Shelf.LaysM
import Derived.Shelf.Strconv.Itoa2
import Derived.Shelf.Strconv.Itoa3
import Derived.Shelf.Strconv.Itoa4
import Derived.Shelf.Strconv.AtoiErrFast
import Derived.Shelf.Strconv.ParseIntEmpty
import Derived.Shelf.Strconv.AtoiFail
import Derived.Shelf.Strconv.Clone
import Derived.Shelf.Strconv.SyntaxError
import Derived.Shelf.LaysC
import Derived.Shelf.Strconv.ToError
import Derived.Shelf.Strconv.Lower
import Derived.Shelf.Strconv.ParseUint10
import Derived.Shelf.Strconv.ParseUint10Empty
import Derived.Shelf.Strconv.ParseUint10Any
import Derived.Shelf.Strconv.ParseInt10
import Derived.Shelf.Strconv.AtoiLong
import Derived.Shelf.Strconv.AtoiInnerAll
import Derived.Shelf.Strconv.RangeError
import Derived.Shelf.Strconv.ToErrorRange
import Derived.Shelf.Strconv.AtoiAll
import Derived.Shelf.Strconv.ErrVarAll
import Derived.Shelf.Strconv.ParseUintEmpty
import Derived.Shelf.Strconv.ParseUint10b64
import Derived.Shelf.Strconv.ParseUint10b32
import Derived.Shelf.Strconv.ParseUint10b16
import Derived.Shelf.Strconv.ParseUint10b8
import Derived.Shelf.Strconv.ParseUint10At
import Derived.Shelf.Strconv.ParseInt10At64
import Derived.Shelf.Strconv.ParseInt10At32
import Derived.Shelf.Strconv.ParseInt10At16
import Derived.Shelf.Strconv.ParseInt10At8
import Derived.Shelf.Strconv.ParseInt10All
import Derived.Shelf.Strconv.ParseIntPublic10
import Derived.Shelf.Strconv.ErrVarParseInt
import Derived.Shelf.Strings.Search1
import Derived.Shelf.Strconv.AppendUint10
import Derived.Shelf.Strconv.AppendInt10
import Derived.Shelf.Bits.Mul64
import Derived.Test.YteoalcmhdoopnaaGreatDoorProg
namespace Go.Proofs
open Go.Shelf
open Go.RowKit in
open Go.RowKit in
def Tryz.lays137_ren:Go.Shelf.Ren:=⟨fun | 137=>55 | 217=>71 | 266=>86 | n=>n,fun | 9=>9 | 5=>5 | 3=>3 | n=>n,fun | n=>n⟩
theorem Tryz.lays137:Go.Proofs.Lays.n137 Tryz.prog Tryz.lays137_ren:={
 mixed:=by kernel_rfl
 f137:=Tryz.func55.trans (congrArg some (by kernel_rfl))
 f217:=Tryz.func71.trans (congrArg some (by kernel_rfl))
 f266:=Tryz.func86.trans (congrArg some (by kernel_rfl))
 t3:=Tryz.underlying3
 a3:=Tryz.isAgg3
 z3:=Tryz.sizeOf3
 v3:=Tryz.zeroValue3
 t5:=Tryz.underlying5
 a5:=Tryz.isAgg5
 z5:=Tryz.sizeOf5
 v5:=Tryz.zeroValue5
 t9:=Tryz.underlying9
 a9:=Tryz.isAgg9
 z9:=Tryz.sizeOf9
 v9:=Tryz.zeroValue9 }
open Go.RowKit in
theorem Tryz.strings_IndexByte (s:ByteArray) (c:Int) (w:World) :
   Calls Tryz.prog 55 #[.string s,.int .u8 c] w fun e w' => e=.returned (.int .i64 (Lib.indexByte s.data.toList c.toNat.toUInt8))/\w' = w:=Any.strings_IndexByte Tryz.lays137 s c w
open Go.RowKit in
def Tryz.lays172_ren:Go.Shelf.Ren:=⟨fun | 172=>54 | 244=>70 | 245=>58 | 247=>63 | 279=>73 | 280=>74 | 281=>75 | 282=>76 | 287=>79 | 316=>89 | 171=>91 | 205=>90 | 321=>94 | 322=>95 | 243=>126 | 246=>64 | 283=>80 | 284=>81 | 285=>82 | 286=>83 | 129=>97 | 317=>96 | 318=>98 | 319=>99 | 320=>100 | 337=>128 | 338=>129 | n=>n,fun | 9=>9 | 3=>3 | 75=>76 | 76=>90 | 4=>4 | 5=>5 | 167=>106 | 37=>50 | 0=>0 | 85=>84 | 2=>2 | 168=>107 | 53=>25 | 175=>111 | 46=>68 | 210=>126 | 127=>173 | 145=>176 | 143=>174 | 21=>21 | 171=>113 | 173=>116 | 212=>132 | 51=>133 | 20=>20 | 213=>134 | 232=>141 | 233=>198 | 80=>209 | n=>n,fun | 15=>1 | 16=>2 | 17=>3 | 18=>11 | 19=>12 | n=>n⟩
theorem Tryz.lays172:Go.Proofs.Lays.n172 Tryz.prog Tryz.lays172_ren:={
 mixed:=by kernel_rfl
 f129:=Tryz.func97.trans (congrArg some (by kernel_rfl))
 f171:=Tryz.func91.trans (congrArg some (by kernel_rfl))
 f172:=Tryz.func54.trans (congrArg some (by kernel_rfl))
 f205:=Tryz.func90.trans (congrArg some (by kernel_rfl))
 f243:=Tryz.func126.trans (congrArg some (by kernel_rfl))
 f244:=Tryz.func70.trans (congrArg some (by kernel_rfl))
 f245:=Tryz.func58.trans (congrArg some (by kernel_rfl))
 f246:=Tryz.func64.trans (congrArg some (by kernel_rfl))
 f247:=Tryz.func63.trans (congrArg some (by kernel_rfl))
 f279:=Tryz.func73.trans (congrArg some (by kernel_rfl))
 f280:=Tryz.func74.trans (congrArg some (by kernel_rfl))
 f281:=Tryz.func75.trans (congrArg some (by kernel_rfl))
 f282:=Tryz.func76.trans (congrArg some (by kernel_rfl))
 f283:=Tryz.func80.trans (congrArg some (by kernel_rfl))
 f284:=Tryz.func81.trans (congrArg some (by kernel_rfl))
 f285:=Tryz.func82.trans (congrArg some (by kernel_rfl))
 f286:=Tryz.func83.trans (congrArg some (by kernel_rfl))
 f287:=Tryz.func79.trans (congrArg some (by kernel_rfl))
 f316:=Tryz.func89.trans (congrArg some (by kernel_rfl))
 f317:=Tryz.func96.trans (congrArg some (by kernel_rfl))
 f318:=Tryz.func98.trans (congrArg some (by kernel_rfl))
 f319:=Tryz.func99.trans (congrArg some (by kernel_rfl))
 f320:=Tryz.func100.trans (congrArg some (by kernel_rfl))
 f321:=Tryz.func94.trans (congrArg some (by kernel_rfl))
 f322:=Tryz.func95.trans (congrArg some (by kernel_rfl))
 f337:=Tryz.func128.trans (congrArg some (by kernel_rfl))
 f338:=Tryz.func129.trans (congrArg some (by kernel_rfl))
 t0:=Tryz.underlying0
 a0:=Tryz.isAgg0
 z0:=Tryz.sizeOf0
 v0:=Tryz.zeroValue0
 t2:=Tryz.underlying2
 a2:=Tryz.isAgg2
 z2:=Tryz.sizeOf2
 v2:=Tryz.zeroValue2
 t3:=Tryz.underlying3
 a3:=Tryz.isAgg3
 z3:=Tryz.sizeOf3
 v3:=Tryz.zeroValue3
 t4:=Tryz.underlying4
 a4:=Tryz.isAgg4
 z4:=Tryz.sizeOf4
 v4:=Tryz.zeroValue4
 t5:=Tryz.underlying5
 a5:=Tryz.isAgg5
 z5:=Tryz.sizeOf5
 v5:=Tryz.zeroValue5
 t9:=Tryz.underlying9
 a9:=Tryz.isAgg9
 z9:=Tryz.sizeOf9
 v9:=Tryz.zeroValue9
 t20:=Tryz.underlying20
 a20:=Tryz.isAgg20
 z20:=Tryz.sizeOf20
 v20:=Tryz.zeroValue20
 t21:=Tryz.underlying21
 a21:=Tryz.isAgg21
 z21:=Tryz.sizeOf21
 v21:=Tryz.zeroValue21
 t37:=Tryz.underlying50
 a37:=Tryz.isAgg50
 z37:=Tryz.sizeOf50
 v37:=Tryz.zeroValue50
 t46:=Tryz.underlying68
 a46:=Tryz.isAgg68
 z46:=Tryz.sizeOf68
 v46:=Tryz.zeroValue68
 t51:=Tryz.underlying133
 a51:=Tryz.isAgg133
 z51:=Tryz.sizeOf133
 v51:=Tryz.zeroValue133
 t53:=Tryz.underlying25
 a53:=Tryz.isAgg25
 z53:=Tryz.sizeOf25
 v53:=Tryz.zeroValue25
 t75:=Tryz.underlying76
 a75:=Tryz.isAgg76
 z75:=Tryz.sizeOf76
 v75:=Tryz.zeroValue76
 t76:=Tryz.underlying90
 a76:=Tryz.isAgg90
 z76:=Tryz.sizeOf90
 v76:=Tryz.zeroValue90
 t85:=Tryz.underlying84
 a85:=Tryz.isAgg84
 z85:=Tryz.sizeOf84
 v85:=Tryz.zeroValue84
 t127:=Tryz.underlying173
 a127:=Tryz.isAgg173
 z127:=Tryz.sizeOf173
 v127:=Tryz.zeroValue173
 t143:=Tryz.underlying174
 a143:=Tryz.isAgg174
 z143:=Tryz.sizeOf174
 v143:=Tryz.zeroValue174
 t145:=Tryz.underlying176
 a145:=Tryz.isAgg176
 z145:=Tryz.sizeOf176
 v145:=Tryz.zeroValue176
 t167:=Tryz.underlying106
 a167:=Tryz.isAgg106
 z167:=Tryz.sizeOf106
 v167:=Tryz.zeroValue106
 t168:=Tryz.underlying107
 a168:=Tryz.isAgg107
 z168:=Tryz.sizeOf107
 v168:=Tryz.zeroValue107
 t171:=Tryz.underlying113
 a171:=Tryz.isAgg113
 z171:=Tryz.sizeOf113
 v171:=Tryz.zeroValue113
 t173:=Tryz.underlying116
 a173:=Tryz.isAgg116
 z173:=Tryz.sizeOf116
 v173:=Tryz.zeroValue116
 t175:=Tryz.underlying111
 a175:=Tryz.isAgg111
 z175:=Tryz.sizeOf111
 v175:=Tryz.zeroValue111
 t210:=Tryz.underlying126
 a210:=Tryz.isAgg126
 z210:=Tryz.sizeOf126
 v210:=Tryz.zeroValue126
 t212:=Tryz.underlying132
 a212:=Tryz.isAgg132
 z212:=Tryz.sizeOf132
 v212:=Tryz.zeroValue132
 t213:=Tryz.underlying134
 a213:=Tryz.isAgg134
 z213:=Tryz.sizeOf134
 t232:=Tryz.underlying141
 a232:=Tryz.isAgg141
 z232:=Tryz.sizeOf141
 v232:=Tryz.zeroValue141
 t233:=Tryz.underlying198
 a233:=Tryz.isAgg198
 z233:=Tryz.sizeOf198
 v233:=Tryz.zeroValue198
 g15:=by kernel_rfl
 g16:=by kernel_rfl
 g17:=by kernel_rfl
 g18:=by kernel_rfl
 g19:=by kernel_rfl }
open Go.RowKit in
theorem Tryz.strconv_Atoi (s:ByteArray) (n:Int) (hl:s.size<=18) (h:Lib.atoi s.data.toList=some n) (w:World) :
   Calls Tryz.prog 54 #[.string s] w fun e w' => e=.returned (.tuple #[.int .i64 n,.nilIface])/\∃t,w' = Lib.bytesWorld w 5 t:=Any.strconv_Atoi Tryz.lays172 s n hl h w
def Tryz.lays129_ren:Go.Shelf.Ren:=⟨fun | 129=>97 | n=>n,fun | 53=>25 | 3=>3 | 4=>4 | 46=>68 | 5=>5 | 9=>9 | n=>n,fun | n=>n⟩
theorem Tryz.lays129:Go.Proofs.Lays.n129 Tryz.prog Tryz.lays129_ren:={
 mixed:=by kernel_rfl
 f129:=Tryz.func97.trans (congrArg some (by kernel_rfl))
 t3:=Tryz.underlying3
 a3:=Tryz.isAgg3
 z3:=Tryz.sizeOf3
 v3:=Tryz.zeroValue3
 t4:=Tryz.underlying4
 a4:=Tryz.isAgg4
 z4:=Tryz.sizeOf4
 v4:=Tryz.zeroValue4
 t5:=Tryz.underlying5
 a5:=Tryz.isAgg5
 z5:=Tryz.sizeOf5
 v5:=Tryz.zeroValue5
 t9:=Tryz.underlying9
 a9:=Tryz.isAgg9
 z9:=Tryz.sizeOf9
 v9:=Tryz.zeroValue9
 t46:=Tryz.underlying68
 a46:=Tryz.isAgg68
 z46:=Tryz.sizeOf68
 v46:=Tryz.zeroValue68
 t53:=Tryz.underlying25
 a53:=Tryz.isAgg25
 z53:=Tryz.sizeOf25
 v53:=Tryz.zeroValue25 }
theorem Tryz.bits_Len64 (x:Int) (w:World) (h0:0<=x) (h1:x<=18446744073709551615) :
   Calls Tryz.prog 97 #[.int .u64 x] w fun e w' => e=.returned (.int .i64 (Lib.bitLen x.toNat))/\w' = w:=Any.bits_Len64 Tryz.lays129 x w h0 h1
open Go.Lib in
open Go.Lib in
open Go.Lib in
def Tryz.laysM284_ren:Go.Shelf.Ren:=⟨fun | 284=>81 | 129=>97 | 317=>96 | 318=>98 | n=>n,fun | 53=>25 | 3=>3 | 212=>132 | 0=>0 | 4=>4 | 46=>68 | 5=>5 | 9=>9 | n=>n,fun | 17=>3 | n=>n⟩
theorem Tryz.laysM284:Go.Proofs.LaysM.n284 Tryz.prog Tryz.laysM284_ren:={
 mixed:=by kernel_rfl
 f129:=Tryz.func97.trans (congrArg some (by kernel_rfl))
 f284:=Tryz.func81.trans (congrArg some (by kernel_rfl))
 f317:=Tryz.func96.trans (congrArg some (by kernel_rfl))
 f318:=Tryz.func98.trans (congrArg some (by kernel_rfl))
 t0:=Tryz.underlying0
 a0:=Tryz.isAgg0
 z0:=Tryz.sizeOf0
 v0:=Tryz.zeroValue0
 t3:=Tryz.underlying3
 a3:=Tryz.isAgg3
 z3:=Tryz.sizeOf3
 v3:=Tryz.zeroValue3
 t4:=Tryz.underlying4
 a4:=Tryz.isAgg4
 z4:=Tryz.sizeOf4
 v4:=Tryz.zeroValue4
 t5:=Tryz.underlying5
 a5:=Tryz.isAgg5
 z5:=Tryz.sizeOf5
 v5:=Tryz.zeroValue5
 t9:=Tryz.underlying9
 a9:=Tryz.isAgg9
 z9:=Tryz.sizeOf9
 v9:=Tryz.zeroValue9
 t46:=Tryz.underlying68
 a46:=Tryz.isAgg68
 z46:=Tryz.sizeOf68
 v46:=Tryz.zeroValue68
 t53:=Tryz.underlying25
 a53:=Tryz.isAgg25
 z53:=Tryz.sizeOf25
 v53:=Tryz.zeroValue25
 t212:=Tryz.underlying132
 a212:=Tryz.isAgg132
 z212:=Tryz.sizeOf132
 v212:=Tryz.zeroValue132
 g17:=by kernel_rfl
 i0:=by kernel_rfl
 i3:=by kernel_rfl
 i4:=by kernel_rfl
 i5:=by kernel_rfl
 i9:=by kernel_rfl
 i46:=by kernel_rfl
 i53:=by kernel_rfl
 i212:=by kernel_rfl
 m17:=by kernel_rfl }
open Go.Lib in
theorem Tryz.internal_strconv_numDigits (u : Nat) (h1 : 1 <= u) (h2 : u < 18446744073709551616) (w : World) (htab : Lib.TabIs Tryz.prog w "internal/strconv.uint64pow10" .u64 Lib.pow10Tab) :
   Calls Tryz.prog 81 #[.int .u64 u] w fun e w' => e=.returned (.int .i64 (Lib.nDigits u))/\w' = w:=Any.internal_strconv_numDigits Tryz.laysM284 u h1 h2 w htab
def Tryz.lays285_ren:Go.Shelf.Ren:=⟨fun | 285=>82 | n=>n,fun | 37=>50 | 53=>25 | 3=>3 | 4=>4 | 51=>133 | 9=>9 | 5=>5 | 0=>0 | n=>n,fun | n=>n⟩
theorem Tryz.lays285:Go.Proofs.Lays.n285 Tryz.prog Tryz.lays285_ren:={
 mixed:=by kernel_rfl
 f285:=Tryz.func82.trans (congrArg some (by kernel_rfl))
 t0:=Tryz.underlying0
 a0:=Tryz.isAgg0
 z0:=Tryz.sizeOf0
 v0:=Tryz.zeroValue0
 t3:=Tryz.underlying3
 a3:=Tryz.isAgg3
 z3:=Tryz.sizeOf3
 v3:=Tryz.zeroValue3
 t4:=Tryz.underlying4
 a4:=Tryz.isAgg4
 z4:=Tryz.sizeOf4
 v4:=Tryz.zeroValue4
 t5:=Tryz.underlying5
 a5:=Tryz.isAgg5
 z5:=Tryz.sizeOf5
 v5:=Tryz.zeroValue5
 t9:=Tryz.underlying9
 a9:=Tryz.isAgg9
 z9:=Tryz.sizeOf9
 v9:=Tryz.zeroValue9
 t37:=Tryz.underlying50
 a37:=Tryz.isAgg50
 z37:=Tryz.sizeOf50
 v37:=Tryz.zeroValue50
 t51:=Tryz.underlying133
 a51:=Tryz.isAgg133
 z51:=Tryz.sizeOf133
 v51:=Tryz.zeroValue133
 t53:=Tryz.underlying25
 a53:=Tryz.isAgg25
 z53:=Tryz.sizeOf25
 v53:=Tryz.zeroValue25 }
open Go.RowKit Go.Sort Go.Lib in
theorem Tryz.internal_strconv_formatBase10 (blk off cap:Nat) (u:Nat) (d:Array UInt8) (w:World) (hH:Holds (fun (b:UInt8)=>Value.int .u8 (b.toNat:Int)) w blk off d) (hu:u<10 ^ d.size) (hu64:u<18446744073709551616) (hsz:d.size<4611686018427387904) :
   Calls Tryz.prog 82 #[.slice (some ⟨blk,off,none⟩) d.size cap,.int .u64 u] w fun e w' =>
     e=.returned (.tuple #[])/\∃(n v' : Nat) (dk:Array UInt8),w' = (putRow (fun (b:UInt8)=>Value.int .u8 (b.toNat:Int)) w blk off dk).drewN n/\FmtInv d.size u 0 v' dk:=Any.internal_strconv_formatBase10 Tryz.lays285 blk off cap u d w hH hu hu64 hsz
open Go.RowKit Go.Sort Go.Lib in
open Go.RowKit Go.Sort Go.Lib in
open Go.RowKit Go.Sort Go.Lib in
open Go.RowKit Go.Sort Go.Lib in
open Go.RowKit Go.Sort Go.Lib in
open Go.RowKit Go.Sort Go.Lib in
def Tryz.laysM173_ren:Go.Shelf.Ren:=⟨fun | 173=>48 | 246=>64 | 283=>80 | 284=>81 | 285=>82 | 286=>83 | 129=>97 | 317=>96 | 318=>98 | 319=>99 | 320=>100 | 337=>128 | 338=>129 | n=>n,fun | 2=>2 | 3=>3 | 9=>9 | 4=>4 | 171=>113 | 0=>0 | 53=>25 | 37=>50 | 5=>5 | 173=>116 | 212=>132 | 51=>133 | 20=>20 | 213=>134 | 46=>68 | 232=>141 | 233=>198 | n=>n,fun | 17=>3 | 18=>11 | 19=>12 | n=>n⟩
theorem Tryz.laysM173:Go.Proofs.LaysM.n173 Tryz.prog Tryz.laysM173_ren:={
 mixed:=by kernel_rfl
 f129:=Tryz.func97.trans (congrArg some (by kernel_rfl))
 f173:=Tryz.func48.trans (congrArg some (by kernel_rfl))
 f246:=Tryz.func64.trans (congrArg some (by kernel_rfl))
 f283:=Tryz.func80.trans (congrArg some (by kernel_rfl))
 f284:=Tryz.func81.trans (congrArg some (by kernel_rfl))
 f285:=Tryz.func82.trans (congrArg some (by kernel_rfl))
 f286:=Tryz.func83.trans (congrArg some (by kernel_rfl))
 f317:=Tryz.func96.trans (congrArg some (by kernel_rfl))
 f318:=Tryz.func98.trans (congrArg some (by kernel_rfl))
 f319:=Tryz.func99.trans (congrArg some (by kernel_rfl))
 f320:=Tryz.func100.trans (congrArg some (by kernel_rfl))
 f337:=Tryz.func128.trans (congrArg some (by kernel_rfl))
 f338:=Tryz.func129.trans (congrArg some (by kernel_rfl))
 t0:=Tryz.underlying0
 a0:=Tryz.isAgg0
 z0:=Tryz.sizeOf0
 v0:=Tryz.zeroValue0
 t2:=Tryz.underlying2
 a2:=Tryz.isAgg2
 z2:=Tryz.sizeOf2
 v2:=Tryz.zeroValue2
 t3:=Tryz.underlying3
 a3:=Tryz.isAgg3
 z3:=Tryz.sizeOf3
 v3:=Tryz.zeroValue3
 t4:=Tryz.underlying4
 a4:=Tryz.isAgg4
 z4:=Tryz.sizeOf4
 v4:=Tryz.zeroValue4
 t5:=Tryz.underlying5
 a5:=Tryz.isAgg5
 z5:=Tryz.sizeOf5
 v5:=Tryz.zeroValue5
 t9:=Tryz.underlying9
 a9:=Tryz.isAgg9
 z9:=Tryz.sizeOf9
 v9:=Tryz.zeroValue9
 t20:=Tryz.underlying20
 a20:=Tryz.isAgg20
 z20:=Tryz.sizeOf20
 v20:=Tryz.zeroValue20
 t37:=Tryz.underlying50
 a37:=Tryz.isAgg50
 z37:=Tryz.sizeOf50
 v37:=Tryz.zeroValue50
 t46:=Tryz.underlying68
 a46:=Tryz.isAgg68
 z46:=Tryz.sizeOf68
 v46:=Tryz.zeroValue68
 t51:=Tryz.underlying133
 a51:=Tryz.isAgg133
 z51:=Tryz.sizeOf133
 v51:=Tryz.zeroValue133
 t53:=Tryz.underlying25
 a53:=Tryz.isAgg25
 z53:=Tryz.sizeOf25
 v53:=Tryz.zeroValue25
 t171:=Tryz.underlying113
 a171:=Tryz.isAgg113
 z171:=Tryz.sizeOf113
 v171:=Tryz.zeroValue113
 t173:=Tryz.underlying116
 a173:=Tryz.isAgg116
 z173:=Tryz.sizeOf116
 v173:=Tryz.zeroValue116
 t212:=Tryz.underlying132
 a212:=Tryz.isAgg132
 z212:=Tryz.sizeOf132
 v212:=Tryz.zeroValue132
 t213:=Tryz.underlying134
 a213:=Tryz.isAgg134
 z213:=Tryz.sizeOf134
 t232:=Tryz.underlying141
 a232:=Tryz.isAgg141
 z232:=Tryz.sizeOf141
 v232:=Tryz.zeroValue141
 t233:=Tryz.underlying198
 a233:=Tryz.isAgg198
 z233:=Tryz.sizeOf198
 v233:=Tryz.zeroValue198
 g17:=by kernel_rfl
 g18:=by kernel_rfl
 g19:=by kernel_rfl
 i0:=by kernel_rfl
 i2:=by kernel_rfl
 i3:=by kernel_rfl
 i4:=by kernel_rfl
 i5:=by kernel_rfl
 i9:=by kernel_rfl
 i20:=by kernel_rfl
 i37:=by kernel_rfl
 i46:=by kernel_rfl
 i51:=by kernel_rfl
 i53:=by kernel_rfl
 i171:=by kernel_rfl
 i173:=by kernel_rfl
 i212:=by kernel_rfl
 i232:=by kernel_rfl
 i233:=by kernel_rfl
 m17:=by kernel_rfl
 m18:=by kernel_rfl
 m19:=by kernel_rfl }
open Go.RowKit Go.Sort Go.Lib in
theorem Tryz.strconv_FormatInt_10 (n : Int) (h0 : -9223372036854775808 <= n) (h1 : n <= 9223372036854775807) (w : World) (htab : Lib.TabIs Tryz.prog w "internal/strconv.uint64pow10" .u64 Lib.pow10Tab) :
   Calls Tryz.prog 48 #[.int .i64 n,.int .i64 10] w fun e w' => e=.returned (.string ⟨(Lib.itoa n).toArray⟩)/\∃k os,w' = grow (w.drewN k) os:=Any.strconv_FormatInt_10 Tryz.laysM173 n h0 h1 w htab
open Go.RowKit Go.Sort Go.Lib in
open Go.RowKit in
open Go.RowKit in
open Go.RowKit in
open Go.RowKit in
open Go.RowKit in
open Go.RowKit in
def Tryz.laysC245_ren:Go.Shelf.Ren:=⟨fun | 245=>58 | 279=>73 | 280=>74 | 281=>75 | 282=>76 | 316=>89 | 171=>91 | 205=>90 | 243=>126 | 246=>64 | 283=>80 | 284=>81 | 285=>82 | 286=>83 | 129=>97 | 317=>96 | 318=>98 | 319=>99 | 320=>100 | 337=>128 | 338=>129 | n=>n,fun | 9=>9 | 3=>3 | 75=>76 | 167=>106 | 4=>4 | 168=>107 | 210=>126 | 37=>50 | 0=>0 | 127=>173 | 145=>176 | 143=>174 | 2=>2 | 171=>113 | 53=>25 | 5=>5 | 173=>116 | 212=>132 | 51=>133 | 20=>20 | 213=>134 | 46=>68 | 232=>141 | 233=>198 | 80=>209 | n=>n,fun | 15=>1 | 16=>2 | 17=>3 | 18=>11 | 19=>12 | n=>n⟩
theorem Tryz.laysC245:Go.Proofs.LaysC.n245 Tryz.prog Tryz.laysC245_ren:={
 mixed:=by kernel_rfl
 f129:=Tryz.func97.trans (congrArg some (by kernel_rfl))
 f171:=Tryz.func91.trans (congrArg some (by kernel_rfl))
 f205:=Tryz.func90.trans (congrArg some (by kernel_rfl))
 f243:=Tryz.func126.trans (congrArg some (by kernel_rfl))
 f245:=Tryz.func58.trans (congrArg some (by kernel_rfl))
 f246:=Tryz.func64.trans (congrArg some (by kernel_rfl))
 f279:=Tryz.func73.trans (congrArg some (by kernel_rfl))
 f280:=Tryz.func74.trans (congrArg some (by kernel_rfl))
 f281:=Tryz.func75.trans (congrArg some (by kernel_rfl))
 f282:=Tryz.func76.trans (congrArg some (by kernel_rfl))
 f283:=Tryz.func80.trans (congrArg some (by kernel_rfl))
 f284:=Tryz.func81.trans (congrArg some (by kernel_rfl))
 f285:=Tryz.func82.trans (congrArg some (by kernel_rfl))
 f286:=Tryz.func83.trans (congrArg some (by kernel_rfl))
 f316:=Tryz.func89.trans (congrArg some (by kernel_rfl))
 f317:=Tryz.func96.trans (congrArg some (by kernel_rfl))
 f318:=Tryz.func98.trans (congrArg some (by kernel_rfl))
 f319:=Tryz.func99.trans (congrArg some (by kernel_rfl))
 f320:=Tryz.func100.trans (congrArg some (by kernel_rfl))
 f337:=Tryz.func128.trans (congrArg some (by kernel_rfl))
 f338:=Tryz.func129.trans (congrArg some (by kernel_rfl))
 t0:=Tryz.underlying0
 a0:=Tryz.isAgg0
 z0:=Tryz.sizeOf0
 v0:=Tryz.zeroValue0
 t2:=Tryz.underlying2
 a2:=Tryz.isAgg2
 z2:=Tryz.sizeOf2
 v2:=Tryz.zeroValue2
 t3:=Tryz.underlying3
 a3:=Tryz.isAgg3
 z3:=Tryz.sizeOf3
 v3:=Tryz.zeroValue3
 t4:=Tryz.underlying4
 a4:=Tryz.isAgg4
 z4:=Tryz.sizeOf4
 v4:=Tryz.zeroValue4
 t5:=Tryz.underlying5
 a5:=Tryz.isAgg5
 z5:=Tryz.sizeOf5
 v5:=Tryz.zeroValue5
 t9:=Tryz.underlying9
 a9:=Tryz.isAgg9
 z9:=Tryz.sizeOf9
 v9:=Tryz.zeroValue9
 t20:=Tryz.underlying20
 a20:=Tryz.isAgg20
 z20:=Tryz.sizeOf20
 v20:=Tryz.zeroValue20
 t37:=Tryz.underlying50
 a37:=Tryz.isAgg50
 z37:=Tryz.sizeOf50
 v37:=Tryz.zeroValue50
 t46:=Tryz.underlying68
 a46:=Tryz.isAgg68
 z46:=Tryz.sizeOf68
 v46:=Tryz.zeroValue68
 t51:=Tryz.underlying133
 a51:=Tryz.isAgg133
 z51:=Tryz.sizeOf133
 v51:=Tryz.zeroValue133
 t53:=Tryz.underlying25
 a53:=Tryz.isAgg25
 z53:=Tryz.sizeOf25
 v53:=Tryz.zeroValue25
 t75:=Tryz.underlying76
 a75:=Tryz.isAgg76
 z75:=Tryz.sizeOf76
 v75:=Tryz.zeroValue76
 t127:=Tryz.underlying173
 a127:=Tryz.isAgg173
 z127:=Tryz.sizeOf173
 v127:=Tryz.zeroValue173
 t143:=Tryz.underlying174
 a143:=Tryz.isAgg174
 z143:=Tryz.sizeOf174
 v143:=Tryz.zeroValue174
 t145:=Tryz.underlying176
 a145:=Tryz.isAgg176
 z145:=Tryz.sizeOf176
 v145:=Tryz.zeroValue176
 t167:=Tryz.underlying106
 a167:=Tryz.isAgg106
 z167:=Tryz.sizeOf106
 v167:=Tryz.zeroValue106
 t168:=Tryz.underlying107
 a168:=Tryz.isAgg107
 z168:=Tryz.sizeOf107
 v168:=Tryz.zeroValue107
 t171:=Tryz.underlying113
 a171:=Tryz.isAgg113
 z171:=Tryz.sizeOf113
 v171:=Tryz.zeroValue113
 t173:=Tryz.underlying116
 a173:=Tryz.isAgg116
 z173:=Tryz.sizeOf116
 v173:=Tryz.zeroValue116
 t210:=Tryz.underlying126
 a210:=Tryz.isAgg126
 z210:=Tryz.sizeOf126
 v210:=Tryz.zeroValue126
 t212:=Tryz.underlying132
 a212:=Tryz.isAgg132
 z212:=Tryz.sizeOf132
 v212:=Tryz.zeroValue132
 t213:=Tryz.underlying134
 a213:=Tryz.isAgg134
 z213:=Tryz.sizeOf134
 t232:=Tryz.underlying141
 a232:=Tryz.isAgg141
 z232:=Tryz.sizeOf141
 v232:=Tryz.zeroValue141
 t233:=Tryz.underlying198
 a233:=Tryz.isAgg198
 z233:=Tryz.sizeOf198
 v233:=Tryz.zeroValue198
 g15:=by kernel_rfl
 g16:=by kernel_rfl
 g17:=by kernel_rfl
 g18:=by kernel_rfl
 g19:=by kernel_rfl
 t80:=Tryz.underlying209
 a80:=Tryz.isAgg209
 z80:=Tryz.sizeOf209
 v80:=Tryz.zeroValue209
 i0:=by kernel_rfl
 i2:=by kernel_rfl
 i3:=by kernel_rfl
 i4:=by kernel_rfl
 i5:=by kernel_rfl
 i9:=by kernel_rfl
 i20:=by kernel_rfl
 i37:=by kernel_rfl
 i46:=by kernel_rfl
 i51:=by kernel_rfl
 i53:=by kernel_rfl
 i75:=by kernel_rfl
 i80:=by kernel_rfl
 i127:=by kernel_rfl
 i143:=by kernel_rfl
 i145:=by kernel_rfl
 i167:=by kernel_rfl
 i168:=by kernel_rfl
 i171:=by kernel_rfl
 i173:=by kernel_rfl
 i210:=by kernel_rfl
 i212:=by kernel_rfl
 i232:=by kernel_rfl
 i233:=by kernel_rfl
 m15:=by kernel_rfl
 m16:=by kernel_rfl
 m17:=by kernel_rfl
 m18:=by kernel_rfl
 m19:=by kernel_rfl
 c0:=by kernel_rfl
 c2:=by kernel_rfl
 c3:=by kernel_rfl
 c4:=by kernel_rfl
 c5:=by kernel_rfl
 c9:=by kernel_rfl
 c20:=by kernel_rfl
 c37:=by kernel_rfl
 c46:=by kernel_rfl
 c51:=by kernel_rfl
 c53:=by kernel_rfl
 c75:=by kernel_rfl
 c80:=by kernel_rfl
 c127:=by kernel_rfl
 c143:=by kernel_rfl
 c145:=by kernel_rfl
 c167:=by kernel_rfl
 c168:=by kernel_rfl
 c171:=by kernel_rfl
 c173:=by kernel_rfl
 c210:=by kernel_rfl
 c212:=by kernel_rfl
 c213:=by kernel_rfl
 c232:=by kernel_rfl
 c233:=by kernel_rfl }
open Go.RowKit in
def Tryz.lays321_ren:Go.Shelf.Ren:=⟨fun | 321=>94 | n=>n,fun | 5=>5 | n=>n,fun | n=>n⟩
theorem Tryz.lays321:Go.Proofs.Lays.n321 Tryz.prog Tryz.lays321_ren:={
 mixed:=by kernel_rfl
 f321:=Tryz.func94.trans (congrArg some (by kernel_rfl))
 t5:=Tryz.underlying5
 a5:=Tryz.isAgg5
 z5:=Tryz.sizeOf5
 v5:=Tryz.zeroValue5 }
open Go.RowKit in
theorem Tryz.internal_strconv_lower (c:Int) (w:World) :
   Calls Tryz.prog 94 #[.int .u8 c] w fun e w' => e=.returned (.int .u8 (bits .or .u8 c 32))/\w' = w:=Any.internal_strconv_lower Tryz.lays321 c w
open Go.RowKit in
open Go.RowKit in
open Go.RowKit in
open Go.RowKit in
open Go.RowKit in
open Go.RowKit in
open Go.RowKit in
open Go.RowKit in
theorem Tryz.strconv_toError_range (fn s:ByteArray) (base bits:Int) (ev:Value) (w:World) (hlim:s.size<=281474976710656) (hv:w.cell? ⟨2,0,none⟩=some ev) (hev:ev=.nilIface\/∃te pe,ev=.iface te pe) :
   Calls Tryz.prog 58 #[.string fn,.string s,.int .i64 base,.int .i64 bits,.iface 106 (.int .i64 1)] w fun e w' => ∃N,e=.returned (.iface 107 (.pointer (some ⟨N,0,none⟩)))/\w.heap.size<=N/\w'.heap[N]?=some (.cells #[.string fn,.string s,ev] 126 (0,0))/\Below w.heap.size w w' := Any.strconv_toError_range Tryz.laysC245 fn s base bits ev w hlim hv hev
open Go.RowKit in
open Go.RowKit in
open Go.RowKit in
open Go.RowKit in
open Go.RowKit in
open Go.RowKit in
open Go.RowKit in
open Go.RowKit in
open Go.RowKit in
open Go.RowKit in
open Go.RowKit in
open Go.RowKit in
open Go.RowKit in
open Go.RowKit in
open Go.RowKit in
open Go.RowKit in
open Go.RowKit in
open Go.RowKit in
open Go.RowKit in
open Go.RowKit in
open Go.RowKit in
open Go.RowKit in
open Go.RowKit in
open Go.RowKit in
def Tryz.laysC174_ren:Go.Shelf.Ren:=⟨fun | 174=>47 | 247=>63 | 245=>58 | 287=>79 | 279=>73 | 280=>74 | 281=>75 | 282=>76 | 321=>94 | 322=>95 | 316=>89 | 171=>91 | 205=>90 | 243=>126 | 246=>64 | 283=>80 | 284=>81 | 285=>82 | 286=>83 | 129=>97 | 317=>96 | 318=>98 | 319=>99 | 320=>100 | 337=>128 | 338=>129 | n=>n,fun | 9=>9 | 3=>3 | 2=>2 | 75=>76 | 85=>84 | 4=>4 | 167=>106 | 5=>5 | 53=>25 | 175=>111 | 46=>68 | 168=>107 | 37=>50 | 0=>0 | 210=>126 | 21=>21 | 127=>173 | 145=>176 | 143=>174 | 171=>113 | 173=>116 | 212=>132 | 51=>133 | 20=>20 | 213=>134 | 232=>141 | 233=>198 | 80=>209 | n=>n,fun | 15=>1 | 16=>2 | 17=>3 | 18=>11 | 19=>12 | n=>n⟩
theorem Tryz.laysC174:Go.Proofs.LaysC.n174 Tryz.prog Tryz.laysC174_ren:={
 mixed:=by kernel_rfl
 f129:=Tryz.func97.trans (congrArg some (by kernel_rfl))
 f171:=Tryz.func91.trans (congrArg some (by kernel_rfl))
 f174:=Tryz.func47.trans (congrArg some (by kernel_rfl))
 f205:=Tryz.func90.trans (congrArg some (by kernel_rfl))
 f243:=Tryz.func126.trans (congrArg some (by kernel_rfl))
 f245:=Tryz.func58.trans (congrArg some (by kernel_rfl))
 f246:=Tryz.func64.trans (congrArg some (by kernel_rfl))
 f247:=Tryz.func63.trans (congrArg some (by kernel_rfl))
 f279:=Tryz.func73.trans (congrArg some (by kernel_rfl))
 f280:=Tryz.func74.trans (congrArg some (by kernel_rfl))
 f281:=Tryz.func75.trans (congrArg some (by kernel_rfl))
 f282:=Tryz.func76.trans (congrArg some (by kernel_rfl))
 f283:=Tryz.func80.trans (congrArg some (by kernel_rfl))
 f284:=Tryz.func81.trans (congrArg some (by kernel_rfl))
 f285:=Tryz.func82.trans (congrArg some (by kernel_rfl))
 f286:=Tryz.func83.trans (congrArg some (by kernel_rfl))
 f287:=Tryz.func79.trans (congrArg some (by kernel_rfl))
 f316:=Tryz.func89.trans (congrArg some (by kernel_rfl))
 f317:=Tryz.func96.trans (congrArg some (by kernel_rfl))
 f318:=Tryz.func98.trans (congrArg some (by kernel_rfl))
 f319:=Tryz.func99.trans (congrArg some (by kernel_rfl))
 f320:=Tryz.func100.trans (congrArg some (by kernel_rfl))
 f321:=Tryz.func94.trans (congrArg some (by kernel_rfl))
 f322:=Tryz.func95.trans (congrArg some (by kernel_rfl))
 f337:=Tryz.func128.trans (congrArg some (by kernel_rfl))
 f338:=Tryz.func129.trans (congrArg some (by kernel_rfl))
 t0:=Tryz.underlying0
 a0:=Tryz.isAgg0
 z0:=Tryz.sizeOf0
 v0:=Tryz.zeroValue0
 t2:=Tryz.underlying2
 a2:=Tryz.isAgg2
 z2:=Tryz.sizeOf2
 v2:=Tryz.zeroValue2
 t3:=Tryz.underlying3
 a3:=Tryz.isAgg3
 z3:=Tryz.sizeOf3
 v3:=Tryz.zeroValue3
 t4:=Tryz.underlying4
 a4:=Tryz.isAgg4
 z4:=Tryz.sizeOf4
 v4:=Tryz.zeroValue4
 t5:=Tryz.underlying5
 a5:=Tryz.isAgg5
 z5:=Tryz.sizeOf5
 v5:=Tryz.zeroValue5
 t9:=Tryz.underlying9
 a9:=Tryz.isAgg9
 z9:=Tryz.sizeOf9
 v9:=Tryz.zeroValue9
 t20:=Tryz.underlying20
 a20:=Tryz.isAgg20
 z20:=Tryz.sizeOf20
 v20:=Tryz.zeroValue20
 t21:=Tryz.underlying21
 a21:=Tryz.isAgg21
 z21:=Tryz.sizeOf21
 v21:=Tryz.zeroValue21
 t37:=Tryz.underlying50
 a37:=Tryz.isAgg50
 z37:=Tryz.sizeOf50
 v37:=Tryz.zeroValue50
 t46:=Tryz.underlying68
 a46:=Tryz.isAgg68
 z46:=Tryz.sizeOf68
 v46:=Tryz.zeroValue68
 t51:=Tryz.underlying133
 a51:=Tryz.isAgg133
 z51:=Tryz.sizeOf133
 v51:=Tryz.zeroValue133
 t53:=Tryz.underlying25
 a53:=Tryz.isAgg25
 z53:=Tryz.sizeOf25
 v53:=Tryz.zeroValue25
 t75:=Tryz.underlying76
 a75:=Tryz.isAgg76
 z75:=Tryz.sizeOf76
 v75:=Tryz.zeroValue76
 t85:=Tryz.underlying84
 a85:=Tryz.isAgg84
 z85:=Tryz.sizeOf84
 v85:=Tryz.zeroValue84
 t127:=Tryz.underlying173
 a127:=Tryz.isAgg173
 z127:=Tryz.sizeOf173
 v127:=Tryz.zeroValue173
 t143:=Tryz.underlying174
 a143:=Tryz.isAgg174
 z143:=Tryz.sizeOf174
 v143:=Tryz.zeroValue174
 t145:=Tryz.underlying176
 a145:=Tryz.isAgg176
 z145:=Tryz.sizeOf176
 v145:=Tryz.zeroValue176
 t167:=Tryz.underlying106
 a167:=Tryz.isAgg106
 z167:=Tryz.sizeOf106
 v167:=Tryz.zeroValue106
 t168:=Tryz.underlying107
 a168:=Tryz.isAgg107
 z168:=Tryz.sizeOf107
 v168:=Tryz.zeroValue107
 t171:=Tryz.underlying113
 a171:=Tryz.isAgg113
 z171:=Tryz.sizeOf113
 v171:=Tryz.zeroValue113
 t173:=Tryz.underlying116
 a173:=Tryz.isAgg116
 z173:=Tryz.sizeOf116
 v173:=Tryz.zeroValue116
 t175:=Tryz.underlying111
 a175:=Tryz.isAgg111
 z175:=Tryz.sizeOf111
 v175:=Tryz.zeroValue111
 t210:=Tryz.underlying126
 a210:=Tryz.isAgg126
 z210:=Tryz.sizeOf126
 v210:=Tryz.zeroValue126
 t212:=Tryz.underlying132
 a212:=Tryz.isAgg132
 z212:=Tryz.sizeOf132
 v212:=Tryz.zeroValue132
 t213:=Tryz.underlying134
 a213:=Tryz.isAgg134
 z213:=Tryz.sizeOf134
 t232:=Tryz.underlying141
 a232:=Tryz.isAgg141
 z232:=Tryz.sizeOf141
 v232:=Tryz.zeroValue141
 t233:=Tryz.underlying198
 a233:=Tryz.isAgg198
 z233:=Tryz.sizeOf198
 v233:=Tryz.zeroValue198
 g15:=by kernel_rfl
 g16:=by kernel_rfl
 g17:=by kernel_rfl
 g18:=by kernel_rfl
 g19:=by kernel_rfl
 t80:=Tryz.underlying209
 a80:=Tryz.isAgg209
 z80:=Tryz.sizeOf209
 v80:=Tryz.zeroValue209
 i0:=by kernel_rfl
 i2:=by kernel_rfl
 i3:=by kernel_rfl
 i4:=by kernel_rfl
 i5:=by kernel_rfl
 i9:=by kernel_rfl
 i20:=by kernel_rfl
 i21:=by kernel_rfl
 i37:=by kernel_rfl
 i46:=by kernel_rfl
 i51:=by kernel_rfl
 i53:=by kernel_rfl
 i75:=by kernel_rfl
 i80:=by kernel_rfl
 i85:=by kernel_rfl
 i127:=by kernel_rfl
 i143:=by kernel_rfl
 i145:=by kernel_rfl
 i167:=by kernel_rfl
 i168:=by kernel_rfl
 i171:=by kernel_rfl
 i173:=by kernel_rfl
 i175:=by kernel_rfl
 i210:=by kernel_rfl
 i212:=by kernel_rfl
 i232:=by kernel_rfl
 i233:=by kernel_rfl
 m15:=by kernel_rfl
 m16:=by kernel_rfl
 m17:=by kernel_rfl
 m18:=by kernel_rfl
 m19:=by kernel_rfl
 c0:=by kernel_rfl
 c2:=by kernel_rfl
 c3:=by kernel_rfl
 c4:=by kernel_rfl
 c5:=by kernel_rfl
 c9:=by kernel_rfl
 c20:=by kernel_rfl
 c21:=by kernel_rfl
 c37:=by kernel_rfl
 c46:=by kernel_rfl
 c51:=by kernel_rfl
 c53:=by kernel_rfl
 c75:=by kernel_rfl
 c80:=by kernel_rfl
 c85:=by kernel_rfl
 c127:=by kernel_rfl
 c143:=by kernel_rfl
 c145:=by kernel_rfl
 c167:=by kernel_rfl
 c168:=by kernel_rfl
 c171:=by kernel_rfl
 c173:=by kernel_rfl
 c175:=by kernel_rfl
 c210:=by kernel_rfl
 c212:=by kernel_rfl
 c213:=by kernel_rfl
 c232:=by kernel_rfl
 c233:=by kernel_rfl }
open Go.RowKit in
open Go.RowKit in
open Go.RowKit in
open Go.RowKit in
theorem Tryz.strconv_ParseInt_10_at64_ok (s:ByteArray) (hmax:s.size<=9223372036854775806) (v:Int) (h:Lib.parseIntB 64 s.data.toList=.ok v) (w:World) :
   Calls Tryz.prog 47 #[.string s,.int .i64 10,.int .i64 64] w fun e w' => e=.returned (.tuple #[.int .i64 v,.nilIface])/\(w' = w\/∃t,w' = Lib.bytesWorld w 5 t):=Any.strconv_ParseInt_10_at64_ok Tryz.laysC174 s hmax v h w
open Go.RowKit in
open Go.RowKit in
open Go.RowKit in
open Go.RowKit in
open Go.RowKit in
open Go.RowKit in
open Go.RowKit in
open Go.RowKit in
open Go.RowKit in
open Go.RowKit in
open Go.RowKit in
open Go.RowKit in
open Go.RowKit in
open Go.RowKit in
theorem Tryz.strconv_ParseInt_10_at64_syntax_var (s : ByteArray) (hlim : s.size <= 281474976710656) (h : Lib.parseIntB 64 s.data.toList = .«syntax») (tp : TypeId) (p : Value) (w : World) (hvar : w.var? Tryz.prog "strconv.ErrSyntax" = some #[.iface tp p]) :
   Calls Tryz.prog 47 #[.string s,.int .i64 10,.int .i64 64] w fun e w' => ∃N,e=.returned (.tuple #[.int .i64 (0),.iface 107 (.pointer (some ⟨N,0,none⟩))])/\w.heap.size<=N/\w'.heap[N]?=some (.cells #[.string ⟨#[80,97,114,115,101,73,110,116]⟩,.string s,.iface tp p] 126 (0,0))/\Below w.heap.size w w' := Any.strconv_ParseInt_10_at64_syntax_var Tryz.laysC174 s hlim h tp p w hvar
open Go.RowKit in
theorem Tryz.strconv_ParseInt_10_at64_range_var (s : ByteArray) (hlim : s.size <= 281474976710656) (h : Lib.parseIntB 64 s.data.toList = .range) (tp : TypeId) (p : Value) (w : World) (hvar : w.var? Tryz.prog "strconv.ErrRange" = some #[.iface tp p]) :
   Calls Tryz.prog 47 #[.string s,.int .i64 10,.int .i64 64] w fun e w' => ∃N,e=.returned (.tuple #[.int .i64 (Lib.intSat 64 s.data.toList),.iface 107 (.pointer (some ⟨N,0,none⟩))])/\w.heap.size<=N/\w'.heap[N]?=some (.cells #[.string ⟨#[80,97,114,115,101,73,110,116]⟩,.string s,.iface tp p] 126 (0,0))/\Below w.heap.size w w' := Any.strconv_ParseInt_10_at64_range_var Tryz.laysC174 s hlim h tp p w hvar
open Go.RowKit in
open Go.RowKit in
open Go.RowKit in
open Go.RowKit in
open Go.RowKit in
open Go.RowKit in
open Go.RowKit Go.Lib in
open Go.RowKit Go.Sort Go.Lib in
open Go.RowKit Go.Sort Go.Lib in
open Go.RowKit Go.Sort Go.Lib in
open Go.RowKit Go.Sort Go.Lib in
def Tryz.lays264_ren:Go.Shelf.Ren:=⟨fun | 264=>154 | n=>n,fun | 53=>25 | 46=>68 | n=>n,fun | n=>n⟩
theorem Tryz.lays264:Go.Proofs.Lays.n264 Tryz.prog Tryz.lays264_ren:={
 mixed:=by kernel_rfl
 f264:=Tryz.func154.trans (congrArg some (by kernel_rfl))
 t46:=Tryz.underlying68
 a46:=Tryz.isAgg68
 z46:=Tryz.sizeOf68
 v46:=Tryz.zeroValue68
 t53:=Tryz.underlying25
 a53:=Tryz.isAgg25
 z53:=Tryz.sizeOf25
 v53:=Tryz.zeroValue25 }
open Go.RowKit Go.Lib in
theorem Tryz.bits_Mul64 (x y:Nat) (hx:x<18446744073709551616) (hy:y<18446744073709551616) (w:World) :
   Calls Tryz.prog 154 #[.int .u64 x,.int .u64 y] w fun e w' => e=.returned (.tuple #[.int .u64 ((x * y / 18446744073709551616:Nat):Int),.int .u64 ((x * y % 18446744073709551616:Nat):Int)])/\w' = w:=Any.bits_Mul64 Tryz.lays264 x y hx hy w
end Go.Proofs
