/-
  DERIVED: THE SHELF's CONTRACTS AT THIS DUMP,IN PLAIN WORDS (tools/lay-plain.mjs out of 'TryzSortlay.lean',which tools/lay-shelf.mjs wrote): THE SAME DECLARATIONS UNDER THE SAME NAMES: 'import','namespace','open','def','theorem' AND NOTHING ELSE: no command of the shelf's: FOR A HAND-IN. Each laying: the table of numbers ('.._ren') and one theorem,a field a fact of the dump's own or the kernel's comparison;each zi4: ONE APPLICATION.
-/
import Derived.Shelf.SlGeneric
import Derived.Shelf.SlSortCmp.NoneTotal
import Derived.Test.YtioglicfndkgiaaGreatDoorProg
namespace Go.Proofs
open Go.Shelf
def Tryz.sortS_ren:Go.Shelf.Ren:=⟨fun | 6=>69 | 15=>98 | 14=>97 | 28=>128 | 29=>129 | 20=>120 | 21=>121 | 22=>122 | 23=>123 | 24=>124 | 25=>125 | 26=>126 | 27=>127 | 46=>153 | 47=>154 | 48=>155 | 49=>156 | 50=>157 | 57=>176 | n=>n,fun | 22=>55 | 24=>9 | 25=>94 | 3=>3 | 39=>156 | 0=>0 | 53=>186 | 55=>188 | 4=>4 | 46=>180 | 45=>179 | 50=>26 | 5=>5 | 9=>9 | 66=>212 | 70=>216 | 76=>228 | 77=>103 | n=>n,fun | n=>n⟩
theorem Tryz.sortS:Go.Proofs.SlLaysF.n6 Tryz.prog Tryz.sortS_ren:={
 mixed:=by kernel_rfl
 f6:=⟨Tryz.f69.name,by decide,Tryz.func69.trans (congrArg some (by kernel_rfl))⟩
 f14:=⟨Tryz.f97.name,by decide,Tryz.func97.trans (congrArg some (by kernel_rfl))⟩
 f15:=Tryz.func98.trans (congrArg some (by kernel_rfl))
 f20:=⟨Tryz.f120.name,by decide,Tryz.func120.trans (congrArg some (by kernel_rfl))⟩
 f21:=⟨Tryz.f121.name,by decide,Tryz.func121.trans (congrArg some (by kernel_rfl))⟩
 f22:=⟨Tryz.f122.name,by decide,Tryz.func122.trans (congrArg some (by kernel_rfl))⟩
 f23:=⟨Tryz.f123.name,by decide,Tryz.func123.trans (congrArg some (by kernel_rfl))⟩
 f24:=⟨Tryz.f124.name,by decide,Tryz.func124.trans (congrArg some (by kernel_rfl))⟩
 f25:=⟨Tryz.f125.name,by decide,Tryz.func125.trans (congrArg some (by kernel_rfl))⟩
 f26:=⟨Tryz.f126.name,by decide,Tryz.func126.trans (congrArg some (by kernel_rfl))⟩
 f27:=⟨Tryz.f127.name,by decide,Tryz.func127.trans (congrArg some (by kernel_rfl))⟩
 f28:=Tryz.func128.trans (congrArg some (by kernel_rfl))
 f29:=Tryz.func129.trans (congrArg some (by kernel_rfl))
 f46:=⟨Tryz.f153.name,by decide,Tryz.func153.trans (congrArg some (by kernel_rfl))⟩
 f47:=Tryz.func154.trans (congrArg some (by kernel_rfl))
 f48:=Tryz.func155.trans (congrArg some (by kernel_rfl))
 f49:=⟨Tryz.f156.name,by decide,Tryz.func156.trans (congrArg some (by kernel_rfl))⟩
 f50:=⟨Tryz.f157.name,by decide,Tryz.func157.trans (congrArg some (by kernel_rfl))⟩
 f57:=⟨Tryz.f176.name,by decide,Tryz.func176.trans (congrArg some (by kernel_rfl))⟩
 t0:=Tryz.underlying0
 a0:=Tryz.isAgg0
 z0:=Tryz.sizeOf0
 v0:=Tryz.zeroValue0
 t3:=Tryz.underlying3
 a3:=Tryz.isAgg3
 z3:=Tryz.sizeOf3
 v3:=Tryz.zeroValue3
 t4:=Tryz.underlying4
 a4:=Tryz.isAgg4
 z4:=Tryz.sizeOf4
 v4:=Tryz.zeroValue4
 t5:=Tryz.underlying5
 a5:=Tryz.isAgg5
 z5:=Tryz.sizeOf5
 v5:=Tryz.zeroValue5
 t9:=Tryz.underlying9
 a9:=Tryz.isAgg9
 z9:=Tryz.sizeOf9
 v9:=Tryz.zeroValue9
 t22:=Tryz.underlying55
 a22:=Tryz.isAgg55
 z22:=Tryz.sizeOf55
 v22:=Tryz.zeroValue55
 a24:=Tryz.isAgg9
 z24:=Tryz.sizeOf9
 t25:=Tryz.underlying94
 a25:=Tryz.isAgg94
 z25:=Tryz.sizeOf94
 v25:=Tryz.zeroValue94
 t39:=Tryz.underlying156
 a39:=Tryz.isAgg156
 z39:=Tryz.sizeOf156
 v39:=Tryz.zeroValue156
 t45:=Tryz.underlying179
 a45:=Tryz.isAgg179
 z45:=Tryz.sizeOf179
 v45:=Tryz.zeroValue179
 t46:=Tryz.underlying180
 a46:=Tryz.isAgg180
 z46:=Tryz.sizeOf180
 v46:=Tryz.zeroValue180
 t50:=Tryz.underlying26
 a50:=Tryz.isAgg26
 z50:=Tryz.sizeOf26
 v50:=Tryz.zeroValue26
 t53:=Tryz.underlying186
 a53:=Tryz.isAgg186
 z53:=Tryz.sizeOf186
 v53:=Tryz.zeroValue186
 t55:=Tryz.underlying188
 a55:=Tryz.isAgg188
 z55:=Tryz.sizeOf188
 v55:=Tryz.zeroValue188
 t66:=Tryz.underlying212
 a66:=Tryz.isAgg212
 z66:=Tryz.sizeOf212
 v66:=Tryz.zeroValue212
 t70:=Tryz.underlying216
 a70:=Tryz.isAgg216
 z70:=Tryz.sizeOf216
 v70:=Tryz.zeroValue216
 t76:=Tryz.underlying228
 a76:=Tryz.isAgg228
 z76:=Tryz.sizeOf228
 v76:=Tryz.zeroValue228
 t77:=Tryz.underlying103
 a77:=Tryz.isAgg103
 z77:=Tryz.sizeOf103
 v77:=Tryz.zeroValue103 }
end Go.Proofs
