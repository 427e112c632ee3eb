import Derived.Test.YtfhpecgknmfnnaaGreatDoorA7
import Derived.Test.YtfhpecgknmfnnaaGreatDoorProg
import Derived.KernelRfl
import Derived.Test.YtfhpecgknmfnnaaGreatDoorA2
import Derived.Laws.StructEq
import Derived.Laws.BitsLemmas
set_option linter.unusedVariables false
set_option linter.unusedSimpArgs false
attribute [go_sem] Bool.not_true Bool.not_false
section
namespace Go.Proofs.YtfhpecgknmfnnaaGreatDoor.M
open Go.R
@[go_sem] theorem ty_bs111_9 : bsP Tryz.prog 111 9 = true := by kernel_rfl
@[go_sem] theorem ty_sz2 : sizeP Tryz.prog 2 = 1 := by kernel_rfl
@[go_sem] theorem ty_in2 : infoP Tryz.prog 2 = true := by kernel_rfl
@[go_sem] theorem ty_ag2 : aggP Tryz.prog 2 = false := by kernel_rfl
@[go_sem] theorem ty_ik2 : intKP Tryz.prog 2 = some .i64 := by kernel_rfl
@[go_sem] theorem ty_us2 : (Tryz.prog.underlying 2).isSome = true := by kernel_rfl
@[go_sem] theorem ty_ze2 : zeroA Tryz.prog 2 = some [.d (.v (.int .i64 0))] := by kernel_rfl
@[go_sem] theorem ty_by2 : bytesP Tryz.prog 2 = 8 := by kernel_rfl
@[go_sem] theorem ty_sz3 : sizeP Tryz.prog 3 = 1 := by kernel_rfl
@[go_sem] theorem ty_in3 : infoP Tryz.prog 3 = true := by kernel_rfl
@[go_sem] theorem ty_ag3 : aggP Tryz.prog 3 = false := by kernel_rfl
@[go_sem] theorem ty_ik3 : intKP Tryz.prog 3 = some .i64 := by kernel_rfl
@[go_sem] theorem ty_us3 : (Tryz.prog.underlying 3).isSome = true := by kernel_rfl
@[go_sem] theorem ty_ze3 : zeroA Tryz.prog 3 = some [.d (.v (.int .i64 0))] := by kernel_rfl
@[go_sem] theorem ty_by3 : bytesP Tryz.prog 3 = 8 := by kernel_rfl
@[go_sem] theorem ty_sz4 : sizeP Tryz.prog 4 = 1 := by kernel_rfl
@[go_sem] theorem ty_in4 : infoP Tryz.prog 4 = true := by kernel_rfl
@[go_sem] theorem ty_ag4 : aggP Tryz.prog 4 = false := by kernel_rfl
@[go_sem] theorem ty_ze4 : zeroA Tryz.prog 4 = some [.d (.v (.bool false))] := by kernel_rfl
@[go_sem] theorem ty_by4 : bytesP Tryz.prog 4 = 1 := by kernel_rfl
attribute [go_sem] Tryz.underlying4
@[go_sem] theorem ty_sz5 : sizeP Tryz.prog 5 = 1 := by kernel_rfl
@[go_sem] theorem ty_in5 : infoP Tryz.prog 5 = true := by kernel_rfl
@[go_sem] theorem ty_ag5 : aggP Tryz.prog 5 = false := by kernel_rfl
@[go_sem] theorem ty_ik5 : intKP Tryz.prog 5 = some .u8 := by kernel_rfl
@[go_sem] theorem ty_us5 : (Tryz.prog.underlying 5).isSome = true := by kernel_rfl
@[go_sem] theorem ty_ze5 : zeroA Tryz.prog 5 = some [.d (.v (.int .u8 0))] := by kernel_rfl
@[go_sem] theorem ty_by5 : bytesP Tryz.prog 5 = 1 := by kernel_rfl
@[go_sem] theorem ty_sz9 : sizeP Tryz.prog 9 = 1 := by kernel_rfl
@[go_sem] theorem ty_in9 : infoP Tryz.prog 9 = true := by kernel_rfl
@[go_sem] theorem ty_ag9 : aggP Tryz.prog 9 = false := by kernel_rfl
@[go_sem] theorem ty_sl9 : sliceP Tryz.prog 9 = none := by kernel_rfl
@[go_sem] theorem ty_st9 : strP Tryz.prog 9 = true := by kernel_rfl
@[go_sem] theorem ty_ze9 : zeroA Tryz.prog 9 = some [.d (.v (.string (⟨#[]⟩ : ByteArray)))] := by kernel_rfl
@[go_sem] theorem ty_by9 : bytesP Tryz.prog 9 = 16 := by kernel_rfl
@[go_sem] theorem ty_sz23 : sizeP Tryz.prog 23 = 2 := by kernel_rfl
@[go_sem] theorem ty_in23 : infoP Tryz.prog 23 = true := by kernel_rfl
@[go_sem] theorem ty_ag23 : aggP Tryz.prog 23 = true := by kernel_rfl
@[go_sem] theorem ty_fl23_0 : fieldP Tryz.prog 23 0 = some (0, 9) := by kernel_rfl
@[go_sem] theorem ty_fl23_1 : fieldP Tryz.prog 23 1 = some (1, 2) := by kernel_rfl
@[go_sem] theorem ty_fo23 : fieldsOk Tryz.prog 23 = true := by kernel_rfl
@[go_sem] theorem ty_ze23 : zeroA Tryz.prog 23 = some [.d (.v (.string (⟨#[]⟩ : ByteArray))), .d (.v (.int .i64 0))] := by kernel_rfl
@[go_sem] theorem ty_by23 : bytesP Tryz.prog 23 = 24 := by kernel_rfl
@[go_sem] theorem ty_sz25 : sizeP Tryz.prog 25 = 3 := by kernel_rfl
@[go_sem] theorem ty_in25 : infoP Tryz.prog 25 = true := by kernel_rfl
@[go_sem] theorem ty_ag25 : aggP Tryz.prog 25 = true := by kernel_rfl
@[go_sem] theorem ty_fl25_0 : fieldP Tryz.prog 25 0 = some (0, 9) := by kernel_rfl
@[go_sem] theorem ty_fl25_1 : fieldP Tryz.prog 25 1 = some (1, 23) := by kernel_rfl
@[go_sem] theorem ty_fo25 : fieldsOk Tryz.prog 25 = true := by kernel_rfl
@[go_sem] theorem ty_ze25 : zeroA Tryz.prog 25 = some [.d (.v (.string (⟨#[]⟩ : ByteArray))), .d (.v (.string (⟨#[]⟩ : ByteArray))), .d (.v (.int .i64 0))] := by kernel_rfl
@[go_sem] theorem ty_by25 : bytesP Tryz.prog 25 = 40 := by kernel_rfl
@[go_sem] theorem ty_sz26 : sizeP Tryz.prog 26 = 1 := by kernel_rfl
@[go_sem] theorem ty_in26 : infoP Tryz.prog 26 = true := by kernel_rfl
@[go_sem] theorem ty_ag26 : aggP Tryz.prog 26 = false := by kernel_rfl
@[go_sem] theorem ty_sl26 : sliceP Tryz.prog 26 = some 25 := by kernel_rfl
@[go_sem] theorem ty_ze26 : zeroA Tryz.prog 26 = some [.d (.v (.slice none 0 0))] := by kernel_rfl
@[go_sem] theorem ty_by26 : bytesP Tryz.prog 26 = 24 := by kernel_rfl
@[go_sem] theorem ty_sz28 : sizeP Tryz.prog 28 = 6 := by kernel_rfl
@[go_sem] theorem ty_in28 : infoP Tryz.prog 28 = true := by kernel_rfl
@[go_sem] theorem ty_ag28 : aggP Tryz.prog 28 = true := by kernel_rfl
@[go_sem] theorem ty_fl28_0 : fieldP Tryz.prog 28 0 = some (0, 5) := by kernel_rfl
@[go_sem] theorem ty_fl28_1 : fieldP Tryz.prog 28 1 = some (1, 25) := by kernel_rfl
@[go_sem] theorem ty_fl28_2 : fieldP Tryz.prog 28 2 = some (4, 9) := by kernel_rfl
@[go_sem] theorem ty_fl28_3 : fieldP Tryz.prog 28 3 = some (5, 26) := by kernel_rfl
@[go_sem] theorem ty_fo28 : fieldsOk Tryz.prog 28 = true := by kernel_rfl
@[go_sem] theorem ty_ze28 : zeroA Tryz.prog 28 = some [.d (.v (.int .u8 0)), .d (.v (.string (⟨#[]⟩ : ByteArray))), .d (.v (.string (⟨#[]⟩ : ByteArray))), .d (.v (.int .i64 0)), .d (.v (.string (⟨#[]⟩ : ByteArray))), .d (.v (.slice none 0 0))] := by kernel_rfl
@[go_sem] theorem ty_by28 : bytesP Tryz.prog 28 = 88 := by kernel_rfl
@[go_sem] theorem ty_sz29 : sizeP Tryz.prog 29 = 1 := by kernel_rfl
@[go_sem] theorem ty_in29 : infoP Tryz.prog 29 = true := by kernel_rfl
@[go_sem] theorem ty_ag29 : aggP Tryz.prog 29 = false := by kernel_rfl
@[go_sem] theorem ty_sl29 : sliceP Tryz.prog 29 = some 28 := by kernel_rfl
@[go_sem] theorem ty_ze29 : zeroA Tryz.prog 29 = some [.d (.v (.slice none 0 0))] := by kernel_rfl
@[go_sem] theorem ty_by29 : bytesP Tryz.prog 29 = 24 := by kernel_rfl
@[go_sem] theorem ty_sz31 : sizeP Tryz.prog 31 = 7 := by kernel_rfl
@[go_sem] theorem ty_in31 : infoP Tryz.prog 31 = true := by kernel_rfl
@[go_sem] theorem ty_ag31 : aggP Tryz.prog 31 = true := by kernel_rfl
@[go_sem] theorem ty_fl31_0 : fieldP Tryz.prog 31 0 = some (0, 28) := by kernel_rfl
@[go_sem] theorem ty_fl31_1 : fieldP Tryz.prog 31 1 = some (6, 29) := by kernel_rfl
@[go_sem] theorem ty_fo31 : fieldsOk Tryz.prog 31 = true := by kernel_rfl
@[go_sem] theorem ty_ze31 : zeroA Tryz.prog 31 = some [.d (.v (.int .u8 0)), .d (.v (.string (⟨#[]⟩ : ByteArray))), .d (.v (.string (⟨#[]⟩ : ByteArray))), .d (.v (.int .i64 0)), .d (.v (.string (⟨#[]⟩ : ByteArray))), .d (.v (.slice none 0 0)), .d (.v (.slice none 0 0))] := by kernel_rfl
@[go_sem] theorem ty_by31 : bytesP Tryz.prog 31 = 112 := by kernel_rfl
@[go_sem] theorem ty_sz33 : sizeP Tryz.prog 33 = 17 := by kernel_rfl
@[go_sem] theorem ty_in33 : infoP Tryz.prog 33 = true := by kernel_rfl
@[go_sem] theorem ty_ag33 : aggP Tryz.prog 33 = true := by kernel_rfl
@[go_sem] theorem ty_fl33_0 : fieldP Tryz.prog 33 0 = some (0, 5) := by kernel_rfl
@[go_sem] theorem ty_fl33_1 : fieldP Tryz.prog 33 1 = some (1, 9) := by kernel_rfl
@[go_sem] theorem ty_fl33_2 : fieldP Tryz.prog 33 2 = some (2, 2) := by kernel_rfl
@[go_sem] theorem ty_fl33_3 : fieldP Tryz.prog 33 3 = some (3, 31) := by kernel_rfl
@[go_sem] theorem ty_fl33_4 : fieldP Tryz.prog 33 4 = some (10, 3) := by kernel_rfl
@[go_sem] theorem ty_fl33_5 : fieldP Tryz.prog 33 5 = some (11, 28) := by kernel_rfl
@[go_sem] theorem ty_fo33 : fieldsOk Tryz.prog 33 = true := by kernel_rfl
@[go_sem] theorem ty_ze33 : zeroA Tryz.prog 33 = some [.d (.v (.int .u8 0)), .d (.v (.string (⟨#[]⟩ : ByteArray))), .d (.v (.int .i64 0)), .d (.v (.int .u8 0)), .d (.v (.string (⟨#[]⟩ : ByteArray))), .d (.v (.string (⟨#[]⟩ : ByteArray))), .d (.v (.int .i64 0)), .d (.v (.string (⟨#[]⟩ : ByteArray))), .d (.v (.slice none 0 0)), .d (.v (.slice none 0 0)), .d (.v (.int .i64 0)), .d (.v (.int .u8 0)), .d (.v (.string (⟨#[]⟩ : ByteArray))), .d (.v (.string (⟨#[]⟩ : ByteArray))), .d (.v (.int .i64 0)), .d (.v (.string (⟨#[]⟩ : ByteArray))), .d (.v (.slice none 0 0))] := by kernel_rfl
@[go_sem] theorem ty_by33 : bytesP Tryz.prog 33 = 240 := by kernel_rfl
@[go_sem] theorem ty_sz34 : sizeP Tryz.prog 34 = 1 := by kernel_rfl
@[go_sem] theorem ty_in34 : infoP Tryz.prog 34 = true := by kernel_rfl
@[go_sem] theorem ty_ag34 : aggP Tryz.prog 34 = false := by kernel_rfl
@[go_sem] theorem ty_ik34 : intKP Tryz.prog 34 = some .i64 := by kernel_rfl
@[go_sem] theorem ty_us34 : (Tryz.prog.underlying 34).isSome = true := by kernel_rfl
@[go_sem] theorem ty_ze34 : zeroA Tryz.prog 34 = some [.d (.v (.int .i64 0))] := by kernel_rfl
@[go_sem] theorem ty_by34 : bytesP Tryz.prog 34 = 8 := by kernel_rfl
@[go_sem] theorem ty_sz48 : sizeP Tryz.prog 48 = 1 := by kernel_rfl
@[go_sem] theorem ty_in48 : infoP Tryz.prog 48 = true := by kernel_rfl
@[go_sem] theorem ty_ag48 : aggP Tryz.prog 48 = false := by kernel_rfl
@[go_sem] theorem ty_sl48 : sliceP Tryz.prog 48 = some 84 := by kernel_rfl
@[go_sem] theorem ty_ze48 : zeroA Tryz.prog 48 = some [.d (.v (.slice none 0 0))] := by kernel_rfl
@[go_sem] theorem ty_by48 : bytesP Tryz.prog 48 = 24 := by kernel_rfl
@[go_sem] theorem ty_sz51 : sizeP Tryz.prog 51 = 1 := by kernel_rfl
@[go_sem] theorem ty_in51 : infoP Tryz.prog 51 = true := by kernel_rfl
@[go_sem] theorem ty_ag51 : aggP Tryz.prog 51 = false := by kernel_rfl
@[go_sem] theorem ty_ze51 : zeroA Tryz.prog 51 = some [.d (.v (.pointer none))] := by kernel_rfl
@[go_sem] theorem ty_by51 : bytesP Tryz.prog 51 = 8 := by kernel_rfl
@[go_sem] theorem ty_sz53 : sizeP Tryz.prog 53 = 2 := by kernel_rfl
@[go_sem] theorem ty_in53 : infoP Tryz.prog 53 = true := by kernel_rfl
@[go_sem] theorem ty_ag53 : aggP Tryz.prog 53 = true := by kernel_rfl
@[go_sem] theorem ty_fl53_0 : fieldP Tryz.prog 53 0 = some (0, 9) := by kernel_rfl
@[go_sem] theorem ty_fl53_1 : fieldP Tryz.prog 53 1 = some (1, 48) := by kernel_rfl
@[go_sem] theorem ty_fo53 : fieldsOk Tryz.prog 53 = true := by kernel_rfl
@[go_sem] theorem ty_ze53 : zeroA Tryz.prog 53 = some [.d (.v (.string (⟨#[]⟩ : ByteArray))), .d (.v (.slice none 0 0))] := by kernel_rfl
@[go_sem] theorem ty_by53 : bytesP Tryz.prog 53 = 40 := by kernel_rfl
@[go_sem] theorem ty_sz60 : sizeP Tryz.prog 60 = 1 := by kernel_rfl
@[go_sem] theorem ty_in60 : infoP Tryz.prog 60 = true := by kernel_rfl
@[go_sem] theorem ty_ag60 : aggP Tryz.prog 60 = false := by kernel_rfl
@[go_sem] theorem ty_ze60 : zeroA Tryz.prog 60 = some [.d (.v (.pointer none))] := by kernel_rfl
@[go_sem] theorem ty_by60 : bytesP Tryz.prog 60 = 8 := by kernel_rfl
@[go_sem] theorem ty_sz84 : sizeP Tryz.prog 84 = 3 := by kernel_rfl
@[go_sem] theorem ty_in84 : infoP Tryz.prog 84 = true := by kernel_rfl
@[go_sem] theorem ty_ag84 : aggP Tryz.prog 84 = true := by kernel_rfl
@[go_sem] theorem ty_fl84_0 : fieldP Tryz.prog 84 0 = some (0, 5) := by kernel_rfl
@[go_sem] theorem ty_fl84_1 : fieldP Tryz.prog 84 1 = some (1, 3) := by kernel_rfl
@[go_sem] theorem ty_fl84_2 : fieldP Tryz.prog 84 2 = some (2, 3) := by kernel_rfl
@[go_sem] theorem ty_fo84 : fieldsOk Tryz.prog 84 = true := by kernel_rfl
@[go_sem] theorem ty_ze84 : zeroA Tryz.prog 84 = some [.d (.v (.int .u8 0)), .d (.v (.int .i64 0)), .d (.v (.int .i64 0))] := by kernel_rfl
@[go_sem] theorem ty_by84 : bytesP Tryz.prog 84 = 24 := by kernel_rfl
@[go_sem] theorem ty_sz98 : sizeP Tryz.prog 98 = 1 := by kernel_rfl
@[go_sem] theorem ty_in98 : infoP Tryz.prog 98 = true := by kernel_rfl
@[go_sem] theorem ty_ag98 : aggP Tryz.prog 98 = false := by kernel_rfl
@[go_sem] theorem ty_ze98 : zeroA Tryz.prog 98 = some [.d (.v (.pointer none))] := by kernel_rfl
@[go_sem] theorem ty_by98 : bytesP Tryz.prog 98 = 8 := by kernel_rfl
@[go_sem] theorem ty_sz104 : sizeP Tryz.prog 104 = 5 := by kernel_rfl
@[go_sem] theorem ty_in104 : infoP Tryz.prog 104 = true := by kernel_rfl
@[go_sem] theorem ty_ag104 : aggP Tryz.prog 104 = true := by kernel_rfl
@[go_sem] theorem ty_fl104_0 : fieldP Tryz.prog 104 0 = some (0, 9) := by kernel_rfl
@[go_sem] theorem ty_fl104_1 : fieldP Tryz.prog 104 1 = some (1, 48) := by kernel_rfl
@[go_sem] theorem ty_fl104_2 : fieldP Tryz.prog 104 2 = some (2, 3) := by kernel_rfl
@[go_sem] theorem ty_fl104_3 : fieldP Tryz.prog 104 3 = some (3, 3) := by kernel_rfl
@[go_sem] theorem ty_fl104_4 : fieldP Tryz.prog 104 4 = some (4, 3) := by kernel_rfl
@[go_sem] theorem ty_fo104 : fieldsOk Tryz.prog 104 = true := by kernel_rfl
@[go_sem] theorem ty_ze104 : zeroA Tryz.prog 104 = some [.d (.v (.string (⟨#[]⟩ : ByteArray))), .d (.v (.slice none 0 0)), .d (.v (.int .i64 0)), .d (.v (.int .i64 0)), .d (.v (.int .i64 0))] := by kernel_rfl
@[go_sem] theorem ty_by104 : bytesP Tryz.prog 104 = 64 := by kernel_rfl
@[go_sem] theorem ty_sz110 : sizeP Tryz.prog 110 = 1 := by kernel_rfl
@[go_sem] theorem ty_in110 : infoP Tryz.prog 110 = true := by kernel_rfl
@[go_sem] theorem ty_ag110 : aggP Tryz.prog 110 = false := by kernel_rfl
@[go_sem] theorem ty_sl110 : sliceP Tryz.prog 110 = some 9 := by kernel_rfl
@[go_sem] theorem ty_ze110 : zeroA Tryz.prog 110 = some [.d (.v (.slice none 0 0))] := by kernel_rfl
@[go_sem] theorem ty_by110 : bytesP Tryz.prog 110 = 24 := by kernel_rfl
@[go_sem] theorem ty_sz111 : sizeP Tryz.prog 111 = 1 := by kernel_rfl
@[go_sem] theorem ty_in111 : infoP Tryz.prog 111 = true := by kernel_rfl
@[go_sem] theorem ty_ag111 : aggP Tryz.prog 111 = false := by kernel_rfl
@[go_sem] theorem ty_sl111 : sliceP Tryz.prog 111 = some 5 := by kernel_rfl
@[go_sem] theorem ty_ze111 : zeroA Tryz.prog 111 = some [.d (.v (.slice none 0 0))] := by kernel_rfl
@[go_sem] theorem ty_by111 : bytesP Tryz.prog 111 = 24 := by kernel_rfl
@[go_sem] theorem ty_sz117 : sizeP Tryz.prog 117 = 1 := by kernel_rfl
@[go_sem] theorem ty_in117 : infoP Tryz.prog 117 = true := by kernel_rfl
@[go_sem] theorem ty_ag117 : aggP Tryz.prog 117 = false := by kernel_rfl
@[go_sem] theorem ty_ze117 : zeroA Tryz.prog 117 = some [.d (.v (.pointer none))] := by kernel_rfl
@[go_sem] theorem ty_by117 : bytesP Tryz.prog 117 = 8 := by kernel_rfl
@[go_sem] theorem ty_sz119 : sizeP Tryz.prog 119 = 1 := by kernel_rfl
@[go_sem] theorem ty_in119 : infoP Tryz.prog 119 = true := by kernel_rfl
@[go_sem] theorem ty_ag119 : aggP Tryz.prog 119 = false := by kernel_rfl
@[go_sem] theorem ty_ze119 : zeroA Tryz.prog 119 = some [.d (.v (.pointer none))] := by kernel_rfl
@[go_sem] theorem ty_by119 : bytesP Tryz.prog 119 = 8 := by kernel_rfl
@[go_sem] theorem ty_sz122 : sizeP Tryz.prog 122 = 3 := by kernel_rfl
@[go_sem] theorem ty_in122 : infoP Tryz.prog 122 = true := by kernel_rfl
@[go_sem] theorem ty_ag122 : aggP Tryz.prog 122 = true := by kernel_rfl
@[go_sem] theorem ty_fl122_0 : fieldP Tryz.prog 122 0 = some (0, 9) := by kernel_rfl
@[go_sem] theorem ty_fl122_1 : fieldP Tryz.prog 122 1 = some (1, 48) := by kernel_rfl
@[go_sem] theorem ty_fl122_2 : fieldP Tryz.prog 122 2 = some (2, 3) := by kernel_rfl
@[go_sem] theorem ty_fo122 : fieldsOk Tryz.prog 122 = true := by kernel_rfl
@[go_sem] theorem ty_ze122 : zeroA Tryz.prog 122 = some [.d (.v (.string (⟨#[]⟩ : ByteArray))), .d (.v (.slice none 0 0)), .d (.v (.int .i64 0))] := by kernel_rfl
@[go_sem] theorem ty_by122 : bytesP Tryz.prog 122 = 48 := by kernel_rfl
@[go_sem] theorem ty_sz129 : sizeP Tryz.prog 129 = 24 := by kernel_rfl
@[go_sem] theorem ty_in129 : infoP Tryz.prog 129 = true := by kernel_rfl
@[go_sem] theorem ty_ag129 : aggP Tryz.prog 129 = true := by kernel_rfl
@[go_sem] theorem ty_sl129 : sliceP Tryz.prog 129 = none := by kernel_rfl
@[go_sem] theorem ty_ar129 : arrayP Tryz.prog 129 = some (24, 5) := by kernel_rfl
@[go_sem] theorem ty_ze129 : zeroA Tryz.prog 129 = some [.d (.v (.int .u8 0)), .d (.v (.int .u8 0)), .d (.v (.int .u8 0)), .d (.v (.int .u8 0)), .d (.v (.int .u8 0)), .d (.v (.int .u8 0)), .d (.v (.int .u8 0)), .d (.v (.int .u8 0)), .d (.v (.int .u8 0)), .d (.v (.int .u8 0)), .d (.v (.int .u8 0)), .d (.v (.int .u8 0)), .d (.v (.int .u8 0)), .d (.v (.int .u8 0)), .d (.v (.int .u8 0)), .d (.v (.int .u8 0)), .d (.v (.int .u8 0)), .d (.v (.int .u8 0)), .d (.v (.int .u8 0)), .d (.v (.int .u8 0)), .d (.v (.int .u8 0)), .d (.v (.int .u8 0)), .d (.v (.int .u8 0)), .d (.v (.int .u8 0))] := by kernel_rfl
@[go_sem] theorem ty_by129 : bytesP Tryz.prog 129 = 24 := by kernel_rfl
@[go_sem] theorem ty_sz130 : sizeP Tryz.prog 130 = 1 := by kernel_rfl
@[go_sem] theorem ty_in130 : infoP Tryz.prog 130 = true := by kernel_rfl
@[go_sem] theorem ty_ag130 : aggP Tryz.prog 130 = false := by kernel_rfl
@[go_sem] theorem ty_ik130 : intKP Tryz.prog 130 = some .u64 := by kernel_rfl
@[go_sem] theorem ty_us130 : (Tryz.prog.underlying 130).isSome = true := by kernel_rfl
@[go_sem] theorem ty_ze130 : zeroA Tryz.prog 130 = some [.d (.v (.int .u64 0))] := by kernel_rfl
@[go_sem] theorem ty_by130 : bytesP Tryz.prog 130 = 8 := by kernel_rfl
@[go_sem] theorem ty_sz141 : sizeP Tryz.prog 141 = 2 := by kernel_rfl
@[go_sem] theorem ty_in141 : infoP Tryz.prog 141 = true := by kernel_rfl
@[go_sem] theorem ty_ag141 : aggP Tryz.prog 141 = true := by kernel_rfl
@[go_sem] theorem ty_fl141_0 : fieldP Tryz.prog 141 0 = some (0, 3) := by kernel_rfl
@[go_sem] theorem ty_fl141_1 : fieldP Tryz.prog 141 1 = some (1, 34) := by kernel_rfl
@[go_sem] theorem ty_fo141 : fieldsOk Tryz.prog 141 = true := by kernel_rfl
@[go_sem] theorem ty_ze141 : zeroA Tryz.prog 141 = some [.d (.v (.int .i64 0)), .d (.v (.int .i64 0))] := by kernel_rfl
@[go_sem] theorem ty_by141 : bytesP Tryz.prog 141 = 16 := by kernel_rfl
@[go_sem] theorem ty_sz146 : sizeP Tryz.prog 146 = 1 := by kernel_rfl
@[go_sem] theorem ty_in146 : infoP Tryz.prog 146 = true := by kernel_rfl
@[go_sem] theorem ty_ag146 : aggP Tryz.prog 146 = false := by kernel_rfl
@[go_sem] theorem ty_ze146 : zeroA Tryz.prog 146 = some [.d (.v (.pointer none))] := by kernel_rfl
@[go_sem] theorem ty_by146 : bytesP Tryz.prog 146 = 8 := by kernel_rfl
@[go_sem] theorem ty_sz148 : sizeP Tryz.prog 148 = 2 := by kernel_rfl
@[go_sem] theorem ty_in148 : infoP Tryz.prog 148 = true := by kernel_rfl
@[go_sem] theorem ty_ag148 : aggP Tryz.prog 148 = true := by kernel_rfl
@[go_sem] theorem ty_fl148_0 : fieldP Tryz.prog 148 0 = some (0, 146) := by kernel_rfl
@[go_sem] theorem ty_fl148_1 : fieldP Tryz.prog 148 1 = some (1, 111) := by kernel_rfl
@[go_sem] theorem ty_fo148 : fieldsOk Tryz.prog 148 = true := by kernel_rfl
@[go_sem] theorem ty_ze148 : zeroA Tryz.prog 148 = some [.d (.v (.pointer none)), .d (.v (.slice none 0 0))] := by kernel_rfl
@[go_sem] theorem ty_by148 : bytesP Tryz.prog 148 = 32 := by kernel_rfl
@[go_sem] theorem ty_sz155 : sizeP Tryz.prog 155 = 20 := by kernel_rfl
@[go_sem] theorem ty_in155 : infoP Tryz.prog 155 = true := by kernel_rfl
@[go_sem] theorem ty_ag155 : aggP Tryz.prog 155 = true := by kernel_rfl
@[go_sem] theorem ty_sl155 : sliceP Tryz.prog 155 = none := by kernel_rfl
@[go_sem] theorem ty_ar155 : arrayP Tryz.prog 155 = some (20, 130) := by kernel_rfl
@[go_sem] theorem ty_ze155 : zeroA Tryz.prog 155 = some [.d (.v (.int .u64 0)), .d (.v (.int .u64 0)), .d (.v (.int .u64 0)), .d (.v (.int .u64 0)), .d (.v (.int .u64 0)), .d (.v (.int .u64 0)), .d (.v (.int .u64 0)), .d (.v (.int .u64 0)), .d (.v (.int .u64 0)), .d (.v (.int .u64 0)), .d (.v (.int .u64 0)), .d (.v (.int .u64 0)), .d (.v (.int .u64 0)), .d (.v (.int .u64 0)), .d (.v (.int .u64 0)), .d (.v (.int .u64 0)), .d (.v (.int .u64 0)), .d (.v (.int .u64 0)), .d (.v (.int .u64 0)), .d (.v (.int .u64 0))] := by kernel_rfl
@[go_sem] theorem ty_by155 : bytesP Tryz.prog 155 = 160 := by kernel_rfl
@[go_sem] theorem ty_sz156 : sizeP Tryz.prog 156 = 1 := by kernel_rfl
@[go_sem] theorem ty_in156 : infoP Tryz.prog 156 = true := by kernel_rfl
@[go_sem] theorem ty_ag156 : aggP Tryz.prog 156 = false := by kernel_rfl
@[go_sem] theorem ty_ik156 : intKP Tryz.prog 156 = some .u32 := by kernel_rfl
@[go_sem] theorem ty_us156 : (Tryz.prog.underlying 156).isSome = true := by kernel_rfl
@[go_sem] theorem ty_ze156 : zeroA Tryz.prog 156 = some [.d (.v (.int .u32 0))] := by kernel_rfl
@[go_sem] theorem ty_by156 : bytesP Tryz.prog 156 = 4 := by kernel_rfl
@[go_sem] theorem ty_sz157 : sizeP Tryz.prog 157 = 65 := by kernel_rfl
@[go_sem] theorem ty_in157 : infoP Tryz.prog 157 = true := by kernel_rfl
@[go_sem] theorem ty_ag157 : aggP Tryz.prog 157 = true := by kernel_rfl
@[go_sem] theorem ty_sl157 : sliceP Tryz.prog 157 = none := by kernel_rfl
@[go_sem] theorem ty_ar157 : arrayP Tryz.prog 157 = some (65, 5) := by kernel_rfl
@[go_sem] theorem ty_by157 : bytesP Tryz.prog 157 = 65 := by kernel_rfl
@[go_sem] theorem ty_sz159 : sizeP Tryz.prog 159 = 1 := by kernel_rfl
@[go_sem] theorem ty_in159 : infoP Tryz.prog 159 = true := by kernel_rfl
@[go_sem] theorem ty_ag159 : aggP Tryz.prog 159 = false := by kernel_rfl
@[go_sem] theorem ty_ik159 : intKP Tryz.prog 159 = some .u64 := by kernel_rfl
@[go_sem] theorem ty_us159 : (Tryz.prog.underlying 159).isSome = true := by kernel_rfl
@[go_sem] theorem ty_ze159 : zeroA Tryz.prog 159 = some [.d (.v (.int .u64 0))] := by kernel_rfl
@[go_sem] theorem ty_by159 : bytesP Tryz.prog 159 = 8 := by kernel_rfl
@[go_sem] theorem ty_sz166 : sizeP Tryz.prog 166 = 1 := by kernel_rfl
@[go_sem] theorem ty_in166 : infoP Tryz.prog 166 = true := by kernel_rfl
@[go_sem] theorem ty_ag166 : aggP Tryz.prog 166 = false := by kernel_rfl
@[go_sem] theorem ty_ze166 : zeroA Tryz.prog 166 = some [.d (.v (.pointer none))] := by kernel_rfl
@[go_sem] theorem ty_by166 : bytesP Tryz.prog 166 = 8 := by kernel_rfl
@[go_sem] theorem ty_sz171 : sizeP Tryz.prog 171 = 1 := by kernel_rfl
@[go_sem] theorem ty_in171 : infoP Tryz.prog 171 = true := by kernel_rfl
@[go_sem] theorem ty_ag171 : aggP Tryz.prog 171 = false := by kernel_rfl
@[go_sem] theorem ty_ze171 : zeroA Tryz.prog 171 = some [.d (.v (.pointer none))] := by kernel_rfl
@[go_sem] theorem ty_by171 : bytesP Tryz.prog 171 = 8 := by kernel_rfl
@[go_sem] theorem ty_sz174 : sizeP Tryz.prog 174 = 32 := by kernel_rfl
@[go_sem] theorem ty_in174 : infoP Tryz.prog 174 = true := by kernel_rfl
@[go_sem] theorem ty_ag174 : aggP Tryz.prog 174 = true := by kernel_rfl
@[go_sem] theorem ty_sl174 : sliceP Tryz.prog 174 = none := by kernel_rfl
@[go_sem] theorem ty_ar174 : arrayP Tryz.prog 174 = some (32, 5) := by kernel_rfl
@[go_sem] theorem ty_ze174 : zeroA Tryz.prog 174 = some [.d (.v (.int .u8 0)), .d (.v (.int .u8 0)), .d (.v (.int .u8 0)), .d (.v (.int .u8 0)), .d (.v (.int .u8 0)), .d (.v (.int .u8 0)), .d (.v (.int .u8 0)), .d (.v (.int .u8 0)), .d (.v (.int .u8 0)), .d (.v (.int .u8 0)), .d (.v (.int .u8 0)), .d (.v (.int .u8 0)), .d (.v (.int .u8 0)), .d (.v (.int .u8 0)), .d (.v (.int .u8 0)), .d (.v (.int .u8 0)), .d (.v (.int .u8 0)), .d (.v (.int .u8 0)), .d (.v (.int .u8 0)), .d (.v (.int .u8 0)), .d (.v (.int .u8 0)), .d (.v (.int .u8 0)), .d (.v (.int .u8 0)), .d (.v (.int .u8 0)), .d (.v (.int .u8 0)), .d (.v (.int .u8 0)), .d (.v (.int .u8 0)), .d (.v (.int .u8 0)), .d (.v (.int .u8 0)), .d (.v (.int .u8 0)), .d (.v (.int .u8 0)), .d (.v (.int .u8 0))] := by kernel_rfl
@[go_sem] theorem ty_by174 : bytesP Tryz.prog 174 = 32 := by kernel_rfl
@[go_sem] theorem ty_sz175 : sizeP Tryz.prog 175 = 64 := by kernel_rfl
@[go_sem] theorem ty_in175 : infoP Tryz.prog 175 = true := by kernel_rfl
@[go_sem] theorem ty_ag175 : aggP Tryz.prog 175 = true := by kernel_rfl
@[go_sem] theorem ty_sl175 : sliceP Tryz.prog 175 = none := by kernel_rfl
@[go_sem] theorem ty_ar175 : arrayP Tryz.prog 175 = some (64, 5) := by kernel_rfl
@[go_sem] theorem ty_by175 : bytesP Tryz.prog 175 = 64 := by kernel_rfl
theorem mixedP : Tryz.prog.follows .mixedOrders = true := by kernel_rfl
end Go.Proofs.YtfhpecgknmfnnaaGreatDoor.M
end
section
namespace Go.Proofs.YtfhpecgknmfnnaaGreatDoor.M
open Go.R
def Val.cells (v : Val) : List DV := [.v (.string v.sym), .v (.int .i64 v.num)]
def Term.cells (t : Term) : List DV := [.v (.string t.var), .v (.string t.val.sym), .v (.int .i64 t.val.num)]
def Lit.cells (l : Lit) : List DV := [.v (.int .u8 l.kind), .v (.string l.who.var), .v (.string l.who.val.sym), .v (.int .i64 l.who.val.num), .v (.string l.pred), .sl 3 (l.args.map Term.cells)]
def Clause.cells (c : Clause) : List DV := [.v (.int .u8 c.head.kind), .v (.string c.head.who.var), .v (.string c.head.who.val.sym), .v (.int .i64 c.head.who.val.num), .v (.string c.head.pred), .sl 3 (c.head.args.map Term.cells), .sl 6 (c.body.map Lit.cells)]
def Val.av (v : Val) : AV := .agg [.d (.v (.string v.sym)), .d (.v (.int .i64 v.num))]
def Term.av (t : Term) : AV := .agg [.d (.v (.string t.var)), .d (.v (.string t.val.sym)), .d (.v (.int .i64 t.val.num))]
def Lit.av (l : Lit) : AV := .agg [.d (.v (.int .u8 l.kind)), .d (.v (.string l.who.var)), .d (.v (.string l.who.val.sym)), .d (.v (.int .i64 l.who.val.num)), .d (.v (.string l.pred)), .d (.sl 3 (l.args.map Term.cells))]
def Clause.av (c : Clause) : AV := .agg [.d (.v (.int .u8 c.head.kind)), .d (.v (.string c.head.who.var)), .d (.v (.string c.head.who.val.sym)), .d (.v (.int .i64 c.head.who.val.num)), .d (.v (.string c.head.pred)), .d (.sl 3 (c.head.args.map Term.cells)), .d (.sl 6 (c.body.map Lit.cells))]
def dRows {α : Type} (d : List DV → Option α) : List (List DV) → Option (List α)
 | [] => some []
 | x :: r => match d x with
   | some a => match dRows d r with
     | some l => some (a :: l)
     | none => none
   | none => none
theorem dRows_map {α : Type} {d : List DV → Option α} {f : α → List DV} (h : ∀ x, d (f x) = some x) : ∀ l : List α, dRows d (l.map f) = some l
 | [] => rfl
 | x :: l => by simp [dRows, h, dRows_map h l]
theorem dRows_eq {α : Type} {d : List DV → Option α} {f : α → List DV} (h : ∀ c x, d c = some x → c = f x) : ∀ {xs : List (List DV)} {l : List α}, dRows d xs = some l → xs = l.map f
 | [], l, e => by simp [dRows] at e; subst e; rfl
 | x :: r, l, e => by
   simp only [dRows] at e
   cases h1 : d x with
   | none => simp [h1] at e
   | some a =>
     cases h2 : dRows d r with
     | none => simp [h1, h2] at e
     | some l' =>
       simp [h1, h2] at e
       subst e
       rw [h x a h1, dRows_eq h h2]
       rfl
def cTerm : List DV → Option Term
 | [.v (.string a), .v (.string b), .v (.int .i64 n)] => some ⟨a, ⟨b, n⟩⟩
 | _ => none
@[go_sem] theorem cTerm_cells (t : Term) : cTerm t.cells = some t := rfl
theorem cTerm_eq {c : List DV} {t : Term} (h : cTerm c = some t) : c = t.cells := by
 unfold cTerm at h
 split at h
 · cases h; rfl
 · cases h
def cLit : List DV → Option Lit
 | [.v (.int .u8 k), .v (.string a), .v (.string b), .v (.int .i64 n), .v (.string p), .sl 3 xs] => match dRows cTerm xs with
   | some l => some ⟨k, ⟨a, ⟨b, n⟩⟩, p, l⟩
   | none => none
 | _ => none
@[go_sem] theorem dTerms (l : List Term) : dRows cTerm (l.map Term.cells) = some l := dRows_map cTerm_cells l
@[go_sem] theorem cLit_cells (l : Lit) : cLit l.cells = some l := by simp [cLit, Lit.cells, dTerms]
theorem cLit_eq {c : List DV} {l : Lit} (h : cLit c = some l) : c = l.cells := by
 unfold cLit at h
 split at h
 · rename_i xs
   cases hx : dRows cTerm xs with
   | none => simp [hx] at h
   | some ts =>
     simp only [hx, Option.some.injEq] at h
     subst h
     rw [dRows_eq (fun c x => cTerm_eq) hx]
     rfl
 · cases h
@[go_sem] theorem dLits (l : List Lit) : dRows cLit (l.map Lit.cells) = some l := dRows_map cLit_cells l
def aVal : AV → Option Val
 | .agg [.d (.v (.string b)), .d (.v (.int .i64 n))] => some ⟨b, n⟩
 | _ => none
def aTerm : AV → Option Term
 | .agg [.d (.v (.string a)), .d (.v (.string b)), .d (.v (.int .i64 n))] => some ⟨a, ⟨b, n⟩⟩
 | _ => none
def aTerms (x : AV) : Option (List Term) := match rowsOf 3 x with
 | some xs => dRows cTerm xs
 | none => none
def aLits (x : AV) : Option (List Lit) := match rowsOf 6 x with
 | some xs => dRows cLit xs
 | none => none
def aLit : AV → Option Lit
 | .agg [.d (.v (.int .u8 k)), .d (.v (.string a)), .d (.v (.string b)), .d (.v (.int .i64 n)), .d (.v (.string p)), x] => match aTerms x with
   | some l => some ⟨k, ⟨a, ⟨b, n⟩⟩, p, l⟩
   | none => none
 | _ => none
def aClause : AV → Option Clause
 | .agg [.d (.v (.int .u8 k)), .d (.v (.string a)), .d (.v (.string b)), .d (.v (.int .i64 n)), .d (.v (.string p)), x, y] => match aTerms x with
   | some l => match aLits y with
     | some b' => some ⟨⟨k, ⟨a, ⟨b, n⟩⟩, p, l⟩, b'⟩
     | none => none
   | none => none
 | _ => none
def aStr : AV → Option ByteArray
 | .d (.v (.string s)) => some s
 | _ => none
theorem aVal_le {x : AV} {t : Val} (h : aVal x = some t) : AV.le x t.av := by
 unfold aVal at h
 split at h
 · cases h; exact AV.le.refl _
 · cases h
theorem aTerm_le {x : AV} {t : Term} (h : aTerm x = some t) : AV.le x t.av := by
 unfold aTerm at h
 split at h
 · cases h; exact AV.le.refl _
 · cases h
theorem aTerms_le {x : AV} {l : List Term} (h : aTerms x = some l) : AV.le x (.d (.sl 3 (l.map Term.cells))) := by
 unfold aTerms at h
 cases hr : rowsOf 3 x with
 | none => simp [hr] at h
 | some xs =>
   simp only [hr] at h
   rw [← dRows_eq (fun c x => cTerm_eq) h]
   exact AV.le.rows hr
theorem aLits_le {x : AV} {l : List Lit} (h : aLits x = some l) : AV.le x (.d (.sl 6 (l.map Lit.cells))) := by
 unfold aLits at h
 cases hr : rowsOf 6 x with
 | none => simp [hr] at h
 | some xs =>
   simp only [hr] at h
   rw [← dRows_eq (fun c x => cLit_eq) h]
   exact AV.le.rows hr
theorem aLit_le {x : AV} {l : Lit} (h : aLit x = some l) : AV.le x l.av := by
 unfold aLit at h
 split at h
 · rename_i y
   cases hy : aTerms y with
   | none => simp [hy] at h
   | some ts =>
     simp only [hy, Option.some.injEq] at h
     subst h
     exact AV.le.agg ⟨AV.le.refl _, AV.le.refl _, AV.le.refl _, AV.le.refl _, AV.le.refl _, aTerms_le hy, trivial⟩
 · cases h
theorem aClause_le {x : AV} {l : Clause} (h : aClause x = some l) : AV.le x l.av := by
 unfold aClause at h
 split at h
 · rename_i y z
   cases hy : aTerms y with
   | none => simp [hy] at h
   | some ts =>
     cases hz : aLits z with
     | none => simp [hy, hz] at h
     | some bs =>
       simp only [hy, hz, Option.some.injEq] at h
       subst h
       exact AV.le.agg ⟨AV.le.refl _, AV.le.refl _, AV.le.refl _, AV.le.refl _, AV.le.refl _, aTerms_le hy, aLits_le hz, trivial⟩
 · cases h
theorem aStr_eq {x : AV} {s : ByteArray} (h : aStr x = some s) : x = .d (.v (.string s)) := by
 unfold aStr at h
 split at h
 · cases h; rfl
 · cases h
@[go_sem] theorem Val.eta (v : Val) : Val.mk v.sym v.num = v := rfl
@[go_sem] theorem Term.eta (t : Term) : Term.mk t.var t.val = t := rfl
@[go_sem] theorem Lit.eta (l : Lit) : Lit.mk l.kind l.who l.pred l.args = l := rfl
@[go_sem] theorem Clause.eta (c : Clause) : Clause.mk c.head c.body = c := rfl
@[go_sem] theorem Term.len (t : Term) : t.cells.length = 3 := rfl
@[go_sem] theorem Lit.len (l : Lit) : l.cells.length = 6 := rfl
theorem Term.ds (t : Term) : t.cells.map AV.d = [.d (.v (.string t.var)), .d (.v (.string t.val.sym)), .d (.v (.int .i64 t.val.num))] := rfl
theorem Lit.ds (l : Lit) : l.cells.map AV.d = [.d (.v (.int .u8 l.kind)), .d (.v (.string l.who.var)), .d (.v (.string l.who.val.sym)), .d (.v (.int .i64 l.who.val.num)), .d (.v (.string l.pred)), .d (.sl 3 (l.args.map Term.cells))] := rfl
attribute [go_sem] aVal aTerm aTerms aLits aLit aClause aStr rowAt_map Int.toNat_natCast Option.map_some Term.ds Lit.ds List.drop_nil List.map_drop List.length_map placeP tokIs upd_same
def g1 {α : Type} (a : AV → Option α) (f : α → AV) : List AV → Option AV
 | [x] => match a x with
   | some v => some (f v)
   | none => none
 | _ => none
def g2 {α β : Type} (a : AV → Option α) (b : AV → Option β) (f : α → β → AV) : List AV → Option AV
 | [x, y] => match a x with
   | some v => match b y with
     | some u => some (f v u)
     | none => none
   | none => none
 | _ => none
theorem g1_eq {α : Type} {a : AV → Option α} {f : α → AV} {l : List AV} {r : AV} (h : g1 a f l = some r) : ∃ x v, l = [x] ∧ a x = some v ∧ f v = r := by
 unfold g1 at h
 split at h
 · rename_i x
   cases hx : a x with
   | none => simp [hx] at h
   | some v => simp [hx] at h; exact ⟨x, v, rfl, hx, h⟩
 · cases h
theorem g2_eq {α β : Type} {a : AV → Option α} {b : AV → Option β} {f : α → β → AV} {l : List AV} {r : AV} (h : g2 a b f l = some r) : ∃ x y v u, l = [x, y] ∧ a x = some v ∧ b y = some u ∧ f v u = r := by
 unfold g2 at h
 split at h
 · rename_i x y
   cases hx : a x with
   | none => simp [hx] at h
   | some v =>
     cases hy : b y with
     | none => simp [hx, hy] at h
     | some u => simp [hx, hy] at h; exact ⟨x, y, v, u, rfl, hx, hy, h⟩
 · cases h
@[go_sem] theorem g1_one {α : Type} (a : AV → Option α) (f : α → AV) (x : AV) : g1 a f [x] = (a x).map f := by
  cases h : a x <;> simp [g1, h]
@[go_sem] theorem g2_two {α β : Type} (a : AV → Option α) (b : AV → Option β) (f : α → β → AV) (x y : AV) : g2 a b f [x, y] = (a x).bind fun v => (b y).map (f v) := by
  cases h : a x <;> cases h' : b y <;> simp [g2, h, h']
@[go_sem] theorem pure_run (g : List AV → Option AV) (x : List AV) (h : AH) (n : Nat) : (Fs.pure g).run x h n = (g x).map fun r => (r, h, n) := rfl
@[go_sem] theorem pure_pre (g : List AV → Option AV) (x : List AV) (h : AH) (n : Nat) : (Fs.pure g).pre x h n = True := rfl
@[go_sem] theorem pure_tch (g : List AV → Option AV) (x : List AV) : (Fs.pure g).tch x = [] := rfl
@[go_sem] theorem pureIf_run (p : List AV → Prop) (g : List AV → Option AV) (x : List AV) (h : AH) (n : Nat) : (Fs.pureIf p g).run x h n = (g x).map fun r => (r, h, n) := rfl
@[go_sem] theorem pureIf_pre (p : List AV → Prop) (g : List AV → Option AV) (x : List AV) (h : AH) (n : Nat) : (Fs.pureIf p g).pre x h n = p x := rfl
@[go_sem] theorem pureIf_tch (p : List AV → Prop) (g : List AV → Option AV) (x : List AV) : (Fs.pureIf p g).tch x = [] := rfl
@[go_sem] theorem put_app (F : Ft) (f g : FuncId) (S : Fs) : Ft.put F f S g = if g = f then S else F g := rfl
section
variable {P : Program} {E : EqT P} {F : Ft}
theorem of_X1 {α : Type} {a : AV → Option α} (av : α → AV) {g : α → AV} (hle : ∀ x v, a x = some v → AV.le x (av v)) {f : FuncId} {fn : Func} {code : Code} (hf : P.funcs[f]? = some fn) (hbody : fn.body = some code) (hn : (fn.name == "runtime.NumGoroutine") = false)
 (rs : List ResultVar) {nt : Nat} (hrs : fn.results = rs.toArray) (hnt : fn.ntmps = nt) (hl : nt ≤ 900000) (hF : FtOk P F)
 (H : ∀ v h n, HOk n h → X E F [] (FinP P rs n h (g v)) 4000 (.code code) [] ⟨av v :: List.replicate (nt - 1) .any, h, n, n⟩) : FsOk P f (.pure (g1 a g)) := by
 refine FsOk.of_XP (E := E) _ hf hbody hn hrs hnt hF (fun _ _ _ => rfl) ?_
 intro args h n r _ hS hok
 obtain ⟨x, v, rfl, hx, rfl⟩ := g1_eq hS
 exact ⟨[av v], ⟨hle x v hx, trivial⟩, ⟨hl, by simp⟩, H v h n hok⟩
end
def oP {α : Type} (x : Option α) (p : α → Prop) : Prop := ∀ v, x = some v → p v
@[go_sem] theorem oP_some {α : Type} (v : α) (p : α → Prop) : oP (some v) p = p v := propext ⟨fun h => h v rfl, fun h u e => by cases e; exact h⟩
def g1p {α : Type} (a : AV → Option α) (p : α → Prop) : List AV → Prop
 | [x] => oP (a x) p
 | _ => True
@[go_sem] theorem g1p_one {α : Type} (a : AV → Option α) (p : α → Prop) (x : AV) : g1p a p [x] = oP (a x) p := rfl
section
variable {P : Program} {E : EqT P} {F : Ft}
theorem of_Y1 {α : Type} {a : AV → Option α} (av : α → AV) {p : α → Prop} {g : α → AV} (hle : ∀ x v, a x = some v → AV.le x (av v)) {f : FuncId} {fn : Func} {code : Code} (hf : P.funcs[f]? = some fn) (hbody : fn.body = some code) (hn : (fn.name == "runtime.NumGoroutine") = false)
 (rs : List ResultVar) {nt : Nat} (hrs : fn.results = rs.toArray) (hnt : fn.ntmps = nt) (hl : nt ≤ 900000) (hF : FtOk P F)
 (H : ∀ v h n, p v → HOk n h → X E F [] (FinP P rs n h (g v)) 4000 (.code code) [] ⟨av v :: List.replicate (nt - 1) .any, h, n, n⟩) : FsOk P f (.pureIf (g1p a p) (g1 a g)) := by
 refine FsOk.of_XP (E := E) _ hf hbody hn hrs hnt hF (fun _ _ _ => rfl) ?_
 intro args h n r hp hS hok
 obtain ⟨x, v, rfl, hx, rfl⟩ := g1_eq hS
 exact ⟨[av v], ⟨hle x v hx, trivial⟩, ⟨hl, by simp⟩, H v h n (hp v hx) hok⟩
end
def g2p {α β : Type} (a : AV → Option α) (b : AV → Option β) (p : α → β → Prop) : List AV → Prop
 | [x, y] => oP (a x) fun v => oP (b y) fun u => p v u
 | _ => True
@[go_sem] theorem g2p_two {α β : Type} (a : AV → Option α) (b : AV → Option β) (p : α → β → Prop) (x y : AV) : g2p a b p [x, y] = oP (a x) fun v => oP (b y) fun u => p v u := rfl
section
variable {P : Program} {E : EqT P} {F : Ft}
theorem of_Y2 {α β : Type} {a : AV → Option α} {b : AV → Option β} (av : α → AV) (bv : β → AV) {p : α → β → Prop} {g : α → β → AV} (hle : ∀ x v, a x = some v → AV.le x (av v)) (hle' : ∀ x v, b x = some v → AV.le x (bv v)) {f : FuncId} {fn : Func} {code : Code}
 (hf : P.funcs[f]? = some fn) (hbody : fn.body = some code) (hn : (fn.name == "runtime.NumGoroutine") = false) (rs : List ResultVar) {nt : Nat} (hrs : fn.results = rs.toArray) (hnt : fn.ntmps = nt) (hl : nt ≤ 900000) (hF : FtOk P F)
 (H : ∀ v u h n, p v u → HOk n h → X E F [] (FinP P rs n h (g v u)) 4000 (.code code) [] ⟨av v :: bv u :: List.replicate (nt - 2) .any, h, n, n⟩) : FsOk P f (.pureIf (g2p a b p) (g2 a b g)) := by
 refine FsOk.of_XP (E := E) _ hf hbody hn hrs hnt hF (fun _ _ _ => rfl) ?_
 intro args h n r hp hS hok
 obtain ⟨x, y, v, u, rfl, hx, hy, rfl⟩ := g2_eq hS
 exact ⟨[av v, bv u], ⟨hle x v hx, hle' y u hy, trivial⟩, ⟨hl, by simp⟩, H v u h n (hp v hx u hy) hok⟩
end
theorem aStr_le {x : AV} {s : ByteArray} (h : aStr x = some s) : AV.le x (.d (.v (.string s))) := by rw [aStr_eq h]; exact AV.le.refl _
def aU8 : AV → Option Int
 | .d (.v (.int .u8 c)) => some c
 | _ => none
theorem aU8_eq {x : AV} {c : Int} (h : aU8 x = some c) : x = .d (.v (.int .u8 c)) := by
 unfold aU8 at h
 split at h
 · cases h; rfl
 · cases h
abbrev vB (b : Bool) : AV := .d (.v (.bool b))
abbrev vS (s : ByteArray) : AV := .d (.v (.string s))
abbrev vI (n : Int) : AV := .d (.v (.int .i64 n))
attribute [go_sem] aU8
end Go.Proofs.YtfhpecgknmfnnaaGreatDoor.M
end
section
namespace Go.Proofs.YtfhpecgknmfnnaaGreatDoor.M
open Go.R
def goodV (v : Val) : Bool := v.sym.size == 0 || (nameB v.sym && v.num == 0)
def ownT (t : Term) : Bool := t.var.size == 0 && t.val.sym.size == 0 && t.val.num == 0
abbrev refNameS : Fs := .pureIf (fun _ => True) (g1 aStr fun s => vB (nameB s))
theorem refName_ok : FsOk Tryz.prog 32 refNameS := by
 refine FsOk.of_calls Tryz.func32 rfl (by kernel_rfl) ?_
 intro args r _ h
 obtain ⟨x, s, rfl, hx, rfl⟩ := g1_eq h
 obtain rfl := aStr_eq hx
 exact ⟨[.string s], _, rfl, fun _ _ _ => .d _ _ (.v _ rfl), fun w => (refName_calls s w).mono fun e w' ⟨h1, h2⟩ => ⟨h1, by subst h2; exact Go.RowKit.Below.refl _ _⟩⟩
def varB (s : ByteArray) : Bool := decide (0 < s.size) && decide (s.size ≤ 16) && uppB (byteAt s 0) && (List.range s.size).all fun i => pieceB (byteAt s i)
abbrev inS : Fs := .pureIf (fun _ => True) (g1 aU8 fun c => vB (pieceB c))
theorem in_ok : FsOk Tryz.prog 82 inS := by
 refine FsOk.of_calls Tryz.func82 rfl (by kernel_rfl) ?_
 intro args r _ h
 obtain ⟨x, c, rfl, hx, rfl⟩ := g1_eq h
 obtain rfl := aU8_eq hx
 exact ⟨[.int .u8 c], _, rfl, fun _ _ _ => .d _ _ (.v _ rfl), fun w => (in_calls c w).mono fun e w' ⟨h1, h2⟩ => ⟨h1, by subst h2; exact Go.RowKit.Below.refl _ _⟩⟩
end Go.Proofs.YtfhpecgknmfnnaaGreatDoor.M
end
section
namespace Go.Proofs.YtfhpecgknmfnnaaGreatDoor.M
open Go.R
def termB (t : Term) : Bool := if 0 < t.var.size then varB t.var && (t.val.sym.size == 0 && t.val.num == 0) else goodV t.val
def termsB (l : List Term) : Bool := l.all termB
end Go.Proofs.YtfhpecgknmfnnaaGreatDoor.M
end
section
namespace Go.Proofs.YtfhpecgknmfnnaaGreatDoor.M
open Go.R
def saidB (l : Lit) : Bool := (ownT l.who || termB l.who && (decide (0 < l.who.var.size) || decide (0 < l.who.val.sym.size))) && nameB l.pred && decide (l.args.length ≤ 4) && termsB l.args
def checkLitB (l : Lit) : Bool := l.kind == 1 && saidB l
def literalB (l : Lit) : Bool := if l.kind == 1 || l.kind == 2 then saidB l else (l.kind == 3 || l.kind == 4) && l.pred.size == 0 && ownT l.who && l.args.length == 2 && termsB l.args
def checkB (c : Clause) : Bool := checkLitB c.head && ownT c.head.who && decide (c.body.length ≤ 6) && c.body.all literalB
def Clause.ds (c : Clause) : List AV := [.d (.v (.int .u8 c.head.kind)), .d (.v (.string c.head.who.var)), .d (.v (.string c.head.who.val.sym)), .d (.v (.int .i64 c.head.who.val.num)), .d (.v (.string c.head.pred)), .d (.sl 3 (c.head.args.map Term.cells)), .d (.sl 6 (c.body.map Lit.cells))]
end Go.Proofs.YtfhpecgknmfnnaaGreatDoor.M
end
section
namespace Go.Proofs.YtfhpecgknmfnnaaGreatDoor.M
open Go.R
theorem noGuardT : Tryz.prog.eqGuardType Tryz.prog.depth 25 = false := by kernel_rfl
theorem undT : Tryz.prog.underlying 25 = some (.struct (Tryz.prog.fieldsOf 25)) := by kernel_rfl
theorem undV : Tryz.prog.underlying 23 = some (.struct (Tryz.prog.fieldsOf 23)) := by kernel_rfl
theorem heldT : Tryz.prog.stoodInHeld 25 = false := by kernel_rfl
theorem heldV : Tryz.prog.stoodInHeld 23 = false := by kernel_rfl
def eqTermF (t : TypeId) (us vs : List Value) : Option Bool := if t = 25 then match us, vs with
 | [.string a, .string b, .int .i64 n], [.string a', .string b', .int .i64 n'] => some (a.toList == a'.toList && (b.toList == b'.toList && n == n'))
 | _, _ => none
 else none
def eqF3 (d : Nat) (xs ys : Array Value) : List (String × TypeId × Nat) → Sem Bool
 | [] => pure true
 | f :: fs =>
   if f.1 ≠ "_" then do
    let a ← part f.2.1 xs f.2.2
    let b ← part f.2.1 ys f.2.2
    let r ← Op.equalIn d f.2.1 a b
    if (!r) = true then pure false else eqF3 d xs ys fs
   else eqF3 d xs ys fs
theorem eqFields_map (d : Nat) (xs ys : Array Value) : ∀ fs : List Field, Op.eqFields d xs ys fs = eqF3 d xs ys (fs.map fun f => (f.name, f.type, f.offset))
 | [] => rfl
 | f :: fs => by simp only [Op.eqFields, List.map_cons, eqF3, eqFields_map d xs ys fs]
theorem e1 : (Tryz.prog.fieldsOf 25).toList.map (fun f => (f.name, f.type, f.offset)) = [("Var", 9, 0), ("Val", 23, 1)] := by kernel_rfl
theorem e2 : (Tryz.prog.fieldsOf 23).toList.map (fun f => (f.name, f.type, f.offset)) = [("Sym", 9, 0), ("Num", 2, 1)] := by kernel_rfl
theorem und_s : Tryz.prog.underlying 9 = some .string := by kernel_rfl
theorem und_i : Tryz.prog.underlying 2 = some (.int .i64) := by kernel_rfl
theorem equalIn_term (a b a' b' : ByteArray) (n n' : Int) (w : World) : (Op.equalIn 10000 25 (.agg #[.string a, .string b, .int .i64 n]) (.agg #[.string a', .string b', .int .i64 n'])).run Tryz.prog w = .ok (a.toList == a'.toList && (b.toList == b'.toList && n == n')) w := by
 rw [run_equalIn_agg w 9999 _ _ _ undT heldT, eqFields_map, e1]
 simp [go_sem, eqF3, und_s, und_i]
 by_cases h1 : a.toList = a'.toList <;> by_cases h2 : b.toList = b'.toList <;> by_cases h3 : n = n' <;> simp [*]
def eqT : EqT Tryz.prog := ⟨eqTermF, fun t us vs b h op x y w => by
 unfold eqTermF at h
 split at h
 · rename_i e
   subst e
   split at h
   · cases h
     refine ⟨?_, ?_⟩ <;> (rintro rfl; simp only [Sem.run_bind, run_eqGuard_agg _ _ _ _ _ _ _ noGuardT, Result.andThen_ok, run_eql_struct, run_neq_struct, equalIn_term])
   · cases h
 · cases h⟩
@[go_sem] theorem eqT_term (a b a' b' : ByteArray) (n n' : Int) : eqT.eq 25 [.string a, .string b, .int .i64 n] [.string a', .string b', .int .i64 n'] = some (a.toList == a'.toList && (b.toList == b'.toList && n == n')) := rfl
end Go.Proofs.YtfhpecgknmfnnaaGreatDoor.M
end
section
namespace Go.Proofs.YtfhpecgknmfnnaaGreatDoor.M
open Go.R
noncomputable def eqB {α : Type} (a b : α) : Bool := @decide (a = b) (Classical.propDecidable _)
theorem eqB_true {α : Type} {a b : α} (h : a = b) : eqB a b = true := by simp [eqB, h]
theorem eqB_false {α : Type} {a b : α} (h : ¬a = b) : eqB a b = false := by simp [eqB, h]
theorem toList_inj {a b : ByteArray} (h : a.toList = b.toList) : a = b := by
 rw [toList_eq, toList_eq] at h
 obtain ⟨⟨x⟩⟩ := a
 obtain ⟨⟨y⟩⟩ := b
 simp only at h
 rw [h]
theorem Term.eq_of {a b : Term} (h : (a.var.toList == b.var.toList && (a.val.sym.toList == b.val.sym.toList && a.val.num == b.val.num)) = true) : a = b := by
 simp only [Bool.and_eq_true, beq_iff_eq] at h
 obtain ⟨h1, h2, h3⟩ := h
 obtain ⟨a1, a2, a3⟩ := a
 obtain ⟨b1, b2, b3⟩ := b
 have e1 := toList_inj h1
 have e2 := toList_inj h2
 simp only at e1 e2 h3
 rw [e1, e2, h3]
theorem Term.ne_of {a b : Term} (h : (a.var.toList == b.var.toList && (a.val.sym.toList == b.val.sym.toList && a.val.num == b.val.num)) = false) : ¬a = b := by
 rintro rfl
 simp at h
def Lit.bx (l : Lit) : List AV := [.d (.v (.int .u8 l.kind)), .d (.v (.string l.who.var)), .d (.v (.string l.who.val.sym)), .d (.v (.int .i64 l.who.val.num)), .d (.v (.string l.pred)), .d (.sl 3 (l.args.map Term.cells))]
noncomputable abbrev sameLitS : Fs := .pureIf (g2p aLit aLit fun a b => a.args.length ≤ 4611686018427387904) (g2 aLit aLit fun a b => vB (eqB a b))
def smallC (c : Clause) : Prop := c.body.length ≤ 4611686018427387904 ∧ c.head.args.length ≤ 4611686018427387904 ∧ ∀ l ∈ c.body, l.args.length ≤ 4611686018427387904
noncomputable abbrev sameS : Fs := .pureIf (g2p aClause aClause fun a b => smallC a) (g2 aClause aClause fun a b => vB (eqB a b))
set_option maxHeartbeats 1000000 in
theorem sameLit_ok : FsOk Tryz.prog 24 sameLitS := by
 refine of_Y2 (E := eqT) (F := Ft.no) Lit.av Lit.av (fun _ _ => aLit_le) (fun _ _ => aLit_le) Tryz.func24 rfl (by kernel_rfl) [.tmp 4] rfl Tryz.ntmps24 (by decide) (FtOk.no _) ?_
 intro l l' h n hp hok
 repeat' (first | (with_reducible refine XG_split (fun hq => ?_) (fun hq => ?_)) | (with_reducible refine Or.inl (And.intro (And.intro mixedP ?_) ?_); kernel_rfl) | (with_reducible refine MX1.of 4000 (by simp) ?_) | (with_reducible refine MX2.of 4000 (by simp) ?_) | (with_reducible refine And.intro ?_ ?_) | simp only [go_sem,Nat.reduceEqDiff,Nat.reduceAdd,Nat.reduceMul,Nat.reduceLeDiff,Lit.av,cvals,cval])
 all_goals first | (refine wk_v (congrArg Value.bool ?_)) | skip
 · exact (eqB_false (by rintro rfl; simp at hq)).symm
 · exact (eqB_false (by rintro rfl; simp at hq)).symm
 · exact (eqB_false (by rintro rfl; simp at hq)).symm
 · exact (eqB_false (by rintro rfl; simp at hq)).symm
 rename_i h1 h2 h3
 have e1 : l.kind = l'.kind := by simpa using h1
 have e2 : l.who = l'.who := Term.eq_of (by simpa using h2)
 have e3 : l.pred = l'.pred := toList_inj (by simpa using h3)
 have e4 : l.args.length = l'.args.length := by simp at hq; omega
 have hok' : HOk (n + 1) (upd h n (.box l.bx)) := (hok.mono (Nat.le_succ n)).upd_box (Nat.lt_succ_self n) (by simp only [go_sem, Lit.bx])
 have hok2 : HOk (n + 1 + 1) (upd (upd h n (.box l.bx)) (n + 1) (.box l'.bx)) := (hok'.mono (Nat.le_succ _)).upd_box (Nat.lt_succ_self _) (by simp only [go_sem, Lit.bx])
 refine AW.loopJ (E := eqT) (S := fun k : Nat => ⟨fr [(2, .p n 0), (3, .p (n + 1) 0), (5, vI k)] (List.replicate 52 .any), upd (upd h n (.box l.bx)) (n + 1) (.box l'.bx), n, n + 1 + 1⟩) (I := fun k => k ≤ l.args.length ∧ ∀ i, i < k → l.args[i]? = l'.args[i]?) (μ := fun k => l.args.length - k) 0 ⟨Nat.zero_le _, fun i hi => absurd hi (Nat.not_lt_zero i)⟩ ?_ 4000 (fun _ => by simp only [fr_len, List.length_replicate]; decide) ?_
 · exact Wk.same (by simp only [go_sem]) hok2 (by omega) (by simp only [go_sem]; omega)
 · rintro k ⟨hk, hA⟩
   rcases Nat.lt_or_ge k l.args.length with hkl | hkl
   · have hkl' : k < l'.args.length := by omega
     repeat' (first | (with_reducible refine XG_split (fun hq => ?_) (fun hq => ?_)) | (with_reducible refine Or.inl (And.intro (And.intro mixedP ?_) ?_); kernel_rfl) | (with_reducible refine MX1.of 4000 (by simp) ?_) | (with_reducible refine MX2.of 4000 (by simp) ?_) | (with_reducible refine And.intro ?_ ?_) | simp only [go_sem,Nat.reduceEqDiff,Nat.reduceAdd,Nat.reduceMul,Nat.reduceLeDiff,Lit.bx,cvals,cval,decide_eq_true hkl,List.getElem?_eq_getElem hkl,List.getElem?_eq_getElem hkl'])
     all_goals try (first | omega | done)
     · refine wk_v (congrArg Value.bool ?_)
       refine (eqB_false ?_).symm
       intro e
       have : l.args[k] = l'.args[k] := by simp only [e]
       exact Term.ne_of (by simpa only [Bool.not_eq_true'] using hq) this
     · refine ⟨k + 1, ⟨by omega, fun i hi => ?_⟩, Wk.same (by simp only [go_sem]) hok2 (by omega) (by simp only [go_sem]; omega), by omega⟩
       rcases Nat.lt_or_ge i k with h | h
       · exact hA i h
       · obtain rfl : i = k := by omega
         rw [List.getElem?_eq_getElem hkl, List.getElem?_eq_getElem hkl', Term.eq_of (a := l.args[i]) (b := l'.args[i]) (by simpa only [Bool.not_eq_false'] using hq)]
   · obtain rfl : k = l.args.length := by omega
     repeat' (first | (with_reducible refine XG_split (fun hq => ?_) (fun hq => ?_)) | (with_reducible refine Or.inl (And.intro (And.intro mixedP ?_) ?_); kernel_rfl) | (with_reducible refine MX1.of 4000 (by simp) ?_) | (with_reducible refine MX2.of 4000 (by simp) ?_) | (with_reducible refine And.intro ?_ ?_) | simp only [go_sem,Nat.reduceEqDiff,Nat.reduceAdd,Nat.reduceMul,Nat.reduceLeDiff,Lit.bx,Nat.lt_irrefl,decide_false])
     refine wk_v (congrArg Value.bool ?_)
     refine (eqB_true ?_).symm
     have e5 : l.args = l'.args := List.ext_getElem? fun i => by
      rcases Nat.lt_or_ge i l.args.length with h | h
      · exact hA i h
      · rw [List.getElem?_eq_none h, List.getElem?_eq_none (by omega)]
     obtain ⟨a1, a2, a3, a4⟩ := l
     obtain ⟨b1, b2, b3, b4⟩ := l'
     simp only at e1 e2 e3 e5
     rw [e1, e2, e3, e5]
set_option maxHeartbeats 1000000 in
theorem same_ok : FsOk Tryz.prog 23 sameS := by
 refine of_Y2 (E := EqT.no _) (F := Ft.no.put 24 sameLitS) Clause.av Clause.av (fun _ _ => aClause_le) (fun _ _ => aClause_le) Tryz.func23 rfl (by kernel_rfl) [.tmp 4] rfl Tryz.ntmps23 (by decide) ((FtOk.no _).put sameLit_ok) ?_
 intro l l' h n hp hok
 obtain ⟨hp1, hp2, hp3⟩ := hp
 repeat' (first | (with_reducible refine XG_split (fun hq => ?_) (fun hq => ?_)) | (with_reducible refine Or.inl (And.intro (And.intro mixedP ?_) ?_); kernel_rfl) | (with_reducible refine MX1.of 4000 (by simp) ?_) | (with_reducible refine MX2.of 4000 (by simp) ?_) | (with_reducible refine And.intro ?_ ?_) | simp only [go_sem,Nat.reduceEqDiff,Nat.reduceAdd,Nat.reduceMul,Nat.reduceLeDiff,Clause.av])
 all_goals first | (exact hp2) | (refine wk_v (congrArg Value.bool ?_)) | skip
 · refine (eqB_false ?_).symm
   rintro rfl
   rw [eqB_true rfl] at hq
   cases hq
 · refine (eqB_false ?_).symm
   rintro rfl
   simp at hq
 rename_i h1
 have e1 : l.head = l'.head := by
  refine Classical.byContradiction fun e => ?_
  rw [eqB_false e] at h1
  cases h1
 have e4 : l.body.length = l'.body.length := by simp at hq; omega
 have hok' : HOk (n + 1) (upd h n (.box l.ds)) := (hok.mono (Nat.le_succ n)).upd_box (Nat.lt_succ_self n) (by simp only [go_sem, Clause.ds])
 have hok2 : HOk (n + 1 + 1) (upd (upd h n (.box l.ds)) (n + 1) (.box l'.ds)) := (hok'.mono (Nat.le_succ _)).upd_box (Nat.lt_succ_self _) (by simp only [go_sem, Clause.ds])
 refine AW.loopJ (E := EqT.no _) (S := fun k : Nat => ⟨fr [(2, .p n 0), (3, .p (n + 1) 0), (5, vI k)] (List.replicate 40 .any), upd (upd h n (.box l.ds)) (n + 1) (.box l'.ds), n, n + 1 + 1⟩) (I := fun k => k ≤ l.body.length ∧ ∀ i, i < k → l.body[i]? = l'.body[i]?) (μ := fun k => l.body.length - k) 0 ⟨Nat.zero_le _, fun i hi => absurd hi (Nat.not_lt_zero i)⟩ ?_ 4000 (fun _ => by simp only [fr_len, List.length_replicate]; decide) ?_
 · exact Wk.same (by simp only [go_sem]) hok2 (by omega) (by simp only [go_sem]; omega)
 · rintro k ⟨hk, hA⟩
   rcases Nat.lt_or_ge k l.body.length with hkl | hkl
   · have hkl' : k < l'.body.length := by omega
     repeat' (first | (with_reducible refine XG_split (fun hq => ?_) (fun hq => ?_)) | (with_reducible refine Or.inl (And.intro (And.intro mixedP ?_) ?_); kernel_rfl) | (with_reducible refine MX1.of 4000 (by simp) ?_) | (with_reducible refine MX2.of 4000 (by simp) ?_) | (with_reducible refine And.intro ?_ ?_) | simp only [go_sem,Nat.reduceEqDiff,Nat.reduceAdd,Nat.reduceMul,Nat.reduceLeDiff,Clause.ds,decide_eq_true hkl,List.getElem?_eq_getElem hkl,List.getElem?_eq_getElem hkl'])
     all_goals try (first | omega | done)
     · exact hp3 _ (List.getElem_mem hkl)
     · refine wk_v (congrArg Value.bool ?_)
       refine (eqB_false ?_).symm
       intro e
       rw [eqB_true (by simp only [e])] at hq
       cases hq
     · refine ⟨k + 1, ⟨by omega, fun i hi => ?_⟩, Wk.same (by simp only [go_sem]) hok2 (by omega) (by simp only [go_sem]; omega), by omega⟩
       rcases Nat.lt_or_ge i k with h | h
       · exact hA i h
       · obtain rfl : i = k := by omega
         rw [List.getElem?_eq_getElem hkl, List.getElem?_eq_getElem hkl']
         refine congrArg some (Classical.byContradiction fun e => ?_)
         rw [eqB_false e] at hq
         cases hq
   · obtain rfl : k = l.body.length := by omega
     repeat' (first | (with_reducible refine XG_split (fun hq => ?_) (fun hq => ?_)) | (with_reducible refine Or.inl (And.intro (And.intro mixedP ?_) ?_); kernel_rfl) | (with_reducible refine MX1.of 4000 (by simp) ?_) | (with_reducible refine MX2.of 4000 (by simp) ?_) | (with_reducible refine And.intro ?_ ?_) | simp only [go_sem,Nat.reduceEqDiff,Nat.reduceAdd,Nat.reduceMul,Nat.reduceLeDiff,Clause.ds,Nat.lt_irrefl,decide_false])
     refine wk_v (congrArg Value.bool ?_)
     refine (eqB_true ?_).symm
     have e5 : l.body = l'.body := List.ext_getElem? fun i => by
      rcases Nat.lt_or_ge i l.body.length with h | h
      · exact hA i h
      · rw [List.getElem?_eq_none h, List.getElem?_eq_none (by omega)]
     obtain ⟨a1, a2⟩ := l
     obtain ⟨b1, b2⟩ := l'
     simp only at e1 e5
     rw [e1, e5]
end Go.Proofs.YtfhpecgknmfnnaaGreatDoor.M
end
section
namespace Go.R
open Go.RowKit
section
variable {P : Program} {C : Tb} {c c0 c' : Cx} {s s1 s2 : St} {a : Act} {w w0 w' : World} {h h0 h' : AH} {n n' : Nat} {T T1 : List Nat} {ops : Array Oper} {Q : Exit → Act → World → Prop} {Cl : World → Prop} {D : Option Nat}
def SameBut (T1 : List Nat) (c : Cx) (h : AH) (w w' : World) : Prop := ∀ b, b < w.heap.size → (∀ i, i ∈ T1 → (h i).blk c i ≠ some b) → w'.heap[b]? = w.heap[b]?
theorem cells_readC {cs : List AV} {ty : TypeId} {K : AV → Prop} {h : AH} {b o : Nat} (hi : infoP P ty = true) (vals : List Value) (hl : cs.length ≤ vals.length)
 (hcl : ∀ w', Cl w' → w'.heap[b]? = w.heap[b]?)
 (hcell : ∀ (j : Nat) v, vals[j]? = some v → w.cell? ⟨b, o + j, none⟩ = some v) (hr : ∀ (j : Nat) v x, vals[j]? = some v → cs[j]? = some x → ARep c h w v x)
 (hK : pack P ty cs K) : ∃ v r, (∀ w', Cl w' → (do pure (Next.value (← loadVar ty ⟨b, o, none⟩)) : Sem Next).run P w' = .ok (.value v) w') ∧ ARep c h w v r ∧ K r := by
 have hcell' : ∀ w', Cl w' → ∀ (j : Nat) v, vals[j]? = some v → w'.cell? ⟨b, o + j, none⟩ = some v := fun w' q j v hj => (cell_of_block (hcl w' q)).trans (hcell j v hj)
 obtain ⟨d, hd⟩ := Option.isSome_iff_exists.1 (und_of_info hi)
 have hagg : ∀ w', (isAgg ty).run P w' = .ok (aggP P ty) w' := by
  intro w'
  unfold isAgg aggP
  rw [Sem.run_bind, run_underlying hd w']
  cases d <;> simp [hd, Result.andThen_ok]
 unfold pack at hK
 cases hg : aggP P ty with
 | true =>
   rw [if_pos hg] at hK
   obtain ⟨hsz, hK⟩ := hK
   refine ⟨.agg (vals.take (sizeP P ty)).toArray, _, fun w' q => ?_, .agg _ _ (by simp; omega) (fun j v x hj hx => ?_), hK⟩
   · refine run_next _ _ _ ?_
     have hload := run_loadCells_list (P := P) w' ⟨b, o, none⟩ (vals.take (sizeP P ty)) (fun j v hj => by
      have h1 : j < sizeP P ty := by have := (List.getElem?_eq_some_iff.1 hj).1; simp at this; omega
      rw [List.getElem?_take_of_lt h1] at hj
      have hadd : (⟨b, o, none⟩ : Addr).add j = ⟨b, o + j, none⟩ := by unfold Addr.add; split <;> simp_all
      rw [hadd]; exact hcell' w' q j v hj)
     rw [List.length_take, Nat.min_eq_left (by omega)] at hload
     simp only [loadVar, Sem.run_bind, hagg w', hg, Result.andThen_ok, run_sizeP hi w', hload, if_true]
     rfl
   · have h1 : j < sizeP P ty := by have := (List.getElem?_eq_some_iff.1 hj).1; simp at this; omega
     rw [List.getElem?_take_of_lt h1] at hj hx
     exact hr j v x hj hx
 | false =>
   rw [if_neg (by simp [hg])] at hK
   cases cs with
   | nil => exact hK.elim
   | cons x cs =>
     cases vals with
     | nil => simp at hl
     | cons v vals =>
       refine ⟨v, x, fun w' q => run_next _ _ _ ?_, hr 0 v x rfl rfl, hK⟩
       have := hcell' w' q 0 v rfl
       simp only [loadVar, Sem.run_bind, hagg w', hg, Result.andThen_ok, if_false, Bool.false_eq_true, Nat.add_zero] at this ⊢
       simp [run_load, this]
theorem aload_readsC (hw : Wd c h n w) {i off : Nat} {v : Value} {ty : TypeId} {K : AV → Prop} (r : ARep c h w v (.p i off)) (hi : infoP P ty = true) (hT : i ∉ T1) (hK : aload P ty h (.p i off) K) :
 ∃ u r, (∀ w', SameBut T1 c h w w' → (do pure (Next.value (← Instr.loadAt ty v)) : Sem Next).run P w' = .ok (.value u) w') ∧ ARep c h w u r ∧ K r := by
 cases r with
 | p i off cs hbox =>
   simp only [aload, hbox] at hK
   obtain ⟨_, vals, tyb, hb, hsz, hr⟩ := hw.box i cs hbox
   have hcell : ∀ (j : Nat) v, (vals.toList.drop off)[j]? = some v → w.cell? ⟨c.β i, off + j, none⟩ = some v := fun j v hj => by
    simp only [World.cell?, hb]
    rw [List.getElem?_drop] at hj
    simpa using hj
   have := cells_readC (P := P) (Cl := SameBut T1 c h w) (c := c) (h := h) (w := w) (cs := cs.drop off) (b := c.β i) (o := off) hi (vals.toList.drop off) (by simp [hsz])
    (fun w' q => q _ (Array.getElem?_eq_some_iff.1 hb).1 (fun j hj e => hw.ne i j (c.β i) (fun e => hT (e ▸ hj)) (by rw [hbox]; rfl) e)) hcell (fun j v x hj hx => by
    rw [List.getElem?_drop] at hj hx
    exact hr (off + j) v x (by simpa using hj) hx) hK
   simpa [Instr.loadAt, Instr.sureAddr] using this
def ldW (T1 : List Nat) (op : Op) (t : List AV) : Prop := match op with
 | .load _ x => (match ev t x with
   | .p j _ => j ∉ T1
   | _ => False)
 | .nilCheck _ => True
 | .binOp _ _ _ _ _ => True
 | .call cl => (match cl.callee with
   | .builtin _ => True
   | _ => False)
 | op => blindK op = true
def Blind (P : Program) (c : Cx) (h : AH) (w : World) (sm : World → Result Next) (K : AV → Prop) : Prop := ∃ v r, (∀ w', sm w' = .ok (.value v) w') ∧ ARep c h w v r ∧ K r
theorem abi_blind (hs : SRep c s a w) {b : Builtin} {cl : Call} {ty : TypeId} {K : AV → Prop} (hK : abi P b cl ty (cl.args.toList.map (ev s.t)) K) :
 Blind P c s.h w (fun w' => (builtin b cl.argTypes ty (cl.args.map aconst) (cl.args.map a.eval)).run P w') K := by
 have hargs : cl.args.map a.eval = (cl.args.toList.map a.eval).toArray := map_arr _ _
 have gen : ∀ vs, svals (cl.args.toList.map (ev s.t)) = some vs → abuiltin P b cl.argTypes ty (cl.args.map aconst) vs K → Blind P c s.h w (fun w' => (builtin b cl.argTypes ty (cl.args.map aconst) (cl.args.map a.eval)).run P w') K := by
  intro vs hvs hK
  have := svals_rep (by simp) (args_rep hs cl.args.toList) hvs
  rw [hargs, this]
  obtain ⟨v, hv, hK⟩ := hK
  exact ⟨v, _, hv, lift_rep v, hK⟩
 have gen2 : (match svals (cl.args.toList.map (ev s.t)) with
  | some vs => abuiltin P b cl.argTypes ty (cl.args.map aconst) vs K
  | none => False) → Blind P c s.h w (fun w' => (builtin b cl.argTypes ty (cl.args.map aconst) (cl.args.map a.eval)).run P w') K := by
  intro hK
  cases hq : svals (cl.args.toList.map (ev s.t)) with
  | none => simp only [hq] at hK
  | some vs => simp only [hq] at hK; exact gen vs hq hK
 unfold abi at hK
 split at hK
 · rename_i x hx
   cases hl : alen x with
   | none =>
     simp only [hl] at hK
     exact gen2 hK
   | some m =>
     simp only [hl] at hK
     obtain ⟨hb, ht, hK⟩ := hK
     have hb : b = .len := by cases b <;> simp [isLen] at hb; rfl
     subst hb
     obtain ⟨q, hq, rfl⟩ : ∃ q, cl.args.toList = [q] ∧ ev s.t q = x := by
      cases hl : cl.args.toList with
      | nil => simp [hl] at hx
      | cons q r =>
        cases r with
        | nil => simp [hl] at hx; exact ⟨q, rfl, hx⟩
        | cons _ _ => simp [hl] at hx
     obtain ⟨A, cap, hv⟩ := alen_rep (ev_rep hs q) hl
     cases h0 : cl.argTypes[0]? with
     | none => simp only [h0] at ht
     | some t =>
       simp only [h0] at ht
       obtain ⟨e, he⟩ := Option.isSome_iff_exists.1 ht
       refine ⟨.int .i64 m, _, fun w' => ?_, .d _ _ (.v _ rfl), hK⟩
       rw [hargs, hq]
       simp [builtin, Builtin.len_, h0, hv, run_underlying (und_of_slice he), goInt]
 · exact gen2 hK
theorem bin_blind (hs : SRep c s a w) {o : Oper} {op : BinOp} {ty ty' : TypeId} {x y : Operand} {K : AV → Prop} (hop : o.op = .binOp op ty x y ty') (hK : ard P o s.t s.h K) : ∃ v r, (∀ w', (execOp a.eval o).run P w' = .ok (.value v) w') ∧ ARep c s.h w v r ∧ K r := by
 have hr := ev_rep hs
 simp only [ard, hop] at hK
 simp only [execOp, hop]
 cases h1 : sval (ev s.t x) with
 | none =>
   simp only [h1] at hK
   unfold afnil at hK
   split at hK
   · rename_i g af ac hq
     have hx := hr x
     rw [hq] at hx
     generalize a.eval x = v at hx
     cases hx with
     | fn f vf vc af ac g1 g2 g3 g4 =>
       split at hK
       · rename_i hq2
         have hy := hr y
         rw [hq2] at hy
         rw [cval_rep hy rfl]
         split at hK
         · exact ⟨_, _, fun w' => run_next _ _ _ (fnil_run hK.1 (.inl rfl)), .d _ _ (.v _ rfl), hK.2⟩
         · exact ⟨_, _, fun w' => run_next _ _ _ (fnil_run hK.1 (.inr rfl)), .d _ _ (.v _ rfl), hK.2⟩
         · exact hK.elim
       · exact hK.elim
   · exact hK.elim
 | some u =>
   cases h2 : sval (ev s.t y) with
   | none => simp only [h1, h2] at hK
   | some v =>
     simp only [h1, h2] at hK
     rw [sval_rep (hr x) h1, sval_rep (hr y) h2]
     obtain ⟨v, hv, hK⟩ := hK
     exact ⟨v, _, fun w' => run_next _ _ _ (hv w'), lift_rep v, hK⟩
theorem nil_blind (hs : SRep c s a w) {o : Oper} {x : Operand} {K : AV → Prop} (hop : o.op = .nilCheck x) (hK : ard P o s.t s.h K) : ∃ v r, (∀ w', (execOp a.eval o).run P w' = .ok (.value v) w') ∧ ARep c s.h w v r ∧ K r := by
 have hr := ev_rep hs
 simp only [ard, hop] at hK
 simp only [execOp, hop]
 have hx := hr x
 split at hK
 · rename_i i off hq
   rw [hq] at hx
   generalize a.eval x = v at hx
   cases hx with
   | p i off cs hi => exact ⟨_, _, fun _ => rfl, .p i off cs hi, hK⟩
 · rename_i cs hq
   rw [hq] at hx
   generalize a.eval x = v at hx
   cases hx with
   | e b o cs f h1 h2 => exact ⟨_, _, fun _ => rfl, .e b o cs f h1 h2, hK⟩
 · rename_i f af ac hq
   rw [hq] at hx
   generalize a.eval x = v at hx
   cases hx with
   | fn f vf vc af ac h1 h2 h3 h4 => exact ⟨_, _, fun _ => rfl, .fn _ vf vc af ac h1 h2 h3 h4, hK⟩
 · exact hK.elim
theorem quiet_QYW (I : SI T c0 h0 w0 c s a w) {o : Oper} {K : AV → Prop} (hg : o.guard = none) (hl : ldW T1 o.op s.t) (hK : aopQ P C o s.t s.h s.n K) :
 ∃ v r, QY P ops (fun w' => blindK o.op = true ∨ SameBut T1 c s.h w w') o v a ∧ ARep c s.h w v r ∧ K r := by
 have hw : Region.wanted o (yielded ops a.tmps) = true := by simp [Region.wanted, hg]
 have hK : ard P o s.t s.h K := by
  unfold aopQ at hK
  unfold ldW at hl
  cases hop : o.op with
  | call cl =>
    simp only [hop] at hK hl
    cases hc : cl.callee with
    | builtin b => simp only [hc] at hK; exact hK
    | value f => simp only [hc] at hl
    | invoke r m => simp only [hc] at hl
  | _ => simp only [hop] at hK; exact hK
 unfold ldW at hl
 split at hl
 · rename_i ty x hop
   have hr := ev_rep I.srep x
   split at hl
   · rename_i j off hx
     rw [hx] at hr
     simp only [ard, hop, hx] at hK
     obtain ⟨v, r, h1, h2, h3⟩ := aload_readsC I.srep.wd hr hK.1 hl hK.2
     refine ⟨v, r, .inl ⟨hw, fun w' q => ?_⟩, h2, h3⟩
     rcases q with q | q
     · simp [blindK, hop] at q
     · have := h1 w' q
       simpa [execOp, hop] using this
   · exact hl.elim
 · rename_i x hop
   obtain ⟨v, r, h1, h2, h3⟩ := nil_blind I.srep hop hK
   exact ⟨v, r, .inl ⟨hw, fun w' _ => h1 w'⟩, h2, h3⟩
 · rename_i op ty x y ty' hop
   obtain ⟨v, r, h1, h2, h3⟩ := bin_blind I.srep hop hK
   exact ⟨v, r, .inl ⟨hw, fun w' _ => h1 w'⟩, h2, h3⟩
 · rename_i cl hop
   cases hc : cl.callee with
   | builtin b =>
     simp only [ard, hop, hc] at hK
     obtain ⟨v, r, h1, h2, h3⟩ := abi_blind I.srep hK
     refine ⟨v, r, .inl ⟨hw, fun w' _ => ?_⟩, h2, h3⟩
     have h1 := h1 w'
     simp only [execOp, hop, resolve, hc, Sem.run_bind, Sem.run_pure, Result.andThen_ok, invoke]
     exact h1
   | value f => simp only [hc] at hl
   | invoke r m => simp only [hc] at hl
 · obtain ⟨v, r, h1, h2, h3⟩ := ard_blind I.srep hl hK
   exact ⟨v, r, .inl ⟨hw, fun w' _ => h1 w'⟩, h2, h3⟩
def xopsW (P : Program) (C : Tb) (T1 : List Nat) (ops : Array Oper) : List Nat → St → (St → Prop) → Prop
 | [], s, K => K s
 | k :: ks, s, K => (match ops[k]? with
   | some o => ldW T1 o.op s.t
   | none => False) ∧ xopsQ P C ops (opsAt ops [k]) s fun s' => s'.t.length ≤ 1000000 → xopsW P C T1 ops ks s' K
theorem mix_qW {K : St → Prop} {rest : List (Bool × Nat)} : ∀ (qs : List Nat) (s : St) (a : Act) (listed : Array Bool), SI T c0 h0 w0 c s a w → s.t.length ≤ 1000000 → plainB ops false qs = true → xopsW P C T1 ops qs s K →
 (∀ s' a', SI T c0 h0 w0 c s' a' w → s'.b = s.b → s'.h = s.h → s'.n = s.n → s'.t.length = s.t.length → K s' → wpMix P ops (SameBut T1 c s.h w) D Q rest (setAll listed qs) a' w) → wpMix P ops (SameBut T1 c s.h w) D Q (qs.map (fun k => (true, k)) ++ rest) listed a w
 | [], s, a, listed, I, _, _, hK, hn => hn s a I rfl rfl rfl rfl hK
 | k :: qs, s, a, listed, I, hsl, hp, hK, hn => by
   obtain ⟨o, ho, hg, hnc, hat, hp'⟩ := plainB_cons hp
   obtain ⟨hL, hK⟩ := hK
   simp only [ho] at hL
   have hat1 : opsAt ops [k] = [o] := by simp [opsAt, ho]
   rw [hat1] at hK
   simp only [xopsQ, hg] at hK
   obtain ⟨v, r, h1, h2, h3⟩ := quiet_QYW (ops := ops) I hg hL (xopQ_aopQ hK)
   simp only [List.map_cons, List.cons_append, wpMix, ho, if_true]
   refine ⟨v, h1, ?_⟩
   refine mix_qW qs { s with t := putT s.t o.dst r } _ _ (I.next (d := o.dst) (v := v) I.srep.wd (Ext.refl _ _ _) (Fr.refl _ _ _ _) h2 (Nat.le_refl _)) (by simp only [putT_length]; exact hsl) hp' (h3 (by simp only [putT_length]; exact hsl)) fun s' a' I' e1 e2 e3 e4 hK' => ?_
   exact hn s' a' I' e1 e2 e3 (e4.trans (putT_length _ _ _)) hK'
theorem AW.mixW {id : Nat} {Q : Exit → St → Prop} (qs cs1 cs2 : List Nat) (hm : P.follows .mixedOrders = true) (hsel : Region.noSelect ops = true) (hlen : qs.length + (cs1.length + cs2.length) = ops.size)
 (hp1 : plainB ops false qs = true) (hp2 : plainB ops true cs1 = true) (hp3 : plainB ops true cs2 = true)
 (hB : mixB ops cs2.head? (qs.map (fun k => (true, k)) ++ (cs1.map (fun k => (false, k)) ++ (cs2.map (fun k => (false, k)) ++ []))) (Array.replicate ops.size false) = true)
 (hT1 : ∀ i, i ∈ T1 → i ∈ T ∨ s.b ≤ i)
 (hl : s.t.length ≤ 1000000) (h : xopsW P C T1 ops qs s fun s1 => s1.t.length ≤ 1000000 → xops P C T1 ops (opsAt ops cs1) ⟨s1.t, s1.h, s1.n, s1.n⟩ fun s2 => s2.t.length ≤ 1000000 → xops P C T ops (opsAt ops cs2) ⟨s2.t, s2.h, s.b, s2.n⟩ fun s3 => s3.t.length ≤ 1000000 → Q .normal s3) : AW P C T (.region id ops true) Q s := by
 intro c0 h0 w0 c a w hC I
 have I1 := I.drew
 refine wp_region_mix (C := SameBut T1 c s.h { w with drawn := w.drawn + 1 }) (D := cs2.head?) hm hsel (by simp; omega) hB ?_
 refine mix_qW qs s a _ I1 hl hp1 h fun s1 a1 J1 e1 e2 e3 e4 hK => ?_
 have base : SI T1 c s1.h { w with drawn := w.drawn + 1 } c ⟨s1.t, s1.h, s1.n, s1.n⟩ a1 { w with drawn := w.drawn + 1 } :=
  ⟨⟨J1.srep.size, J1.srep.tmp, J1.srep.defers, J1.srep.wd⟩, Ext.refl _ _ _, Fr.refl _ _ _ _, fun i hi => J1.srep.wd.new i hi, Nat.le_refl _⟩
 have same : ∀ {c2 : Cx} {s2 : St} {a2 : Act} {w2 : World}, SI T1 c s1.h { w with drawn := w.drawn + 1 } c2 s2 a2 w2 → SameBut T1 c s.h { w with drawn := w.drawn + 1 } w2 := fun J b hb hne => J.fr.far b hb (fun i hi => by rw [e2]; exact hne i hi)
 refine mix_c hC (Wi := fun _ => True) (fun listed c s a w J _ => word_of (same J)) (fun _ _ _ => trivial) cs1 _ _ _ _ _ base trivial hp2 (hK (by rw [e4]; exact hl)) fun c2 s2 a2 w2 J2 f1 f2 hK2 => ?_
 have J3 : SI T c0 h0 w0 c2 ⟨s2.t, s2.h, s.b, s2.n⟩ a2 w2 := by
  refine ⟨⟨J2.srep.size, J2.srep.tmp, J2.srep.defers, J2.srep.wd⟩, J1.ext.trans J2.ext, ?_, I.new0, ?_⟩
  · refine ⟨fun b hb hne => (J2.fr.far b (Nat.lt_of_lt_of_le hb J1.ext.size) (fun i hi e => ?_)).trans (J1.fr.far b hb hne), fun i b e hb => J1.fr.old i b (J2.fr.old i b e (Nat.lt_of_lt_of_le hb J1.ext.size)) hb⟩
    have := J1.fr.old i b e hb
    rcases hT1 i hi with hi | hi
    · exact hne i hi this
    · rw [I.new0 i hi] at this; cases this
  · have g1 := J2.le
    have g2 := I.le
    simp only at g1 f1 ⊢
    omega
 have hl3 : s2.t.length = s.t.length := f2.trans e4
 have hK2 := hK2 (by rw [hl3]; exact hl)
 cases cs2 with
 | nil =>
   simp only [List.map_nil, List.nil_append, wpMix]
   refine ⟨word_of (same J2), ?_⟩
   exact ⟨c2, _, J3, rfl, hl3, hK2 (by rw [hl3]; exact hl)⟩
 | cons d ds =>
   obtain ⟨o, ho, hg, _, hat, hp'⟩ := plainB_cons hp3
   rw [hat] at hK2
   simp only [xops, hg] at hK2
   have hd := (Array.getElem?_eq_some_iff.1 ho).1
   simp only [List.map_cons, List.cons_append]
   refine mix_step hC J3 ho hg hK2 (word_of (same J2)) fun c4 v r h' n' w' hr J4 => ?_
   refine mix_c hC (Wi := fun listed => listed.getD d false = true) (fun listed c s a w J hWi => ?_) (fun listed k hWi => getD_set_true hWi) ds _ _ _ _ _ J4 ?_ hp' hr fun c5 s5 a5 w5 J5 g1 g2 hK5 => ?_
   · intro hf
     rw [hWi] at hf
     cases hf
   · have : d < (setAll (setAll (Array.replicate ops.size false) qs) cs1).size := by rw [setAll_size, setAll_size]; simpa using hd
     simp [this]
   · simp only [wpMix]
     refine ⟨?_, c5, s5, J5, g1, g2.trans ((putT_length _ _ _).trans hl3), hK5 (by rw [g2.trans ((putT_length _ _ _).trans hl3)]; exact hl)⟩
     intro hf
     have hin : d < (setAll (setAll (Array.replicate ops.size false) qs) cs1).size := by rw [setAll_size, setAll_size]; simpa using hd
     rw [setAll_keep ds (by simp [hin])] at hf
     cases hf
end
section
variable {P : Program} {E : EqT P} {F : Ft} {T : List Nat} {Q : Exit → St → Prop} {s s1 s2 : St} {ops : Array Oper} {T1 cs1 cs2 qs : List Nat} {k b : Nat}
def MW1 (E : EqT P) (F : Ft) (T T1 : List Nat) (ops : Array Oper) (cs1 cs2 : List Nat) (b : Nat) (Q : Exit → St → Prop) (s1 : St) : Prop :=
 xops P F.tb T1 ops (opsAt ops cs1) ⟨s1.t, s1.h, s1.n, s1.n⟩ fun s2 => s2.t.length ≤ 1000000 → MX2 E F T ops cs2 b Q s2
theorem MW1.of (f : Nat) (hl : s1.t.length ≤ 1000000) (h : X E F T1 (fun _ s2 => MX2 E F T ops cs2 b Q s2) f (.ops ops (opsAt ops cs1)) [] ⟨s1.t, s1.h, s1.n, s1.n⟩) : MW1 E F T T1 ops cs1 cs2 b Q s1 := by
 rw [X_eq] at h
 exact (Xi_sound f).2.2.1 ops _ [] ⟨s1.t, s1.h, s1.n, s1.n⟩ hl h
def ldK (T1 : List Nat) (ops : Array Oper) (k : Nat) (t : List AV) : Prop := match ops[k]? with
 | some o => ldW T1 o.op t
 | none => False
def MW0 (E : EqT P) (F : Ft) (T T1 : List Nat) (ops : Array Oper) (qs cs1 cs2 : List Nat) (b : Nat) (Q : Exit → St → Prop) (s : St) : Prop :=
 xopsW P F.tb T1 ops qs s fun s1 => s1.t.length ≤ 1000000 → MW1 E F T T1 ops cs1 cs2 b Q s1
theorem MW0.nil (h : MW1 E F T T1 ops cs1 cs2 b Q s) : MW0 E F T T1 ops [] cs1 cs2 b Q s := fun _ => h
theorem MW0.of (f : Nat) (hl : s.t.length ≤ 1000000) (hL : ldK T1 ops k s.t) (h : X E F T (fun _ s' => MW0 E F T T1 ops qs cs1 cs2 b Q s') f (.opsQ ops (opsAt ops [k])) [] s) : MW0 E F T T1 ops (k :: qs) cs1 cs2 b Q s := by
 refine ⟨hL, ?_⟩
 rw [X_eq] at h
 exact (Xi_sound f).2.2.2.1 ops _ [] s hl h
theorem AW.mixWX {id : Nat} (T1 qs cs1 cs2 : List Nat) (hm : P.follows .mixedOrders = true) (hB : (Region.noSelect ops && (qs.length + (cs1.length + cs2.length) == ops.size) && plainB ops false qs && plainB ops true cs1 && plainB ops true cs2 && mixB ops cs2.head? (qs.map (fun k => (true, k)) ++ (cs1.map (fun k => (false, k)) ++ (cs2.map (fun k => (false, k)) ++ []))) (Array.replicate ops.size false)) = true)
 (hl : s.t.length ≤ 1000000) (hT1 : ∀ i, i ∈ T1 → i ∈ T ∨ s.b ≤ i) (h : MW0 E F T T1 ops qs cs1 cs2 s.b Q s) : AW P F.tb T (.region id ops true) Q s := by
 simp only [Bool.and_eq_true, beq_iff_eq] at hB
 obtain ⟨⟨⟨⟨⟨h1, h2⟩, h3⟩, h4⟩, h5⟩, h6⟩ := hB
 exact AW.mixW qs cs1 cs2 hm h1 h2 h3 h4 h5 h6 hT1 hl h
end
end Go.R
end
section
namespace Go.R
structure Ob (σ : Type) where
 bx : σ → List AV
 dec : List AV → Option σ
 ok : ∀ cs R, dec cs = some R → cs = bx R
 lt : ∀ n R, ltL n (bx R)
section
variable {σ : Type}
def obAt (o : Ob σ) (f : σ → List AV → Option (AV × σ)) (i : Nat) (args : List AV) (h : AH) (n : Nat) : AO → Option (AV × AH × Nat)
 | .box cs => match o.dec cs with
   | some R => match f R args with
     | some q => some (q.1, upd h i (.box (o.bx q.2)), n)
     | none => none
   | none => none
 | _ => none
def obRun (o : Ob σ) (f : σ → List AV → Option (AV × σ)) : List AV → AH → Nat → Option (AV × AH × Nat)
 | .p i 0 :: args, h, n => obAt o f i args h n (h i)
 | _, _, _ => none
def obPreAt (o : Ob σ) (p : σ → List AV → Prop) (args : List AV) : AO → Prop
 | .box cs => match o.dec cs with
   | some R => p R args
   | none => True
 | _ => True
def obPre (o : Ob σ) (p : σ → List AV → Prop) : List AV → AH → Nat → Prop
 | .p i 0 :: args, h, n => obPreAt o p args (h i)
 | _, _, _ => True
def obTch : List AV → List Nat
 | .p i _ :: _ => [i]
 | _ => []
def obS (o : Ob σ) (p : σ → List AV → Prop) (f : σ → List AV → Option (AV × σ)) : Fs := ⟨obRun o f, obPre o p, obTch⟩
def obqAt (o : Ob σ) (f : σ → List AV → Option AV) (args : List AV) (h : AH) (n : Nat) : AO → Option (AV × AH × Nat)
 | .box cs => match o.dec cs with
   | some R => match f R args with
     | some r => some (r, h, n)
     | none => none
   | none => none
 | _ => none
def obqRun (o : Ob σ) (f : σ → List AV → Option AV) : List AV → AH → Nat → Option (AV × AH × Nat)
 | .p i 0 :: args, h, n => obqAt o f args h n (h i)
 | _, _, _ => none
def obQ (o : Ob σ) (p : σ → List AV → Prop) (f : σ → List AV → Option AV) : Fs := ⟨obqRun o f, obPre o p, fun _ => []⟩
variable {o : Ob σ} {p : σ → List AV → Prop} {f : σ → List AV → Option (AV × σ)} {g : σ → List AV → Option AV} {i n : Nat} {h : AH} {args : List AV} {cs : List AV}
@[go_sem] theorem obS_run : (obS o p f).run (.p i 0 :: args) h n = obAt o f i args h n (h i) := rfl
@[go_sem] theorem obS_pre : (obS o p f).pre (.p i 0 :: args) h n = obPreAt o p args (h i) := rfl
@[go_sem] theorem obS_tch : (obS o p f).tch (.p i 0 :: args) = [i] := rfl
@[go_sem] theorem obQ_run : (obQ o p g).run (.p i 0 :: args) h n = obqAt o g args h n (h i) := rfl
@[go_sem] theorem obQ_pre : (obQ o p g).pre (.p i 0 :: args) h n = obPreAt o p args (h i) := rfl
@[go_sem] theorem obQ_tch : (obQ o p g).tch args = [] := rfl
def obD (R : Option σ) (p : σ → Prop) : Prop := match R with
 | some R => p R
 | none => True
def obE (o : Ob σ) (f : σ → List AV → Option (AV × σ)) (args : List AV) (R : Option σ) (i : Nat) (h : AH) (n : Nat) : Option (AV × AH × Nat) := match R with
 | some R => match f R args with
   | some q => some (q.1, upd h i (.box (o.bx q.2)), n)
   | none => none
 | none => none
def obF (g : σ → List AV → Option AV) (args : List AV) (R : Option σ) (h : AH) (n : Nat) : Option (AV × AH × Nat) := match R with
 | some R => match g R args with
   | some r => some (r, h, n)
   | none => none
 | none => none
@[go_sem] theorem obAt_box : obAt o f i args h n (.box cs) = obE o f args (o.dec cs) i h n := rfl
@[go_sem] theorem obqAt_box : obqAt o g args h n (.box cs) = obF g args (o.dec cs) h n := rfl
@[go_sem] theorem obPreAt_box : obPreAt o p args (.box cs) = obD (o.dec cs) fun R => p R args := by
  unfold obPreAt obD
  simp only
@[go_sem] theorem obD_some (R : σ) (p : σ → Prop) : obD (some R) p = p R := rfl
@[go_sem] theorem obE_some (R : σ) : obE o f args (some R) i h n = match f R args with
   | some q => some (q.1, upd h i (.box (o.bx q.2)), n)
   | none => none := rfl
@[go_sem] theorem obF_some (R : σ) : obF g args (some R) h n = match g R args with
   | some r => some (r, h, n)
   | none => none := rfl
end
def FinO {σ : Type} (o : Ob σ) (P : Program) (rs : List ResultVar) (n : Nat) (h : AH) (i : Nat) (R' : σ) (r : AV) (e : Exit) (s : St) : Prop := (match e with
    | .normal => True
    | .ret => True
    | _ => False) ∧ resN P s.t s.h rs ∧ (match resO P s.t s.h rs with
    | some l => wk3 (packR l) r
    | none => False) ∧ agree n (upd h i (.box (o.bx R'))) s.h ∧ AV.lt n r
theorem FinO.fin {σ : Type} {o : Ob σ} {P : Program} {rs : List ResultVar} {n : Nat} {h : AH} {i : Nat} {R' : σ} {r : AV} {e : Exit} {s : St} (hi : i < n) (hok : HOk n h) (q : FinO o P rs n h i R' r e s) :
 FinE P rs n h (upd h i (.box (o.bx R'))) n r e s := by
 obtain ⟨q1, q2, q3, q4, q5⟩ := q
 refine ⟨q1, q2, q3, q4, q5, Nat.le_refl _, fun j hj => ?_, fun j cs hj hc => ?_⟩
 · rw [upd_ne _ _ (by omega)]
   exact hok.no j hj
 · by_cases e : j = i
   · subst e
     rw [upd_same] at hc
     cases hc
     exact .inr (o.lt n R')
   · rw [upd_ne _ _ e] at hc
     exact .inl hc
section
variable {P : Program} {E : EqT P} {F : Ft} {σ : Type} {o : Ob σ} {p : σ → List AV → Prop} {f : σ → List AV → Option (AV × σ)} {g : σ → List AV → Option AV}
theorem of_obS {fi : FuncId} {fn : Func} {code : Code} (hf : P.funcs[fi]? = some fn) (hbody : fn.body = some code) (hn : (fn.name == "runtime.NumGoroutine") = false) (rs : List ResultVar) {nt : Nat} (hrs : fn.results = rs.toArray) (hnt : fn.ntmps = nt) (hF : FtOk P F)
 (H : ∀ R args r R' i h n, p R args → f R args = some (r, R') → i < n → HOk n (upd h i (.box (o.bx R))) → ∃ args', leL args args' ∧ (nt ≤ 900000 ∧ args'.length ≤ 40000) ∧
   X E F [i] (FinO o P rs n h i R' r) 4000 (.code code) [] ⟨.p i 0 :: (args' ++ List.replicate (nt - (args'.length + 1)) .any), upd h i (.box (o.bx R)), n, n⟩) : FsOk P fi (obS o p f) := by
 subst hnt
 refine SpOk.of_code hf hbody hn hF fun args h n K hS hno hbx => ?_
 have hok : HOk n h := ⟨hno, hbx⟩
 rw [hrs]
 obtain ⟨hpre, hrun⟩ := hS
 obtain ⟨⟨r, h', n'⟩, hr, hK⟩ := onO_iff hrun
 simp only [obS] at hr hpre ⊢
 unfold obRun at hr
 split at hr
 · rename_i i args
   simp only [obPre] at hpre
   unfold obAt at hr
   split at hr
   · rename_i cs hc
     rw [hc] at hpre
     simp only [obPreAt] at hpre
     cases hd : o.dec cs with
     | none => simp [hd] at hr
     | some R =>
       simp only [hd] at hr hpre
       cases hfa : f R args with
       | none => simp [hfa] at hr
       | some q =>
         simp only [hfa, Option.some.injEq, Prod.mk.injEq] at hr
         obtain ⟨rfl, rfl, rfl⟩ := hr
         obtain rfl := o.ok cs R hd
         have hin : i < n := Nat.lt_of_not_le fun hle => by rw [hno i hle] at hc; cases hc
         have hh : upd h i (.box (o.bx R)) = h := by
          funext j
          by_cases e : j = i
          · subst e; rw [upd_same, hc]
          · rw [upd_ne _ _ e]
         obtain ⟨args', hle, ⟨hl1, hl2⟩, hX⟩ := H R args q.1 q.2 i h n hpre hfa hin (by rw [hh]; exact hok)
         rw [hh] at hX
         refine ⟨.p i 0 :: args', fun c w vs hl hr => leL_rep (a := .p i 0 :: args) (b := .p i 0 :: args') ⟨AV.le.refl _, hle⟩ hl hr, ?_⟩
         refine (AW.of_X 4000 (by simp; omega) hX).mono fun e s' _ _ q => ?_
         obtain ⟨q1, q2, q3, q4, q5, q6, q7, q8⟩ := q.fin hin hok
         cases hres : resO P s'.t s'.h rs with
         | none => rw [hres] at q3; exact q3.elim
         | some l =>
           rw [hres] at q3
           exact ⟨q1, res_ares q2 hres ⟨n, _, _, q6, q4, q7, q8, q3, q5, hK⟩⟩
   · cases hr
 · cases hr
theorem of_obQ {fi : FuncId} {fn : Func} {code : Code} (hf : P.funcs[fi]? = some fn) (hbody : fn.body = some code) (hn : (fn.name == "runtime.NumGoroutine") = false) (rs : List ResultVar) {nt : Nat} (hrs : fn.results = rs.toArray) (hnt : fn.ntmps = nt) (hF : FtOk P F)
 (H : ∀ R args r i h n, p R args → g R args = some r → i < n → HOk n (upd h i (.box (o.bx R))) → ∃ args', leL args args' ∧ (nt ≤ 900000 ∧ args'.length ≤ 40000) ∧
   X E F [] (FinP P rs n (upd h i (.box (o.bx R))) r) 4000 (.code code) [] ⟨.p i 0 :: (args' ++ List.replicate (nt - (args'.length + 1)) .any), upd h i (.box (o.bx R)), n, n⟩) : FsOk P fi (obQ o p g) := by
 subst hnt
 refine SpOk.of_code hf hbody hn hF fun args h n K hS hno hbx => ?_
 have hok : HOk n h := ⟨hno, hbx⟩
 rw [hrs]
 obtain ⟨hpre, hrun⟩ := hS
 obtain ⟨⟨r, h', n'⟩, hr, hK⟩ := onO_iff hrun
 simp only [obQ] at hr hpre ⊢
 unfold obqRun at hr
 split at hr
 · rename_i i args
   simp only [obPre] at hpre
   unfold obqAt at hr
   split at hr
   · rename_i cs hc
     rw [hc] at hpre
     simp only [obPreAt] at hpre
     cases hd : o.dec cs with
     | none => simp [hd] at hr
     | some R =>
       simp only [hd] at hr hpre
       cases hga : g R args with
       | none => simp [hga] at hr
       | some q =>
         simp only [hga, Option.some.injEq, Prod.mk.injEq] at hr
         obtain ⟨rfl, rfl, rfl⟩ := hr
         obtain rfl := o.ok cs R hd
         have hin : i < n := Nat.lt_of_not_le fun hle => by rw [hno i hle] at hc; cases hc
         have hh : upd h i (.box (o.bx R)) = h := by
          funext j
          by_cases e : j = i
          · subst e; rw [upd_same, hc]
          · rw [upd_ne _ _ e]
         obtain ⟨args', hle, ⟨hl1, hl2⟩, hX⟩ := H R args q i h n hpre hga hin (by rw [hh]; exact hok)
         rw [hh] at hX
         refine ⟨.p i 0 :: args', fun c w vs hl hr => leL_rep (a := .p i 0 :: args) (b := .p i 0 :: args') ⟨AV.le.refl _, hle⟩ hl hr, ?_⟩
         refine (AW.of_X 4000 (by simp; omega) hX).mono fun e s' _ _ q => ?_
         obtain ⟨q1, q2, q3, q4, q5⟩ := q
         cases hres : resO P s'.t s'.h rs with
         | none => rw [hres] at q3; exact q3.elim
         | some l =>
           rw [hres] at q3
           exact ⟨q1, res_ares q2 hres (AFin.pure hno q4 q3 q5 hK)⟩
   · cases hr
 · cases hr
end
attribute [go_sem] FinO Int.toNat_zero Int.toNat_one
end Go.R
end
section
namespace Go.Proofs.YtfhpecgknmfnnaaGreatDoor.M
open Go.R
def Tok.cells (t : Tok) : List DV := [.v (.int .u8 t.kind), .v (.int .i64 t.lo), .v (.int .i64 t.hi)]
@[go_sem] theorem Tok.ds (t : Tok) : t.cells.map AV.d = [.d (.v (.int .u8 t.kind)), .d (.v (.int .i64 t.lo)), .d (.v (.int .i64 t.hi))] := rfl
@[go_sem] theorem Tok.len (t : Tok) : t.cells.length = 3 := rfl
def cTok : List DV → Option Tok
 | [.v (.int .u8 k), .v (.int .i64 a), .v (.int .i64 b)] => some ⟨k, a, b⟩
 | _ => none
theorem cTok_cells (t : Tok) : cTok t.cells = some t := rfl
theorem cTok_eq {c : List DV} {t : Tok} (h : cTok c = some t) : c = t.cells := by
 unfold cTok at h
 split at h
 · cases h; rfl
 · cases h
@[go_sem] theorem dToks (l : List Tok) : dRows cTok (l.map Tok.cells) = some l := dRows_map cTok_cells l
structure Rd where
 s : ByteArray
 T : List Tok
 k : Nat
 e : Int
 fr : Int
def Rd.bx (R : Rd) : List AV := [vS R.s, .d (.sl 3 (R.T.map Tok.cells)), vI R.k, vI R.e, vI R.fr]
def dRd : List AV → Option Rd
 | [.d (.v (.string s)), .d (.sl 3 xs), .d (.v (.int .i64 k)), .d (.v (.int .i64 e)), .d (.v (.int .i64 f))] => match dRows cTok xs with
   | some T => if 0 ≤ k then some ⟨s, T, k.toNat, e, f⟩ else none
   | none => none
 | _ => none
theorem dRd_eq {cs : List AV} {R : Rd} (h : dRd cs = some R) : cs = R.bx := by
 unfold dRd at h
 split at h
 · rename_i xs k e f
   cases hx : dRows cTok xs with
   | none => simp [hx] at h
   | some T =>
     simp only [hx] at h
     split at h
     · rename_i hk
       cases h
       obtain rfl := dRows_eq (fun c x => cTok_eq) hx
       have : ((k.toNat : Nat) : Int) = k := by omega
       simp only [Rd.bx, this]
     · cases h
 · cases h
def obRd : Ob Rd := ⟨Rd.bx, dRd, fun _ _ => dRd_eq, fun n R => by simp [Rd.bx, ltL, AV.lt]⟩
@[go_sem] theorem obRd_bx (R : Rd) : obRd.bx R = [vS R.s, .d (.sl 3 (R.T.map Tok.cells)), vI R.k, vI R.e, vI R.fr] := rfl
@[go_sem] theorem obRd_dec (s : ByteArray) (T : List Tok) (k : Nat) (e f : Int) : obRd.dec [.d (.v (.string s)), .d (.sl 3 (T.map Tok.cells)), .d (.v (.int .i64 k)), .d (.v (.int .i64 e)), .d (.v (.int .i64 f))] = some ⟨s, T, k, e, f⟩ := by
  simp only [obRd]
  simp [dRd, dToks]
@[go_sem] theorem obRd_dec1 (s : ByteArray) (T : List Tok) (k : Nat) (e f : Int) : obRd.dec [.d (.v (.string s)), .d (.sl 3 (T.map Tok.cells)), .d (.v (.int .i64 ((k : Int) + 1))), .d (.v (.int .i64 e)), .d (.v (.int .i64 f))] = some ⟨s, T, k + 1, e, f⟩ := obRd_dec s T (k + 1) e f
@[go_sem] theorem obRd_dec2 (s : ByteArray) (T : List Tok) (k : Nat) (e f : Int) : obRd.dec [.d (.v (.string s)), .d (.sl 3 (T.map Tok.cells)), .d (.v (.int .i64 ((k : Int) + 1 + 1))), .d (.v (.int .i64 e)), .d (.v (.int .i64 f))] = some ⟨s, T, k + 1 + 1, e, f⟩ := obRd_dec s T (k + 1 + 1) e f
@[go_sem] theorem Rd.eta (R : Rd) : Rd.mk R.s R.T R.k R.e R.fr = R := rfl
def RdOk (R : Rd) : Prop := TokOk R.s R.T ∧ R.k ≤ R.T.length
def Rd.txt (R : Rd) (m : Nat) : ByteArray := textT R.T R.s (R.k + m)
def Rd.kd (R : Rd) : Int := kindT R.T R.k
def Rd.fail (R : Rd) (e : Int) : Rd := if R.e == 0 then { R with e := e, fr := posOf R.T R.s R.k } else R
def Rd.adv (R : Rd) : Rd := { R with k := R.k + 1 }
def Rd.need (R : Rd) (x : ByteArray) : Rd := if R.e == 0 && (R.txt 0).toList == x.toList then R.adv else R.fail 6
def textP (R : Rd) : List AV → Prop
 | [.d (.v (.int .i64 m))] => RdOk R ∧ 0 ≤ m ∧ m ≤ 10
 | _ => RdOk R
def textG (R : Rd) : List AV → Option AV
 | [.d (.v (.int .i64 m))] => some (vS (R.txt m.toNat))
 | _ => none
abbrev textS : Fs := obQ obRd textP textG
def kindG (R : Rd) : List AV → Option AV
 | [] => some (.d (.v (.int .u8 R.kd)))
 | _ => none
abbrev kindS : Fs := obQ obRd (fun R _ => RdOk R) kindG
def failF (R : Rd) : List AV → Option (AV × Rd)
 | [.d (.v (.int .i64 e))] => some (.tup [], R.fail e)
 | _ => none
abbrev failS : Fs := obS obRd (fun R _ => RdOk R) failF
def needF (R : Rd) : List AV → Option (AV × Rd)
 | [.d (.v (.string x))] => some (.tup [], R.need x)
 | _ => none
abbrev needS : Fs := obS obRd (fun R _ => RdOk R) needF
def endedF (R : Rd) : List AV → Option (AV × Rd)
 | [] => some (.tup [], if R.e == 0 && decide (R.k < R.T.length) then R.fail 6 else R)
 | _ => none
abbrev endedS : Fs := obS obRd (fun R _ => RdOk R) endedF
attribute [go_sem] textP textG kindG failF needF endedF
theorem toNat_add (a b : Nat) : ((a : Int) + (b : Int)).toNat = a + b := by omega
@[go_sem] theorem txt_mk (s : ByteArray) (T : List Tok) (k : Nat) (e f : Int) (m : Nat) : (Rd.mk s T k e f).txt m = textT T s (k + m) := rfl
set_option maxHeartbeats 1000000 in
theorem text_ok : FsOk Tryz.prog 53 textS := by
 refine of_obQ (E := EqT.no _) (F := Ft.no) Tryz.func53 rfl (by kernel_rfl) [.tmp 4] rfl Tryz.ntmps53 (FtOk.no _) ?_
 intro R args r i h n hp hg hi hok
 unfold textG at hg
 split at hg
 · rename_i m
   cases hg
   obtain ⟨hR, hm0, hm1⟩ := hp
   obtain ⟨m, rfl⟩ := Int.eq_ofNat_of_zero_le hm0
   obtain ⟨⟨hT1, hT2⟩, hk⟩ := hR
   refine ⟨[vI m], ⟨AV.le.refl _, trivial⟩, ⟨by decide, by simp⟩, ?_⟩
   rcases Nat.lt_or_ge (R.k + m) R.T.length with hlt | hge
   · have hd : decide ((R.T.length : Int) ≤ (R.k : Int) + (m : Int)) = false := decide_eq_false (by omega)
     obtain ⟨t1, t2, t3⟩ := hT2 _ (List.getElem_mem hlt)
     repeat' (first | (with_reducible first | refine XG_split (fun hq => ?_) (fun hq => ?_) | refine MX1.of 4000 (by simp) ?_ | refine MX2.of 4000 (by simp) ?_ | refine And.intro ?_ ?_) | ((with_reducible first | refine Or.inl (And.intro (And.intro mixedP ?_) ?_) | refine Or.inl (And.intro mixedP ?_)); kernel_rfl) | simp only [go_sem,Nat.reduceEqDiff,Nat.reduceAdd,Nat.reduceMul,Nat.reduceLeDiff,hd,toNat_add,List.getElem?_eq_getElem hlt])
     all_goals try omega
     exact wk_v (congrArg Value.string (by simp [Rd.txt, textT, List.getElem?_eq_getElem hlt, tokS]))
   · have hd : decide ((R.T.length : Int) ≤ (R.k : Int) + (m : Int)) = true := decide_eq_true (by omega)
     repeat' (first | (with_reducible first | refine XG_split (fun hq => ?_) (fun hq => ?_) | refine MX1.of 4000 (by simp) ?_ | refine MX2.of 4000 (by simp) ?_ | refine And.intro ?_ ?_) | ((with_reducible first | refine Or.inl (And.intro (And.intro mixedP ?_) ?_) | refine Or.inl (And.intro mixedP ?_)); kernel_rfl) | simp only [go_sem,Nat.reduceEqDiff,Nat.reduceAdd,Nat.reduceMul,Nat.reduceLeDiff,hd,toNat_add])
     all_goals try omega
     exact wk_v (congrArg Value.string (by simp [Rd.txt, textT, List.getElem?_eq_none hge]))
 · cases hg
set_option maxHeartbeats 1000000 in
theorem kind_ok : FsOk Tryz.prog 84 kindS := by
 refine of_obQ (E := EqT.no _) (F := Ft.no) Tryz.func84 rfl (by kernel_rfl) [.tmp 2] rfl Tryz.ntmps84 (FtOk.no _) ?_
 intro R args r i h n hp hg hi hok
 unfold kindG at hg
 split at hg
 · cases hg
   obtain ⟨⟨hT1, hT2⟩, hk⟩ := hp
   refine ⟨[], trivial, ⟨by decide, by simp⟩, ?_⟩
   rcases Nat.lt_or_ge R.k R.T.length with hlt | hge
   · repeat' (first | (with_reducible first | refine XG_split (fun hq => ?_) (fun hq => ?_) | refine MX1.of 4000 (by simp) ?_ | refine MX2.of 4000 (by simp) ?_ | refine And.intro ?_ ?_) | ((with_reducible first | refine Or.inl (And.intro (And.intro mixedP ?_) ?_) | refine Or.inl (And.intro mixedP ?_)); kernel_rfl) | simp only [go_sem,Nat.reduceEqDiff,Nat.reduceAdd,Nat.reduceMul,Nat.reduceLeDiff,decide_eq_false (Nat.not_le.2 hlt),List.getElem?_eq_getElem hlt])
     all_goals try omega
     exact wk_v (congrArg (Value.int .u8) (by simp [Rd.kd, kindT, List.getElem?_eq_getElem hlt]))
   · repeat' (first | (with_reducible first | refine XG_split (fun hq => ?_) (fun hq => ?_) | refine MX1.of 4000 (by simp) ?_ | refine MX2.of 4000 (by simp) ?_ | refine And.intro ?_ ?_) | ((with_reducible first | refine Or.inl (And.intro (And.intro mixedP ?_) ?_) | refine Or.inl (And.intro mixedP ?_)); kernel_rfl) | simp only [go_sem,Nat.reduceEqDiff,Nat.reduceAdd,Nat.reduceMul,Nat.reduceLeDiff,decide_eq_true hge])
     all_goals try omega
     exact wk_v (congrArg (Value.int .u8) (by simp [Rd.kd, kindT, List.getElem?_eq_none hge]))
 · cases hg
set_option maxHeartbeats 1000000 in
theorem fail_ok : FsOk Tryz.prog 55 failS := by
 refine of_obS (E := EqT.no _) (F := Ft.no) Tryz.func55 rfl (by kernel_rfl) [] rfl Tryz.ntmps55 (FtOk.no _) ?_
 intro R args r R' i h n hp hg hi hok
 unfold failF at hg
 split at hg
 · rename_i e
   cases hg
   obtain ⟨⟨hT1, hT2⟩, hk⟩ := hp
   refine ⟨[vI e], ⟨AV.le.refl _, trivial⟩, ⟨by decide, by simp⟩, ?_⟩
   by_cases he : R.e = 0
   · have he1 : (R.e != 0) = false := by simp [he]
     have hF : R.fail e = ⟨R.s, R.T, R.k, e, posOf R.T R.s R.k⟩ := by simp [Rd.fail, he]
     rcases Nat.lt_or_ge R.k R.T.length with hlt | hge
     · have hpos : posOf R.T R.s R.k = (R.T[R.k]'hlt).lo := by simp [posOf, List.getElem?_eq_getElem hlt]
       repeat' (first | (with_reducible refine Or.inr (AW.mixX (E := EqT.no _) [0,1,2,3,4,5,6,7,8,9,10,11] [12,13] [14] 4000 mixedP ?_ ?_ ?_); decide +kernel; (simp only [List.length_cons,List.length_nil]; decide)) | (with_reducible refine (AW.mixX (E := EqT.no _) [0,1,2,3,4,5,6,7,8,9,10,11] [12,13] [14] 4000 mixedP ?_ ?_ ?_); decide +kernel; (simp only [List.length_cons,List.length_nil]; decide)) | (with_reducible first | refine XG_split (fun hq => ?_) (fun hq => ?_) | refine MX1.of 4000 (by simp) ?_ | refine MX2.of 4000 (by simp) ?_ | refine And.intro ?_ ?_) | ((with_reducible first | refine Or.inl (And.intro (And.intro mixedP ?_) ?_) | refine Or.inl (And.intro mixedP ?_)); kernel_rfl) | simp only [go_sem,Nat.reduceEqDiff,Nat.reduceAdd,Nat.reduceMul,Nat.reduceLeDiff,he1,hF,hpos,decide_eq_true hlt,List.getElem?_eq_getElem hlt])
       all_goals first | omega | (exact .inl (by simp)) | (intro j hj; simp only [upd]; split <;> rfl)
     · have hpos : posOf R.T R.s R.k = R.s.size := by simp [posOf, List.getElem?_eq_none hge]
       repeat' (first | (with_reducible first | refine XG_split (fun hq => ?_) (fun hq => ?_) | refine MX1.of 4000 (by simp) ?_ | refine MX2.of 4000 (by simp) ?_ | refine And.intro ?_ ?_) | ((with_reducible first | refine Or.inl (And.intro (And.intro mixedP ?_) ?_) | refine Or.inl (And.intro mixedP ?_)); kernel_rfl) | simp only [go_sem,Nat.reduceEqDiff,Nat.reduceAdd,Nat.reduceMul,Nat.reduceLeDiff,he1,hF,hpos,decide_eq_false (Nat.not_lt.2 hge)])
       all_goals first | omega | (exact .inl (by simp)) | (intro j hj; simp only [upd]; split <;> rfl)
   · have he1 : (R.e != 0) = true := by simp [he]
     have hF : R.fail e = R := by simp [Rd.fail, he]
     repeat' (first | (with_reducible first | refine XG_split (fun hq => ?_) (fun hq => ?_) | refine MX1.of 4000 (by simp) ?_ | refine MX2.of 4000 (by simp) ?_ | refine And.intro ?_ ?_) | ((with_reducible first | refine Or.inl (And.intro (And.intro mixedP ?_) ?_) | refine Or.inl (And.intro mixedP ?_)); kernel_rfl) | simp only [go_sem,Nat.reduceEqDiff,Nat.reduceAdd,Nat.reduceMul,Nat.reduceLeDiff,he1,hF])
 · cases hg
set_option maxHeartbeats 1000000 in
theorem need_ok : FsOk Tryz.prog 56 needS := by
 refine of_obS (E := EqT.no _) (F := (Ft.no.put 53 textS).put 55 failS) Tryz.func56 rfl (by kernel_rfl) [] rfl Tryz.ntmps56 (((FtOk.no _).put text_ok).put fail_ok) ?_
 intro R args r R' i h n hp hg hi hok
 unfold needF at hg
 split at hg
 · rename_i x
   cases hg
   have hp' := hp
   obtain ⟨⟨hT1, hT2⟩, hk⟩ := hp
   refine ⟨[vS x], ⟨AV.le.refl _, trivial⟩, ⟨by decide, by simp⟩, ?_⟩
   by_cases he : R.e = 0
   · have he1 : (R.e == 0) = true := by simp [he]
     cases hx : (R.txt 0).toList == x.toList
     · have hF : R.need x = R.fail 6 := by simp [Rd.need, he1, hx]
       repeat' (first | (with_reducible first | refine XG_split (fun hq => ?_) (fun hq => ?_) | refine MX1.of 4000 (by simp) ?_ | refine MX2.of 4000 (by simp) ?_ | refine And.intro ?_ ?_) | ((with_reducible first | refine Or.inl (And.intro (And.intro mixedP ?_) ?_) | refine Or.inl (And.intro mixedP ?_)); kernel_rfl) | simp only [go_sem,Nat.reduceEqDiff,Nat.reduceAdd,Nat.reduceMul,Nat.reduceLeDiff,he1,hx,hF])
       all_goals first | omega | exact hp' | (exact .inl (by simp)) | (intro j hj; simp only [upd]; split <;> rfl)
     · have hF : R.need x = R.adv := by simp [Rd.need, he1, hx]
       repeat' (first | (with_reducible first | refine XG_split (fun hq => ?_) (fun hq => ?_) | refine MX1.of 4000 (by simp) ?_ | refine MX2.of 4000 (by simp) ?_ | refine And.intro ?_ ?_) | ((with_reducible first | refine Or.inl (And.intro (And.intro mixedP ?_) ?_) | refine Or.inl (And.intro mixedP ?_)); kernel_rfl) | simp only [go_sem,Nat.reduceEqDiff,Nat.reduceAdd,Nat.reduceMul,Nat.reduceLeDiff,he1,hx,hF,Rd.adv])
       all_goals first | omega | exact hp' | (exact .inl (by simp)) | (intro j hj; simp only [upd]; split <;> rfl)
   · have he1 : (R.e == 0) = false := by simp [he]
     have hF : R.need x = R.fail 6 := by simp [Rd.need, he1]
     repeat' (first | (with_reducible first | refine XG_split (fun hq => ?_) (fun hq => ?_) | refine MX1.of 4000 (by simp) ?_ | refine MX2.of 4000 (by simp) ?_ | refine And.intro ?_ ?_) | ((with_reducible first | refine Or.inl (And.intro (And.intro mixedP ?_) ?_) | refine Or.inl (And.intro mixedP ?_)); kernel_rfl) | simp only [go_sem,Nat.reduceEqDiff,Nat.reduceAdd,Nat.reduceMul,Nat.reduceLeDiff,he1,hF])
     all_goals first | omega | exact hp' | (exact .inl (by simp)) | (intro j hj; simp only [upd]; split <;> rfl)
 · cases hg
set_option maxHeartbeats 1000000 in
theorem ended_ok : FsOk Tryz.prog 57 endedS := by
 refine of_obS (E := EqT.no _) (F := Ft.no.put 55 failS) Tryz.func57 rfl (by kernel_rfl) [] rfl Tryz.ntmps57 ((FtOk.no _).put fail_ok) ?_
 intro R args r R' i h n hp hg hi hok
 unfold endedF at hg
 split at hg
 · cases hg
   have hp' := hp
   obtain ⟨⟨hT1, hT2⟩, hk⟩ := hp
   refine ⟨[], trivial, ⟨by decide, by simp⟩, ?_⟩
   by_cases he : R.e = 0
   · have he1 : (R.e == 0) = true := by simp [he]
     cases hx : decide (R.k < R.T.length)
     · repeat' (first | (with_reducible first | refine XG_split (fun hq => ?_) (fun hq => ?_) | refine MX1.of 4000 (by simp) ?_ | refine MX2.of 4000 (by simp) ?_ | refine And.intro ?_ ?_) | ((with_reducible first | refine Or.inl (And.intro (And.intro mixedP ?_) ?_) | refine Or.inl (And.intro mixedP ?_)); kernel_rfl) | simp only [go_sem,Nat.reduceEqDiff,Nat.reduceAdd,Nat.reduceMul,Nat.reduceLeDiff,he1,hx])
       all_goals first | omega | exact hp' | (exact .inl (by simp)) | (intro j hj; simp only [upd]; split <;> rfl)
     · repeat' (first | (with_reducible first | refine XG_split (fun hq => ?_) (fun hq => ?_) | refine MX1.of 4000 (by simp) ?_ | refine MX2.of 4000 (by simp) ?_ | refine And.intro ?_ ?_) | ((with_reducible first | refine Or.inl (And.intro (And.intro mixedP ?_) ?_) | refine Or.inl (And.intro mixedP ?_)); kernel_rfl) | simp only [go_sem,Nat.reduceEqDiff,Nat.reduceAdd,Nat.reduceMul,Nat.reduceLeDiff,he1,hx])
       all_goals first | omega | exact hp' | (exact .inl (by simp)) | (intro j hj; simp only [upd]; split <;> rfl)
   · have he1 : (R.e == 0) = false := by simp [he]
     repeat' (first | (with_reducible first | refine XG_split (fun hq => ?_) (fun hq => ?_) | refine MX1.of 4000 (by simp) ?_ | refine MX2.of 4000 (by simp) ?_ | refine And.intro ?_ ?_) | ((with_reducible first | refine Or.inl (And.intro (And.intro mixedP ?_) ?_) | refine Or.inl (And.intro mixedP ?_)); kernel_rfl) | simp only [go_sem,Nat.reduceEqDiff,Nat.reduceAdd,Nat.reduceMul,Nat.reduceLeDiff,he1,Bool.false_and,Bool.true_and])
     all_goals first | omega | exact hp' | (exact .inl (by simp)) | (intro j hj; simp only [upd]; split <;> rfl)
 · cases hg
end Go.Proofs.YtfhpecgknmfnnaaGreatDoor.M
end
section
namespace Go.Proofs.YtfhpecgknmfnnaaGreatDoor.M
open Go.R
def decL (n : Nat) : List Int := if h : n < 10 then [48 + (n : Int)] else decL (n / 10) ++ [48 + ((n % 10 : Nat) : Int)]
termination_by n
decreasing_by omega
theorem decL_len : ∀ (k n : Nat), n < 10 ^ (k + 1) → (decL n).length ≤ k + 1
 | 0, n, h => by
   rw [decL, dif_pos (by simpa using h)]
   simp
 | k + 1, n, h => by
   rw [decL]
   split
   · simp
   · rw [List.length_append]
     have : n / 10 < 10 ^ (k + 1) := by rw [Nat.pow_succ] at h; omega
     have := decL_len k _ this
     simp only [List.length_singleton]
     omega
theorem strOf_append (a b : List Int) : strOf (a ++ b) = strOf a ++ strOf b := by
 have key : ∀ (l : List Int) (x y : ByteArray), l.foldl (fun r n => r.push (UInt8.ofNat n.toNat)) (x ++ y) = x ++ l.foldl (fun r n => r.push (UInt8.ofNat n.toNat)) y := by
  intro l
  induction l with
  | nil => intro x y; rfl
  | cons c l ih =>
    intro x y
    rw [List.foldl_cons, List.foldl_cons, ← ih]
    congr 1
    apply ByteArray.ext
    simp
 unfold strOf
 rw [List.foldl_append]
 have := key b (a.foldl (fun r n => r.push (UInt8.ofNat n.toNat)) ByteArray.empty) ByteArray.empty
 rw [← this]
 congr 1
 apply ByteArray.ext
 simp
theorem strOf_size (a : List Int) : (strOf a).size = a.length := by
 have key : ∀ (l : List Int) (x : ByteArray), (l.foldl (fun r n => r.push (UInt8.ofNat n.toNat)) x).size = x.size + l.length := by
  intro l
  induction l with
  | nil => intro x; rfl
  | cons c l ih =>
    intro x
    rw [List.foldl_cons, ih, ByteArray.size_push, List.length_cons]
    omega
 have := key a ByteArray.empty
 unfold strOf
 rw [this]
 simp
def numText (n : Int) : ByteArray := if n < 0 then strOf (45 :: decL (-n).toNat) else strOf (decL n.toNat)
theorem decL_step (m : Nat) (h : 0 < m / 10) : decL m = decL (m / 10) ++ [48 + ((m % 10 : Nat) : Int)] := by
 rw [decL, dif_neg (by omega)]
theorem decL_last (m : Nat) (h : m / 10 = 0) : decL m = [48 + ((m % 10 : Nat) : Int)] := by
 have : m % 10 = m := Nat.mod_eq_of_lt (by omega)
 rw [decL, dif_pos (by omega), this]
theorem div_i64 (m : Nat) (h : (m : Int) ≤ 9223372036854775807) : IntKind.wrap .i64 ((m / 10 : Nat) : Int) = ((m / 10 : Nat) : Int) := by
 rw [IntKind.wrap_i64]
 omega
theorem dig_u8 (m : Nat) : IntKind.wrap .u8 (48 + ((m % 10 : Nat) : Int)) = 48 + ((m % 10 : Nat) : Int) := by
 rw [IntKind.wrap_u8]
 omega
def aI64 : AV → Option Int
 | .d (.v (.int .i64 c)) => some c
 | _ => none
theorem aI64_le {x : AV} {c : Int} (h : aI64 x = some c) : AV.le x (vI c) := by
 unfold aI64 at h
 split at h
 · cases h; exact AV.le.refl _
 · cases h
attribute [go_sem] aI64
abbrev numPosS : Fs := .pureIf (g1p aI64 fun n => 0 ≤ n ∧ n ≤ 9223372036854775807) (g1 aI64 fun n => vS (numText n))
abbrev numS : Fs := .pureIf (g1p aI64 fun n => -9223372036854775808 ≤ n ∧ n ≤ 9223372036854775807) (g1 aI64 fun n => vS (numText n))
set_option maxHeartbeats 1000000 in
theorem numPos_ok : FsOk Tryz.prog 33 numPosS := by
 refine of_Y1 (E := EqT.no _) (F := Ft.no) vI (fun _ _ => aI64_le) Tryz.func33 rfl (by kernel_rfl) [.tmp 2] rfl Tryz.ntmps33 (by decide) (FtOk.no _) ?_
 intro n0 h n hp hok
 obtain ⟨hp1, hp2⟩ := hp
 obtain ⟨m0, rfl⟩ := Int.eq_ofNat_of_zero_le hp1
 have hA : ((m0 : Int) == -9223372036854775808) = false := by rw [beq_eq_false_iff_ne]; omega
 have hlen : (decL m0).length ≤ 20 := decL_len 19 m0 (by omega)
 have htxt : numText (m0 : Int) = strOf (decL m0) := by unfold numText; rw [if_neg (by omega)]; rfl
 repeat' (first | (with_reducible refine XG_split (fun hq => ?_) (fun hq => ?_)) | (with_reducible refine Or.inl (And.intro (And.intro mixedP ?_) ?_); kernel_rfl) | (with_reducible refine MX1.of 4000 (by simp) ?_) | (with_reducible refine MX2.of 4000 (by simp) ?_) | (with_reducible refine And.intro ?_ ?_) | simp only [go_sem,Nat.reduceEqDiff,Nat.reduceAdd,Nat.reduceMul,Nat.reduceLeDiff,hA,Nat.not_lt_zero,decide_false])
 refine AW.loopJ (E := EqT.no _) (S := fun x : Nat × ByteArray × Bool => ⟨fr [(0, vI x.1), (3, vS x.2.1), (4, vB x.2.2)] (List.replicate 27 .any), h, n, n⟩)
  (I := fun x => x.1 ≤ m0 ∧ match x.2.2 with | true => strOf (decL x.1) ++ x.2.1 = strOf (decL m0) | false => x.2.1 = strOf (decL m0)) (μ := fun x => match x.2.2 with | true => x.1 + 1 | false => 0) (m0, ⟨#[]⟩, true) ⟨Nat.le_refl _, ByteArray.append_empty⟩ ?_ 4000 (fun _ => by simp only [fr_len, List.length_replicate]; decide) ?_
 · exact Wk.same (by simp only [go_sem]) hok (Nat.le_refl _) (by simp only [go_sem])
 · rintro ⟨m, s, q⟩ ⟨hm, hI⟩
   cases q with
   | true =>
     have hI : strOf (decL m) ++ s = strOf (decL m0) := hI
     have hsz : (strOf (decL m)).size + s.size ≤ 20 := by rw [← ByteArray.size_append, hI, strOf_size]; exact hlen
     have hpos : 0 < (decL m).length := by rw [decL]; split <;> simp
     repeat' (first | (with_reducible refine XG_split (fun hq => ?_) (fun hq => ?_)) | (with_reducible refine Or.inl (And.intro (And.intro mixedP ?_) ?_); kernel_rfl) | (with_reducible refine MX1.of 4000 (by simp) ?_) | (with_reducible refine MX2.of 4000 (by simp) ?_) | (with_reducible refine And.intro ?_ ?_) | simp only [go_sem,Nat.reduceEqDiff,Nat.reduceAdd,Nat.reduceMul,Nat.reduceLeDiff,dig_u8,div_i64 m (by omega)])
     all_goals try omega
     · rw [strOf_size, List.length_singleton]; omega
     · refine ⟨(m / 10, strOf [48 + ((m % 10 : Nat) : Int)] ++ s, decide (0 < m / 10)), ⟨by show m / 10 ≤ m0; have : m ≤ m0 := hm; omega, ?_⟩, Wk.same (by simp only [go_sem]) hok (Nat.le_refl _) (by simp only [go_sem]), ?_⟩
       · by_cases h0 : 0 < m / 10
         · simp only [decide_eq_true h0]
           rw [← hI, decL_step m h0, strOf_append, ByteArray.append_assoc]
         · simp only [decide_eq_false h0]
           rw [← hI, decL_last m (by omega)]
       · by_cases h0 : 0 < m / 10
         · simp only [decide_eq_true h0]; omega
         · simp only [decide_eq_false h0]; omega
   | false =>
     have hI : s = strOf (decL m0) := hI
     repeat' (first | (with_reducible refine XG_split (fun hq => ?_) (fun hq => ?_)) | (with_reducible refine Or.inl (And.intro (And.intro mixedP ?_) ?_); kernel_rfl) | (with_reducible refine MX1.of 4000 (by simp) ?_) | (with_reducible refine MX2.of 4000 (by simp) ?_) | (with_reducible refine And.intro ?_ ?_) | simp only [go_sem,Nat.reduceEqDiff,Nat.reduceAdd,Nat.reduceMul,Nat.reduceLeDiff])
     exact wk_v (congrArg Value.string (by rw [htxt, hI]))
theorem FsOk.either {P : Program} {f : FuncId} {p p1 p2 : List AV → Prop} {g : List AV → Option AV} (h1 : FsOk P f (.pureIf p1 g)) (h2 : FsOk P f (.pureIf p2 g)) (hp : ∀ l r, g l = some r → p l → p1 l ∨ p2 l) : FsOk P f (.pureIf p g) := by
 intro c h n w vals args K hw hr hT hS
 obtain ⟨hpre, hrun⟩ := hS
 cases hg : g args with
 | none => simp [Fs.pureIf, hg, onO] at hrun
 | some r =>
   rcases hp args r hg hpre with q | q
   · exact h1 c h n w vals args K hw hr hT ⟨q, hrun⟩
   · exact h2 c h n w vals args K hw hr hT ⟨q, hrun⟩
abbrev numNegS : Fs := .pureIf (g1p aI64 fun n => -9223372036854775808 ≤ n ∧ n < 0) (g1 aI64 fun n => vS (numText n))
theorem numNeg_ok : FsOk Tryz.prog 33 numNegS := by
 refine of_Y1 (E := EqT.no _) (F := Ft.no.put 33 numPosS) vI (fun _ _ => aI64_le) Tryz.func33 rfl (by kernel_rfl) [.tmp 2] rfl Tryz.ntmps33 (by decide) ((FtOk.no _).put numPos_ok) ?_
 intro m h n hp hok
 obtain ⟨hp1, hp2⟩ := hp
 by_cases hm : m = -9223372036854775808
 · subst hm
   repeat' (first | (with_reducible refine XG_split (fun hq => ?_) (fun hq => ?_)) | (with_reducible refine Or.inl (And.intro (And.intro mixedP ?_) ?_); kernel_rfl) | (with_reducible refine MX1.of 4000 (by simp) ?_) | (with_reducible refine MX2.of 4000 (by simp) ?_) | (with_reducible refine And.intro ?_ ?_) | simp only [go_sem,Nat.reduceEqDiff,Nat.reduceAdd,Nat.reduceMul,Nat.reduceLeDiff,beq_self_eq_true])
   exact wk_v (congrArg Value.string (by kernel_rfl))
 · have hA : (m == -9223372036854775808) = false := by rw [beq_eq_false_iff_ne]; exact hm
   have hB : decide (m < 0) = true := decide_eq_true hp2
   have h1 : (numText (0 - m)).size ≤ 20 := by
    unfold numText
    rw [if_neg (by omega), strOf_size]
    exact decL_len 19 _ (by omega)
   have h2 : #[(45 : UInt8)].size = 1 := rfl
   repeat' (first | (with_reducible refine XG_split (fun hq => ?_) (fun hq => ?_)) | (with_reducible refine Or.inl (And.intro (And.intro mixedP ?_) ?_); kernel_rfl) | (with_reducible refine MX1.of 4000 (by simp) ?_) | (with_reducible refine MX2.of 4000 (by simp) ?_) | (with_reducible refine And.intro ?_ ?_) | simp only [go_sem,Nat.reduceEqDiff,Nat.reduceAdd,Nat.reduceMul,Nat.reduceLeDiff,hA,hB])
   all_goals try omega
   refine wk_v (congrArg Value.string ?_)
   unfold numText
   rw [if_neg (by omega), if_pos hp2]
   have : strOf (45 :: decL (-m).toNat) = strOf [45] ++ strOf (decL (-m).toNat) := by rw [← strOf_append]; rfl
   rw [this, Int.zero_sub]
   rfl
theorem num_ok : FsOk Tryz.prog 33 numS := by
 refine FsOk.either numPos_ok numNeg_ok ?_
 intro l r hg hp
 obtain ⟨x, v, rfl, hx, rfl⟩ := g1_eq hg
 have := hp v hx
 rcases Int.lt_or_le v 0 with q | q
 · exact .inr (fun u hu => by rw [hx] at hu; cases hu; exact ⟨this.1, q⟩)
 · exact .inl (fun u hu => by rw [hx] at hu; cases hu; exact ⟨q, this.2⟩)
end Go.Proofs.YtfhpecgknmfnnaaGreatDoor.M
end
section
namespace Go.Proofs.YtfhpecgknmfnnaaGreatDoor.M
open Go.R
theorem wk3_eq {x y : AV} (h : x = y) : wk3 x y := by rw [h, wk3_refl]; trivial
def i64 (n : Int) : Prop := -9223372036854775808 ≤ n ∧ n ≤ 9223372036854775807
def textB (v : Val) : ByteArray := if goodV v then (if 0 < v.sym.size then v.sym else numText v.num) else ⟨#[]⟩
def termText (t : Term) : ByteArray := if 0 < t.var.size then t.var else textB t.val
end Go.Proofs.YtfhpecgknmfnnaaGreatDoor.M
end
section
namespace Go.Proofs.YtfhpecgknmfnnaaGreatDoor.M
open Go.R Go.Proofs.YtfhpecgknmfnnaaGreatDoorW.PrintWords Go.Proofs.YtfhpecgknmfnnaaGreatDoorW.PrintMore
theorem byteAt_bt (s : ByteArray) (i : Int) : byteAt s i = bt s i := by
 unfold byteAt bt
 by_cases h : i.toNat < s.size
 · rw [dif_pos h, getElem?_pos s i.toNat h]
 · rw [dif_neg h, getElem?_neg s i.toNat h]
theorem digs_append : ∀ (l r : List Int) (u : Int), digs u (l ++ r) = (digs u l).bind fun v => digs v r
 | [], r, u => rfl
 | c :: l, r, u => by
   simp only [List.cons_append, digs]
   split
   · exact digs_append l r _
   · rfl
theorem digB_iff (c : Int) : digB c = true ↔ 48 ≤ c ∧ c ≤ 57 := by
 unfold digB
 simp
theorem digs_ge : ∀ (l : List Int) (u v : Int), 0 ≤ u → digs u l = some v → u ≤ v
 | [], u, v, _, h => by simp [digs] at h; omega
 | c :: l, u, v, hu, h => by
   simp only [digs] at h
   split at h
   · rename_i hc
     rw [digB_iff] at hc
     have := digs_ge l (10 * u + (c - 48)) v (by omega) h
     omega
   · cases h
theorem digs_dig : ∀ (l : List Int) (u v : Int), digs u l = some v → ∀ c ∈ l, digB c = true
 | [], u, v, _, c, hc => by simp at hc
 | c :: l, u, v, h, x, hx => by
   simp only [digs] at h
   split at h
   · rename_i hc
     rcases List.mem_cons.1 hx with rfl | hx
     · exact hc
     · exact digs_dig l _ v h x hx
   · cases h
def negGo : Int → List Int → Option Int
 | n, [] => some n
 | n, c :: t => if digB c then (if n < Int.tdiv (-9223372036854775808 + (c - 48)) 10 then none else negGo (n * 10 - (c - 48)) t) else none
theorem tdiv_low (d : Int) (h0 : 0 ≤ d) (h1 : d ≤ 9) : Int.tdiv (-9223372036854775808 + d) 10 = -((9223372036854775808 - d) / 10) := by
 have : (-9223372036854775808 + d) = -(9223372036854775808 - d) := by omega
 rw [this, Int.neg_tdiv, Int.tdiv_eq_ediv_of_nonneg (by omega)]
theorem negGo_digs : ∀ (l : List Int) (u : Int), 0 ≤ u → u ≤ 9223372036854775808 → negGo (-u) l = (digs u l).bind fun v => if v ≤ 9223372036854775808 then some (-v) else none
 | [], u, h0, h1 => by simp [negGo, digs, h1]
 | c :: l, u, h0, h1 => by
   simp only [negGo, digs]
   cases hc : digB c with
   | false => simp
   | true =>
     have hd := (digB_iff c).1 hc
     rw [tdiv_low _ (by omega) (by omega)]
     simp only [if_true]
     split
     · rename_i hlt
       cases hv : digs (10 * u + (c - 48)) l with
       | none => rfl
       | some v =>
         have := digs_ge l _ v (by omega) hv
         simp only [Option.bind_some]
         rw [if_neg (by omega)]
     · rename_i hge
       rw [show -u * 10 - (c - 48) = -(10 * u + (c - 48)) by omega]
       exact negGo_digs l _ (by omega) (by omega)
theorem decL_head (n : Nat) (h : 0 < n) : ∃ c t, decL n = c :: t ∧ c ≠ 48 := by
 rw [decL]
 split
 · exact ⟨_, _, rfl, by omega⟩
 · obtain ⟨c, t, e, hc⟩ := decL_head (n / 10) (by omega)
   rw [e]
   exact ⟨c, _, rfl, hc⟩
termination_by n
decreasing_by omega
theorem canon_r : ∀ (m : Nat) (l : List Int) (v : Int), l.length = m → l ≠ [] → digs 0 l = some v → (l = [48] ∨ l.head? ≠ some 48) → l = decL v.toNat ∧ 0 ≤ v
 | 0, l, v, hm, hn, _, _ => absurd (List.eq_nil_of_length_eq_zero hm) hn
 | m + 1, l, v, hm, hn, hd, hh => by
   have hv0 : 0 ≤ v := digs_ge l 0 v (Int.le_refl _) hd
   refine ⟨?_, hv0⟩
   obtain ⟨r, c, rfl⟩ : ∃ r c, l = r ++ [c] := ⟨l.dropLast, l.getLast hn, (List.dropLast_concat_getLast hn).symm⟩
   rw [digs_append] at hd
   cases hr : digs 0 r with
   | none => simp [hr] at hd
   | some w =>
     simp only [hr, Option.bind_some, digs] at hd
     split at hd
     · rename_i hc
       have hc := (digB_iff c).1 hc
       simp only [Option.some.injEq] at hd
       have hw0 : 0 ≤ w := digs_ge r 0 w (Int.le_refl _) hr
       cases r with
       | nil =>
         simp [digs] at hr
         subst hr
         rw [decL, dif_pos (by omega)]
         simp only [List.nil_append, List.cons.injEq, and_true]
         omega
       | cons x r =>
         rcases hh with hh | hh
         · simp at hh
         · have hx : x ≠ 48 := by simpa using hh
           obtain ⟨ih, _⟩ := canon_r m (x :: r) w (by simpa using hm) (by simp) hr (.inr (by simpa using hx))
           have hw1 : 1 ≤ w := by
            rcases Int.lt_or_eq_of_le hw0 with h | h
            · omega
            · exfalso
              rw [← h] at ih
              have e0 : decL (0 : Int).toNat = [48] := by
               show decL 0 = [48]
               rw [decL]; simp
              rw [e0] at ih
              simp at ih
              exact hx ih.1
           rw [decL, dif_neg (by omega), ih]
           have e1 : v.toNat / 10 = w.toNat := by omega
           have e2 : ((v.toNat % 10 : Nat) : Int) = c - 48 := by omega
           rw [e1, e2]
           have : 48 + (c - 48) = c := by omega
           rw [this]
     · cases hd
theorem canon_l (v : Int) (hv : 0 ≤ v) : digs 0 (decL v.toNat) = some v ∧ (decL v.toNat = [48] ∨ (decL v.toNat).head? ≠ some 48) := by
 constructor
 · have key : ∀ n : Nat, digs 0 (decL n) = some (n : Int) := by
    intro n
    induction n using Nat.strongRecOn with
    | ind n ih =>
      rw [decL]
      split
      · have : digB (48 + (n : Int)) = true := by rw [digB_iff]; omega
        simp only [digs, this, if_true, Option.some.injEq]
        omega
      · rw [digs_append, ih (n / 10) (by omega)]
        have : digB (48 + ((n % 10 : Nat) : Int)) = true := by rw [digB_iff]; omega
        simp only [Option.bind_some, digs, this, if_true, Option.some.injEq]
        omega
   have := key v.toNat
   rw [this]
   congr 1
   omega
 · rcases Nat.eq_zero_or_pos v.toNat with h | h
   · left
     rw [h, decL]
     simp
   · right
     obtain ⟨c, t, e, hc⟩ := decL_head v.toNat h
     rw [e]
     simpa using hc
theorem bytesOf_strOf (l : List Int) (h : ∀ c ∈ l, 0 ≤ c ∧ c < 256) : bytesOf (strOf l) = l := by
 have key : ∀ (l : List Int) (r : ByteArray), (∀ c ∈ l, 0 ≤ c ∧ c < 256) → bytesOf (l.foldl (fun r n => r.push (UInt8.ofNat n.toNat)) r) = bytesOf r ++ l := by
  intro l
  induction l with
  | nil => intro r _; simp
  | cons c l ih =>
    intro r hl
    rw [List.foldl_cons, ih _ (fun x hx => hl x (List.mem_cons_of_mem _ hx))]
    have hc := hl c (List.mem_cons_self ..)
    have : bytesOf (r.push (UInt8.ofNat c.toNat)) = bytesOf r ++ [c] := by
     unfold bytesOf
     simp only [ByteArray.data_push, Array.toList_push, List.map_append, List.map_cons, List.map_nil, UInt8.toNat_ofNat']
     congr 2
     omega
    rw [this]
    simp
 have := key l ByteArray.empty h
 unfold strOf
 rw [this]
 rfl
theorem bytesOf_inj {a b : ByteArray} (h : bytesOf a = bytesOf b) : a = b := by
 unfold bytesOf at h
 have : a.data.toList = b.data.toList := by
  refine List.map_inj_right (f := fun b : UInt8 => ((b.toNat : Nat) : Int)) (fun x y e => ?_) |>.1 h
  have : x.toNat = y.toNat := Int.ofNat_inj.1 e
  exact UInt8.toNat_inj.1 this
 obtain ⟨⟨x⟩⟩ := a
 obtain ⟨⟨y⟩⟩ := b
 simp only at this
 rw [this]
theorem strOf_bytesOf (s : ByteArray) : strOf (bytesOf s) = s := by
 refine bytesOf_inj (bytesOf_strOf _ fun c hc => ?_)
 unfold bytesOf at hc
 simp only [List.mem_map] at hc
 obtain ⟨b, _, rfl⟩ := hc
 have := b.toNat_lt
 omega
theorem dec_range (n : Nat) : ∀ c ∈ decL n, 0 ≤ c ∧ c < 256 := by
 intro c hc
 have h := (canon_l (n : Int) (by omega)).1
 have := digs_dig _ _ _ h c (by simpa using hc)
 rw [digB_iff] at this
 omega
theorem strOf_eq_iff (s : ByteArray) (l : List Int) (h : ∀ c ∈ l, 0 ≤ c ∧ c < 256) : strOf l = s ↔ bytesOf s = l := by
 constructor
 · rintro rfl; exact bytesOf_strOf l h
 · intro e; rw [← e]; exact strOf_bytesOf s
theorem bytesOf_head (s : ByteArray) (h : 0 < s.size) : (bytesOf s).head? = some (bt s 0) := by
 have := bytesOf_drop s 0 h
 rw [List.drop_zero] at this
 rw [this]
 rfl
theorem bytesOf_extract (s : ByteArray) (a b : Nat) : bytesOf (s.extract a b) = ((bytesOf s).take b).drop a := by
 unfold bytesOf
 have : (s.extract a b).data.toList = (s.data.toList.take b).drop a := by
  rw [ByteArray.data_extract, Array.toList_extract, List.extract_eq_take_drop, List.drop_take]
 rw [this, List.map_drop, List.map_take]
theorem toList_injA {a b : ByteArray} (h : a.toList = b.toList) : a = b := by
 rw [toList_eq, toList_eq] at h
 obtain ⟨⟨x⟩⟩ := a
 obtain ⟨⟨y⟩⟩ := b
 simp only at h
 rw [h]
def refRead (s : ByteArray) : Option Int :=
 if (bytesOf (cutS s)).length = 0 ∨ 20 < s.size then none else match negGo 0 (bytesOf (cutS s)) with
  | none => none
  | some n => if negB s = false ∧ n = -9223372036854775808 then none else
    if (numText (if negB s then n else 0 - n)).toList == s.toList then some (if negB s then n else 0 - n) else none
theorem cutS_size (s : ByteArray) : (cutS s).size = if negB s then s.size - 1 else s.size := by
 unfold cutS
 split <;> simp
theorem refRead_law (s : ByteArray) : refRead s = numOf (cutS s) (negB s) := by
 unfold refRead numOf badHead
 have hlen : (bytesOf (cutS s)).length = (cutS s).size := bytesOf_length _
 rcases Nat.eq_zero_or_pos (cutS s).size with h0 | hpos
 · have e1 : (cutS s).toList.isEmpty = true := by
    have := toList_ne (cutS s)
    rw [h0] at this
    simpa using this
   rw [if_pos (.inl (hlen.trans h0)), e1]
   simp
 have e1 : (cutS s).toList.isEmpty = false := by
  have := toList_ne (cutS s)
  rw [decide_eq_true hpos] at this
  simpa using this
 have hhead := bytesOf_head (cutS s) hpos
 have hsz := cutS_size s
 have hneg1 : negB s = true → 0 < s.size ∧ bt s 0 = 45 := fun h => by
  unfold negB at h
  simpa using h
 have hsize : s.size = (cutS s).size + (if negB s then 1 else 0) := by
  cases hn : negB s
  · rw [hn] at hsz; simp at hsz ⊢; omega
  · have := (hneg1 hn).1; rw [hn] at hsz; simp at hsz ⊢; omega
 have hgo := negGo_digs (bytesOf (cutS s)) 0 (Int.le_refl _) (by decide)
 rw [show (-0 : Int) = 0 from rfl] at hgo
 have htxt : ∀ v : Int, 0 ≤ v → digs 0 (bytesOf (cutS s)) = some v → (((numText (if negB s then -v else 0 - -v)).toList == s.toList) = true ↔ (bytesOf (cutS s) = decL v.toNat ∧ (negB s = true → 0 < v))) := by
  intro v hv hd
  rw [beq_iff_eq]
  have hti : (numText (if negB s then -v else 0 - -v)).toList = s.toList ↔ numText (if negB s then -v else 0 - -v) = s := ⟨toList_injA, fun e => by rw [e]⟩
  rw [hti]
  cases hn : negB s
  · have : cutS s = s := by unfold cutS; rw [hn]; rfl
    rw [this]
    have e : (0 - -v) = v := by omega
    simp only [Bool.false_eq_true, if_false, e]
    unfold numText
    rw [if_neg (by omega), strOf_eq_iff _ _ (dec_range _)]
    simp
  · have hb : bytesOf s = 45 :: bytesOf (cutS s) := by
     have h1 := (hneg1 hn).1
     have : cutS s = s.extract 1 s.size := by unfold cutS; rw [hn]; rfl
     rw [this, bytesOf_extract, List.take_of_length_le (by rw [bytesOf_length]; exact Nat.le_refl _)]
     have := bytesOf_drop s 0 h1
     rw [List.drop_zero] at this
     rw [this]
     simp only [List.drop_succ_cons, List.drop_zero]
     congr 1
     exact (hneg1 hn).2
    simp only [if_true]
    unfold numText
    by_cases hv0 : v = 0
    · subst hv0
      simp only [Int.neg_zero, Int.lt_irrefl, if_false, strOf_eq_iff _ _ (dec_range _), hb]
      constructor
      · intro h
        exfalso
        have : decL (0 : Int).toNat = [48] := by show decL 0 = [48]; rw [decL]; simp
        rw [this] at h
        simp at h
      · intro h; exact (h.2 trivial).elim
    · rw [if_pos (by omega)]
      have hr : ∀ c ∈ (45 :: decL (- -v).toNat), 0 ≤ c ∧ c < 256 := by
       intro c hc
       rcases List.mem_cons.1 hc with rfl | hc
       · omega
       · exact dec_range _ c hc
      rw [strOf_eq_iff _ _ hr, hb]
      have e : (- -v) = v := by omega
      rw [e]
      constructor
      · intro h; simp at h; exact ⟨h, fun _ => by omega⟩
      · intro h; rw [h.1]
 cases hd : digs 0 (bytesOf (cutS s)) with
 | none =>
   rw [hgo, hd]
   simp
 | some v =>
   have hv : 0 ≤ v := digs_ge _ 0 v (Int.le_refl _) hd
   rw [hgo, hd]
   simp only [Option.bind_some]
   have hT := htxt v hv hd
   by_cases hcan : bytesOf (cutS s) = [48] ∨ (bytesOf (cutS s)).head? ≠ some 48
   · obtain ⟨hc1, _⟩ := canon_r _ _ v rfl (fun e => by rw [e] at hlen; simp at hlen; omega) hd hcan
     have h48 : (bt (cutS s) 0 == 48) = true → (cutS s).size = 1 := by
      intro h
      rcases hcan with hc | hc
      · rw [← hlen, hc]; rfl
      · rw [hhead] at hc
        simp at h
        exact absurd (by rw [h]) hc
     by_cases hbig : v ≤ 9223372036854775808
     · have hl19 : (cutS s).size ≤ 19 := by
        rw [← hlen, hc1]
        exact decL_len 18 _ (by omega)
       have hs20 : ¬ 20 < s.size := by
        rw [hsize]
        split <;> omega
       rw [if_neg (by rw [not_or]; exact ⟨by omega, hs20⟩), if_pos hbig]
       simp only
       have ht : top63 = 9223372036854775808 := rfl
       have hnl : decide (19 < ((cutS s).size : Int)) = false := by simp; omega
       cases hn : negB s
       · simp only [hn, Bool.false_eq_true, if_false, true_and] at hT ⊢
         have hbh : (bt (cutS s) 0 == 48 && (false || decide (1 < ((cutS s).size : Int)))) = false := by
          cases hq : bt (cutS s) 0 == 48
          · rfl
          · have := h48 hq; simp [this]
         rw [e1, hnl, hbh]
         simp only [Bool.or_self, Bool.false_eq_true, if_false]
         by_cases hv63 : v = 9223372036854775808
         · rw [if_pos (show -v = -9223372036854775808 by omega), if_neg (show ¬ v < top63 by omega)]
         · rw [if_neg (show ¬ -v = -9223372036854775808 by omega), if_pos (show v < top63 by omega), if_pos (hT.2 ⟨hc1, fun h => by simp at h⟩)]
           congr 1
           omega
       · simp only [hn, if_true, Bool.true_eq_false, false_and, if_false] at hT ⊢
         rw [e1, hnl]
         simp only [Bool.or_self, Bool.false_or, Bool.true_or, Bool.and_true]
         by_cases hq : bt (cutS s) 0 = 48
         · have hs1 := h48 (by simp [hq])
           have : v = 0 := by
            have hb1 : bytesOf (cutS s) = [48] := by
             rcases hcan with hc | hc
             · exact hc
             · rw [hhead, hq] at hc; simp at hc
            rw [hb1] at hd
            simp [digs, digB] at hd
            omega
           have hN : ¬ ((numText (-v)).toList == s.toList) = true := fun h => by have := (hT.1 h).2 trivial; omega
           rw [if_neg hN, if_pos (by rw [hq]; rfl)]
         · have : 0 < v := by
            rcases Int.lt_or_eq_of_le hv with h | h
            · exact h
            · exfalso
              rw [← h] at hc1
              have e0 : decL (0 : Int).toNat = [48] := by show decL 0 = [48]; rw [decL]; simp
              rw [e0] at hc1
              rw [hc1] at hhead
              simp at hhead
              exact hq hhead.symm
           rw [if_pos (hT.2 ⟨hc1, fun _ => this⟩), if_neg (by simpa using hq), if_pos (show v ≤ top63 by omega)]
     ·
      have ht : top63 = 9223372036854775808 := rfl
      rw [if_neg hbig]
      have hR : (if negB s = true then if v ≤ top63 then some (-v) else none else if v < top63 then some v else (none : Option Int)) = none := by
       split
       · exact if_neg (by omega)
       · exact if_neg (by omega)
      simp only [Option.bind_some, hR, ite_self]
   · rw [not_or] at hcan
     obtain ⟨hc1, hc2⟩ := hcan
     have hc2 : (bytesOf (cutS s)).head? = some 48 := by
      refine Classical.byContradiction fun h => hc2 h
     have hb48 : bt (cutS s) 0 = 48 := by
      rw [hhead] at hc2
      simpa using hc2
     have hs2 : 1 < (cutS s).size := by
      refine Nat.lt_of_not_le fun h => hc1 ?_
      have h1 : (bytesOf (cutS s)).length = 1 := by omega
      match hq : bytesOf (cutS s), h1 with
      | [c], _ =>
        rw [hq] at hc2
        simp at hc2
        rw [hc2]
     have hne : bytesOf (cutS s) ≠ decL v.toNat := by
      intro e
      rcases (canon_l v hv).2 with h | h
      · rw [← e] at h; exact hc1 h
      · rw [← e] at h; exact h hc2
     rw [if_pos (show ((cutS s).toList.isEmpty || decide (19 < ((cutS s).size : Int)) || (bt (cutS s) 0 == 48 && (negB s || decide (1 < ((cutS s).size : Int))))) = true by
      rw [hb48]
      have : decide (1 < ((cutS s).size : Int)) = true := decide_eq_true (by omega)
      simp [this])]
     split
     · rfl
     · split
       · rfl
       · rename_i n hn
         split at hn
         · cases hn
           split
           · rfl
           · rw [if_neg (fun h => hne (hT.1 h).1)]
         · cases hn
end Go.Proofs.YtfhpecgknmfnnaaGreatDoor.M
end
section
namespace Go.Proofs.YtfhpecgknmfnnaaGreatDoor.M
open Go.R Go.Proofs.YtfhpecgknmfnnaaGreatDoorW.PrintWords Go.Proofs.YtfhpecgknmfnnaaGreatDoorW.PrintMore
abbrev readS : Fs := .pure (g1 aStr fun s => .tup [Val.av (readV s).1, vB (readV s).2])
abbrev valBx (v : Val) : List AV := [vS v.sym, vI v.num]
theorem byteAt_rng (s : ByteArray) (i : Int) : 0 ≤ byteAt s i ∧ byteAt s i ≤ 255 := by rw [byteAt_bt]; have := bt_range s i; omega
theorem wrap_u8_i64 {c : Int} (h : 0 ≤ c ∧ c ≤ 255) : IntKind.wrap .i64 c = c := by rw [IntKind.wrap_i64]; omega
theorem readV_none {s : ByteArray} (hn : nameB s = false) (h : refRead s = none) : readV s = (Val.z, false) := by
 unfold readV
 rw [hn]
 rw [refRead_law] at h
 simp [h]
theorem readV_some {s : ByteArray} {n : Int} (hn : nameB s = false) (h : refRead s = some n) : readV s = (⟨noStr, n⟩, true) := by
 unfold readV
 rw [hn]
 rw [refRead_law] at h
 simp [h]
theorem cut_drop (s : ByteArray) : bytesOf (cutS s) = (bytesOf s).drop (if negB s then 1 else 0) := by
 unfold cutS
 split
 · rw [bytesOf_extract, List.take_of_length_le (by rw [bytesOf_length]; exact Nat.le_refl _)]
 · simp
set_option maxHeartbeats 2000000 in
theorem refRead_ok : FsOk Tryz.prog 50 readS := by
 refine of_X1 (E := EqT.no _) (F := (Ft.no.put 32 refNameS).put 33 numS) vS (fun _ _ => aStr_le) Tryz.func50 rfl (by kernel_rfl) [.cell 2 23, .tmp 3] rfl Tryz.ntmps50 (by decide) (((FtOk.no _).put refName_ok).put num_ok) ?_
 intro s h n0 hok
 cases hN : nameB s with
 | true =>
   have hR : readV s = (⟨s, 0⟩, true) := by simp [readV, hN]
   repeat' (first | (with_reducible first | refine XG_split (fun hq => ?_) (fun hq => ?_) | refine MX1.of 4000 (by simp) ?_ | refine MX2.of 4000 (by simp) ?_ | refine And.intro ?_ ?_) | ((with_reducible first | refine Or.inl (And.intro (And.intro mixedP ?_) ?_) | refine Or.inl (And.intro mixedP ?_)); kernel_rfl) | simp only [go_sem,Nat.reduceEqDiff,Nat.reduceAdd,Nat.reduceMul,Nat.reduceLeDiff,hN,hR,Val.av,Val.z,noStr])
   exact .inr (Nat.le_refl _)
 | false =>
   have hcl : (bytesOf (cutS s)).length = (cutS s).size := bytesOf_length _
   have hcs := cutS_size s
   obtain ⟨at_, hat⟩ : ∃ a : Nat, a = if negB s then 1 else 0 := ⟨_, rfl⟩
   have hcd := cut_drop s
   rw [← hat] at hcd
   have hat1 : at_ ≤ 1 := by rw [hat]; split <;> omega
   have hats : at_ ≤ s.size := by
    rw [hat]
    split
    · rename_i hq
      unfold negB at hq
      simp at hq
      omega
    · omega
   have hsz : s.size = at_ + (cutS s).size := by
    rw [hat, hcs]
    split
    · rename_i hq
      unfold negB at hq
      simp at hq
      omega
    · omega
   have hok' : HOk (n0 + 1) (upd h n0 (.box (valBx Val.z))) := (hok.mono (Nat.le_succ n0)).upd_box (Nat.lt_succ_self n0) (by simp only [go_sem, valBx])
   have key : (decide (0 < s.size) = true ∧ (byteAt s 0 == 45) = true ∧ at_ = 1) ∨ (decide (0 < s.size) = true ∧ (byteAt s 0 == 45) = false ∧ at_ = 0) ∨ (decide (0 < s.size) = false ∧ at_ = 0) := by
    rw [hat]
    unfold negB
    rw [byteAt_bt]
    cases decide (0 < s.size) <;> cases bt s 0 == 45 <;> simp
   have wneg : (negB s = true ∧ at_ = 1) ∨ (negB s = false ∧ at_ = 0) := by
    rw [hat]
    cases negB s <;> simp
   by_cases hbad : (cutS s).size = 0 ∨ 20 < s.size
   · have hR : readV s = (Val.z, false) := readV_none hN (by unfold refRead; rw [if_pos (by rw [hcl]; exact hbad)])
     have hb : (s.size == at_) = true ∨ ((s.size == at_) = false ∧ decide (20 < s.size) = true) := by
      rcases hbad with hb | hb
      · left; simp; omega
      · by_cases h1 : s.size = at_
        · left; simp [h1]
        · right; exact ⟨by simp [h1], by simp [hb]⟩
     rcases key with ⟨k1, k2, k3⟩ | ⟨k1, k2, k3⟩ | ⟨k1, k3⟩ <;> subst k3 <;> rcases hb with hb | ⟨hb, hb'⟩
     · have k1' := of_decide_eq_true k1
       repeat' (first | (with_reducible first | refine XG_split (fun hq => ?_) (fun hq => ?_) | refine MX1.of 4000 (by simp) ?_ | refine MX2.of 4000 (by simp) ?_ | refine And.intro ?_ ?_) | ((with_reducible first | refine Or.inl (And.intro (And.intro mixedP ?_) ?_) | refine Or.inl (And.intro mixedP ?_)); kernel_rfl) | simp only [go_sem,Nat.reduceEqDiff,Nat.reduceAdd,Nat.reduceMul,Nat.reduceLeDiff,hN,k1,k2,hb,hR,Val.av,Val.z])
       all_goals first | omega | (exact .inr (by omega)) | (exact .inl (by simp)) | skip
     · have k1' := of_decide_eq_true k1
       repeat' (first | (with_reducible first | refine XG_split (fun hq => ?_) (fun hq => ?_) | refine MX1.of 4000 (by simp) ?_ | refine MX2.of 4000 (by simp) ?_ | refine And.intro ?_ ?_) | ((with_reducible first | refine Or.inl (And.intro (And.intro mixedP ?_) ?_) | refine Or.inl (And.intro mixedP ?_)); kernel_rfl) | simp only [go_sem,Nat.reduceEqDiff,Nat.reduceAdd,Nat.reduceMul,Nat.reduceLeDiff,hN,k1,k2,hb,hb',hR,Val.av,Val.z])
       all_goals first | omega | (exact .inr (by omega)) | (exact .inl (by simp)) | skip
     · have k1' := of_decide_eq_true k1
       repeat' (first | (with_reducible first | refine XG_split (fun hq => ?_) (fun hq => ?_) | refine MX1.of 4000 (by simp) ?_ | refine MX2.of 4000 (by simp) ?_ | refine And.intro ?_ ?_) | ((with_reducible first | refine Or.inl (And.intro (And.intro mixedP ?_) ?_) | refine Or.inl (And.intro mixedP ?_)); kernel_rfl) | simp only [go_sem,Nat.reduceEqDiff,Nat.reduceAdd,Nat.reduceMul,Nat.reduceLeDiff,hN,k1,k2,hb,hR,Val.av,Val.z])
       all_goals first | omega | (exact .inr (by omega)) | (exact .inl (by simp)) | skip
     · have k1' := of_decide_eq_true k1
       repeat' (first | (with_reducible first | refine XG_split (fun hq => ?_) (fun hq => ?_) | refine MX1.of 4000 (by simp) ?_ | refine MX2.of 4000 (by simp) ?_ | refine And.intro ?_ ?_) | ((with_reducible first | refine Or.inl (And.intro (And.intro mixedP ?_) ?_) | refine Or.inl (And.intro mixedP ?_)); kernel_rfl) | simp only [go_sem,Nat.reduceEqDiff,Nat.reduceAdd,Nat.reduceMul,Nat.reduceLeDiff,hN,k1,k2,hb,hb',hR,Val.av,Val.z])
       all_goals first | omega | (exact .inr (by omega)) | (exact .inl (by simp)) | skip
     · repeat' (first | (with_reducible first | refine XG_split (fun hq => ?_) (fun hq => ?_) | refine MX1.of 4000 (by simp) ?_ | refine MX2.of 4000 (by simp) ?_ | refine And.intro ?_ ?_) | ((with_reducible first | refine Or.inl (And.intro (And.intro mixedP ?_) ?_) | refine Or.inl (And.intro mixedP ?_)); kernel_rfl) | simp only [go_sem,Nat.reduceEqDiff,Nat.reduceAdd,Nat.reduceMul,Nat.reduceLeDiff,hN,k1,hb,hR,Val.av,Val.z])
       all_goals first | omega | (exact .inr (by omega)) | (exact .inl (by simp)) | skip
     · repeat' (first | (with_reducible first | refine XG_split (fun hq => ?_) (fun hq => ?_) | refine MX1.of 4000 (by simp) ?_ | refine MX2.of 4000 (by simp) ?_ | refine And.intro ?_ ?_) | ((with_reducible first | refine Or.inl (And.intro (And.intro mixedP ?_) ?_) | refine Or.inl (And.intro mixedP ?_)); kernel_rfl) | simp only [go_sem,Nat.reduceEqDiff,Nat.reduceAdd,Nat.reduceMul,Nat.reduceLeDiff,hN,k1,hb,hb',hR,Val.av,Val.z])
       all_goals first | omega | (exact .inr (by omega)) | (exact .inl (by simp)) | skip
   · rw [not_or] at hbad
     have hb : (s.size == at_) = false := by simp; omega
     have hb' : decide (20 < s.size) = false := by simp; omega
     have hl20 : s.size ≤ 20 := by omega
     have walk : ∀ t1 : List AV, t1 = (fr [(0, vS s), (2, .p n0 0), (3, vB false), (4, vI at_), (5, vI 0), (6, vI at_)] (List.replicate 74 .any)) → True := fun _ _ => trivial
     have hgo0 : negGo 0 (bytesOf (cutS s)) = negGo 0 ((bytesOf s).drop at_) := by rw [hcd]
     rcases key with ⟨k1, k2, k3⟩ | ⟨k1, k2, k3⟩ | ⟨k1, k3⟩
     · subst k3
       repeat' (first | (with_reducible first | refine XG_split (fun hq => ?_) (fun hq => ?_) | refine MX1.of 4000 (by simp) ?_ | refine MX2.of 4000 (by simp) ?_ | refine And.intro ?_ ?_) | ((with_reducible first | refine Or.inl (And.intro (And.intro mixedP ?_) ?_) | refine Or.inl (And.intro mixedP ?_)); kernel_rfl) | simp only [go_sem,Nat.reduceEqDiff,Nat.reduceAdd,Nat.reduceMul,Nat.reduceLeDiff,hN,k1,k2,hb,hb'])
       all_goals first | omega | (exact .inr (by omega)) | (exact .inl (by simp)) | skip
       refine AW.loopJ (E := EqT.no _) (S := fun x : Nat × Int => ⟨fr [(0, vS s), (2, .p n0 0), (3, vB false), (4, vI 1), (5, vI x.2), (6, vI x.1)] (List.replicate 74 .any), upd h n0 (.box (valBx Val.z)), n0, n0 + 1⟩)
        (I := fun x => x.1 ≤ s.size ∧ x.2 ≤ 0 ∧ -9223372036854775808 ≤ x.2 ∧ negGo 0 (bytesOf (cutS s)) = negGo x.2 ((bytesOf s).drop x.1)) (μ := fun x => s.size - x.1) (1, 0) ⟨hats, Int.le_refl _, by decide, hgo0⟩ ?_ 4000 (fun _ => by simp only [fr_len, List.length_replicate]; decide) ?_
       · exact Wk.same (by simp only [go_sem]) hok' (Nat.le_succ _) (by simp only [go_sem]; omega)
       · rintro ⟨k, m⟩ ⟨hk, hm1, hm2, hI⟩
         simp only at hk hm1 hm2 hI
         rcases Nat.lt_or_ge k s.size with hkl | hkl
         · have hc := byteAt_rng s k
           have hwc := wrap_u8_i64 hc
           rw [bytesOf_drop s k hkl, ← byteAt_bt] at hI
           obtain ⟨c, hce⟩ : ∃ c, byteAt s (k : Int) = c := ⟨_, rfl⟩
           rw [hce] at hc hwc hI
           simp only [negGo] at hI
           cases hd : digB c with
           | false =>
             rw [hd] at hI
             have hR : readV s = (Val.z, false) := readV_none hN (by unfold refRead; rw [if_neg (by rw [hcl, not_or]; exact hbad), hI]; rfl)
             have hdd : decide (c - 48 < 0) = true ∨ (decide (c - 48 < 0) = false ∧ decide (9 < c - 48) = true) := by
              have : ¬ (48 ≤ c ∧ c ≤ 57) := fun q => by rw [(digB_iff c).2 q] at hd; cases hd
              by_cases h1 : c - 48 < 0
              · left; simp [h1]
              · right; exact ⟨by simp [h1], by simp; omega⟩
             rcases hdd with hd1 | ⟨hd1, hd2⟩
             · repeat' (first | (with_reducible first | refine XG_split (fun hq => ?_) (fun hq => ?_) | refine MX1.of 4000 (by simp) ?_ | refine MX2.of 4000 (by simp) ?_ | refine And.intro ?_ ?_) | ((with_reducible first | refine Or.inl (And.intro (And.intro mixedP ?_) ?_) | refine Or.inl (And.intro mixedP ?_)); kernel_rfl) | simp only [go_sem,Nat.reduceEqDiff,Nat.reduceAdd,Nat.reduceMul,Nat.reduceLeDiff,hce,hwc,hd1,hR,Val.av,Val.z,valBx,decide_eq_true hkl])
               all_goals first | omega | (exact .inr (by omega)) | (exact .inl (by simp)) | skip
             · repeat' (first | (with_reducible first | refine XG_split (fun hq => ?_) (fun hq => ?_) | refine MX1.of 4000 (by simp) ?_ | refine MX2.of 4000 (by simp) ?_ | refine And.intro ?_ ?_) | ((with_reducible first | refine Or.inl (And.intro (And.intro mixedP ?_) ?_) | refine Or.inl (And.intro mixedP ?_)); kernel_rfl) | simp only [go_sem,Nat.reduceEqDiff,Nat.reduceAdd,Nat.reduceMul,Nat.reduceLeDiff,hce,hwc,hd1,hd2,hR,Val.av,Val.z,valBx,decide_eq_true hkl])
               all_goals first | omega | (exact .inr (by omega)) | (exact .inl (by simp)) | skip
           | true =>
             have hd3 := (digB_iff c).1 hd
             have hd1 : decide (c - 48 < 0) = false := by simp; omega
             have hd2 : decide (9 < c - 48) = false := by simp; omega
             have htd := tdiv_low (c - 48) (by omega) (by omega)
             have hw : IntKind.wrap .i64 (Int.tdiv (-9223372036854775808 + (c - 48)) 10) = Int.tdiv (-9223372036854775808 + (c - 48)) 10 := by rw [htd, IntKind.wrap_i64]; omega
             rw [hd, if_pos rfl] at hI
             cases hd4 : decide (m < Int.tdiv (-9223372036854775808 + (c - 48)) 10) with
             | true =>
               have hd5 : m < Int.tdiv (-9223372036854775808 + (c - 48)) 10 := of_decide_eq_true hd4
               have hR : readV s = (Val.z, false) := readV_none hN (by unfold refRead; rw [if_neg (by rw [hcl, not_or]; exact hbad), hI, if_pos hd5])
               repeat' (first | (with_reducible first | refine XG_split (fun hq => ?_) (fun hq => ?_) | refine MX1.of 4000 (by simp) ?_ | refine MX2.of 4000 (by simp) ?_ | refine And.intro ?_ ?_) | ((with_reducible first | refine Or.inl (And.intro (And.intro mixedP ?_) ?_) | refine Or.inl (And.intro mixedP ?_)); kernel_rfl) | simp only [go_sem,Nat.reduceEqDiff,Nat.reduceAdd,Nat.reduceMul,Nat.reduceLeDiff,hce,hwc,hd1,hd2,hd4,hw,hR,Val.av,Val.z,valBx,decide_eq_true hkl])
               all_goals first | omega | (exact .inr (by omega)) | (exact .inl (by simp)) | skip
             | false =>
               have hd5 : ¬ m < Int.tdiv (-9223372036854775808 + (c - 48)) 10 := of_decide_eq_false hd4
               rw [if_neg hd5] at hI
               repeat' (first | (with_reducible first | refine XG_split (fun hq => ?_) (fun hq => ?_) | refine MX1.of 4000 (by simp) ?_ | refine MX2.of 4000 (by simp) ?_ | refine And.intro ?_ ?_) | ((with_reducible first | refine Or.inl (And.intro (And.intro mixedP ?_) ?_) | refine Or.inl (And.intro mixedP ?_)); kernel_rfl) | simp only [go_sem,Nat.reduceEqDiff,Nat.reduceAdd,Nat.reduceMul,Nat.reduceLeDiff,hce,hwc,hd1,hd2,hd4,hw,Val.av,Val.z,valBx,decide_eq_true hkl])
               all_goals first | omega | (exact .inr (by omega)) | (exact .inl (by simp)) | skip
               exact ⟨(k + 1, m * 10 - (c - 48)), ⟨by show k + 1 ≤ s.size; omega, by show m * 10 - (c - 48) ≤ 0; omega, by show -9223372036854775808 ≤ m * 10 - (c - 48); omega, hI⟩, Wk.same (by simp only [go_sem]) hok' (Nat.le_succ _) (by simp only [go_sem]; omega), by show s.size - (k + 1) < s.size - k; omega⟩
         · obtain rfl : k = s.size := by omega
           have hnil : (bytesOf s).drop s.size = [] := by rw [List.drop_eq_nil_iff, bytesOf_length]; exact Nat.le_refl _
           rw [hnil, negGo] at hI
           have hng : negB s = true := by rcases wneg with ⟨q, _⟩ | ⟨_, q⟩; exact q; omega
           cases ht : (numText m).toList == s.toList with
           | true =>
             have hR := readV_some (n := m) hN (by unfold refRead; rw [if_neg (by rw [hcl, not_or]; exact hbad), hI]; simp only [hng, ht, Bool.true_eq_false, false_and, if_false, if_true])
             repeat' (first | (with_reducible first | refine XG_split (fun hq => ?_) (fun hq => ?_) | refine MX1.of 4000 (by simp) ?_ | refine MX2.of 4000 (by simp) ?_ | refine And.intro ?_ ?_) | ((with_reducible first | refine Or.inl (And.intro (And.intro mixedP ?_) ?_) | refine Or.inl (And.intro mixedP ?_)); kernel_rfl) | simp only [go_sem,Nat.reduceEqDiff,Nat.reduceAdd,Nat.reduceMul,Nat.reduceLeDiff,ht,hR,Val.av,Val.z,valBx,Nat.lt_irrefl,decide_false,Int.reduceBEq])
             all_goals first | omega | (exact .inr (by omega)) | (exact .inl (by simp)) | skip
           | false =>
             have hR := readV_none hN (by unfold refRead; rw [if_neg (by rw [hcl, not_or]; exact hbad), hI]; simp only [hng, ht, Bool.true_eq_false, Bool.false_eq_true, false_and, if_false, if_true])
             repeat' (first | (with_reducible first | refine XG_split (fun hq => ?_) (fun hq => ?_) | refine MX1.of 4000 (by simp) ?_ | refine MX2.of 4000 (by simp) ?_ | refine And.intro ?_ ?_) | ((with_reducible first | refine Or.inl (And.intro (And.intro mixedP ?_) ?_) | refine Or.inl (And.intro mixedP ?_)); kernel_rfl) | simp only [go_sem,Nat.reduceEqDiff,Nat.reduceAdd,Nat.reduceMul,Nat.reduceLeDiff,ht,hR,Val.av,Val.z,valBx,Nat.lt_irrefl,decide_false,Int.reduceBEq])
             all_goals first | omega | (exact .inr (by omega)) | (exact .inl (by simp)) | skip
     · subst k3
       repeat' (first | (with_reducible first | refine XG_split (fun hq => ?_) (fun hq => ?_) | refine MX1.of 4000 (by simp) ?_ | refine MX2.of 4000 (by simp) ?_ | refine And.intro ?_ ?_) | ((with_reducible first | refine Or.inl (And.intro (And.intro mixedP ?_) ?_) | refine Or.inl (And.intro mixedP ?_)); kernel_rfl) | simp only [go_sem,Nat.reduceEqDiff,Nat.reduceAdd,Nat.reduceMul,Nat.reduceLeDiff,hN,k1,k2,hb,hb'])
       all_goals first | omega | (exact .inr (by omega)) | (exact .inl (by simp)) | skip
       refine AW.loopJ (E := EqT.no _) (S := fun x : Nat × Int => ⟨fr [(0, vS s), (2, .p n0 0), (3, vB false), (4, vI 0), (5, vI x.2), (6, vI x.1)] (List.replicate 74 .any), upd h n0 (.box (valBx Val.z)), n0, n0 + 1⟩)
        (I := fun x => x.1 ≤ s.size ∧ x.2 ≤ 0 ∧ -9223372036854775808 ≤ x.2 ∧ negGo 0 (bytesOf (cutS s)) = negGo x.2 ((bytesOf s).drop x.1)) (μ := fun x => s.size - x.1) (0, 0) ⟨hats, Int.le_refl _, by decide, hgo0⟩ ?_ 4000 (fun _ => by simp only [fr_len, List.length_replicate]; decide) ?_
       · exact Wk.same (by simp only [go_sem]) hok' (Nat.le_succ _) (by simp only [go_sem]; omega)
       · rintro ⟨k, m⟩ ⟨hk, hm1, hm2, hI⟩
         simp only at hk hm1 hm2 hI
         rcases Nat.lt_or_ge k s.size with hkl | hkl
         · have hc := byteAt_rng s k
           have hwc := wrap_u8_i64 hc
           rw [bytesOf_drop s k hkl, ← byteAt_bt] at hI
           obtain ⟨c, hce⟩ : ∃ c, byteAt s (k : Int) = c := ⟨_, rfl⟩
           rw [hce] at hc hwc hI
           simp only [negGo] at hI
           cases hd : digB c with
           | false =>
             rw [hd] at hI
             have hR : readV s = (Val.z, false) := readV_none hN (by unfold refRead; rw [if_neg (by rw [hcl, not_or]; exact hbad), hI]; rfl)
             have hdd : decide (c - 48 < 0) = true ∨ (decide (c - 48 < 0) = false ∧ decide (9 < c - 48) = true) := by
              have : ¬ (48 ≤ c ∧ c ≤ 57) := fun q => by rw [(digB_iff c).2 q] at hd; cases hd
              by_cases h1 : c - 48 < 0
              · left; simp [h1]
              · right; exact ⟨by simp [h1], by simp; omega⟩
             rcases hdd with hd1 | ⟨hd1, hd2⟩
             · repeat' (first | (with_reducible first | refine XG_split (fun hq => ?_) (fun hq => ?_) | refine MX1.of 4000 (by simp) ?_ | refine MX2.of 4000 (by simp) ?_ | refine And.intro ?_ ?_) | ((with_reducible first | refine Or.inl (And.intro (And.intro mixedP ?_) ?_) | refine Or.inl (And.intro mixedP ?_)); kernel_rfl) | simp only [go_sem,Nat.reduceEqDiff,Nat.reduceAdd,Nat.reduceMul,Nat.reduceLeDiff,hce,hwc,hd1,hR,Val.av,Val.z,valBx,decide_eq_true hkl])
               all_goals first | omega | (exact .inr (by omega)) | (exact .inl (by simp)) | skip
             · repeat' (first | (with_reducible first | refine XG_split (fun hq => ?_) (fun hq => ?_) | refine MX1.of 4000 (by simp) ?_ | refine MX2.of 4000 (by simp) ?_ | refine And.intro ?_ ?_) | ((with_reducible first | refine Or.inl (And.intro (And.intro mixedP ?_) ?_) | refine Or.inl (And.intro mixedP ?_)); kernel_rfl) | simp only [go_sem,Nat.reduceEqDiff,Nat.reduceAdd,Nat.reduceMul,Nat.reduceLeDiff,hce,hwc,hd1,hd2,hR,Val.av,Val.z,valBx,decide_eq_true hkl])
               all_goals first | omega | (exact .inr (by omega)) | (exact .inl (by simp)) | skip
           | true =>
             have hd3 := (digB_iff c).1 hd
             have hd1 : decide (c - 48 < 0) = false := by simp; omega
             have hd2 : decide (9 < c - 48) = false := by simp; omega
             have htd := tdiv_low (c - 48) (by omega) (by omega)
             have hw : IntKind.wrap .i64 (Int.tdiv (-9223372036854775808 + (c - 48)) 10) = Int.tdiv (-9223372036854775808 + (c - 48)) 10 := by rw [htd, IntKind.wrap_i64]; omega
             rw [hd, if_pos rfl] at hI
             cases hd4 : decide (m < Int.tdiv (-9223372036854775808 + (c - 48)) 10) with
             | true =>
               have hd5 : m < Int.tdiv (-9223372036854775808 + (c - 48)) 10 := of_decide_eq_true hd4
               have hR : readV s = (Val.z, false) := readV_none hN (by unfold refRead; rw [if_neg (by rw [hcl, not_or]; exact hbad), hI, if_pos hd5])
               repeat' (first | (with_reducible first | refine XG_split (fun hq => ?_) (fun hq => ?_) | refine MX1.of 4000 (by simp) ?_ | refine MX2.of 4000 (by simp) ?_ | refine And.intro ?_ ?_) | ((with_reducible first | refine Or.inl (And.intro (And.intro mixedP ?_) ?_) | refine Or.inl (And.intro mixedP ?_)); kernel_rfl) | simp only [go_sem,Nat.reduceEqDiff,Nat.reduceAdd,Nat.reduceMul,Nat.reduceLeDiff,hce,hwc,hd1,hd2,hd4,hw,hR,Val.av,Val.z,valBx,decide_eq_true hkl])
               all_goals first | omega | (exact .inr (by omega)) | (exact .inl (by simp)) | skip
             | false =>
               have hd5 : ¬ m < Int.tdiv (-9223372036854775808 + (c - 48)) 10 := of_decide_eq_false hd4
               rw [if_neg hd5] at hI
               repeat' (first | (with_reducible first | refine XG_split (fun hq => ?_) (fun hq => ?_) | refine MX1.of 4000 (by simp) ?_ | refine MX2.of 4000 (by simp) ?_ | refine And.intro ?_ ?_) | ((with_reducible first | refine Or.inl (And.intro (And.intro mixedP ?_) ?_) | refine Or.inl (And.intro mixedP ?_)); kernel_rfl) | simp only [go_sem,Nat.reduceEqDiff,Nat.reduceAdd,Nat.reduceMul,Nat.reduceLeDiff,hce,hwc,hd1,hd2,hd4,hw,Val.av,Val.z,valBx,decide_eq_true hkl])
               all_goals first | omega | (exact .inr (by omega)) | (exact .inl (by simp)) | skip
               exact ⟨(k + 1, m * 10 - (c - 48)), ⟨by show k + 1 ≤ s.size; omega, by show m * 10 - (c - 48) ≤ 0; omega, by show -9223372036854775808 ≤ m * 10 - (c - 48); omega, hI⟩, Wk.same (by simp only [go_sem]) hok' (Nat.le_succ _) (by simp only [go_sem]; omega), by show s.size - (k + 1) < s.size - k; omega⟩
         · obtain rfl : k = s.size := by omega
           have hnil : (bytesOf s).drop s.size = [] := by rw [List.drop_eq_nil_iff, bytesOf_length]; exact Nat.le_refl _
           rw [hnil, negGo] at hI
           have hng : negB s = false := by rcases wneg with ⟨_, q⟩ | ⟨q, _⟩; omega; exact q
           by_cases hm63 : m = -9223372036854775808
           · have h63 : (m == -9223372036854775808) = true := by simp [hm63]
             have hR := readV_none hN (by unfold refRead; rw [if_neg (by rw [hcl, not_or]; exact hbad), hI]; simp only [hng, hm63, and_self, if_true])
             repeat' (first | (with_reducible first | refine XG_split (fun hq => ?_) (fun hq => ?_) | refine MX1.of 4000 (by simp) ?_ | refine MX2.of 4000 (by simp) ?_ | refine And.intro ?_ ?_) | ((with_reducible first | refine Or.inl (And.intro (And.intro mixedP ?_) ?_) | refine Or.inl (And.intro mixedP ?_)); kernel_rfl) | simp only [go_sem,Nat.reduceEqDiff,Nat.reduceAdd,Nat.reduceMul,Nat.reduceLeDiff,h63,hR,Val.av,Val.z,valBx,Nat.lt_irrefl,decide_false,Int.reduceBEq])
             all_goals first | omega | (exact .inr (by omega)) | (exact .inl (by simp)) | skip
           · have h63 : (m == -9223372036854775808) = false := by simp [hm63]
             cases ht : (numText (0 - m)).toList == s.toList with
             | true =>
               have hR := readV_some (n := 0 - m) hN (by unfold refRead; rw [if_neg (by rw [hcl, not_or]; exact hbad), hI]; simp only [hng, hm63, ht, Bool.false_eq_true, and_false, if_false, if_true])
               repeat' (first | (with_reducible first | refine XG_split (fun hq => ?_) (fun hq => ?_) | refine MX1.of 4000 (by simp) ?_ | refine MX2.of 4000 (by simp) ?_ | refine And.intro ?_ ?_) | ((with_reducible first | refine Or.inl (And.intro (And.intro mixedP ?_) ?_) | refine Or.inl (And.intro mixedP ?_)); kernel_rfl) | simp only [go_sem,Nat.reduceEqDiff,Nat.reduceAdd,Nat.reduceMul,Nat.reduceLeDiff,h63,ht,hR,Val.av,Val.z,valBx,Nat.lt_irrefl,decide_false,Int.reduceBEq])
               all_goals first | omega | (exact .inr (by omega)) | (exact .inl (by simp)) | skip
             | false =>
               have hR := readV_none hN (by unfold refRead; rw [if_neg (by rw [hcl, not_or]; exact hbad), hI]; simp only [hng, hm63, ht, Bool.false_eq_true, and_false, if_false])
               repeat' (first | (with_reducible first | refine XG_split (fun hq => ?_) (fun hq => ?_) | refine MX1.of 4000 (by simp) ?_ | refine MX2.of 4000 (by simp) ?_ | refine And.intro ?_ ?_) | ((with_reducible first | refine Or.inl (And.intro (And.intro mixedP ?_) ?_) | refine Or.inl (And.intro mixedP ?_)); kernel_rfl) | simp only [go_sem,Nat.reduceEqDiff,Nat.reduceAdd,Nat.reduceMul,Nat.reduceLeDiff,h63,ht,hR,Val.av,Val.z,valBx,Nat.lt_irrefl,decide_false,Int.reduceBEq])
               all_goals first | omega | (exact .inr (by omega)) | (exact .inl (by simp)) | skip
     · subst k3
       exfalso
       have := of_decide_eq_false k1
       omega
end Go.Proofs.YtfhpecgknmfnnaaGreatDoor.M
end
section
namespace Go.Proofs.YtfhpecgknmfnnaaGreatDoor.M
open Go.R
def zeroCA : List AV := [.d (.v (.int .u8 0)), .d (.v (.string ⟨#[]⟩)), .d (.v (.string ⟨#[]⟩)), .d (.v (.int .i64 0)), .d (.v (.string ⟨#[]⟩)), .d (.v (.slice none 0 0)), .d (.v (.slice none 0 0))]
theorem dnat1 {a b : Nat} (h : a + 1 < b) : decide (((a : Int) + 1) < (b : Int)) = true := decide_eq_true (by omega)
theorem toNat1 (a : Nat) : ((a : Int) + 1).toNat = a + 1 := by omega
end Go.Proofs.YtfhpecgknmfnnaaGreatDoor.M
end
section
namespace Go.Proofs.YtfhpecgknmfnnaaGreatDoor.M
open Go.R
def strRow (s : ByteArray) : List DV := [.v (.string s)]
def cStr : List DV → Option ByteArray
 | [.v (.string s)] => some s
 | _ => none
theorem cStr_row (s : ByteArray) : cStr (strRow s) = some s := rfl
theorem cStr_eq {c : List DV} {s : ByteArray} (h : cStr c = some s) : c = strRow s := by
 unfold cStr at h
 split at h
 · cases h; rfl
 · cases h
@[go_sem] theorem dStrs (l : List ByteArray) : dRows cStr (l.map strRow) = some l := dRows_map cStr_row l
end Go.Proofs.YtfhpecgknmfnnaaGreatDoor.M
end
section
namespace Go.Proofs.YtfhpecgknmfnnaaGreatDoor.M
open Go.R Go.Proofs.YtfhpecgknmfnnaaGreatDoorW.PrintWords Go.Proofs.YtfhpecgknmfnnaaGreatDoorW.PrintMore
theorem tl_eq (a b : ByteArray) : (a.toList == b.toList) = decide (bytesOf a = bytesOf b) := by
 rw [Bool.eq_iff_iff, beq_iff_eq, decide_eq_true_eq]
 exact ⟨fun h => by rw [toList_injA h], fun h => by rw [bytesOf_inj h]⟩
theorem bytesOf_cut (s : ByteArray) (p n : Nat) : bytesOf (s.extract p (p + n)) = ((bytesOf s).drop p).take n := by
 rw [bytesOf_extract, List.drop_take]
 congr 1
 omega
def smatch (s : ByteArray) (p : Nat) (x : ByteArray) : Bool := decide ((x.size : Int) ≤ (s.size : Int) - (p : Int)) && (s.extract p (p + x.size)).toList == x.toList
def sgn : List ByteArray := [⟨#[58, 45]⟩, ⟨#[33, 61]⟩, ⟨#[40]⟩, ⟨#[41]⟩, ⟨#[44]⟩, ⟨#[46]⟩, ⟨#[60]⟩]
theorem smatch1 {s : ByteArray} {p : Nat} (hp : p < s.size) (b : UInt8) : smatch s p ⟨#[b]⟩ = (bt s p == (b.toNat : Int)) := by
 unfold smatch
 have e1 : (⟨#[b]⟩ : ByteArray).size = 1 := rfl
 have e2 : bytesOf (⟨#[b]⟩ : ByteArray) = [(b.toNat : Int)] := rfl
 rw [tl_eq, e1, bytesOf_cut, bytesOf_drop s p hp, e2, List.take_succ_cons, List.take_zero]
 have : decide (((1 : Nat) : Int) ≤ (s.size : Int) - (p : Int)) = true := decide_eq_true (by omega)
 rw [this, Bool.eq_iff_iff]
 simp
theorem smatch2 {s : ByteArray} {p : Nat} (hp : p < s.size) (b c : UInt8) : smatch s p ⟨#[b, c]⟩ = (bt s p == (b.toNat : Int) && nxt s p == (c.toNat : Int)) := by
 unfold smatch nxt
 have e1 : (⟨#[b, c]⟩ : ByteArray).size = 2 := rfl
 have e2 : bytesOf (⟨#[b, c]⟩ : ByteArray) = [(b.toNat : Int), (c.toNat : Int)] := rfl
 rw [tl_eq, e1, bytesOf_cut, bytesOf_drop s p hp, e2]
 by_cases h : p + 1 < s.size
 · have : decide (((2 : Nat) : Int) ≤ (s.size : Int) - (p : Int)) = true := decide_eq_true (by omega)
   rw [this, if_pos h, bytesOf_drop s (p + 1) h, List.take_succ_cons, List.take_succ_cons, List.take_zero, Bool.eq_iff_iff]
   simp
 · have : decide (((2 : Nat) : Int) ≤ (s.size : Int) - (p : Int)) = false := decide_eq_false (by omega)
   have hc : (0 : Int) ≤ (c.toNat : Int) := by omega
   rw [this, if_neg h, Bool.eq_iff_iff]
   simp
theorem nblank {s : ByteArray} {p : Nat} (hp : p < s.size) : ¬ s.size ≤ p := Nat.not_le.2 hp
theorem sgn_hit {s : ByteArray} {p : Nat} (hp : p < s.size) {x : ByteArray} (hx : x ∈ sgn) (hm : smatch s p x = true) : oneT s p = (⟨4, p, p + (x.size : Int)⟩, 0) := by
 unfold oneT
 rw [if_neg (nblank hp)]
 unfold sgn at hx
 have one : ∀ b : UInt8, x = ⟨#[b]⟩ → bt s p = (b.toNat : Int) := fun b e => by
  rw [e, smatch1 hp] at hm
  simpa using hm
 have two : ∀ b c : UInt8, x = ⟨#[b, c]⟩ → bt s p = (b.toNat : Int) ∧ nxt s p = (c.toNat : Int) := fun b c e => by
  rw [e, smatch2 hp] at hm
  simpa using hm
 simp only [List.mem_cons, List.not_mem_nil, or_false] at hx
 rcases hx with e | e | e | e | e | e | e
 · obtain ⟨h1, h2⟩ := two _ _ e; subst e; simp [h1, h2, pieceB, lowB, uppB, digB]; rfl
 · obtain ⟨h1, h2⟩ := two _ _ e; subst e; simp [h1, h2, pieceB, lowB, uppB, digB]; rfl
 all_goals (have h1 := one _ e; subst e; simp [h1, pieceB, lowB, uppB, digB]; rfl)
theorem sortK_empty {p : ByteArray} (h : p.size = 0) : sortK p = 0 := by
 have : p = ⟨#[]⟩ := size_zero_nil h
 subst this
 decide +kernel
theorem pieceTok_empty (s : ByteArray) (p : Nat) : pieceTok s p p = (Tok.z, 5) := by
 unfold pieceTok
 rw [if_pos (sortK_empty (by simp))]
def refTo (s : ByteArray) (p : Nat) : Nat := if bt s p == 45 && digB (nxt s p) then runTo s (p + 1) else runTo s p
theorem sgn_miss {s : ByteArray} {p : Nat} (hp : p < s.size) (hb : (bt s p == 32 || bt s p == 9) = false) (hm : ∀ x ∈ sgn, smatch s p x = false) : oneT s p = pieceTok s p (refTo s p) := by
 have m1 : ∀ b : UInt8, (⟨#[b]⟩ : ByteArray) ∈ sgn → (bt s p == (b.toNat : Int)) = false := fun b h => by rw [← smatch1 hp]; exact hm _ h
 have m2 : ∀ b c : UInt8, (⟨#[b, c]⟩ : ByteArray) ∈ sgn → (bt s p == (b.toNat : Int) && nxt s p == (c.toNat : Int)) = false := fun b c h => by rw [← smatch2 hp]; exact hm _ h
 have a1 := m2 58 45 (by simp [sgn])
 have a2 := m2 33 61 (by simp [sgn])
 have a3 := m1 40 (by simp [sgn])
 have a4 := m1 41 (by simp [sgn])
 have a5 := m1 44 (by simp [sgn])
 have a6 := m1 46 (by simp [sgn])
 have a7 := m1 60 (by simp [sgn])
 replace a1 : (bt s p == 58 && nxt s p == 45) = false := a1
 replace a2 : (bt s p == 33 && nxt s p == 61) = false := a2
 replace a3 : (bt s p == 40) = false := a3
 replace a4 : (bt s p == 41) = false := a4
 replace a5 : (bt s p == 44) = false := a5
 replace a6 : (bt s p == 46) = false := a6
 replace a7 : (bt s p == 60) = false := a7
 unfold oneT refTo
 rw [if_neg (nblank hp)]
 simp only [hb, a1, a2, a3, a4, a5, a6, a7, Bool.or_self, Bool.false_eq_true, if_false]
 by_cases h45 : bt s p = 45
 · rw [if_pos (by simp [h45])]
   cases hd : digB (nxt s p) with
   | true => rw [if_pos rfl, if_pos (by simp [h45])]
   | false =>
     rw [if_neg (by simp), if_neg (by simp), runTo_stop s p hp (by rw [h45]; rfl), pieceTok_empty]
 · rw [if_neg (by simpa using h45), if_neg (show ¬ (bt s p == 45 && digB (nxt s p)) = true by simp [h45])]
   cases hp2 : pieceB (bt s p) with
   | true => rw [if_pos rfl, runTo_step s p hp hp2]
   | false => rw [if_neg (by simp), runTo_stop s p hp hp2, pieceTok_empty]
theorem oneT_blank {s : ByteArray} {p : Nat} (hp : p < s.size) (hb : (bt s p == 32 || bt s p == 9) = true) : oneT s p = (Tok.z, 4) := by
 unfold oneT
 rw [if_neg (nblank hp)]
 simp only [hb, if_true]
end Go.Proofs.YtfhpecgknmfnnaaGreatDoor.M
end
section
namespace Go.Proofs.YtfhpecgknmfnnaaGreatDoor.M
open Go.R Go.Proofs.YtfhpecgknmfnnaaGreatDoorW.PrintWords Go.Proofs.YtfhpecgknmfnnaaGreatDoorW.PrintMore
theorem bs_not : (⟨#[110, 111, 116]⟩ : ByteArray).toList = [110, 111, 116] := by rw [toList_eq]
theorem bs_says : (⟨#[115, 97, 121, 115]⟩ : ByteArray).toList = [115, 97, 121, 115] := by rw [toList_eq]
abbrev refKindS : Fs := .pure (g1 aStr fun s => .d (.v (.int .u8 (sortK s))))
def Tok.av (t : Tok) : AV := .agg [.d (.v (.int .u8 t.kind)), .d (.v (.int .i64 t.lo)), .d (.v (.int .i64 t.hi))]
abbrev refOneS : Fs := .pureIf (g2p aStr aI64 fun s p => (s.size : Int) ≤ 4611686018427387904 ∧ 0 ≤ p ∧ p < (s.size : Int)) (g2 aStr aI64 fun s p => .tup [(oneT s p.toNat).1.av, vI (oneT s p.toNat).2])
abbrev refAllS : Fs := .pureIf (g1p aStr fun s => (s.size : Int) ≤ 9223372036854775807) (g1 aStr fun s => .tup [.d (.sl 3 ((allT s).1.map Tok.cells)), vI (allT s).2.1, vI (allT s).2.2])
abbrev tokBx (t : Tok) : List AV := [.d (.v (.int .u8 t.kind)), .d (.v (.int .i64 t.lo)), .d (.v (.int .i64 t.hi))]
set_option maxHeartbeats 2000000 in
theorem refKind_ok : FsOk Tryz.prog 83 refKindS := by
 refine of_X1 (E := EqT.no _) (F := (Ft.no.put 32 refNameS).put 50 readS) vS (fun _ _ => aStr_le) Tryz.func83 rfl (by kernel_rfl) [.tmp 2] rfl Tryz.ntmps83 (by decide) (((FtOk.no _).put refName_ok).put refRead_ok) ?_
 intro s h n hok
 repeat' (first | (with_reducible first | refine XG_split (fun hq => ?_) (fun hq => ?_) | refine MX1.of 4000 (by simp) ?_ | refine MX2.of 4000 (by simp) ?_ | refine And.intro ?_ ?_) | ((with_reducible first | refine Or.inl (And.intro (And.intro mixedP ?_) ?_) | refine Or.inl (And.intro mixedP ?_)); kernel_rfl) | simp only [go_sem,Nat.reduceEqDiff,Nat.reduceAdd,Nat.reduceMul,Nat.reduceLeDiff,Int.reduceBEq,Val.av])
 all_goals first | omega | (unfold maxLen; omega) | (right; omega) | (left; simp; done) | (simp only [wk3,wkL2,wk2,wkL,wk1_d,wk1_own,wk1_nil,and_self]; done) | (intro i hi; simp only [upd]; (repeat' split); all_goals first | rfl | omega) | skip
 all_goals try (refine wk_v (congrArg (Value.int .u8) ?_))
 all_goals first | (simp only [bs_not, bs_says] at *; simp only [sortK, uppB, ← byteAt_bt, dlek', *, Bool.and_true, Bool.and_false, Bool.false_and, Bool.true_and, Bool.or_self, Bool.or_true, Bool.true_or, Bool.false_eq_true, if_true, if_false, reduceIte]; done) | (simp only [bs_not, bs_says, decide_eq_true_eq, decide_eq_false_iff_not] at *; simp [sortK, uppB, ← byteAt_bt, *]; done) | (simp only [bs_not, bs_says] at *; simp [sortK, uppB, ← byteAt_bt, *]; done) | (simp only [decide_eq_true_eq, decide_eq_false_iff_not] at *; omega) | skip
set_option maxRecDepth 10000 in
set_option maxHeartbeats 4000000 in
theorem refOne_ok : FsOk Tryz.prog 49 refOneS := by
 refine of_Y2 (E := EqT.no _) (F := (Ft.no.put 82 inS).put 83 refKindS) vS vI (fun _ _ => aStr_le) (fun _ _ => aI64_le) Tryz.func49 rfl (by kernel_rfl) [.cell 4 84, .tmp 5] rfl Tryz.ntmps49 (by decide) (((FtOk.no _).put in_ok).put refKind_ok) ?_
 intro s p0 h n hp hok
 obtain ⟨hsz, hp0, hp1⟩ := hp
 obtain ⟨p, rfl⟩ := Int.eq_ofNat_of_zero_le hp0
 have hps : p < s.size := by omega
 have hb0 : decide ((p : Int) < 0) = false := decide_eq_false (by omega)
 have hb1 : decide (s.size ≤ p) = false := decide_eq_false (by omega)
 have hok' : HOk (n + 1) (upd h n (.box (tokBx Tok.z))) := (hok.mono (Nat.le_succ n)).upd_box (Nat.lt_succ_self n) (by simp only [go_sem])
 have hT : ((p : Int)).toNat = p := Int.toNat_natCast p
 rcases hbl : (byteAt s p == 32) with _ | _
 case true =>
  have hO := oneT_blank hps (by rw [← byteAt_bt, hbl]; rfl)
  repeat' (first | (with_reducible first | refine XG_split (fun hq => ?_) (fun hq => ?_) | refine MX1.of 4000 (by simp) ?_ | refine MX2.of 4000 (by simp) ?_ | refine And.intro ?_ ?_) | ((with_reducible first | refine Or.inl (And.intro (And.intro mixedP ?_) ?_) | refine Or.inl (And.intro mixedP ?_)); kernel_rfl) | simp only [go_sem,Nat.reduceEqDiff,Nat.reduceAdd,Nat.reduceMul,Nat.reduceLeDiff,Int.reduceBEq,hb0,hb1,hbl,hO,hT,Tok.av,Tok.z])
  all_goals first | omega | (unfold maxLen; omega) | (right; omega) | (left; simp; done) | (simp only [wk3,wkL2,wk2,wkL,wk1_d,wk1_own,wk1_nil,and_self]; done) | (intro i hi; simp only [upd]; (repeat' split); all_goals first | rfl | omega) | skip
 rcases hbl2 : (byteAt s p == 9) with _ | _
 case true =>
  have hO := oneT_blank hps (by rw [← byteAt_bt, hbl2]; simp)
  repeat' (first | (with_reducible first | refine XG_split (fun hq => ?_) (fun hq => ?_) | refine MX1.of 4000 (by simp) ?_ | refine MX2.of 4000 (by simp) ?_ | refine And.intro ?_ ?_) | ((with_reducible first | refine Or.inl (And.intro (And.intro mixedP ?_) ?_) | refine Or.inl (And.intro mixedP ?_)); kernel_rfl) | simp only [go_sem,Nat.reduceEqDiff,Nat.reduceAdd,Nat.reduceMul,Nat.reduceLeDiff,Int.reduceBEq,hb0,hb1,hbl,hbl2,hO,hT,Tok.av,Tok.z])
  all_goals first | omega | (unfold maxLen; omega) | (right; omega) | (left; simp; done) | (simp only [wk3,wkL2,wk2,wkL,wk1_d,wk1_own,wk1_nil,and_self]; done) | (intro i hi; simp only [upd]; (repeat' split); all_goals first | rfl | omega) | skip
 repeat' (first | (with_reducible first | refine XG_split (fun hq => ?_) (fun hq => ?_) | refine MX1.of 4000 (by simp) ?_ | refine MX2.of 4000 (by simp) ?_ | refine And.intro ?_ ?_) | ((with_reducible first | refine Or.inl (And.intro (And.intro mixedP ?_) ?_) | refine Or.inl (And.intro mixedP ?_)); kernel_rfl) | simp only [go_sem,Nat.reduceEqDiff,Nat.reduceAdd,Nat.reduceMul,Nat.reduceLeDiff,Int.reduceBEq,hb0,hb1,hbl,hbl2])
 all_goals first | omega | (unfold maxLen; omega) | (right; omega) | (left; simp; done) | (simp only [wk3,wkL2,wk2,wkL,wk1_d,wk1_own,wk1_nil,and_self]; done) | (intro i hi; simp only [upd]; (repeat' split); all_goals first | rfl | omega) | skip
 refine AW.loopJ (E := EqT.no _) (S := fun i : Nat => ⟨fr [(0, vS s), (1, vI p), (4, .p n 0), (5, vI 0), (6, .d (.sl 1 (sgn.map strRow))), (7, vI i)] (List.replicate 119 .any), upd h n (.box (tokBx Tok.z)), n, n + 1⟩)
  (I := fun i => i ≤ 7 ∧ ∀ x ∈ sgn.take i, smatch s p x = false) (μ := fun i => 7 - i) 0 ⟨Nat.zero_le _, fun x hx => by simp at hx⟩ ?_ 4000 (fun _ => by simp only [fr_len, List.length_replicate]; decide) ?_
 · exact Wk.same (by simp only [go_sem, strRow, sgn]) hok' (Nat.le_succ _) (by simp only [go_sem]; omega)
 · rintro i ⟨hi, hI⟩
   have hlen : sgn.length = 7 := rfl
   rcases Nat.lt_or_ge i sgn.length with hil | hil
   · have hmem : sgn[i] ∈ sgn := List.getElem_mem hil
     cases hm : smatch s p sgn[i] with
     | true =>
       have hO := sgn_hit hps hmem hm
       have hsm := hm
       unfold smatch at hsm
       simp only [Bool.and_eq_true] at hsm
       obtain ⟨hs1, hs2⟩ := hsm
       have hs3 := of_decide_eq_true hs1
       have hs4 : p + sgn[i].size ≤ s.size := by omega
       repeat' (first | (with_reducible first | refine XG_split (fun hq => ?_) (fun hq => ?_) | refine MX1.of 4000 (by simp) ?_ | refine MX2.of 4000 (by simp) ?_ | refine And.intro ?_ ?_) | ((with_reducible first | refine Or.inl (And.intro (And.intro mixedP ?_) ?_) | refine Or.inl (And.intro mixedP ?_)); kernel_rfl) | simp only [go_sem,Nat.reduceEqDiff,Nat.reduceAdd,Nat.reduceMul,Nat.reduceLeDiff,Int.reduceBEq,Tok.z,tokBx,dlt,decide_eq_true hil,List.getElem?_eq_getElem hil,strRow,hs1,hs2,hO,hT,toNat_add,Tok.av])
       all_goals first | omega | (unfold maxLen; omega) | (right; omega) | (left; simp; done) | (simp only [wk3,wkL2,wk2,wkL,wk1_d,wk1_own,wk1_nil,and_self]; done) | (intro i hi; simp only [upd]; (repeat' split); all_goals first | rfl | omega) | skip
     | false =>
       unfold smatch at hm
       cases hs1 : decide ((sgn[i].size : Int) ≤ (s.size : Int) - (p : Int)) with
       | true =>
         have hs3 := of_decide_eq_true hs1
         have hs4 : p + sgn[i].size ≤ s.size := by omega
         rw [hs1, Bool.true_and] at hm
         repeat' (first | (with_reducible first | refine XG_split (fun hq => ?_) (fun hq => ?_) | refine MX1.of 4000 (by simp) ?_ | refine MX2.of 4000 (by simp) ?_ | refine And.intro ?_ ?_) | ((with_reducible first | refine Or.inl (And.intro (And.intro mixedP ?_) ?_) | refine Or.inl (And.intro mixedP ?_)); kernel_rfl) | simp only [go_sem,Nat.reduceEqDiff,Nat.reduceAdd,Nat.reduceMul,Nat.reduceLeDiff,Int.reduceBEq,Tok.z,tokBx,decide_eq_true hil,List.getElem?_eq_getElem hil,strRow,hs1,hm,hT,toNat_add])
         all_goals first | omega | (unfold maxLen; omega) | (right; omega) | (left; simp; done) | (simp only [wk3,wkL2,wk2,wkL,wk1_d,wk1_own,wk1_nil,and_self]; done) | (intro i hi; simp only [upd]; (repeat' split); all_goals first | rfl | omega) | skip
         exact ⟨i + 1, ⟨by omega, fun x hx => by
          rw [List.take_succ_eq_append_getElem hil, List.mem_append] at hx
          rcases hx with hx | hx
          · exact hI x hx
          · simp only [List.mem_singleton] at hx
            subst hx
            unfold smatch
            rw [hs1, hm]; rfl⟩, Wk.same (by simp only [go_sem]) hok' (Nat.le_succ _) (by simp only [go_sem]; omega), by omega⟩
       | false =>
         repeat' (first | (with_reducible first | refine XG_split (fun hq => ?_) (fun hq => ?_) | refine MX1.of 4000 (by simp) ?_ | refine MX2.of 4000 (by simp) ?_ | refine And.intro ?_ ?_) | ((with_reducible first | refine Or.inl (And.intro (And.intro mixedP ?_) ?_) | refine Or.inl (And.intro mixedP ?_)); kernel_rfl) | simp only [go_sem,Nat.reduceEqDiff,Nat.reduceAdd,Nat.reduceMul,Nat.reduceLeDiff,Int.reduceBEq,Tok.z,tokBx,decide_eq_true hil,List.getElem?_eq_getElem hil,strRow,hs1,hT,toNat_add])
         all_goals first | omega | (unfold maxLen; omega) | (right; omega) | (left; simp; done) | (simp only [wk3,wkL2,wk2,wkL,wk1_d,wk1_own,wk1_nil,and_self]; done) | (intro i hi; simp only [upd]; (repeat' split); all_goals first | rfl | omega) | skip
         exact ⟨i + 1, ⟨by omega, fun x hx => by
          rw [List.take_succ_eq_append_getElem hil, List.mem_append] at hx
          rcases hx with hx | hx
          · exact hI x hx
          · simp only [List.mem_singleton] at hx
            subst hx
            unfold smatch
            rw [hs1]; rfl⟩, Wk.same (by simp only [go_sem]) hok' (Nat.le_succ _) (by simp only [go_sem]; omega), by omega⟩
   · have hall : ∀ x ∈ sgn, smatch s p x = false := fun x hx => hI x (by rw [List.take_of_length_le hil]; exact hx)
     have hO := sgn_miss hps (by rw [← byteAt_bt, hbl, hbl2]; rfl) hall
     have hi7 : i = 7 := by omega
     subst hi7
     have h77 : decide ((7 : Int) < ((sgn.length : Nat) : Int)) = false := rfl
     obtain ⟨q, hq⟩ : ∃ q : Nat, q = if bt s p == 45 && digB (nxt s p) then p + 1 else p := ⟨_, rfl⟩
     have hqT : refTo s p = runTo s q := by
      unfold refTo
      rw [hq]
      split <;> rfl
     have hqs : q ≤ s.size := by rw [hq]; split <;> omega
     have hqp : p ≤ q := by rw [hq]; split <;> omega
     have cs : (byteAt s p == 45) = false ∧ q = p ∨ (byteAt s p == 45) = true ∧ (decide ((p : Int) + 1 < (s.size : Int)) = false ∧ q = p ∨ decide ((p : Int) + 1 < (s.size : Int)) = true ∧ (decide (48 ≤ byteAt s ((p : Int) + 1)) = false ∧ q = p ∨ decide (48 ≤ byteAt s ((p : Int) + 1)) = true ∧ (decide (byteAt s ((p : Int) + 1) ≤ 57) = false ∧ q = p ∨ decide (byteAt s ((p : Int) + 1) ≤ 57) = true ∧ q = p + 1))) := by
      rw [hq, byteAt_bt, byteAt_bt]
      unfold nxt digB
      rw [show ((p + 1 : Nat) : Int) = (p : Int) + 1 by omega]
      cases h1 : bt s p == 45
      · simp
      · by_cases h2 : p + 1 < s.size
        · have h2' : decide ((p : Int) + 1 < (s.size : Int)) = true := decide_eq_true (by omega)
          rw [if_pos h2, h2']
          by_cases h3 : 48 ≤ bt s ((p : Int) + 1)
          · have h3' : ¬ bt s ((p : Int) + 1) < 48 := by omega
            by_cases h4 : bt s ((p : Int) + 1) ≤ 57
            · have h4' : ¬ 57 < bt s ((p : Int) + 1) := by omega
              simp [h3, h4, h3', h4']
            · have h4' : 57 < bt s ((p : Int) + 1) := by omega
              simp [h3, h4, h3', h4']
          · have h3' : bt s ((p : Int) + 1) < 48 := by omega
            simp [h3, h3']
        · have h2' : decide ((p : Int) + 1 < (s.size : Int)) = false := decide_eq_false (by omega)
          rw [if_neg h2, h2']
          simp
     rw [hqT] at hO
     clear hq
     rcases cs with ⟨k1, k5⟩ | ⟨k1, ⟨k2, k5⟩ | ⟨k2, ⟨k3, k5⟩ | ⟨k3, ⟨k4, k5⟩ | ⟨k4, k5⟩⟩⟩⟩
     · have hqv : (q : Int) = p := by omega
       repeat' (first | (with_reducible first | refine XG_split (fun hq => ?_) (fun hq => ?_) | refine MX1.of 4000 (by simp) ?_ | refine MX2.of 4000 (by simp) ?_ | refine And.intro ?_ ?_) | ((with_reducible first | refine Or.inl (And.intro (And.intro mixedP ?_) ?_) | refine Or.inl (And.intro mixedP ?_)); kernel_rfl) | simp only [go_sem,Nat.reduceEqDiff,Nat.reduceAdd,Nat.reduceMul,Nat.reduceLeDiff,Int.reduceBEq,h77,hb0,hb1,hbl,hbl2,tokBx,Tok.z,k1])
       all_goals first | omega | (unfold maxLen; omega) | (right; omega) | (left; simp; done) | (simp only [wk3,wkL2,wk2,wkL,wk1_d,wk1_own,wk1_nil,and_self]; done) | (intro i hi; simp only [upd]; (repeat' split); all_goals first | rfl | omega) | skip
       refine AW.loopJ (E := EqT.no _) (S := fun x : Nat => ⟨fr [(0, vS s), (1, vI p), (4, .p n 0), (5, vI 0), (9, vI x)] (List.replicate 119 .any), upd h n (.box (tokBx Tok.z)), n, n + 1⟩)
        (I := fun x => q ≤ x ∧ x ≤ s.size ∧ runTo s x = runTo s q) (μ := fun x => s.size - x) q ⟨Nat.le_refl _, hqs, rfl⟩ ?_ 4000 (fun _ => by simp only [fr_len, List.length_replicate]; decide) ?_
       · exact Wk.same (by simp only [go_sem, hqv]) hok' (Nat.le_succ _) (by simp only [go_sem]; omega)
       · rintro x ⟨hx1, hx2, hx3⟩
         have hpx : p ≤ x := Nat.le_trans hqp hx1
         have hO2 : x = runTo s q → oneT s p = if sortK (s.extract p x) = 0 then (Tok.z, 5) else (⟨sortK (s.extract p x), p, x⟩, 0) := fun e => by rw [hO, ← e]; rfl
         rcases Nat.lt_or_ge x s.size with hxl | hxl
         · cases hpb : pieceB (byteAt s x) with
           | true =>
             repeat' (first | (with_reducible first | refine XG_split (fun hq => ?_) (fun hq => ?_) | refine MX1.of 4000 (by simp) ?_ | refine MX2.of 4000 (by simp) ?_ | refine And.intro ?_ ?_) | ((with_reducible first | refine Or.inl (And.intro (And.intro mixedP ?_) ?_) | refine Or.inl (And.intro mixedP ?_)); kernel_rfl) | simp only [go_sem,Nat.reduceEqDiff,Nat.reduceAdd,Nat.reduceMul,Nat.reduceLeDiff,Int.reduceBEq,tokBx,Tok.z,decide_eq_true hxl,hpb])
             all_goals first | omega | (unfold maxLen; omega) | (right; omega) | (left; simp; done) | (simp only [wk3,wkL2,wk2,wkL,wk1_d,wk1_own,wk1_nil,and_self]; done) | (intro i hi; simp only [upd]; (repeat' split); all_goals first | rfl | omega) | skip
             exact ⟨x + 1, ⟨by omega, by omega, by rw [← hx3]; exact (runTo_step s x hxl (by rw [← byteAt_bt]; exact hpb)).symm⟩, Wk.same (by simp only [go_sem]) hok' (Nat.le_succ _) (by simp only [go_sem]; omega), by omega⟩
           | false =>
             have hxe := hO2 (by rw [← hx3]; exact (runTo_stop s x hxl (by rw [← byteAt_bt]; exact hpb)).symm)
             cases hK : (sortK (s.extract p x) == 0) with
             | true =>
               rw [if_pos (by simpa using hK)] at hxe
               repeat' (first | (with_reducible first | refine XG_split (fun hq => ?_) (fun hq => ?_) | refine MX1.of 4000 (by simp) ?_ | refine MX2.of 4000 (by simp) ?_ | refine And.intro ?_ ?_) | ((with_reducible first | refine Or.inl (And.intro (And.intro mixedP ?_) ?_) | refine Or.inl (And.intro mixedP ?_)); kernel_rfl) | simp only [go_sem,Nat.reduceEqDiff,Nat.reduceAdd,Nat.reduceMul,Nat.reduceLeDiff,Int.reduceBEq,tokBx,Tok.z,decide_eq_true hxl,hpb,hK,hT,hxe,Tok.av])
               all_goals first | omega | (unfold maxLen; omega) | (right; omega) | (left; simp; done) | (simp only [wk3,wkL2,wk2,wkL,wk1_d,wk1_own,wk1_nil,and_self]; done) | (intro i hi; simp only [upd]; (repeat' split); all_goals first | rfl | omega) | skip
             | false =>
               rw [if_neg (by simpa using hK)] at hxe
               repeat' (first | (with_reducible first | refine XG_split (fun hq => ?_) (fun hq => ?_) | refine MX1.of 4000 (by simp) ?_ | refine MX2.of 4000 (by simp) ?_ | refine And.intro ?_ ?_) | ((with_reducible first | refine Or.inl (And.intro (And.intro mixedP ?_) ?_) | refine Or.inl (And.intro mixedP ?_)); kernel_rfl) | simp only [go_sem,Nat.reduceEqDiff,Nat.reduceAdd,Nat.reduceMul,Nat.reduceLeDiff,Int.reduceBEq,tokBx,Tok.z,decide_eq_true hxl,hpb,hK,hT,hxe,Tok.av])
               all_goals first | omega | (unfold maxLen; omega) | (right; omega) | (left; simp; done) | (simp only [wk3,wkL2,wk2,wkL,wk1_d,wk1_own,wk1_nil,and_self]; done) | (intro i hi; simp only [upd]; (repeat' split); all_goals first | rfl | omega) | skip
         · have hxe := hO2 (by rw [← hx3]; exact (runTo_end s x hxl).symm)
           cases hK : (sortK (s.extract p x) == 0) with
           | true =>
             rw [if_pos (by simpa using hK)] at hxe
             repeat' (first | (with_reducible first | refine XG_split (fun hq => ?_) (fun hq => ?_) | refine MX1.of 4000 (by simp) ?_ | refine MX2.of 4000 (by simp) ?_ | refine And.intro ?_ ?_) | ((with_reducible first | refine Or.inl (And.intro (And.intro mixedP ?_) ?_) | refine Or.inl (And.intro mixedP ?_)); kernel_rfl) | simp only [go_sem,Nat.reduceEqDiff,Nat.reduceAdd,Nat.reduceMul,Nat.reduceLeDiff,Int.reduceBEq,tokBx,Tok.z,decide_eq_false (Nat.not_lt.2 hxl),hK,hT,hxe,Tok.av])
             all_goals first | omega | (unfold maxLen; omega) | (right; omega) | (left; simp; done) | (simp only [wk3,wkL2,wk2,wkL,wk1_d,wk1_own,wk1_nil,and_self]; done) | (intro i hi; simp only [upd]; (repeat' split); all_goals first | rfl | omega) | skip
           | false =>
             rw [if_neg (by simpa using hK)] at hxe
             repeat' (first | (with_reducible first | refine XG_split (fun hq => ?_) (fun hq => ?_) | refine MX1.of 4000 (by simp) ?_ | refine MX2.of 4000 (by simp) ?_ | refine And.intro ?_ ?_) | ((with_reducible first | refine Or.inl (And.intro (And.intro mixedP ?_) ?_) | refine Or.inl (And.intro mixedP ?_)); kernel_rfl) | simp only [go_sem,Nat.reduceEqDiff,Nat.reduceAdd,Nat.reduceMul,Nat.reduceLeDiff,Int.reduceBEq,tokBx,Tok.z,decide_eq_false (Nat.not_lt.2 hxl),hK,hT,hxe,Tok.av])
             all_goals first | omega | (unfold maxLen; omega) | (right; omega) | (left; simp; done) | (simp only [wk3,wkL2,wk2,wkL,wk1_d,wk1_own,wk1_nil,and_self]; done) | (intro i hi; simp only [upd]; (repeat' split); all_goals first | rfl | omega) | skip
     · have hqv : (q : Int) = p := by omega
       have k2' := of_decide_eq_false k2
       repeat' (first | (with_reducible first | refine XG_split (fun hq => ?_) (fun hq => ?_) | refine MX1.of 4000 (by simp) ?_ | refine MX2.of 4000 (by simp) ?_ | refine And.intro ?_ ?_) | ((with_reducible first | refine Or.inl (And.intro (And.intro mixedP ?_) ?_) | refine Or.inl (And.intro mixedP ?_)); kernel_rfl) | simp only [go_sem,Nat.reduceEqDiff,Nat.reduceAdd,Nat.reduceMul,Nat.reduceLeDiff,Int.reduceBEq,h77,hb0,hb1,hbl,hbl2,tokBx,Tok.z,k1,k2])
       all_goals first | omega | (unfold maxLen; omega) | (right; omega) | (left; simp; done) | (simp only [wk3,wkL2,wk2,wkL,wk1_d,wk1_own,wk1_nil,and_self]; done) | (intro i hi; simp only [upd]; (repeat' split); all_goals first | rfl | omega) | skip
       refine AW.loopJ (E := EqT.no _) (S := fun x : Nat => ⟨fr [(0, vS s), (1, vI p), (4, .p n 0), (5, vI 0), (9, vI x)] (List.replicate 119 .any), upd h n (.box (tokBx Tok.z)), n, n + 1⟩)
        (I := fun x => q ≤ x ∧ x ≤ s.size ∧ runTo s x = runTo s q) (μ := fun x => s.size - x) q ⟨Nat.le_refl _, hqs, rfl⟩ ?_ 4000 (fun _ => by simp only [fr_len, List.length_replicate]; decide) ?_
       · exact Wk.same (by simp only [go_sem, hqv]) hok' (Nat.le_succ _) (by simp only [go_sem]; omega)
       · rintro x ⟨hx1, hx2, hx3⟩
         have hpx : p ≤ x := Nat.le_trans hqp hx1
         have hO2 : x = runTo s q → oneT s p = if sortK (s.extract p x) = 0 then (Tok.z, 5) else (⟨sortK (s.extract p x), p, x⟩, 0) := fun e => by rw [hO, ← e]; rfl
         rcases Nat.lt_or_ge x s.size with hxl | hxl
         · cases hpb : pieceB (byteAt s x) with
           | true =>
             repeat' (first | (with_reducible first | refine XG_split (fun hq => ?_) (fun hq => ?_) | refine MX1.of 4000 (by simp) ?_ | refine MX2.of 4000 (by simp) ?_ | refine And.intro ?_ ?_) | ((with_reducible first | refine Or.inl (And.intro (And.intro mixedP ?_) ?_) | refine Or.inl (And.intro mixedP ?_)); kernel_rfl) | simp only [go_sem,Nat.reduceEqDiff,Nat.reduceAdd,Nat.reduceMul,Nat.reduceLeDiff,Int.reduceBEq,tokBx,Tok.z,decide_eq_true hxl,hpb])
             all_goals first | omega | (unfold maxLen; omega) | (right; omega) | (left; simp; done) | (simp only [wk3,wkL2,wk2,wkL,wk1_d,wk1_own,wk1_nil,and_self]; done) | (intro i hi; simp only [upd]; (repeat' split); all_goals first | rfl | omega) | skip
             exact ⟨x + 1, ⟨by omega, by omega, by rw [← hx3]; exact (runTo_step s x hxl (by rw [← byteAt_bt]; exact hpb)).symm⟩, Wk.same (by simp only [go_sem]) hok' (Nat.le_succ _) (by simp only [go_sem]; omega), by omega⟩
           | false =>
             have hxe := hO2 (by rw [← hx3]; exact (runTo_stop s x hxl (by rw [← byteAt_bt]; exact hpb)).symm)
             cases hK : (sortK (s.extract p x) == 0) with
             | true =>
               rw [if_pos (by simpa using hK)] at hxe
               repeat' (first | (with_reducible first | refine XG_split (fun hq => ?_) (fun hq => ?_) | refine MX1.of 4000 (by simp) ?_ | refine MX2.of 4000 (by simp) ?_ | refine And.intro ?_ ?_) | ((with_reducible first | refine Or.inl (And.intro (And.intro mixedP ?_) ?_) | refine Or.inl (And.intro mixedP ?_)); kernel_rfl) | simp only [go_sem,Nat.reduceEqDiff,Nat.reduceAdd,Nat.reduceMul,Nat.reduceLeDiff,Int.reduceBEq,tokBx,Tok.z,decide_eq_true hxl,hpb,hK,hT,hxe,Tok.av])
               all_goals first | omega | (unfold maxLen; omega) | (right; omega) | (left; simp; done) | (simp only [wk3,wkL2,wk2,wkL,wk1_d,wk1_own,wk1_nil,and_self]; done) | (intro i hi; simp only [upd]; (repeat' split); all_goals first | rfl | omega) | skip
             | false =>
               rw [if_neg (by simpa using hK)] at hxe
               repeat' (first | (with_reducible first | refine XG_split (fun hq => ?_) (fun hq => ?_) | refine MX1.of 4000 (by simp) ?_ | refine MX2.of 4000 (by simp) ?_ | refine And.intro ?_ ?_) | ((with_reducible first | refine Or.inl (And.intro (And.intro mixedP ?_) ?_) | refine Or.inl (And.intro mixedP ?_)); kernel_rfl) | simp only [go_sem,Nat.reduceEqDiff,Nat.reduceAdd,Nat.reduceMul,Nat.reduceLeDiff,Int.reduceBEq,tokBx,Tok.z,decide_eq_true hxl,hpb,hK,hT,hxe,Tok.av])
               all_goals first | omega | (unfold maxLen; omega) | (right; omega) | (left; simp; done) | (simp only [wk3,wkL2,wk2,wkL,wk1_d,wk1_own,wk1_nil,and_self]; done) | (intro i hi; simp only [upd]; (repeat' split); all_goals first | rfl | omega) | skip
         · have hxe := hO2 (by rw [← hx3]; exact (runTo_end s x hxl).symm)
           cases hK : (sortK (s.extract p x) == 0) with
           | true =>
             rw [if_pos (by simpa using hK)] at hxe
             repeat' (first | (with_reducible first | refine XG_split (fun hq => ?_) (fun hq => ?_) | refine MX1.of 4000 (by simp) ?_ | refine MX2.of 4000 (by simp) ?_ | refine And.intro ?_ ?_) | ((with_reducible first | refine Or.inl (And.intro (And.intro mixedP ?_) ?_) | refine Or.inl (And.intro mixedP ?_)); kernel_rfl) | simp only [go_sem,Nat.reduceEqDiff,Nat.reduceAdd,Nat.reduceMul,Nat.reduceLeDiff,Int.reduceBEq,tokBx,Tok.z,decide_eq_false (Nat.not_lt.2 hxl),hK,hT,hxe,Tok.av])
             all_goals first | omega | (unfold maxLen; omega) | (right; omega) | (left; simp; done) | (simp only [wk3,wkL2,wk2,wkL,wk1_d,wk1_own,wk1_nil,and_self]; done) | (intro i hi; simp only [upd]; (repeat' split); all_goals first | rfl | omega) | skip
           | false =>
             rw [if_neg (by simpa using hK)] at hxe
             repeat' (first | (with_reducible first | refine XG_split (fun hq => ?_) (fun hq => ?_) | refine MX1.of 4000 (by simp) ?_ | refine MX2.of 4000 (by simp) ?_ | refine And.intro ?_ ?_) | ((with_reducible first | refine Or.inl (And.intro (And.intro mixedP ?_) ?_) | refine Or.inl (And.intro mixedP ?_)); kernel_rfl) | simp only [go_sem,Nat.reduceEqDiff,Nat.reduceAdd,Nat.reduceMul,Nat.reduceLeDiff,Int.reduceBEq,tokBx,Tok.z,decide_eq_false (Nat.not_lt.2 hxl),hK,hT,hxe,Tok.av])
             all_goals first | omega | (unfold maxLen; omega) | (right; omega) | (left; simp; done) | (simp only [wk3,wkL2,wk2,wkL,wk1_d,wk1_own,wk1_nil,and_self]; done) | (intro i hi; simp only [upd]; (repeat' split); all_goals first | rfl | omega) | skip
     · have hqv : (q : Int) = p := by omega
       have k2' := of_decide_eq_true k2
       repeat' (first | (with_reducible first | refine XG_split (fun hq => ?_) (fun hq => ?_) | refine MX1.of 4000 (by simp) ?_ | refine MX2.of 4000 (by simp) ?_ | refine And.intro ?_ ?_) | ((with_reducible first | refine Or.inl (And.intro (And.intro mixedP ?_) ?_) | refine Or.inl (And.intro mixedP ?_)); kernel_rfl) | simp only [go_sem,Nat.reduceEqDiff,Nat.reduceAdd,Nat.reduceMul,Nat.reduceLeDiff,Int.reduceBEq,h77,hb0,hb1,hbl,hbl2,tokBx,Tok.z,k1,k2,k3])
       all_goals first | omega | (unfold maxLen; omega) | (right; omega) | (left; simp; done) | (simp only [wk3,wkL2,wk2,wkL,wk1_d,wk1_own,wk1_nil,and_self]; done) | (intro i hi; simp only [upd]; (repeat' split); all_goals first | rfl | omega) | skip
       refine AW.loopJ (E := EqT.no _) (S := fun x : Nat => ⟨fr [(0, vS s), (1, vI p), (4, .p n 0), (5, vI 0), (9, vI x)] (List.replicate 119 .any), upd h n (.box (tokBx Tok.z)), n, n + 1⟩)
        (I := fun x => q ≤ x ∧ x ≤ s.size ∧ runTo s x = runTo s q) (μ := fun x => s.size - x) q ⟨Nat.le_refl _, hqs, rfl⟩ ?_ 4000 (fun _ => by simp only [fr_len, List.length_replicate]; decide) ?_
       · exact Wk.same (by simp only [go_sem, hqv]) hok' (Nat.le_succ _) (by simp only [go_sem]; omega)
       · rintro x ⟨hx1, hx2, hx3⟩
         have hpx : p ≤ x := Nat.le_trans hqp hx1
         have hO2 : x = runTo s q → oneT s p = if sortK (s.extract p x) = 0 then (Tok.z, 5) else (⟨sortK (s.extract p x), p, x⟩, 0) := fun e => by rw [hO, ← e]; rfl
         rcases Nat.lt_or_ge x s.size with hxl | hxl
         · cases hpb : pieceB (byteAt s x) with
           | true =>
             repeat' (first | (with_reducible first | refine XG_split (fun hq => ?_) (fun hq => ?_) | refine MX1.of 4000 (by simp) ?_ | refine MX2.of 4000 (by simp) ?_ | refine And.intro ?_ ?_) | ((with_reducible first | refine Or.inl (And.intro (And.intro mixedP ?_) ?_) | refine Or.inl (And.intro mixedP ?_)); kernel_rfl) | simp only [go_sem,Nat.reduceEqDiff,Nat.reduceAdd,Nat.reduceMul,Nat.reduceLeDiff,Int.reduceBEq,tokBx,Tok.z,decide_eq_true hxl,hpb])
             all_goals first | omega | (unfold maxLen; omega) | (right; omega) | (left; simp; done) | (simp only [wk3,wkL2,wk2,wkL,wk1_d,wk1_own,wk1_nil,and_self]; done) | (intro i hi; simp only [upd]; (repeat' split); all_goals first | rfl | omega) | skip
             exact ⟨x + 1, ⟨by omega, by omega, by rw [← hx3]; exact (runTo_step s x hxl (by rw [← byteAt_bt]; exact hpb)).symm⟩, Wk.same (by simp only [go_sem]) hok' (Nat.le_succ _) (by simp only [go_sem]; omega), by omega⟩
           | false =>
             have hxe := hO2 (by rw [← hx3]; exact (runTo_stop s x hxl (by rw [← byteAt_bt]; exact hpb)).symm)
             cases hK : (sortK (s.extract p x) == 0) with
             | true =>
               rw [if_pos (by simpa using hK)] at hxe
               repeat' (first | (with_reducible first | refine XG_split (fun hq => ?_) (fun hq => ?_) | refine MX1.of 4000 (by simp) ?_ | refine MX2.of 4000 (by simp) ?_ | refine And.intro ?_ ?_) | ((with_reducible first | refine Or.inl (And.intro (And.intro mixedP ?_) ?_) | refine Or.inl (And.intro mixedP ?_)); kernel_rfl) | simp only [go_sem,Nat.reduceEqDiff,Nat.reduceAdd,Nat.reduceMul,Nat.reduceLeDiff,Int.reduceBEq,tokBx,Tok.z,decide_eq_true hxl,hpb,hK,hT,hxe,Tok.av])
               all_goals first | omega | (unfold maxLen; omega) | (right; omega) | (left; simp; done) | (simp only [wk3,wkL2,wk2,wkL,wk1_d,wk1_own,wk1_nil,and_self]; done) | (intro i hi; simp only [upd]; (repeat' split); all_goals first | rfl | omega) | skip
             | false =>
               rw [if_neg (by simpa using hK)] at hxe
               repeat' (first | (with_reducible first | refine XG_split (fun hq => ?_) (fun hq => ?_) | refine MX1.of 4000 (by simp) ?_ | refine MX2.of 4000 (by simp) ?_ | refine And.intro ?_ ?_) | ((with_reducible first | refine Or.inl (And.intro (And.intro mixedP ?_) ?_) | refine Or.inl (And.intro mixedP ?_)); kernel_rfl) | simp only [go_sem,Nat.reduceEqDiff,Nat.reduceAdd,Nat.reduceMul,Nat.reduceLeDiff,Int.reduceBEq,tokBx,Tok.z,decide_eq_true hxl,hpb,hK,hT,hxe,Tok.av])
               all_goals first | omega | (unfold maxLen; omega) | (right; omega) | (left; simp; done) | (simp only [wk3,wkL2,wk2,wkL,wk1_d,wk1_own,wk1_nil,and_self]; done) | (intro i hi; simp only [upd]; (repeat' split); all_goals first | rfl | omega) | skip
         · have hxe := hO2 (by rw [← hx3]; exact (runTo_end s x hxl).symm)
           cases hK : (sortK (s.extract p x) == 0) with
           | true =>
             rw [if_pos (by simpa using hK)] at hxe
             repeat' (first | (with_reducible first | refine XG_split (fun hq => ?_) (fun hq => ?_) | refine MX1.of 4000 (by simp) ?_ | refine MX2.of 4000 (by simp) ?_ | refine And.intro ?_ ?_) | ((with_reducible first | refine Or.inl (And.intro (And.intro mixedP ?_) ?_) | refine Or.inl (And.intro mixedP ?_)); kernel_rfl) | simp only [go_sem,Nat.reduceEqDiff,Nat.reduceAdd,Nat.reduceMul,Nat.reduceLeDiff,Int.reduceBEq,tokBx,Tok.z,decide_eq_false (Nat.not_lt.2 hxl),hK,hT,hxe,Tok.av])
             all_goals first | omega | (unfold maxLen; omega) | (right; omega) | (left; simp; done) | (simp only [wk3,wkL2,wk2,wkL,wk1_d,wk1_own,wk1_nil,and_self]; done) | (intro i hi; simp only [upd]; (repeat' split); all_goals first | rfl | omega) | skip
           | false =>
             rw [if_neg (by simpa using hK)] at hxe
             repeat' (first | (with_reducible first | refine XG_split (fun hq => ?_) (fun hq => ?_) | refine MX1.of 4000 (by simp) ?_ | refine MX2.of 4000 (by simp) ?_ | refine And.intro ?_ ?_) | ((with_reducible first | refine Or.inl (And.intro (And.intro mixedP ?_) ?_) | refine Or.inl (And.intro mixedP ?_)); kernel_rfl) | simp only [go_sem,Nat.reduceEqDiff,Nat.reduceAdd,Nat.reduceMul,Nat.reduceLeDiff,Int.reduceBEq,tokBx,Tok.z,decide_eq_false (Nat.not_lt.2 hxl),hK,hT,hxe,Tok.av])
             all_goals first | omega | (unfold maxLen; omega) | (right; omega) | (left; simp; done) | (simp only [wk3,wkL2,wk2,wkL,wk1_d,wk1_own,wk1_nil,and_self]; done) | (intro i hi; simp only [upd]; (repeat' split); all_goals first | rfl | omega) | skip
     · have hqv : (q : Int) = p := by omega
       have k2' := of_decide_eq_true k2
       repeat' (first | (with_reducible first | refine XG_split (fun hq => ?_) (fun hq => ?_) | refine MX1.of 4000 (by simp) ?_ | refine MX2.of 4000 (by simp) ?_ | refine And.intro ?_ ?_) | ((with_reducible first | refine Or.inl (And.intro (And.intro mixedP ?_) ?_) | refine Or.inl (And.intro mixedP ?_)); kernel_rfl) | simp only [go_sem,Nat.reduceEqDiff,Nat.reduceAdd,Nat.reduceMul,Nat.reduceLeDiff,Int.reduceBEq,h77,hb0,hb1,hbl,hbl2,tokBx,Tok.z,k1,k2,k3,k4])
       all_goals first | omega | (unfold maxLen; omega) | (right; omega) | (left; simp; done) | (simp only [wk3,wkL2,wk2,wkL,wk1_d,wk1_own,wk1_nil,and_self]; done) | (intro i hi; simp only [upd]; (repeat' split); all_goals first | rfl | omega) | skip
       refine AW.loopJ (E := EqT.no _) (S := fun x : Nat => ⟨fr [(0, vS s), (1, vI p), (4, .p n 0), (5, vI 0), (9, vI x)] (List.replicate 119 .any), upd h n (.box (tokBx Tok.z)), n, n + 1⟩)
        (I := fun x => q ≤ x ∧ x ≤ s.size ∧ runTo s x = runTo s q) (μ := fun x => s.size - x) q ⟨Nat.le_refl _, hqs, rfl⟩ ?_ 4000 (fun _ => by simp only [fr_len, List.length_replicate]; decide) ?_
       · exact Wk.same (by simp only [go_sem, hqv]) hok' (Nat.le_succ _) (by simp only [go_sem]; omega)
       · rintro x ⟨hx1, hx2, hx3⟩
         have hpx : p ≤ x := Nat.le_trans hqp hx1
         have hO2 : x = runTo s q → oneT s p = if sortK (s.extract p x) = 0 then (Tok.z, 5) else (⟨sortK (s.extract p x), p, x⟩, 0) := fun e => by rw [hO, ← e]; rfl
         rcases Nat.lt_or_ge x s.size with hxl | hxl
         · cases hpb : pieceB (byteAt s x) with
           | true =>
             repeat' (first | (with_reducible first | refine XG_split (fun hq => ?_) (fun hq => ?_) | refine MX1.of 4000 (by simp) ?_ | refine MX2.of 4000 (by simp) ?_ | refine And.intro ?_ ?_) | ((with_reducible first | refine Or.inl (And.intro (And.intro mixedP ?_) ?_) | refine Or.inl (And.intro mixedP ?_)); kernel_rfl) | simp only [go_sem,Nat.reduceEqDiff,Nat.reduceAdd,Nat.reduceMul,Nat.reduceLeDiff,Int.reduceBEq,tokBx,Tok.z,decide_eq_true hxl,hpb])
             all_goals first | omega | (unfold maxLen; omega) | (right; omega) | (left; simp; done) | (simp only [wk3,wkL2,wk2,wkL,wk1_d,wk1_own,wk1_nil,and_self]; done) | (intro i hi; simp only [upd]; (repeat' split); all_goals first | rfl | omega) | skip
             exact ⟨x + 1, ⟨by omega, by omega, by rw [← hx3]; exact (runTo_step s x hxl (by rw [← byteAt_bt]; exact hpb)).symm⟩, Wk.same (by simp only [go_sem]) hok' (Nat.le_succ _) (by simp only [go_sem]; omega), by omega⟩
           | false =>
             have hxe := hO2 (by rw [← hx3]; exact (runTo_stop s x hxl (by rw [← byteAt_bt]; exact hpb)).symm)
             cases hK : (sortK (s.extract p x) == 0) with
             | true =>
               rw [if_pos (by simpa using hK)] at hxe
               repeat' (first | (with_reducible first | refine XG_split (fun hq => ?_) (fun hq => ?_) | refine MX1.of 4000 (by simp) ?_ | refine MX2.of 4000 (by simp) ?_ | refine And.intro ?_ ?_) | ((with_reducible first | refine Or.inl (And.intro (And.intro mixedP ?_) ?_) | refine Or.inl (And.intro mixedP ?_)); kernel_rfl) | simp only [go_sem,Nat.reduceEqDiff,Nat.reduceAdd,Nat.reduceMul,Nat.reduceLeDiff,Int.reduceBEq,tokBx,Tok.z,decide_eq_true hxl,hpb,hK,hT,hxe,Tok.av])
               all_goals first | omega | (unfold maxLen; omega) | (right; omega) | (left; simp; done) | (simp only [wk3,wkL2,wk2,wkL,wk1_d,wk1_own,wk1_nil,and_self]; done) | (intro i hi; simp only [upd]; (repeat' split); all_goals first | rfl | omega) | skip
             | false =>
               rw [if_neg (by simpa using hK)] at hxe
               repeat' (first | (with_reducible first | refine XG_split (fun hq => ?_) (fun hq => ?_) | refine MX1.of 4000 (by simp) ?_ | refine MX2.of 4000 (by simp) ?_ | refine And.intro ?_ ?_) | ((with_reducible first | refine Or.inl (And.intro (And.intro mixedP ?_) ?_) | refine Or.inl (And.intro mixedP ?_)); kernel_rfl) | simp only [go_sem,Nat.reduceEqDiff,Nat.reduceAdd,Nat.reduceMul,Nat.reduceLeDiff,Int.reduceBEq,tokBx,Tok.z,decide_eq_true hxl,hpb,hK,hT,hxe,Tok.av])
               all_goals first | omega | (unfold maxLen; omega) | (right; omega) | (left; simp; done) | (simp only [wk3,wkL2,wk2,wkL,wk1_d,wk1_own,wk1_nil,and_self]; done) | (intro i hi; simp only [upd]; (repeat' split); all_goals first | rfl | omega) | skip
         · have hxe := hO2 (by rw [← hx3]; exact (runTo_end s x hxl).symm)
           cases hK : (sortK (s.extract p x) == 0) with
           | true =>
             rw [if_pos (by simpa using hK)] at hxe
             repeat' (first | (with_reducible first | refine XG_split (fun hq => ?_) (fun hq => ?_) | refine MX1.of 4000 (by simp) ?_ | refine MX2.of 4000 (by simp) ?_ | refine And.intro ?_ ?_) | ((with_reducible first | refine Or.inl (And.intro (And.intro mixedP ?_) ?_) | refine Or.inl (And.intro mixedP ?_)); kernel_rfl) | simp only [go_sem,Nat.reduceEqDiff,Nat.reduceAdd,Nat.reduceMul,Nat.reduceLeDiff,Int.reduceBEq,tokBx,Tok.z,decide_eq_false (Nat.not_lt.2 hxl),hK,hT,hxe,Tok.av])
             all_goals first | omega | (unfold maxLen; omega) | (right; omega) | (left; simp; done) | (simp only [wk3,wkL2,wk2,wkL,wk1_d,wk1_own,wk1_nil,and_self]; done) | (intro i hi; simp only [upd]; (repeat' split); all_goals first | rfl | omega) | skip
           | false =>
             rw [if_neg (by simpa using hK)] at hxe
             repeat' (first | (with_reducible first | refine XG_split (fun hq => ?_) (fun hq => ?_) | refine MX1.of 4000 (by simp) ?_ | refine MX2.of 4000 (by simp) ?_ | refine And.intro ?_ ?_) | ((with_reducible first | refine Or.inl (And.intro (And.intro mixedP ?_) ?_) | refine Or.inl (And.intro mixedP ?_)); kernel_rfl) | simp only [go_sem,Nat.reduceEqDiff,Nat.reduceAdd,Nat.reduceMul,Nat.reduceLeDiff,Int.reduceBEq,tokBx,Tok.z,decide_eq_false (Nat.not_lt.2 hxl),hK,hT,hxe,Tok.av])
             all_goals first | omega | (unfold maxLen; omega) | (right; omega) | (left; simp; done) | (simp only [wk3,wkL2,wk2,wkL,wk1_d,wk1_own,wk1_nil,and_self]; done) | (intro i hi; simp only [upd]; (repeat' split); all_goals first | rfl | omega) | skip
     · have hqv : (q : Int) = (p : Int) + 1 := by omega
       have k2' := of_decide_eq_true k2
       repeat' (first | (with_reducible first | refine XG_split (fun hq => ?_) (fun hq => ?_) | refine MX1.of 4000 (by simp) ?_ | refine MX2.of 4000 (by simp) ?_ | refine And.intro ?_ ?_) | ((with_reducible first | refine Or.inl (And.intro (And.intro mixedP ?_) ?_) | refine Or.inl (And.intro mixedP ?_)); kernel_rfl) | simp only [go_sem,Nat.reduceEqDiff,Nat.reduceAdd,Nat.reduceMul,Nat.reduceLeDiff,Int.reduceBEq,h77,hb0,hb1,hbl,hbl2,tokBx,Tok.z,k1,k2,k3,k4])
       all_goals first | omega | (unfold maxLen; omega) | (right; omega) | (left; simp; done) | (simp only [wk3,wkL2,wk2,wkL,wk1_d,wk1_own,wk1_nil,and_self]; done) | (intro i hi; simp only [upd]; (repeat' split); all_goals first | rfl | omega) | skip
       refine AW.loopJ (E := EqT.no _) (S := fun x : Nat => ⟨fr [(0, vS s), (1, vI p), (4, .p n 0), (5, vI 0), (9, vI x)] (List.replicate 119 .any), upd h n (.box (tokBx Tok.z)), n, n + 1⟩)
        (I := fun x => q ≤ x ∧ x ≤ s.size ∧ runTo s x = runTo s q) (μ := fun x => s.size - x) q ⟨Nat.le_refl _, hqs, rfl⟩ ?_ 4000 (fun _ => by simp only [fr_len, List.length_replicate]; decide) ?_
       · exact Wk.same (by simp only [go_sem, hqv]) hok' (Nat.le_succ _) (by simp only [go_sem]; omega)
       · rintro x ⟨hx1, hx2, hx3⟩
         have hpx : p ≤ x := Nat.le_trans hqp hx1
         have hO2 : x = runTo s q → oneT s p = if sortK (s.extract p x) = 0 then (Tok.z, 5) else (⟨sortK (s.extract p x), p, x⟩, 0) := fun e => by rw [hO, ← e]; rfl
         rcases Nat.lt_or_ge x s.size with hxl | hxl
         · cases hpb : pieceB (byteAt s x) with
           | true =>
             repeat' (first | (with_reducible first | refine XG_split (fun hq => ?_) (fun hq => ?_) | refine MX1.of 4000 (by simp) ?_ | refine MX2.of 4000 (by simp) ?_ | refine And.intro ?_ ?_) | ((with_reducible first | refine Or.inl (And.intro (And.intro mixedP ?_) ?_) | refine Or.inl (And.intro mixedP ?_)); kernel_rfl) | simp only [go_sem,Nat.reduceEqDiff,Nat.reduceAdd,Nat.reduceMul,Nat.reduceLeDiff,Int.reduceBEq,tokBx,Tok.z,decide_eq_true hxl,hpb])
             all_goals first | omega | (unfold maxLen; omega) | (right; omega) | (left; simp; done) | (simp only [wk3,wkL2,wk2,wkL,wk1_d,wk1_own,wk1_nil,and_self]; done) | (intro i hi; simp only [upd]; (repeat' split); all_goals first | rfl | omega) | skip
             exact ⟨x + 1, ⟨by omega, by omega, by rw [← hx3]; exact (runTo_step s x hxl (by rw [← byteAt_bt]; exact hpb)).symm⟩, Wk.same (by simp only [go_sem]) hok' (Nat.le_succ _) (by simp only [go_sem]; omega), by omega⟩
           | false =>
             have hxe := hO2 (by rw [← hx3]; exact (runTo_stop s x hxl (by rw [← byteAt_bt]; exact hpb)).symm)
             cases hK : (sortK (s.extract p x) == 0) with
             | true =>
               rw [if_pos (by simpa using hK)] at hxe
               repeat' (first | (with_reducible first | refine XG_split (fun hq => ?_) (fun hq => ?_) | refine MX1.of 4000 (by simp) ?_ | refine MX2.of 4000 (by simp) ?_ | refine And.intro ?_ ?_) | ((with_reducible first | refine Or.inl (And.intro (And.intro mixedP ?_) ?_) | refine Or.inl (And.intro mixedP ?_)); kernel_rfl) | simp only [go_sem,Nat.reduceEqDiff,Nat.reduceAdd,Nat.reduceMul,Nat.reduceLeDiff,Int.reduceBEq,tokBx,Tok.z,decide_eq_true hxl,hpb,hK,hT,hxe,Tok.av])
               all_goals first | omega | (unfold maxLen; omega) | (right; omega) | (left; simp; done) | (simp only [wk3,wkL2,wk2,wkL,wk1_d,wk1_own,wk1_nil,and_self]; done) | (intro i hi; simp only [upd]; (repeat' split); all_goals first | rfl | omega) | skip
             | false =>
               rw [if_neg (by simpa using hK)] at hxe
               repeat' (first | (with_reducible first | refine XG_split (fun hq => ?_) (fun hq => ?_) | refine MX1.of 4000 (by simp) ?_ | refine MX2.of 4000 (by simp) ?_ | refine And.intro ?_ ?_) | ((with_reducible first | refine Or.inl (And.intro (And.intro mixedP ?_) ?_) | refine Or.inl (And.intro mixedP ?_)); kernel_rfl) | simp only [go_sem,Nat.reduceEqDiff,Nat.reduceAdd,Nat.reduceMul,Nat.reduceLeDiff,Int.reduceBEq,tokBx,Tok.z,decide_eq_true hxl,hpb,hK,hT,hxe,Tok.av])
               all_goals first | omega | (unfold maxLen; omega) | (right; omega) | (left; simp; done) | (simp only [wk3,wkL2,wk2,wkL,wk1_d,wk1_own,wk1_nil,and_self]; done) | (intro i hi; simp only [upd]; (repeat' split); all_goals first | rfl | omega) | skip
         · have hxe := hO2 (by rw [← hx3]; exact (runTo_end s x hxl).symm)
           cases hK : (sortK (s.extract p x) == 0) with
           | true =>
             rw [if_pos (by simpa using hK)] at hxe
             repeat' (first | (with_reducible first | refine XG_split (fun hq => ?_) (fun hq => ?_) | refine MX1.of 4000 (by simp) ?_ | refine MX2.of 4000 (by simp) ?_ | refine And.intro ?_ ?_) | ((with_reducible first | refine Or.inl (And.intro (And.intro mixedP ?_) ?_) | refine Or.inl (And.intro mixedP ?_)); kernel_rfl) | simp only [go_sem,Nat.reduceEqDiff,Nat.reduceAdd,Nat.reduceMul,Nat.reduceLeDiff,Int.reduceBEq,tokBx,Tok.z,decide_eq_false (Nat.not_lt.2 hxl),hK,hT,hxe,Tok.av])
             all_goals first | omega | (unfold maxLen; omega) | (right; omega) | (left; simp; done) | (simp only [wk3,wkL2,wk2,wkL,wk1_d,wk1_own,wk1_nil,and_self]; done) | (intro i hi; simp only [upd]; (repeat' split); all_goals first | rfl | omega) | skip
           | false =>
             rw [if_neg (by simpa using hK)] at hxe
             repeat' (first | (with_reducible first | refine XG_split (fun hq => ?_) (fun hq => ?_) | refine MX1.of 4000 (by simp) ?_ | refine MX2.of 4000 (by simp) ?_ | refine And.intro ?_ ?_) | ((with_reducible first | refine Or.inl (And.intro (And.intro mixedP ?_) ?_) | refine Or.inl (And.intro mixedP ?_)); kernel_rfl) | simp only [go_sem,Nat.reduceEqDiff,Nat.reduceAdd,Nat.reduceMul,Nat.reduceLeDiff,Int.reduceBEq,tokBx,Tok.z,decide_eq_false (Nat.not_lt.2 hxl),hK,hT,hxe,Tok.av])
             all_goals first | omega | (unfold maxLen; omega) | (right; omega) | (left; simp; done) | (simp only [wk3,wkL2,wk2,wkL,wk1_d,wk1_own,wk1_nil,and_self]; done) | (intro i hi; simp only [upd]; (repeat' split); all_goals first | rfl | omega) | skip
end Go.Proofs.YtfhpecgknmfnnaaGreatDoor.M
end
section
namespace Go.Proofs.YtfhpecgknmfnnaaGreatDoor.M
open Go.R
def g3 {α β γ : Type} (a : AV → Option α) (b : AV → Option β) (c : AV → Option γ) (f : α → β → γ → AV) : List AV → Option AV
 | [x, y, z] => (a x).bind fun v => (b y).bind fun u => (c z).map (f v u)
 | _ => none
def g4 {α β γ δ : Type} (a : AV → Option α) (b : AV → Option β) (c : AV → Option γ) (d : AV → Option δ) (f : α → β → γ → δ → AV) : List AV → Option AV
 | [x, y, z, q] => (a x).bind fun v => (b y).bind fun u => (c z).bind fun t => (d q).map (f v u t)
 | _ => none
def g3p {α β γ : Type} (a : AV → Option α) (b : AV → Option β) (c : AV → Option γ) (p : α → β → γ → Prop) : List AV → Prop
 | [x, y, z] => oP (a x) fun v => oP (b y) fun u => oP (c z) fun t => p v u t
 | _ => True
def g4p {α β γ δ : Type} (a : AV → Option α) (b : AV → Option β) (c : AV → Option γ) (d : AV → Option δ) (p : α → β → γ → δ → Prop) : List AV → Prop
 | [x, y, z, q] => oP (a x) fun v => oP (b y) fun u => oP (c z) fun t => oP (d q) fun r => p v u t r
 | _ => True
section
variable {α β γ δ : Type} (a : AV → Option α) (b : AV → Option β) (c : AV → Option γ) (d : AV → Option δ)
@[go_sem] theorem g3_three (f : α → β → γ → AV) (x y z : AV) : g3 a b c f [x, y, z] = (a x).bind fun v => (b y).bind fun u => (c z).map (f v u) := rfl
@[go_sem] theorem g4_four (f : α → β → γ → δ → AV) (x y z q : AV) : g4 a b c d f [x, y, z, q] = (a x).bind fun v => (b y).bind fun u => (c z).bind fun t => (d q).map (f v u t) := rfl
@[go_sem] theorem g3p_three (p : α → β → γ → Prop) (x y z : AV) : g3p a b c p [x, y, z] = oP (a x) fun v => oP (b y) fun u => oP (c z) fun t => p v u t := rfl
@[go_sem] theorem g4p_four (p : α → β → γ → δ → Prop) (x y z q : AV) : g4p a b c d p [x, y, z, q] = oP (a x) fun v => oP (b y) fun u => oP (c z) fun t => oP (d q) fun r => p v u t r := rfl
end
section
variable {P : Program} {E : EqT P} {F : Ft} {α β γ δ : Type} {a : AV → Option α} {b : AV → Option β} {c : AV → Option γ} {d : AV → Option δ}
theorem g3_eq {f : α → β → γ → AV} {args : List AV} {r : AV} (h : g3 a b c f args = some r) : ∃ x y z v u t, args = [x, y, z] ∧ a x = some v ∧ b y = some u ∧ c z = some t ∧ r = f v u t := by
 unfold g3 at h
 split at h
 · rename_i x y z
   simp only [Option.bind_eq_some_iff, Option.map_eq_some_iff] at h
   obtain ⟨v, hv, u, hu, t, ht, rfl⟩ := h
   exact ⟨x, y, z, v, u, t, rfl, hv, hu, ht, rfl⟩
 · cases h
theorem g4_eq {f : α → β → γ → δ → AV} {args : List AV} {r : AV} (h : g4 a b c d f args = some r) : ∃ x y z q v u t k, args = [x, y, z, q] ∧ a x = some v ∧ b y = some u ∧ c z = some t ∧ d q = some k ∧ r = f v u t k := by
 unfold g4 at h
 split at h
 · rename_i x y z q
   simp only [Option.bind_eq_some_iff, Option.map_eq_some_iff] at h
   obtain ⟨v, hv, u, hu, t, ht, k, hk, rfl⟩ := h
   exact ⟨x, y, z, q, v, u, t, k, rfl, hv, hu, ht, hk, rfl⟩
 · cases h
theorem of_Y3 (av : α → AV) (bv : β → AV) (cv : γ → AV) {p : α → β → γ → Prop} {g : α → β → γ → AV} (ha : ∀ x v, a x = some v → AV.le x (av v)) (hb : ∀ x v, b x = some v → AV.le x (bv v)) (hc : ∀ x v, c x = some v → AV.le x (cv v)) {f : FuncId} {fn : Func} {code : Code}
 (hf : P.funcs[f]? = some fn) (hbody : fn.body = some code) (hn : (fn.name == "runtime.NumGoroutine") = false) (rs : List ResultVar) {nt : Nat} (hrs : fn.results = rs.toArray) (hnt : fn.ntmps = nt) (hl : nt ≤ 900000) (hF : FtOk P F)
 (H : ∀ v u t h n, p v u t → HOk n h → X E F [] (FinP P rs n h (g v u t)) 4000 (.code code) [] ⟨av v :: bv u :: cv t :: List.replicate (nt - 3) .any, h, n, n⟩) : FsOk P f (.pureIf (g3p a b c p) (g3 a b c g)) := by
 refine FsOk.of_XP (E := E) _ hf hbody hn hrs hnt hF (fun _ _ _ => rfl) ?_
 intro args h n r hp hS hok
 obtain ⟨x, y, z, v, u, t, rfl, hx, hy, hz, rfl⟩ := g3_eq hS
 exact ⟨[av v, bv u, cv t], ⟨ha x v hx, hb y u hy, hc z t hz, trivial⟩, ⟨hl, by simp⟩, H v u t h n (hp v hx u hy t hz) hok⟩
theorem of_Y4 (av : α → AV) (bv : β → AV) (cv : γ → AV) (dv : δ → AV) {p : α → β → γ → δ → Prop} {g : α → β → γ → δ → AV} (ha : ∀ x v, a x = some v → AV.le x (av v)) (hb : ∀ x v, b x = some v → AV.le x (bv v)) (hc : ∀ x v, c x = some v → AV.le x (cv v)) (hd : ∀ x v, d x = some v → AV.le x (dv v)) {f : FuncId} {fn : Func} {code : Code}
 (hf : P.funcs[f]? = some fn) (hbody : fn.body = some code) (hn : (fn.name == "runtime.NumGoroutine") = false) (rs : List ResultVar) {nt : Nat} (hrs : fn.results = rs.toArray) (hnt : fn.ntmps = nt) (hl : nt ≤ 900000) (hF : FtOk P F)
 (H : ∀ v u t k h n, p v u t k → HOk n h → X E F [] (FinP P rs n h (g v u t k)) 4000 (.code code) [] ⟨av v :: bv u :: cv t :: dv k :: List.replicate (nt - 4) .any, h, n, n⟩) : FsOk P f (.pureIf (g4p a b c d p) (g4 a b c d g)) := by
 refine FsOk.of_XP (E := E) _ hf hbody hn hrs hnt hF (fun _ _ _ => rfl) ?_
 intro args h n r hp hS hok
 obtain ⟨x, y, z, q, v, u, t, k, rfl, hx, hy, hz, hq, rfl⟩ := g4_eq hS
 exact ⟨[av v, bv u, cv t, dv k], ⟨ha x v hx, hb y u hy, hc z t hz, hd q k hq, trivial⟩, ⟨hl, by simp⟩, H v u t k h n (hp v hx u hy t hz k hq) hok⟩
end
def aToks (x : AV) : Option (List Tok) := match rowsOf 3 x with
 | some xs => dRows cTok xs
 | none => none
@[go_sem] theorem aToks_sl (l : List Tok) : aToks (.d (.sl 3 (l.map Tok.cells))) = some l := by simp only [aToks, rowsOf, if_true, dToks]
theorem aToks_le {x : AV} {l : List Tok} (h : aToks x = some l) : AV.le x (.d (.sl 3 (l.map Tok.cells))) := by
 unfold aToks at h
 cases hr : rowsOf 3 x with
 | none => rw [hr] at h; cases h
 | some xs =>
   rw [hr] at h
   rw [← dRows_eq (fun c x => cTok_eq) h]
   exact AV.le.rows hr
def wordB (T : List Tok) (s : ByteArray) (n : Nat) (c : Int) : ByteArray := match T[n]? with
 | some t => if t.kind == c then tokS s t else noStr
 | none => noStr
def numB (s : ByteArray) : Int := if !(readV s).2 || decide (0 < (readV s).1.sym.size) || decide ((readV s).1.num < 1) || decide (1099511627776 < (readV s).1.num) then 0 else (readV s).1.num
def toksP (s : ByteArray) (T : List Tok) (k : Int) : Prop := (s.size : Int) ≤ 9223372036854775807 ∧ TokOk s T ∧ 0 ≤ k ∧ k ≤ 1099511627776
abbrev rwordS : Fs := .pureIf (g4p aStr aToks aI64 aU8 fun s T k c => toksP s T k) (g4 aStr aToks aI64 aU8 fun s T k c => vS (wordB T s k.toNat c))
abbrev rplaceS : Fs := .pureIf (g3p aStr aToks aI64 fun s T k => toksP s T k) (g3 aStr aToks aI64 fun s T k => vI (posOf T s k.toNat))
abbrev rnumS : Fs := .pure (g1 aStr fun s => vI (numB s))
set_option maxRecDepth 20000 in
set_option maxHeartbeats 4000000 in
theorem rword_ok : FsOk Tryz.prog 18 rwordS := by
 refine of_Y4 (E := EqT.no _) (F := Ft.no) vS (fun T => .d (.sl 3 (T.map Tok.cells))) vI (fun c => .d (.v (.int .u8 c))) (fun _ _ => aStr_le) (fun _ _ => aToks_le) (fun _ _ => aI64_le) (fun _ _ h => by rw [aU8_eq h]; exact AV.le.refl _) Tryz.func18 rfl (by kernel_rfl) [.tmp 8] rfl Tryz.ntmps18 (by decide) (FtOk.no _) ?_
 intro s T k0 c h n hp hok
 obtain ⟨hsz, hT, hk0, hk1⟩ := hp
 obtain ⟨k, rfl⟩ := Int.eq_ofNat_of_zero_le hk0
 have hkk : ((k : Nat) : Int).toNat = k := Int.toNat_natCast k
 rcases Nat.lt_or_ge k T.length with hkl | hkl
 · have hget : T[k]? = some T[k] := List.getElem?_eq_getElem hkl
   obtain ⟨h0, h1, h2⟩ := hT.2 T[k] (List.getElem_mem hkl)
   have hd : decide ((T.length : Int) ≤ k) = false := decide_eq_false (by omega)
   have hw : wordB T s k c = if T[k].kind == c then tokS s T[k] else noStr := by unfold wordB; rw [hget]
   cases hc : T[k].kind == c with
   | true =>
     rw [hc, if_pos rfl] at hw
     have hne : (T[k].kind != c) = false := by rw [bne, hc]; rfl
     repeat' (first | (with_reducible first | refine XG_split (fun hq => ?_) (fun hq => ?_) | refine MX1.of 4000 (by simp) ?_ | refine MX2.of 4000 (by simp) ?_ | refine And.intro ?_ ?_) | ((with_reducible first | refine Or.inl (And.intro (And.intro mixedP ?_) ?_) | refine Or.inl (And.intro mixedP ?_)); kernel_rfl) | simp only [go_sem,Nat.reduceEqDiff,Nat.reduceAdd,Nat.reduceMul,Nat.reduceLeDiff,Int.reduceBEq,hkk,hd,hget,hne,Tok.cells,List.length_map,List.getElem?_map,Option.map_some])
     all_goals first | omega | (unfold maxLen; omega) | (right; omega) | (left; simp; done) | (simp only [wk3,wkL2,wk2,wkL,wk1_d,wk1_own,wk1_nil,and_self]; done) | (intro i hi; simp only [upd]; (repeat' split); all_goals first | rfl | omega) | skip
     all_goals first | (rw [hw]; exact wk3_eq rfl) | (exfalso; simp_all; done) | trace_state
   | false =>
     rw [hc, if_neg (by decide)] at hw
     have hne : (T[k].kind != c) = true := by rw [bne, hc]; rfl
     repeat' (first | (with_reducible first | refine XG_split (fun hq => ?_) (fun hq => ?_) | refine MX1.of 4000 (by simp) ?_ | refine MX2.of 4000 (by simp) ?_ | refine And.intro ?_ ?_) | ((with_reducible first | refine Or.inl (And.intro (And.intro mixedP ?_) ?_) | refine Or.inl (And.intro mixedP ?_)); kernel_rfl) | simp only [go_sem,Nat.reduceEqDiff,Nat.reduceAdd,Nat.reduceMul,Nat.reduceLeDiff,Int.reduceBEq,hkk,hd,hget,hne,Tok.cells,List.length_map,List.getElem?_map,Option.map_some])
     all_goals first | omega | (unfold maxLen; omega) | (right; omega) | (left; simp; done) | (simp only [wk3,wkL2,wk2,wkL,wk1_d,wk1_own,wk1_nil,and_self]; done) | (intro i hi; simp only [upd]; (repeat' split); all_goals first | rfl | omega) | skip
     all_goals first | (rw [hw]; exact wk3_eq rfl) | (exfalso; simp_all; done) | trace_state
 · have hd : decide ((T.length : Int) ≤ k) = true := decide_eq_true (by omega)
   have hw : wordB T s k c = noStr := by unfold wordB; rw [List.getElem?_eq_none hkl]
   repeat' (first | (with_reducible first | refine XG_split (fun hq => ?_) (fun hq => ?_) | refine MX1.of 4000 (by simp) ?_ | refine MX2.of 4000 (by simp) ?_ | refine And.intro ?_ ?_) | ((with_reducible first | refine Or.inl (And.intro (And.intro mixedP ?_) ?_) | refine Or.inl (And.intro mixedP ?_)); kernel_rfl) | simp only [go_sem,Nat.reduceEqDiff,Nat.reduceAdd,Nat.reduceMul,Nat.reduceLeDiff,Int.reduceBEq,hkk,hd,hw,List.length_map])
   all_goals first | omega | (unfold maxLen; omega) | (right; omega) | (left; simp; done) | (simp only [wk3,wkL2,wk2,wkL,wk1_d,wk1_own,wk1_nil,and_self]; done) | (intro i hi; simp only [upd]; (repeat' split); all_goals first | rfl | omega) | skip
   all_goals first | (rw [hw]; exact wk3_eq rfl) | trace_state
set_option maxRecDepth 20000 in
set_option maxHeartbeats 4000000 in
theorem rplace_ok : FsOk Tryz.prog 19 rplaceS := by
 refine of_Y3 (E := EqT.no _) (F := Ft.no) vS (fun T => .d (.sl 3 (T.map Tok.cells))) vI (fun _ _ => aStr_le) (fun _ _ => aToks_le) (fun _ _ => aI64_le) Tryz.func19 rfl (by kernel_rfl) [.tmp 6] rfl Tryz.ntmps19 (by decide) (FtOk.no _) ?_
 intro s T k0 h n hp hok
 obtain ⟨hsz, hT, hk0, hk1⟩ := hp
 obtain ⟨k, rfl⟩ := Int.eq_ofNat_of_zero_le hk0
 have hkk : ((k : Nat) : Int).toNat = k := Int.toNat_natCast k
 rcases Nat.lt_or_ge k T.length with hkl | hkl
 · have hget : T[k]? = some T[k] := List.getElem?_eq_getElem hkl
   have hd : decide ((T.length : Int) ≤ k) = false := decide_eq_false (by omega)
   have hw : posOf T s k = T[k].lo := by unfold posOf; rw [hget]
   repeat' (first | (with_reducible first | refine XG_split (fun hq => ?_) (fun hq => ?_) | refine MX1.of 4000 (by simp) ?_ | refine MX2.of 4000 (by simp) ?_ | refine And.intro ?_ ?_) | ((with_reducible first | refine Or.inl (And.intro (And.intro mixedP ?_) ?_) | refine Or.inl (And.intro mixedP ?_)); kernel_rfl) | simp only [go_sem,Nat.reduceEqDiff,Nat.reduceAdd,Nat.reduceMul,Nat.reduceLeDiff,Int.reduceBEq,hkk,hd,hget,hw,Tok.cells,List.length_map,List.getElem?_map,Option.map_some])
   all_goals first | omega | (unfold maxLen; omega) | (right; omega) | (left; simp; done) | (simp only [wk3,wkL2,wk2,wkL,wk1_d,wk1_own,wk1_nil,and_self]; done) | (intro i hi; simp only [upd]; (repeat' split); all_goals first | rfl | omega) | skip
   all_goals first | (rw [hw]; exact wk3_eq rfl) | trace_state
 · have hd : decide ((T.length : Int) ≤ k) = true := decide_eq_true (by omega)
   have hw : posOf T s k = s.size := by unfold posOf; rw [List.getElem?_eq_none hkl]
   repeat' (first | (with_reducible first | refine XG_split (fun hq => ?_) (fun hq => ?_) | refine MX1.of 4000 (by simp) ?_ | refine MX2.of 4000 (by simp) ?_ | refine And.intro ?_ ?_) | ((with_reducible first | refine Or.inl (And.intro (And.intro mixedP ?_) ?_) | refine Or.inl (And.intro mixedP ?_)); kernel_rfl) | simp only [go_sem,Nat.reduceEqDiff,Nat.reduceAdd,Nat.reduceMul,Nat.reduceLeDiff,Int.reduceBEq,hkk,hd,hw,List.length_map])
   all_goals first | omega | (unfold maxLen; omega) | (right; omega) | (left; simp; done) | (simp only [wk3,wkL2,wk2,wkL,wk1_d,wk1_own,wk1_nil,and_self]; done) | (intro i hi; simp only [upd]; (repeat' split); all_goals first | rfl | omega) | skip
   all_goals first | (rw [hw]; exact wk3_eq rfl) | trace_state
set_option maxRecDepth 20000 in
set_option maxHeartbeats 4000000 in
theorem rnum_ok : FsOk Tryz.prog 20 rnumS := by
 refine of_X1 (E := EqT.no _) (F := Ft.no.put 50 readS) vS (fun _ _ => aStr_le) Tryz.func20 rfl (by kernel_rfl) [.tmp 2] rfl Tryz.ntmps20 (by decide) ((FtOk.no _).put refRead_ok) ?_
 intro s h n hok
 obtain ⟨v, q, hA⟩ : ∃ v q, readV s = (v, q) := ⟨_, _, rfl⟩
 have hN : numB s = if !q || decide (0 < v.sym.size) || decide (v.num < 1) || decide (1099511627776 < v.num) then 0 else v.num := by unfold numB; rw [hA]
 have hd : decide ((0 : Int) < (v.sym.size : Int)) = decide (0 < v.sym.size) := by rw [decide_eq_decide]; omega
 rw [← hd] at hN
 cases q <;> cases h1 : decide ((0 : Int) < (v.sym.size : Int)) <;> cases h2 : decide (v.num < 1) <;> cases h3 : decide ((1099511627776 : Int) < v.num)
 all_goals
  rw [h1, h2, h3] at hN
  repeat' (first | (with_reducible first | refine XG_split (fun hq => ?_) (fun hq => ?_) | refine MX1.of 4000 (by simp) ?_ | refine MX2.of 4000 (by simp) ?_ | refine And.intro ?_ ?_) | ((with_reducible first | refine Or.inl (And.intro (And.intro mixedP ?_) ?_) | refine Or.inl (And.intro mixedP ?_)); kernel_rfl) | simp only [go_sem,Nat.reduceEqDiff,Nat.reduceAdd,Nat.reduceMul,Nat.reduceLeDiff,Int.reduceBEq,Val.av,hA,h1,h2,h3])
  all_goals first | omega | (unfold maxLen; omega) | (right; omega) | (left; simp; done) | (simp only [wk3,wkL2,wk2,wkL,wk1_d,wk1_own,wk1_nil,and_self]; done) | (intro i hi; simp only [upd]; (repeat' split); all_goals first | rfl | omega) | skip
  all_goals first | (rw [hN]; exact wk3_eq rfl) | trace_state
end Go.Proofs.YtfhpecgknmfnnaaGreatDoor.M
end
section
namespace Go.Proofs.YtfhpecgknmfnnaaGreatDoor.M
open Go.R
structure Req where
 kind : Int
 label : ByteArray
 life : Int
 clause : Clause
 no : Int
 lit : Lit
def Req.z : Req := ⟨0, noStr, 0, Clause.z, 0, Lit.z⟩
def Req.cells (q : Req) : List DV := [.v (.int .u8 q.kind), .v (.string q.label), .v (.int .i64 q.life), .v (.int .u8 q.clause.head.kind), .v (.string q.clause.head.who.var), .v (.string q.clause.head.who.val.sym), .v (.int .i64 q.clause.head.who.val.num), .v (.string q.clause.head.pred), .sl 3 (q.clause.head.args.map Term.cells), .sl 6 (q.clause.body.map Lit.cells), .v (.int .i64 q.no), .v (.int .u8 q.lit.kind), .v (.string q.lit.who.var), .v (.string q.lit.who.val.sym), .v (.int .i64 q.lit.who.val.num), .v (.string q.lit.pred), .sl 3 (q.lit.args.map Term.cells)]
def Req.ds (q : Req) : List AV := [.d (.v (.int .u8 q.kind)), .d (.v (.string q.label)), .d (.v (.int .i64 q.life)), .d (.v (.int .u8 q.clause.head.kind)), .d (.v (.string q.clause.head.who.var)), .d (.v (.string q.clause.head.who.val.sym)), .d (.v (.int .i64 q.clause.head.who.val.num)), .d (.v (.string q.clause.head.pred)), .d (.sl 3 (q.clause.head.args.map Term.cells)), .d (.sl 6 (q.clause.body.map Lit.cells)), .d (.v (.int .i64 q.no)), .d (.v (.int .u8 q.lit.kind)), .d (.v (.string q.lit.who.var)), .d (.v (.string q.lit.who.val.sym)), .d (.v (.int .i64 q.lit.who.val.num)), .d (.v (.string q.lit.pred)), .d (.sl 3 (q.lit.args.map Term.cells))]
def Req.av (q : Req) : AV := .agg q.ds
def aReq : AV → Option Req
 | .agg [.d (.v (.int .u8 k)), .d (.v (.string l)), .d (.v (.int .i64 f)), .d (.v (.int .u8 ck)), .d (.v (.string ca)), .d (.v (.string cb)), .d (.v (.int .i64 cn)), .d (.v (.string cp)), x, y, .d (.v (.int .i64 m)), .d (.v (.int .u8 lk)), .d (.v (.string la)), .d (.v (.string lb)), .d (.v (.int .i64 ln)), .d (.v (.string lp)), z] =>
   (aTerms x).bind fun ts => (aLits y).bind fun ls => (aTerms z).map fun us => ⟨k, l, f, ⟨⟨ck, ⟨ca, ⟨cb, cn⟩⟩, cp, ts⟩, ls⟩, m, ⟨lk, ⟨la, ⟨lb, ln⟩⟩, lp, us⟩⟩
 | _ => none
@[go_sem] theorem aReq_of (k ck lk f cn m ln : Int) (l ca cb cp la lb lp : ByteArray) (x y z : AV) : aReq (.agg [.d (.v (.int .u8 k)), .d (.v (.string l)), .d (.v (.int .i64 f)), .d (.v (.int .u8 ck)), .d (.v (.string ca)), .d (.v (.string cb)), .d (.v (.int .i64 cn)), .d (.v (.string cp)), x, y, .d (.v (.int .i64 m)), .d (.v (.int .u8 lk)), .d (.v (.string la)), .d (.v (.string lb)), .d (.v (.int .i64 ln)), .d (.v (.string lp)), z]) =
   (aTerms x).bind fun ts => (aLits y).bind fun ls => (aTerms z).map fun us => ⟨k, l, f, ⟨⟨ck, ⟨ca, ⟨cb, cn⟩⟩, cp, ts⟩, ls⟩, m, ⟨lk, ⟨la, ⟨lb, ln⟩⟩, lp, us⟩⟩ := rfl
theorem aReq_le {x : AV} {q : Req} (h : aReq x = some q) : AV.le x q.av := by
 unfold aReq at h
 split at h
 · simp only [Option.bind_eq_some_iff, Option.map_eq_some_iff] at h
   obtain ⟨ts, hx, ls, hy, us, hz, rfl⟩ := h
   exact AV.le.agg ⟨AV.le.refl _, AV.le.refl _, AV.le.refl _, AV.le.refl _, AV.le.refl _, AV.le.refl _, AV.le.refl _, AV.le.refl _, aTerms_le hx, aLits_le hy, AV.le.refl _, AV.le.refl _, AV.le.refl _, AV.le.refl _, AV.le.refl _, AV.le.refl _, aTerms_le hz, trivial⟩
 · cases h
def smallR (q : Req) : Prop := smallC q.clause ∧ q.lit.args.length ≤ 4611686018427387904
noncomputable abbrev rsameS : Fs := .pureIf (g2p aReq aReq fun a b => smallR a) (g2 aReq aReq fun a b => vB (eqB a b))
set_option maxRecDepth 20000 in
set_option maxHeartbeats 8000000 in
theorem rsame_ok : FsOk Tryz.prog 8 rsameS := by
 refine of_Y2 (E := EqT.no _) (F := (Ft.no.put 23 sameS).put 24 sameLitS) Req.av Req.av (fun _ _ => aReq_le) (fun _ _ => aReq_le) Tryz.func8 rfl (by kernel_rfl) [.tmp 4] rfl Tryz.ntmps8 (by decide) (((FtOk.no _).put same_ok).put sameLit_ok) ?_
 intro a b h n hp hok
 obtain ⟨hp1, hp2⟩ := hp
 repeat' (first | (with_reducible first | refine XG_split (fun hq => ?_) (fun hq => ?_) | refine MX1.of 4000 (by simp) ?_ | refine MX2.of 4000 (by simp) ?_ | refine And.intro ?_ ?_) | ((with_reducible first | refine Or.inl (And.intro (And.intro mixedP ?_) ?_) | refine Or.inl (And.intro mixedP ?_)); kernel_rfl) | simp only [go_sem,Nat.reduceEqDiff,Nat.reduceAdd,Nat.reduceMul,Nat.reduceLeDiff,Int.reduceBEq,Req.av,Req.ds,Clause.av,Lit.av])
 all_goals first | exact hp1 | exact hp2 | skip
 all_goals first | omega | (unfold maxLen; omega) | (right; omega) | (left; simp; done) | (simp only [wk3,wkL2,wk2,wkL,wk1_d,wk1_own,wk1_nil,and_self]; done) | (intro i hi; simp only [upd]; (repeat' split); all_goals first | rfl | omega) | skip
 all_goals try refine wk_v (congrArg Value.bool ?_)
 · rename_i h1 h2 h3 h4
   have e1 : a.kind = b.kind := by simpa using h1
   have e2 : a.label = b.label := toList_inj (by simpa using h2)
   have e3 : a.life = b.life := by simpa using h3
   have e4 : a.no = b.no := by simpa using h4
   have e5 : a.clause = b.clause := Classical.byContradiction fun e => by rw [eqB_false e] at hq; cases hq
   by_cases e6 : a.lit = b.lit
   · rw [eqB_true e6]
     refine (eqB_true ?_).symm
     obtain ⟨a1, a2, a3, a4, a5, a6⟩ := a
     obtain ⟨b1, b2, b3, b4, b5, b6⟩ := b
     simp only at e1 e2 e3 e4 e5 e6
     rw [e1, e2, e3, e4, e5, e6]
   · rw [eqB_false e6]
     exact (eqB_false fun e => e6 (by rw [e])).symm
 all_goals exact (eqB_false (by rintro rfl; first | (rw [eqB_true rfl] at hq; cases hq; done) | (simp at hq; done))).symm
end Go.Proofs.YtfhpecgknmfnnaaGreatDoor.M
end
section
namespace Go.Proofs.YtfhpecgknmfnnaaGreatDoor.M
open Go.R Go.Proofs.YtfhpecgknmfnnaaGreatDoorW.PrintWords Go.Proofs.YtfhpecgknmfnnaaGreatDoorW.PrintMore
def allSt (s : ByteArray) (h : AH) (n : Nat) (x : Nat × List Tok) : St := match x.2 with
 | [] => ⟨fr [(0, vS s), (5, .d (.v (.slice none 0 0))), (6, vI x.1)] (List.replicate 37 .any), h, n, n⟩
 | t :: r => ⟨fr [(0, vS s), (5, .own (n + 1) 3 ((t :: r).map Tok.cells)), (6, vI x.1)] (List.replicate 37 .any), upd (upd h n (.box (tokBx t))) (n + 1) (.tok (r.length + 1) 3), n, n + 1 + 1⟩
theorem allGo_end {s : ByteArray} {f p : Nat} {acc : List Tok} (hf : 0 < f) (hp : s.size ≤ p) : allGo s f p acc = (acc, 0, 0) := by
 obtain ⟨g, rfl⟩ : ∃ g, f = g + 1 := ⟨f - 1, by omega⟩
 simp only [allGo]
 rw [if_pos hp]
theorem allGo_blank {s : ByteArray} {f p : Nat} {acc : List Tok} (hp : p < s.size) (h : (oneT s p).2 = 4) : allGo s (f + 1) p acc = allGo s f (p + 1) acc := by
 simp only [allGo]
 rw [if_neg (nblank hp), if_pos h]
theorem allGo_tok {s : ByteArray} {f p : Nat} {acc : List Tok} (hp : p < s.size) (h : (oneT s p).2 = 0) : allGo s (f + 1) p acc = allGo s f (oneT s p).1.hi.toNat (acc ++ [(oneT s p).1]) := by
 simp only [allGo]
 rw [if_neg (nblank hp), if_neg (by omega), if_pos h]
theorem allGo_bad {s : ByteArray} {f p : Nat} {acc : List Tok} (hp : p < s.size) (h4 : (oneT s p).2 ≠ 4) (h : (oneT s p).2 ≠ 0) : allGo s (f + 1) p acc = (([] : List Tok), (p : Int), (oneT s p).2) := by
 simp only [allGo]
 rw [if_neg (nblank hp), if_neg h4, if_neg h]
set_option maxRecDepth 10000 in
set_option maxHeartbeats 4000000 in
theorem refAll_ok : FsOk Tryz.prog 17 refAllS := by
 refine of_Y1 (E := EqT.no _) (F := Ft.no.put 49 refOneS) vS (fun _ _ => aStr_le) Tryz.func17 rfl (by kernel_rfl) [.tmp 2, .tmp 3, .tmp 4] rfl Tryz.ntmps17 (by decide) ((FtOk.no _).put refOne_ok) ?_
 intro s h n hp hok
 by_cases hbig : 4096 < s.size
 · have hA : allT s = ([], 0, 2) := by unfold allT; rw [if_pos hbig]
   repeat' (first | (with_reducible first | refine XG_split (fun hq => ?_) (fun hq => ?_) | refine MX1.of 4000 (by simp) ?_ | refine MX2.of 4000 (by simp) ?_ | refine And.intro ?_ ?_) | ((with_reducible first | refine Or.inl (And.intro (And.intro mixedP ?_) ?_) | refine Or.inl (And.intro mixedP ?_)); kernel_rfl) | simp only [go_sem,Nat.reduceEqDiff,Nat.reduceAdd,Nat.reduceMul,Nat.reduceLeDiff,Int.reduceBEq,decide_eq_true hbig,hA,List.map_nil])
   all_goals first | omega | (right; omega) | (left; simp; done) | (simp only [wk3,wkL2,wk2,wkL,wk1_d,wk1_own,wk1_nil,and_self]; done) | (intro i hi; simp only [upd]; (repeat' split); all_goals first | rfl | omega) | skip
 have hA : allT s = allGo s (s.size + 1) 0 [] := by unfold allT; rw [if_neg hbig]
 have hs : s.size ≤ 4096 := by omega
 repeat' (first | (with_reducible first | refine XG_split (fun hq => ?_) (fun hq => ?_) | refine MX1.of 4000 (by simp) ?_ | refine MX2.of 4000 (by simp) ?_ | refine And.intro ?_ ?_) | ((with_reducible first | refine Or.inl (And.intro (And.intro mixedP ?_) ?_) | refine Or.inl (And.intro mixedP ?_)); kernel_rfl) | simp only [go_sem,Nat.reduceEqDiff,Nat.reduceAdd,Nat.reduceMul,Nat.reduceLeDiff,Int.reduceBEq,decide_eq_false hbig])
 all_goals first | omega | (right; omega) | (left; simp; done) | (simp only [wk3,wkL2,wk2,wkL,wk1_d,wk1_own,wk1_nil,and_self]; done) | (intro i hi; simp only [upd]; (repeat' split); all_goals first | rfl | omega) | skip
 refine AW.loopJ (E := EqT.no _) (S := allSt s h n) (I := fun x => x.1 ≤ s.size ∧ x.2.length ≤ x.1 ∧ ∃ f, s.size - x.1 < f ∧ allGo s f x.1 x.2 = allGo s (s.size + 1) 0 []) (μ := fun x => s.size - x.1) (0, []) ⟨Nat.zero_le _, Nat.le_refl _, s.size + 1, by omega, rfl⟩ ?_ 4000 (fun x => by obtain ⟨p, _ | ⟨t, r⟩⟩ := x <;> simp only [allSt, fr_len, List.length_replicate] <;> decide) ?_
 · exact Wk.same (by simp only [go_sem, allSt]) hok (Nat.le_refl _) (by simp only [go_sem, allSt])
 · rintro ⟨p, acc⟩ ⟨hps, hac, f, hf, hG⟩
   simp only at hps hac hf hG
   obtain ⟨g, rfl⟩ : ∃ g, f = g + 1 := ⟨f - 1, by omega⟩
   rcases Nat.lt_or_ge p s.size with hpl | hpl
   · have hpl' : (p : Int) < (s.size : Int) := by omega
     have hT : ((p : Int)).toNat = p := Int.toNat_natCast p
     rcases hE4 : ((oneT s p).2 == 4) with _ | _
     case true =>
      rw [allGo_blank hpl (by simpa using hE4)] at hG
      cases acc with
      | nil =>
        repeat' (first | (with_reducible first | refine XG_split (fun hq => ?_) (fun hq => ?_) | refine MX1.of 4000 (by simp) ?_ | refine MX2.of 4000 (by simp) ?_ | refine And.intro ?_ ?_) | ((with_reducible first | refine Or.inl (And.intro (And.intro mixedP ?_) ?_) | refine Or.inl (And.intro mixedP ?_)); kernel_rfl) | simp only [go_sem,Nat.reduceEqDiff,Nat.reduceAdd,Nat.reduceMul,Nat.reduceLeDiff,Int.reduceBEq,allSt,decide_eq_true hpl,hT,hE4,Tok.av])
        all_goals first | omega | (right; omega) | (left; simp; done) | (simp only [wk3,wkL2,wk2,wkL,wk1_d,wk1_own,wk1_nil,and_self]; done) | (intro i hi; simp only [upd]; (repeat' split); all_goals first | rfl | omega) | skip
        exact ⟨(p + 1, []), ⟨by show p + 1 ≤ s.size; omega, Nat.zero_le _, g, by show s.size - (p + 1) < g; omega, hG⟩, Wk.of (by simp only [go_sem]) (by intro i hi; simp only [upd]; split; omega; rfl) hok (by omega) (Nat.le_refl _) (by simp only [go_sem]), by show s.size - (p + 1) < s.size - p; omega⟩
      | cons t r =>
        repeat' (first | (with_reducible first | refine XG_split (fun hq => ?_) (fun hq => ?_) | refine MX1.of 4000 (by simp) ?_ | refine MX2.of 4000 (by simp) ?_ | refine And.intro ?_ ?_) | ((with_reducible first | refine Or.inl (And.intro (And.intro mixedP ?_) ?_) | refine Or.inl (And.intro mixedP ?_)); kernel_rfl) | simp only [go_sem,Nat.reduceEqDiff,Nat.reduceAdd,Nat.reduceMul,Nat.reduceLeDiff,Int.reduceBEq,allSt,decide_eq_true hpl,hT,hE4,Tok.av])
        all_goals first | omega | (right; omega) | (left; simp; done) | (simp only [wk3,wkL2,wk2,wkL,wk1_d,wk1_own,wk1_nil,and_self]; done) | (intro i hi; simp only [upd]; (repeat' split); all_goals first | rfl | omega) | skip
        exact ⟨(p + 1, t :: r), ⟨by show p + 1 ≤ s.size; omega, by simp only [List.length_cons] at hac ⊢; omega, g, by show s.size - (p + 1) < g; omega, hG⟩, Wk.of (by simp only [go_sem, List.map_cons]) (by intro i hi; simp only [upd]; (repeat' split); all_goals first | rfl | omega) (by exact ((hok.mono (by omega)).upd_box (by omega) (by simp only [go_sem])).upd_tok (by omega)) (by omega) (by omega) (by simp only [go_sem]; omega), by show s.size - (p + 1) < s.size - p; omega⟩
     rcases hE0 : ((oneT s p).2 == 0) with _ | _
     case false =>
      rw [allGo_bad hpl (by simpa using hE4) (by simpa using hE0)] at hG
      rw [← hA] at hG
      have hE0' : ((oneT s p).2 != 0) = true := by simp only [bne, hE0]; rfl
      cases acc with
      | nil =>
        repeat' (first | (with_reducible first | refine XG_split (fun hq => ?_) (fun hq => ?_) | refine MX1.of 4000 (by simp) ?_ | refine MX2.of 4000 (by simp) ?_ | refine And.intro ?_ ?_) | ((with_reducible first | refine Or.inl (And.intro (And.intro mixedP ?_) ?_) | refine Or.inl (And.intro mixedP ?_)); kernel_rfl) | simp only [go_sem,Nat.reduceEqDiff,Nat.reduceAdd,Nat.reduceMul,Nat.reduceLeDiff,Int.reduceBEq,allSt,decide_eq_true hpl,hT,hE4,hE0',Tok.av,← hG,List.map_nil])
        all_goals first | omega | (right; omega) | (left; simp; done) | (simp only [wk3,wkL2,wk2,wkL,wk1_d,wk1_own,wk1_nil,and_self]; done) | (intro i hi; simp only [upd]; (repeat' split); all_goals first | rfl | omega) | skip
      | cons t r =>
        repeat' (first | (with_reducible first | refine XG_split (fun hq => ?_) (fun hq => ?_) | refine MX1.of 4000 (by simp) ?_ | refine MX2.of 4000 (by simp) ?_ | refine And.intro ?_ ?_) | ((with_reducible first | refine Or.inl (And.intro (And.intro mixedP ?_) ?_) | refine Or.inl (And.intro mixedP ?_)); kernel_rfl) | simp only [go_sem,Nat.reduceEqDiff,Nat.reduceAdd,Nat.reduceMul,Nat.reduceLeDiff,Int.reduceBEq,allSt,decide_eq_true hpl,hT,hE4,hE0',Tok.av,← hG,List.map_nil])
        all_goals first | omega | (right; omega) | (left; simp; done) | (simp only [wk3,wkL2,wk2,wkL,wk1_d,wk1_own,wk1_nil,and_self]; done) | (intro i hi; simp only [upd]; (repeat' split); all_goals first | rfl | omega) | skip
     case true =>
      have hE0' : ((oneT s p).2 != 0) = false := by simp only [bne, hE0]; rfl
      obtain ⟨o1, o2, o3⟩ := oneT_ok s p (by simpa using hE0)
      rw [allGo_tok hpl (by simpa using hE0)] at hG
      obtain ⟨q, hq⟩ : ∃ q : Nat, (oneT s p).1.hi = q := ⟨(oneT s p).1.hi.toNat, by omega⟩
      have hqT : (oneT s p).1.hi.toNat = q := by omega
      rw [hqT] at hG
      cases acc with
      | nil =>
        repeat' (first | (with_reducible first | refine XG_split (fun hq => ?_) (fun hq => ?_) | refine MX1.of 4000 (by simp) ?_ | refine MX2.of 4000 (by simp) ?_ | refine And.intro ?_ ?_) | ((with_reducible first | refine Or.inl (And.intro (And.intro mixedP ?_) ?_) | refine Or.inl (And.intro mixedP ?_)); kernel_rfl) | simp only [go_sem,Nat.reduceEqDiff,Nat.reduceAdd,Nat.reduceMul,Nat.reduceLeDiff,Int.reduceBEq,allSt,decide_eq_true hpl,hT,hE4,hE0',Tok.av,hq])
        all_goals first | omega | (right; omega) | (left; simp; done) | (simp only [wk3,wkL2,wk2,wkL,wk1_d,wk1_own,wk1_nil,and_self]; done) | (intro i hi; simp only [upd]; (repeat' split); all_goals first | rfl | omega) | skip
        all_goals try (unfold maxLen; omega)
        refine ⟨(q, [(oneT s p).1]), ⟨by show q ≤ s.size; omega, by show 1 ≤ q; omega, g, by show s.size - q < g; omega, hG⟩, Wk.of (by simp only [go_sem, List.map_cons, List.map_nil, Tok.cells, hq]) (by intro i hi; simp only [upd, hq, tokBx, List.length_nil]; (repeat' split); all_goals first | rfl | omega) (by exact ((hok.mono (by omega)).upd_box (by omega) (by simp only [go_sem])).upd_tok (by omega)) (by omega) (by omega) (by simp only [go_sem]; omega), by show s.size - q < s.size - p; omega⟩
      | cons t r =>
        simp only [List.length_cons] at hac
        repeat' (first | (with_reducible first | refine XG_split (fun hq => ?_) (fun hq => ?_) | refine MX1.of 4000 (by simp) ?_ | refine MX2.of 4000 (by simp) ?_ | refine And.intro ?_ ?_) | ((with_reducible first | refine Or.inl (And.intro (And.intro mixedP ?_) ?_) | refine Or.inl (And.intro mixedP ?_)); kernel_rfl) | simp only [go_sem,Nat.reduceEqDiff,Nat.reduceAdd,Nat.reduceMul,Nat.reduceLeDiff,Int.reduceBEq,allSt,decide_eq_true hpl,hT,hE4,hE0',Tok.av,hq])
        all_goals first | omega | (right; omega) | (left; simp; done) | (simp only [wk3,wkL2,wk2,wkL,wk1_d,wk1_own,wk1_nil,and_self]; done) | (intro i hi; simp only [upd]; (repeat' split); all_goals first | rfl | omega) | skip
        all_goals try (unfold maxLen; omega)
        refine ⟨(q, t :: (r ++ [(oneT s p).1])), ⟨by show q ≤ s.size; omega, by simp only [List.length_cons, List.length_append, List.length_nil]; omega, g, by show s.size - q < g; omega, hG⟩, Wk.of (by simp only [go_sem, List.map_cons, List.map_nil, List.map_append, Tok.cells, hq]) (by intro i hi; simp only [upd, hq, List.length_append, List.length_cons, List.length_nil, List.length_map]; (repeat' split); all_goals first | rfl | omega) (by exact ((hok.mono (by omega)).upd_box (by omega) (by simp only [go_sem])).upd_tok (by omega)) (by omega) (by omega) (by simp only [go_sem]; omega), by show s.size - q < s.size - p; omega⟩
   · obtain rfl : p = s.size := by omega
     rw [allGo_end (by omega) (Nat.le_refl _)] at hG
     rw [← hA] at hG
     cases acc with
     | nil =>
       repeat' (first | (with_reducible first | refine XG_split (fun hq => ?_) (fun hq => ?_) | refine MX1.of 4000 (by simp) ?_ | refine MX2.of 4000 (by simp) ?_ | refine And.intro ?_ ?_) | ((with_reducible first | refine Or.inl (And.intro (And.intro mixedP ?_) ?_) | refine Or.inl (And.intro mixedP ?_)); kernel_rfl) | simp only [go_sem,Nat.reduceEqDiff,Nat.reduceAdd,Nat.reduceMul,Nat.reduceLeDiff,Int.reduceBEq,allSt,Nat.lt_irrefl,decide_false,← hG,List.map_nil])
       all_goals first | omega | (right; omega) | (left; simp; done) | (simp only [wk3,wkL2,wk2,wkL,wk1_d,wk1_own,wk1_nil,and_self]; done) | (intro i hi; simp only [upd]; (repeat' split); all_goals first | rfl | omega) | skip
     | cons t r =>
       repeat' (first | (with_reducible first | refine XG_split (fun hq => ?_) (fun hq => ?_) | refine MX1.of 4000 (by simp) ?_ | refine MX2.of 4000 (by simp) ?_ | refine And.intro ?_ ?_) | ((with_reducible first | refine Or.inl (And.intro (And.intro mixedP ?_) ?_) | refine Or.inl (And.intro mixedP ?_)); kernel_rfl) | simp only [go_sem,Nat.reduceEqDiff,Nat.reduceAdd,Nat.reduceMul,Nat.reduceLeDiff,Int.reduceBEq,allSt,Nat.lt_irrefl,decide_false,← hG,List.map_nil])
       all_goals first | omega | (right; omega) | (left; simp; done) | (simp only [wk3,wkL2,wk2,wkL,wk1_d,wk1_own,wk1_nil,and_self]; done) | (intro i hi; simp only [upd]; (repeat' split); all_goals first | rfl | omega) | skip
end Go.Proofs.YtfhpecgknmfnnaaGreatDoor.M
end
section
namespace Go.Proofs.YtfhpecgknmfnnaaGreatDoor.M
open Go.R Go.Proofs.YtfhpecgknmfnnaaGreatDoorW.PrintWords Go.Proofs.YtfhpecgknmfnnaaGreatDoorW.PrintMore
@[go_sem] theorem Rd.adv_mk (R : Rd) : Rd.mk R.s R.T (R.k + 1) R.e R.fr = R.adv := rfl
theorem Rd.adv_mk2 (R : Rd) : Rd.mk R.s R.T (R.k + 1 + 1) R.e R.fr = R.adv.adv := rfl
@[go_sem] theorem Rd.adv_s (R : Rd) : R.adv.s = R.s := rfl
@[go_sem] theorem Rd.adv_T (R : Rd) : R.adv.T = R.T := rfl
@[go_sem] theorem Rd.adv_k (R : Rd) : R.adv.k = R.k + 1 := rfl
@[go_sem] theorem Rd.adv_e (R : Rd) : R.adv.e = R.e := rfl
@[go_sem] theorem Rd.adv_fr (R : Rd) : R.adv.fr = R.fr := rfl
theorem Rd.fail_k (R : Rd) (x : Int) : (R.fail x).k = R.k := by unfold Rd.fail; split <;> rfl
theorem Rd.fail_T (R : Rd) (x : Int) : (R.fail x).T = R.T := by unfold Rd.fail; split <;> rfl
theorem Rd.fail_s (R : Rd) (x : Int) : (R.fail x).s = R.s := by unfold Rd.fail; split <;> rfl
theorem RdOk.fail {R : Rd} (h : RdOk R) (x : Int) : RdOk (R.fail x) := by
 unfold RdOk
 rw [Rd.fail_k, Rd.fail_T, Rd.fail_s]
 exact h
theorem RdOk.len {R : Rd} (h : RdOk R) : R.k ≤ 4096 ∧ R.T.length ≤ 4096 := ⟨Nat.le_trans h.2 h.1.1, h.1.1⟩
theorem kd_lt {R : Rd} (h : R.kd ≠ 0) : R.k < R.T.length := by
 unfold Rd.kd kindT at h
 cases ht : R.T[R.k]? with
 | none => rw [ht] at h; exact absurd rfl h
 | some t => exact (List.getElem?_eq_some_iff.1 ht).1
theorem txt_lt {R : Rd} {m : Nat} {x : ByteArray} (h : ((R.txt m).toList == x.toList) = true) (hx : 0 < x.size) : R.k + m < R.T.length := by
 unfold Rd.txt textT at h
 cases ht : R.T[R.k + m]? with
 | none =>
   rw [ht] at h
   simp only [beq_iff_eq] at h
   have := toList_injA h
   rw [← this] at hx
   simp [ByteArray.size] at hx
 | some t => exact (List.getElem?_eq_some_iff.1 ht).1
theorem RdOk.adv_of {R : Rd} (h : RdOk R) (hk : R.k < R.T.length) : RdOk R.adv := ⟨h.1, hk⟩
theorem RdOk.adv_kd {R : Rd} (h : RdOk R) (hk : R.kd ≠ 0) : RdOk R.adv := h.adv_of (kd_lt hk)
theorem RdOk.adv_txt {R : Rd} (h : RdOk R) {x : ByteArray} (hk : ((R.txt 0).toList == x.toList) = true) (hx : 0 < x.size) : RdOk R.adv := h.adv_of (txt_lt hk hx)
def Rd.is (R : Rd) (m : Nat) (x : ByteArray) : Bool := (R.txt m).toList == x.toList
theorem RdOk.need {R : Rd} (h : RdOk R) {x : ByteArray} (hx : 0 < x.size) : RdOk (R.need x) := by
 unfold Rd.need
 split
 · rename_i hq
   simp only [Bool.and_eq_true] at hq
   exact h.adv_txt hq.2 hx
 · exact h.fail 6
def Rd.term (R : Rd) : Term × Rd := if R.e == 0 && (R.kd == 1 || R.kd == 2 || R.kd == 3) then (if R.kd == 2 then ⟨R.txt 0, Val.z⟩ else ⟨noStr, (readV (R.txt 0)).1⟩, R.adv) else (Term.z, R.fail 6)
theorem RdOk.term {R : Rd} (h : RdOk R) : RdOk R.term.2 := by
 unfold Rd.term
 split
 · rename_i hq
   refine h.adv_kd fun e => ?_
   rw [e] at hq
   simp at hq
 · exact h.fail 6
def Rd.argsL : Nat → List Term → Rd → Option (List Term) × Rd
 | 0, acc, R => if R.e == 0 && R.is 0 ⟨#[44]⟩ then (none, R.fail 2) else (some acc, R)
 | f + 1, acc, R => if R.e == 0 && R.is 0 ⟨#[44]⟩ then Rd.argsL f (acc ++ [R.adv.term.1]) R.adv.term.2 else (some acc, R)
theorem RdOk.argsL : ∀ (f : Nat) (acc : List Term) {R : Rd}, RdOk R → RdOk (Rd.argsL f acc R).2
 | 0, acc, R, h => by
   unfold Rd.argsL
   split
   · exact h.fail 2
   · exact h
 | f + 1, acc, R, h => by
   unfold Rd.argsL
   split
   · rename_i hq
     simp only [Bool.and_eq_true] at hq
     exact RdOk.argsL f _ (h.adv_txt hq.2 (by decide)).term
   · exact h
def Rd.atom (R : Rd) : (ByteArray × List Term) × Rd :=
 if R.e == 0 && R.kd == 1 then
  if R.adv.is 0 ⟨#[40]⟩ then match (Rd.argsL 3 [R.adv.adv.term.1] R.adv.adv.term.2).1 with
   | none => ((noStr, []), (Rd.argsL 3 [R.adv.adv.term.1] R.adv.adv.term.2).2)
   | some l => ((R.txt 0, l), (Rd.argsL 3 [R.adv.adv.term.1] R.adv.adv.term.2).2.need ⟨#[41]⟩)
  else ((R.txt 0, []), R.adv)
 else ((noStr, []), R.fail 6)
theorem RdOk.atom {R : Rd} (h : RdOk R) : RdOk R.atom.2 := by
 unfold Rd.atom
 split
 · rename_i hq
   simp only [Bool.and_eq_true, beq_iff_eq] at hq
   have h1 := h.adv_kd (by rw [hq.2]; decide)
   split
   · rename_i hq2
     have h2 := RdOk.argsL 3 [R.adv.adv.term.1] (h1.adv_txt hq2 (by decide)).term
     split
     · exact h2
     · exact h2.need (by decide)
   · exact h1
 · exact h.fail 6
def saysS : ByteArray := ⟨#[115, 97, 121, 115]⟩
def Rd.said (R : Rd) (kind : Int) : Lit × Rd :=
 if R.kd == 2 || (R.kd == 1 && R.is 1 saysS) then (⟨kind, R.term.1, (R.term.2.need saysS).atom.1.1, (R.term.2.need saysS).atom.1.2⟩, (R.term.2.need saysS).atom.2)
 else (⟨kind, Term.z, R.atom.1.1, R.atom.1.2⟩, R.atom.2)
theorem RdOk.said {R : Rd} (h : RdOk R) (kind : Int) : RdOk (R.said kind).2 := by
 unfold Rd.said
 split
 · exact (h.term.need (by decide)).atom
 · exact h.atom
def Rd.compare (R : Rd) : Bool := R.kd == 3 || (R.kd == 2 && !R.is 1 saysS) || (R.kd == 1 && (R.is 1 ⟨#[60]⟩ || R.is 1 ⟨#[33, 61]⟩))
def Rd.mid (R : Rd) : Int × Rd := if R.is 0 ⟨#[33, 61]⟩ then (4, R.adv) else (3, R.need ⟨#[60]⟩)
theorem RdOk.mid {R : Rd} (h : RdOk R) : RdOk R.mid.2 := by
 unfold Rd.mid
 split
 · rename_i hq; exact h.adv_txt hq (by decide)
 · exact h.need (by decide)
def Rd.literal (R : Rd) : Lit × Rd :=
 if R.is 0 ⟨#[110, 111, 116]⟩ then R.adv.said 2
 else if R.compare then (⟨R.term.2.mid.1, Term.z, noStr, [R.term.1, R.term.2.mid.2.term.1]⟩, R.term.2.mid.2.term.2)
 else R.said 1
theorem RdOk.literal {R : Rd} (h : RdOk R) : RdOk R.literal.2 := by
 unfold Rd.literal
 split
 · rename_i hq; exact (h.adv_txt hq (by decide)).said 2
 · split
   · exact h.term.mid.term
   · exact h.said 1
def termF (R : Rd) : List AV → Option (AV × Rd)
 | [] => some (R.term.1.av, R.term.2)
 | _ => none
abbrev termRS : Fs := obS obRd (fun R _ => RdOk R) termF
def atomF' (R : Rd) : List AV → Option (AV × Rd)
 | [] => some (.tup [vS R.atom.1.1, .d (.sl 3 (R.atom.1.2.map Term.cells))], R.atom.2)
 | _ => none
abbrev atomRS : Fs := obS obRd (fun R _ => RdOk R) atomF'
def saidF (R : Rd) : List AV → Option (AV × Rd)
 | [.d (.v (.int .u8 k))] => some ((R.said k).1.av, (R.said k).2)
 | _ => none
abbrev saidRS : Fs := obS obRd (fun R _ => RdOk R) saidF
def literalF (R : Rd) : List AV → Option (AV × Rd)
 | [] => some (R.literal.1.av, R.literal.2)
 | _ => none
abbrev literalRS : Fs := obS obRd (fun R _ => RdOk R) literalF
attribute [go_sem] termF atomF' saidF literalF
set_option maxRecDepth 10000 in
set_option maxHeartbeats 4000000 in
theorem term_ok2 : FsOk Tryz.prog 85 termRS := by
 refine of_obS (E := EqT.no _) (F := ((((Ft.no.put 53 textS).put 84 kindS).put 55 failS).put 56 needS).put 50 readS) Tryz.func85 rfl (by kernel_rfl) [.cell 2 25] rfl Tryz.ntmps85 ((((((FtOk.no _).put text_ok).put kind_ok).put fail_ok).put need_ok).put refRead_ok) ?_
 intro R args r R' i h n hp hg hi hok
 unfold termF at hg
 split at hg
 · cases hg
   have hi0 : i ≠ n := by omega
   have hi1 : i ≠ n + 1 := by omega
   have hi2 : i ≠ n + 1 + 1 := by omega
   have hi3 : i ≠ n + 1 + 1 + 1 := by omega
   have hj0 : n ≠ i := by omega
   have hj1 : n + 1 ≠ i := by omega
   have hj2 : n + 1 + 1 ≠ i := by omega
   have hj3 : n + 1 + 1 + 1 ≠ i := by omega
   have hL := hp.len
   obtain ⟨hL1, hL2⟩ := hL
   refine ⟨[], trivial, ⟨by decide, by simp⟩, ?_⟩
   by_cases he : R.e = 0
   · have he1 : (R.e != 0) = false := by simp [he]
     by_cases k1 : R.kd = 1
     · have hF : R.term = (⟨noStr, (readV (R.txt 0)).1⟩, R.adv) := by simp [Rd.term, he, k1]
       have hA := hp.adv_kd (by rw [k1]; decide)
       rw [hF]
       repeat' (first | (with_reducible first | refine XG_split (fun hq => ?_) (fun hq => ?_) | refine MX1.of 4000 (by simp) ?_ | refine MX2.of 4000 (by simp) ?_ | refine And.intro ?_ ?_) | ((with_reducible first | refine Or.inl (And.intro (And.intro mixedP ?_) ?_) | refine Or.inl (And.intro mixedP ?_)); kernel_rfl) | simp only [go_sem,Nat.reduceEqDiff,Nat.reduceAdd,Nat.reduceMul,Nat.reduceLeDiff,Int.reduceBEq,upd_ne,hi0,hi1,hi2,hi3,hj0,hj1,hj2,hj3,he1,k1,Term.av,Val.av,Int.reduceBNe,noStr,Term.z,Val.z])
       all_goals first | omega | (unfold maxLen; omega) | (right; omega) | (left; simp; done) | (simp only [wk3,wkL2,wk2,wkL,wk1_d,wk1_own,wk1_nil,and_self]; done) | (intro i hi; simp only [upd]; (repeat' split); all_goals first | rfl | omega) | exact hp | (exact RdOk.fail hp _) | (refine ⟨hp,?_,?_⟩ <;> omega) | skip
     by_cases k2 : R.kd = 2
     · have hF : R.term = (⟨R.txt 0, Val.z⟩, R.adv) := by simp [Rd.term, he, k2]
       have hA := hp.adv_kd (by rw [k2]; decide)
       rw [hF]
       repeat' (first | (with_reducible first | refine XG_split (fun hq => ?_) (fun hq => ?_) | refine MX1.of 4000 (by simp) ?_ | refine MX2.of 4000 (by simp) ?_ | refine And.intro ?_ ?_) | ((with_reducible first | refine Or.inl (And.intro (And.intro mixedP ?_) ?_) | refine Or.inl (And.intro mixedP ?_)); kernel_rfl) | simp only [go_sem,Nat.reduceEqDiff,Nat.reduceAdd,Nat.reduceMul,Nat.reduceLeDiff,Int.reduceBEq,upd_ne,hi0,hi1,hi2,hi3,hj0,hj1,hj2,hj3,he1,k2,Term.av,Val.av,Int.reduceBNe,noStr,Term.z,Val.z])
       all_goals first | omega | (unfold maxLen; omega) | (right; omega) | (left; simp; done) | (simp only [wk3,wkL2,wk2,wkL,wk1_d,wk1_own,wk1_nil,and_self]; done) | (intro i hi; simp only [upd]; (repeat' split); all_goals first | rfl | omega) | exact hp | (exact RdOk.fail hp _) | (refine ⟨hp,?_,?_⟩ <;> omega) | skip
     by_cases k3 : R.kd = 3
     · have hF : R.term = (⟨noStr, (readV (R.txt 0)).1⟩, R.adv) := by simp [Rd.term, he, k3]
       have hA := hp.adv_kd (by rw [k3]; decide)
       rw [hF]
       repeat' (first | (with_reducible first | refine XG_split (fun hq => ?_) (fun hq => ?_) | refine MX1.of 4000 (by simp) ?_ | refine MX2.of 4000 (by simp) ?_ | refine And.intro ?_ ?_) | ((with_reducible first | refine Or.inl (And.intro (And.intro mixedP ?_) ?_) | refine Or.inl (And.intro mixedP ?_)); kernel_rfl) | simp only [go_sem,Nat.reduceEqDiff,Nat.reduceAdd,Nat.reduceMul,Nat.reduceLeDiff,Int.reduceBEq,upd_ne,hi0,hi1,hi2,hi3,hj0,hj1,hj2,hj3,he1,k3,Term.av,Val.av,Int.reduceBNe,noStr,Term.z,Val.z])
       all_goals first | omega | (unfold maxLen; omega) | (right; omega) | (left; simp; done) | (simp only [wk3,wkL2,wk2,wkL,wk1_d,wk1_own,wk1_nil,and_self]; done) | (intro i hi; simp only [upd]; (repeat' split); all_goals first | rfl | omega) | exact hp | (exact RdOk.fail hp _) | (refine ⟨hp,?_,?_⟩ <;> omega) | skip
     · have hF : R.term = (Term.z, R.fail 6) := by simp [Rd.term, k1, k2, k3]
       have c1 : (R.kd != 1) = true := by simp [k1]
       have c2 : (R.kd != 2) = true := by simp [k2]
       have c3 : (R.kd != 3) = true := by simp [k3]
       rw [hF]
       repeat' (first | (with_reducible first | refine XG_split (fun hq => ?_) (fun hq => ?_) | refine MX1.of 4000 (by simp) ?_ | refine MX2.of 4000 (by simp) ?_ | refine And.intro ?_ ?_) | ((with_reducible first | refine Or.inl (And.intro (And.intro mixedP ?_) ?_) | refine Or.inl (And.intro mixedP ?_)); kernel_rfl) | simp only [go_sem,Nat.reduceEqDiff,Nat.reduceAdd,Nat.reduceMul,Nat.reduceLeDiff,Int.reduceBEq,upd_ne,hi0,hi1,hi2,hi3,hj0,hj1,hj2,hj3,he1,c1,c2,c3,Term.av,Val.av,Int.reduceBNe,Term.z,Val.z])
       all_goals first | omega | (unfold maxLen; omega) | (right; omega) | (left; simp; done) | (simp only [wk3,wkL2,wk2,wkL,wk1_d,wk1_own,wk1_nil,and_self]; done) | (intro i hi; simp only [upd]; (repeat' split); all_goals first | rfl | omega) | exact hp | (exact RdOk.fail hp _) | (refine ⟨hp,?_,?_⟩ <;> omega) | skip
   · have he1 : (R.e != 0) = true := by simp [he]
     have hF : R.term = (Term.z, R.fail 6) := by simp [Rd.term, he]
     rw [hF]
     repeat' (first | (with_reducible first | refine XG_split (fun hq => ?_) (fun hq => ?_) | refine MX1.of 4000 (by simp) ?_ | refine MX2.of 4000 (by simp) ?_ | refine And.intro ?_ ?_) | ((with_reducible first | refine Or.inl (And.intro (And.intro mixedP ?_) ?_) | refine Or.inl (And.intro mixedP ?_)); kernel_rfl) | simp only [go_sem,Nat.reduceEqDiff,Nat.reduceAdd,Nat.reduceMul,Nat.reduceLeDiff,Int.reduceBEq,upd_ne,hi0,hi1,hi2,hi3,hj0,hj1,hj2,hj3,he1,Term.av,Term.z,Val.z])
     all_goals first | omega | (unfold maxLen; omega) | (right; omega) | (left; simp; done) | (simp only [wk3,wkL2,wk2,wkL,wk1_d,wk1_own,wk1_nil,and_self]; done) | (intro i hi; simp only [upd]; (repeat' split); all_goals first | rfl | omega) | exact hp | (exact RdOk.fail hp _) | (refine ⟨hp,?_,?_⟩ <;> omega) | skip
 · cases hg
set_option maxRecDepth 10000 in
set_option maxHeartbeats 4000000 in
theorem atom_ok2 : FsOk Tryz.prog 52 atomRS := by
 refine of_obS (E := EqT.no _) (F := ((((Ft.no.put 53 textS).put 84 kindS).put 55 failS).put 56 needS).put 85 termRS) Tryz.func52 rfl (by kernel_rfl) [.tmp 2, .tmp 3] rfl Tryz.ntmps52 ((((((FtOk.no _).put text_ok).put kind_ok).put fail_ok).put need_ok).put term_ok2) ?_
 intro R args r R' i h n hp hg hi hok
 unfold atomF' at hg
 split at hg
 · cases hg
   have hi0 : i ≠ n := by omega
   have hi1 : i ≠ n + 1 := by omega
   have hi2 : i ≠ n + 1 + 1 := by omega
   have hi3 : i ≠ n + 1 + 1 + 1 := by omega
   have hj0 : n ≠ i := by omega
   have hj1 : n + 1 ≠ i := by omega
   have hj2 : n + 1 + 1 ≠ i := by omega
   have hj3 : n + 1 + 1 + 1 ≠ i := by omega
   have hL := hp.len
   obtain ⟨hL1, hL2⟩ := hL
   have hokH : ∀ Q : Rd, HOk n (upd h i (.box (obRd.bx Q))) := fun Q => by
    have := hok.upd_box (i := i) (cs := obRd.bx Q) hi (obRd.lt n Q)
    have e : upd (upd h i (.box (obRd.bx R))) i (.box (obRd.bx Q)) = upd h i (.box (obRd.bx Q)) := by
     funext j
     simp only [upd]
     split <;> rfl
    rwa [e] at this
   refine ⟨[], trivial, ⟨by decide, by simp⟩, ?_⟩
   by_cases he : R.e = 0
   · have he1 : (R.e != 0) = false := by simp [he]
     by_cases k1 : R.kd = 1
     · have hA := hp.adv_kd (by rw [k1]; decide)
       have hk := kd_lt (R := R) (by rw [k1]; decide)
       cases ho : R.adv.is 0 ⟨#[40]⟩ with
       | false =>
         have hF : R.atom = ((R.txt 0, []), R.adv) := by simp [Rd.atom, he, k1, ho]
         unfold Rd.is at ho
         rw [hF]
         repeat' (first | (with_reducible first | refine XG_split (fun hq => ?_) (fun hq => ?_) | refine MX1.of 4000 (by simp) ?_ | refine MX2.of 4000 (by simp) ?_ | refine And.intro ?_ ?_) | ((with_reducible first | refine Or.inl (And.intro (And.intro mixedP ?_) ?_) | refine Or.inl (And.intro mixedP ?_)); kernel_rfl) | simp only [go_sem,Nat.reduceEqDiff,Nat.reduceAdd,Nat.reduceMul,Nat.reduceLeDiff,Int.reduceBEq,upd_ne,hi0,hi1,hi2,hi3,hj0,hj1,hj2,hj3,Rd.adv_mk2,Term.av,noStr,List.map_nil,Int.reduceBNe,he1,k1,ho])
         all_goals first | omega | (unfold maxLen; omega) | (right; omega) | (left; simp; done) | (simp only [wk3,wkL2,wk2,wkL,wk1_d,wk1_own,wk1_nil,and_self]; done) | (intro i hi; simp only [upd]; (repeat' split); all_goals first | rfl | omega) | exact hp | exact hA | exact hAA | exact hT0 | exact hR' | exact hA' | exact hA'.term | (exact RdOk.fail hR' _) | (refine ⟨hA,?_,?_⟩ <;> omega) | (refine ⟨hR',?_,?_⟩ <;> omega) | (refine ⟨hT0,?_,?_⟩ <;> omega) | (exact RdOk.fail hp _) | (refine ⟨hp,?_,?_⟩ <;> omega) | skip
       | true =>
         obtain ⟨fin, hfin⟩ : ∃ f, f = Rd.argsL 3 [R.adv.adv.term.1] R.adv.adv.term.2 := ⟨_, rfl⟩
         have hF : R.atom = match fin.1 with
          | none => ((noStr, []), fin.2)
          | some l => ((R.txt 0, l), fin.2.need ⟨#[41]⟩) := by rw [hfin]; simp [Rd.atom, he, k1, ho]
         have hAA : RdOk R.adv.adv := hA.adv_txt ho (by decide)
         unfold Rd.is at ho
         have hT0 := hAA.term
         repeat' (first | (with_reducible first | refine XG_split (fun hq => ?_) (fun hq => ?_) | refine MX1.of 4000 (by simp) ?_ | refine MX2.of 4000 (by simp) ?_ | refine And.intro ?_ ?_) | ((with_reducible first | refine Or.inl (And.intro (And.intro mixedP ?_) ?_) | refine Or.inl (And.intro mixedP ?_)); kernel_rfl) | simp only [go_sem,Nat.reduceEqDiff,Nat.reduceAdd,Nat.reduceMul,Nat.reduceLeDiff,Int.reduceBEq,upd_ne,hi0,hi1,hi2,hi3,hj0,hj1,hj2,hj3,Rd.adv_mk2,Term.av,noStr,List.map_nil,Int.reduceBNe,he1,k1,ho])
         all_goals first | omega | (unfold maxLen; omega) | (right; omega) | (left; simp; done) | (simp only [wk3,wkL2,wk2,wkL,wk1_d,wk1_own,wk1_nil,and_self]; done) | (intro i hi; simp only [upd]; (repeat' split); all_goals first | rfl | omega) | exact hp | exact hA | exact hAA | exact hT0 | exact hR' | exact hA' | exact hA'.term | (exact RdOk.fail hR' _) | (refine ⟨hA,?_,?_⟩ <;> omega) | (refine ⟨hR',?_,?_⟩ <;> omega) | (refine ⟨hT0,?_,?_⟩ <;> omega) | (exact RdOk.fail hp _) | (refine ⟨hp,?_,?_⟩ <;> omega) | skip
         refine AW.loopJ (E := EqT.no _) (S := fun x : List Term × Rd => ⟨fr [(0, .p i 0), (2, vS ⟨#[]⟩), (3, .d (.v (.slice none 0 0))), (4, vS (R.txt 0)), (5, .own n 3 (x.1.map Term.cells))] (List.replicate 74 .any), upd (upd h i (.box (obRd.bx x.2))) n (.tok x.1.length 3), n, n + 1⟩)
          (I := fun x => 1 ≤ x.1.length ∧ x.1.length ≤ 4 ∧ RdOk x.2 ∧ Rd.argsL (4 - x.1.length) x.1 x.2 = fin) (μ := fun x => 4 - x.1.length) ([R.adv.adv.term.1], R.adv.adv.term.2) ⟨Nat.le_refl _, by show 1 ≤ 4; decide, hT0, hfin.symm⟩ ?_ 4000 (fun _ => by simp only [fr_len, List.length_replicate]; decide) ?_
         · refine Wk.of (by simp only [go_sem, List.map_cons, List.map_nil, Term.cells]) ?_ ?_ (Nat.le_refl _) (by omega) (by simp only [go_sem]; omega)
           · intro j hj
             simp only [upd, obRd_bx]
             (repeat' split)
             all_goals first | rfl | omega
           · refine ((hokH _).mono (Nat.le_succ n)).upd_tok (Nat.lt_succ_self n)
         · rintro ⟨acc, R'⟩ ⟨ha1, ha4, hR', hI⟩
           simp only at ha1 ha4 hR' hI
           obtain ⟨hM1, hM2⟩ := hR'.len
           have fin0 : ∀ (q : (R'.e == 0 && R'.is 0 ⟨#[44]⟩) = false), fin = (some acc, R') := fun q => by
            rw [← hI]
            cases 4 - acc.length <;> simp only [Rd.argsL, q, Bool.false_eq_true, if_false]
           by_cases he' : R'.e = 0
           · have he2 : (R'.e == 0) = true := by simp [he']
             cases hc : R'.is 0 ⟨#[44]⟩ with
             | false =>
               have hf := fin0 (by rw [hc, Bool.and_false])
               rw [hf] at hF
               simp only at hF
               unfold Rd.is at hc
               rw [hF]
               repeat' (first | (with_reducible first | refine XG_split (fun hq => ?_) (fun hq => ?_) | refine MX1.of 4000 (by simp) ?_ | refine MX2.of 4000 (by simp) ?_ | refine And.intro ?_ ?_) | ((with_reducible first | refine Or.inl (And.intro (And.intro mixedP ?_) ?_) | refine Or.inl (And.intro mixedP ?_)); kernel_rfl) | simp only [go_sem,Nat.reduceEqDiff,Nat.reduceAdd,Nat.reduceMul,Nat.reduceLeDiff,Int.reduceBEq,upd_ne,hi0,hi1,hi2,hi3,hj0,hj1,hj2,hj3,Rd.adv_mk2,Term.av,noStr,List.map_nil,Int.reduceBNe,he2,hc])
               all_goals first | omega | (unfold maxLen; omega) | (right; omega) | (left; simp; done) | (simp only [wk3,wkL2,wk2,wkL,wk1_d,wk1_own,wk1_nil,and_self]; done) | (intro i hi; simp only [upd]; (repeat' split); all_goals first | rfl | omega) | exact hp | exact hA | exact hAA | exact hT0 | exact hR' | exact hA' | exact hA'.term | (exact RdOk.fail hR' _) | (refine ⟨hA,?_,?_⟩ <;> omega) | (refine ⟨hR',?_,?_⟩ <;> omega) | (refine ⟨hT0,?_,?_⟩ <;> omega) | (exact RdOk.fail hp _) | (refine ⟨hp,?_,?_⟩ <;> omega) | skip
             | true =>
               have hA' := hR'.adv_txt hc (by decide)
               have hk' := txt_lt hc (by decide)
               have hc0 := hc
               unfold Rd.is at hc
               by_cases h4 : acc.length = 4
               · have h4' : (acc.length == 4) = true := by simp [h4]
                 have hf : fin = (none, R'.fail 2) := by
                  rw [← hI, h4]
                  simp only [Nat.sub_self, Rd.argsL, he2, hc0, Bool.and_self, if_true]
                 rw [hf] at hF
                 simp only at hF
                 rw [hF]
                 repeat' (first | (with_reducible first | refine XG_split (fun hq => ?_) (fun hq => ?_) | refine MX1.of 4000 (by simp) ?_ | refine MX2.of 4000 (by simp) ?_ | refine And.intro ?_ ?_) | ((with_reducible first | refine Or.inl (And.intro (And.intro mixedP ?_) ?_) | refine Or.inl (And.intro mixedP ?_)); kernel_rfl) | simp only [go_sem,Nat.reduceEqDiff,Nat.reduceAdd,Nat.reduceMul,Nat.reduceLeDiff,Int.reduceBEq,upd_ne,hi0,hi1,hi2,hi3,hj0,hj1,hj2,hj3,Rd.adv_mk2,Term.av,noStr,List.map_nil,Int.reduceBNe,he2,hc,h4'])
                 all_goals first | omega | (unfold maxLen; omega) | (right; omega) | (left; simp; done) | (simp only [wk3,wkL2,wk2,wkL,wk1_d,wk1_own,wk1_nil,and_self]; done) | (intro i hi; simp only [upd]; (repeat' split); all_goals first | rfl | omega) | exact hp | exact hA | exact hAA | exact hT0 | exact hR' | exact hA' | exact hA'.term | (exact RdOk.fail hR' _) | (refine ⟨hA,?_,?_⟩ <;> omega) | (refine ⟨hR',?_,?_⟩ <;> omega) | (refine ⟨hT0,?_,?_⟩ <;> omega) | (exact RdOk.fail hp _) | (refine ⟨hp,?_,?_⟩ <;> omega) | skip
               · have h4' : (acc.length == 4) = false := by simp [h4]
                 repeat' (first | (with_reducible first | refine XG_split (fun hq => ?_) (fun hq => ?_) | refine MX1.of 4000 (by simp) ?_ | refine MX2.of 4000 (by simp) ?_ | refine And.intro ?_ ?_) | ((with_reducible first | refine Or.inl (And.intro (And.intro mixedP ?_) ?_) | refine Or.inl (And.intro mixedP ?_)); kernel_rfl) | simp only [go_sem,Nat.reduceEqDiff,Nat.reduceAdd,Nat.reduceMul,Nat.reduceLeDiff,Int.reduceBEq,upd_ne,hi0,hi1,hi2,hi3,hj0,hj1,hj2,hj3,Rd.adv_mk2,Term.av,noStr,List.map_nil,Int.reduceBNe,he2,hc,h4'])
                 all_goals first | omega | (unfold maxLen; omega) | (right; omega) | (left; simp; done) | (simp only [wk3,wkL2,wk2,wkL,wk1_d,wk1_own,wk1_nil,and_self]; done) | (intro i hi; simp only [upd]; (repeat' split); all_goals first | rfl | omega) | exact hp | exact hA | exact hAA | exact hT0 | exact hR' | exact hA' | exact hA'.term | (exact RdOk.fail hR' _) | (refine ⟨hA,?_,?_⟩ <;> omega) | (refine ⟨hR',?_,?_⟩ <;> omega) | (refine ⟨hT0,?_,?_⟩ <;> omega) | (exact RdOk.fail hp _) | (refine ⟨hp,?_,?_⟩ <;> omega) | skip
                 all_goals try (unfold maxLen; omega)
                 refine ⟨(acc ++ [R'.adv.term.1], R'.adv.term.2), ⟨by simp only [List.length_append, List.length_cons, List.length_nil]; omega, by simp only [List.length_append, List.length_cons, List.length_nil]; omega, hA'.term, ?_⟩, Wk.of (by simp only [go_sem, List.map_cons, List.map_nil, List.map_append, Term.cells]) ?_ ?_ (Nat.le_refl _) (by omega) (by simp only [go_sem]; omega), by simp only [List.length_append, List.length_cons, List.length_nil]; omega⟩
                 · rw [← hI]
                   obtain ⟨m, hm⟩ : ∃ m, 4 - acc.length = m + 1 := ⟨4 - acc.length - 1, by omega⟩
                   rw [hm]
                   simp only [Rd.argsL, he2, hc0, Bool.and_self, if_true, List.length_append, List.length_cons, List.length_nil]
                   congr 1
                   omega
                 · intro j hj
                   simp only [upd, obRd_bx, List.length_append, List.length_cons, List.length_nil]
                   (repeat' split)
                   all_goals first | rfl | omega
                 · refine ((hokH _).mono (Nat.le_succ n)).upd_tok (Nat.lt_succ_self n)
           · have he2 : (R'.e == 0) = false := by simp [he']
             have hf := fin0 (by rw [he2, Bool.false_and])
             rw [hf] at hF
             simp only at hF
             rw [hF]
             repeat' (first | (with_reducible first | refine XG_split (fun hq => ?_) (fun hq => ?_) | refine MX1.of 4000 (by simp) ?_ | refine MX2.of 4000 (by simp) ?_ | refine And.intro ?_ ?_) | ((with_reducible first | refine Or.inl (And.intro (And.intro mixedP ?_) ?_) | refine Or.inl (And.intro mixedP ?_)); kernel_rfl) | simp only [go_sem,Nat.reduceEqDiff,Nat.reduceAdd,Nat.reduceMul,Nat.reduceLeDiff,Int.reduceBEq,upd_ne,hi0,hi1,hi2,hi3,hj0,hj1,hj2,hj3,Rd.adv_mk2,Term.av,noStr,List.map_nil,Int.reduceBNe,he2])
             all_goals first | omega | (unfold maxLen; omega) | (right; omega) | (left; simp; done) | (simp only [wk3,wkL2,wk2,wkL,wk1_d,wk1_own,wk1_nil,and_self]; done) | (intro i hi; simp only [upd]; (repeat' split); all_goals first | rfl | omega) | exact hp | exact hA | exact hAA | exact hT0 | exact hR' | exact hA' | exact hA'.term | (exact RdOk.fail hR' _) | (refine ⟨hA,?_,?_⟩ <;> omega) | (refine ⟨hR',?_,?_⟩ <;> omega) | (refine ⟨hT0,?_,?_⟩ <;> omega) | (exact RdOk.fail hp _) | (refine ⟨hp,?_,?_⟩ <;> omega) | skip
     · have hF : R.atom = ((noStr, []), R.fail 6) := by simp [Rd.atom, k1]
       have c1 : (R.kd != 1) = true := by simp [k1]
       rw [hF]
       repeat' (first | (with_reducible first | refine XG_split (fun hq => ?_) (fun hq => ?_) | refine MX1.of 4000 (by simp) ?_ | refine MX2.of 4000 (by simp) ?_ | refine And.intro ?_ ?_) | ((with_reducible first | refine Or.inl (And.intro (And.intro mixedP ?_) ?_) | refine Or.inl (And.intro mixedP ?_)); kernel_rfl) | simp only [go_sem,Nat.reduceEqDiff,Nat.reduceAdd,Nat.reduceMul,Nat.reduceLeDiff,Int.reduceBEq,upd_ne,hi0,hi1,hi2,hi3,hj0,hj1,hj2,hj3,Rd.adv_mk2,Term.av,noStr,List.map_nil,Int.reduceBNe,he1,c1])
       all_goals first | omega | (unfold maxLen; omega) | (right; omega) | (left; simp; done) | (simp only [wk3,wkL2,wk2,wkL,wk1_d,wk1_own,wk1_nil,and_self]; done) | (intro i hi; simp only [upd]; (repeat' split); all_goals first | rfl | omega) | exact hp | exact hA | exact hAA | exact hT0 | exact hR' | exact hA' | exact hA'.term | (exact RdOk.fail hR' _) | (refine ⟨hA,?_,?_⟩ <;> omega) | (refine ⟨hR',?_,?_⟩ <;> omega) | (refine ⟨hT0,?_,?_⟩ <;> omega) | (exact RdOk.fail hp _) | (refine ⟨hp,?_,?_⟩ <;> omega) | skip
   · have he1 : (R.e != 0) = true := by simp [he]
     have hF : R.atom = ((noStr, []), R.fail 6) := by simp [Rd.atom, he]
     rw [hF]
     repeat' (first | (with_reducible first | refine XG_split (fun hq => ?_) (fun hq => ?_) | refine MX1.of 4000 (by simp) ?_ | refine MX2.of 4000 (by simp) ?_ | refine And.intro ?_ ?_) | ((with_reducible first | refine Or.inl (And.intro (And.intro mixedP ?_) ?_) | refine Or.inl (And.intro mixedP ?_)); kernel_rfl) | simp only [go_sem,Nat.reduceEqDiff,Nat.reduceAdd,Nat.reduceMul,Nat.reduceLeDiff,Int.reduceBEq,upd_ne,hi0,hi1,hi2,hi3,hj0,hj1,hj2,hj3,Rd.adv_mk2,Term.av,noStr,List.map_nil,Int.reduceBNe,he1])
     all_goals first | omega | (unfold maxLen; omega) | (right; omega) | (left; simp; done) | (simp only [wk3,wkL2,wk2,wkL,wk1_d,wk1_own,wk1_nil,and_self]; done) | (intro i hi; simp only [upd]; (repeat' split); all_goals first | rfl | omega) | exact hp | exact hA | exact hAA | exact hT0 | exact hR' | exact hA' | exact hA'.term | (exact RdOk.fail hR' _) | (refine ⟨hA,?_,?_⟩ <;> omega) | (refine ⟨hR',?_,?_⟩ <;> omega) | (refine ⟨hT0,?_,?_⟩ <;> omega) | (exact RdOk.fail hp _) | (refine ⟨hp,?_,?_⟩ <;> omega) | skip
 · cases hg
end Go.Proofs.YtfhpecgknmfnnaaGreatDoor.M
end
section
namespace Go.Proofs.YtfhpecgknmfnnaaGreatDoor.M
open Go.R Go.Proofs.YtfhpecgknmfnnaaGreatDoorW.PrintWords Go.Proofs.YtfhpecgknmfnnaaGreatDoorW.PrintMore
set_option maxRecDepth 10000 in
set_option maxHeartbeats 4000000 in
theorem said_ok2 : FsOk Tryz.prog 58 saidRS := by
 refine of_obS (E := EqT.no _) (F := (((((Ft.no.put 53 textS).put 84 kindS).put 55 failS).put 56 needS).put 85 termRS).put 52 atomRS) Tryz.func58 rfl (by kernel_rfl) [.cell 4 28] rfl Tryz.ntmps58 (((((((FtOk.no _).put text_ok).put kind_ok).put fail_ok).put need_ok).put term_ok2).put atom_ok2) ?_
 intro R args r R' i h n hp hg hi hok
 unfold saidF at hg
 split at hg
 · rename_i kind
   cases hg
   have hi0 : i ≠ n := by omega
   have hi1 : i ≠ n + 1 := by omega
   have hi2 : i ≠ n + 1 + 1 := by omega
   have hi3 : i ≠ n + 1 + 1 + 1 := by omega
   have hj0 : n ≠ i := by omega
   have hj1 : n + 1 ≠ i := by omega
   have hj2 : n + 1 + 1 ≠ i := by omega
   have hj3 : n + 1 + 1 + 1 ≠ i := by omega
   obtain ⟨hL1, hL2⟩ := hp.len
   refine ⟨[.d (.v (.int .u8 kind))], ⟨AV.le.refl _, trivial⟩, ⟨by decide, by simp⟩, ?_⟩
   have hT := hp.term
   have hN := hT.need (x := saysS) (by decide)
   have hS : RdOk (R.term.2.need ⟨#[115, 97, 121, 115]⟩) := hN
   by_cases k2 : R.kd = 2
   · have hF : R.said kind = (⟨kind, R.term.1, (R.term.2.need saysS).atom.1.1, (R.term.2.need saysS).atom.1.2⟩, (R.term.2.need saysS).atom.2) := by simp [Rd.said, k2]
     rw [hF]
     repeat' (first | (with_reducible first | refine XG_split (fun hq => ?_) (fun hq => ?_) | refine MX1.of 4000 (by simp) ?_ | refine MX2.of 4000 (by simp) ?_ | refine And.intro ?_ ?_) | ((with_reducible first | refine Or.inl (And.intro (And.intro mixedP ?_) ?_) | refine Or.inl (And.intro mixedP ?_)); kernel_rfl) | simp only [go_sem,Nat.reduceEqDiff,Nat.reduceAdd,Nat.reduceMul,Nat.reduceLeDiff,Int.reduceBEq,upd_ne,hi0,hi1,hi2,hi3,hj0,hj1,hj2,hj3,Lit.av,Term.av,Term.z,Val.z,noStr,saysS,k2])
     all_goals first | omega | (unfold maxLen; omega) | (right; omega) | (left; simp; done) | (simp only [wk3,wkL2,wk2,wkL,wk1_d,wk1_own,wk1_nil,and_self]; done) | (intro i hi; simp only [upd]; (repeat' split); all_goals first | rfl | omega) | exact hp | (refine ⟨hp,?_,?_⟩ <;> omega) | exact hT | (refine ⟨hT,?_,?_⟩ <;> omega) | exact hS | (refine ⟨hS,?_,?_⟩ <;> omega) | exact hN | (refine ⟨hN,?_,?_⟩ <;> omega) | skip
   by_cases k1 : R.kd = 1
   · cases hs : R.is 1 saysS with
     | true =>
       have hF : R.said kind = (⟨kind, R.term.1, (R.term.2.need saysS).atom.1.1, (R.term.2.need saysS).atom.1.2⟩, (R.term.2.need saysS).atom.2) := by simp [Rd.said, k1, hs]
       rw [hF]
       unfold Rd.is at hs
       simp only [saysS] at hs
       repeat' (first | (with_reducible first | refine XG_split (fun hq => ?_) (fun hq => ?_) | refine MX1.of 4000 (by simp) ?_ | refine MX2.of 4000 (by simp) ?_ | refine And.intro ?_ ?_) | ((with_reducible first | refine Or.inl (And.intro (And.intro mixedP ?_) ?_) | refine Or.inl (And.intro mixedP ?_)); kernel_rfl) | simp only [go_sem,Nat.reduceEqDiff,Nat.reduceAdd,Nat.reduceMul,Nat.reduceLeDiff,Int.reduceBEq,upd_ne,hi0,hi1,hi2,hi3,hj0,hj1,hj2,hj3,Lit.av,Term.av,Term.z,Val.z,noStr,saysS,k1,hs])
       all_goals first | omega | (unfold maxLen; omega) | (right; omega) | (left; simp; done) | (simp only [wk3,wkL2,wk2,wkL,wk1_d,wk1_own,wk1_nil,and_self]; done) | (intro i hi; simp only [upd]; (repeat' split); all_goals first | rfl | omega) | exact hp | (refine ⟨hp,?_,?_⟩ <;> omega) | exact hT | (refine ⟨hT,?_,?_⟩ <;> omega) | exact hS | (refine ⟨hS,?_,?_⟩ <;> omega) | exact hN | (refine ⟨hN,?_,?_⟩ <;> omega) | skip
     | false =>
       have hF : R.said kind = (⟨kind, Term.z, R.atom.1.1, R.atom.1.2⟩, R.atom.2) := by simp [Rd.said, k1, hs]
       rw [hF]
       unfold Rd.is at hs
       simp only [saysS] at hs
       repeat' (first | (with_reducible first | refine XG_split (fun hq => ?_) (fun hq => ?_) | refine MX1.of 4000 (by simp) ?_ | refine MX2.of 4000 (by simp) ?_ | refine And.intro ?_ ?_) | ((with_reducible first | refine Or.inl (And.intro (And.intro mixedP ?_) ?_) | refine Or.inl (And.intro mixedP ?_)); kernel_rfl) | simp only [go_sem,Nat.reduceEqDiff,Nat.reduceAdd,Nat.reduceMul,Nat.reduceLeDiff,Int.reduceBEq,upd_ne,hi0,hi1,hi2,hi3,hj0,hj1,hj2,hj3,Lit.av,Term.av,Term.z,Val.z,noStr,saysS,k1,hs])
       all_goals first | omega | (unfold maxLen; omega) | (right; omega) | (left; simp; done) | (simp only [wk3,wkL2,wk2,wkL,wk1_d,wk1_own,wk1_nil,and_self]; done) | (intro i hi; simp only [upd]; (repeat' split); all_goals first | rfl | omega) | exact hp | (refine ⟨hp,?_,?_⟩ <;> omega) | exact hT | (refine ⟨hT,?_,?_⟩ <;> omega) | exact hS | (refine ⟨hS,?_,?_⟩ <;> omega) | exact hN | (refine ⟨hN,?_,?_⟩ <;> omega) | skip
   · have c1 : (R.kd == 1) = false := by simp [k1]
     have c2 : (R.kd == 2) = false := by simp [k2]
     have hF : R.said kind = (⟨kind, Term.z, R.atom.1.1, R.atom.1.2⟩, R.atom.2) := by simp [Rd.said, k1, k2]
     rw [hF]
     repeat' (first | (with_reducible first | refine XG_split (fun hq => ?_) (fun hq => ?_) | refine MX1.of 4000 (by simp) ?_ | refine MX2.of 4000 (by simp) ?_ | refine And.intro ?_ ?_) | ((with_reducible first | refine Or.inl (And.intro (And.intro mixedP ?_) ?_) | refine Or.inl (And.intro mixedP ?_)); kernel_rfl) | simp only [go_sem,Nat.reduceEqDiff,Nat.reduceAdd,Nat.reduceMul,Nat.reduceLeDiff,Int.reduceBEq,upd_ne,hi0,hi1,hi2,hi3,hj0,hj1,hj2,hj3,Lit.av,Term.av,Term.z,Val.z,noStr,saysS,c1,c2])
     all_goals first | omega | (unfold maxLen; omega) | (right; omega) | (left; simp; done) | (simp only [wk3,wkL2,wk2,wkL,wk1_d,wk1_own,wk1_nil,and_self]; done) | (intro i hi; simp only [upd]; (repeat' split); all_goals first | rfl | omega) | exact hp | (refine ⟨hp,?_,?_⟩ <;> omega) | exact hT | (refine ⟨hT,?_,?_⟩ <;> omega) | exact hS | (refine ⟨hS,?_,?_⟩ <;> omega) | exact hN | (refine ⟨hN,?_,?_⟩ <;> omega) | skip
 · cases hg
set_option maxRecDepth 10000 in
set_option maxHeartbeats 4000000 in
theorem literal_ok2 : FsOk Tryz.prog 54 literalRS := by
 refine of_obS (E := EqT.no _) (F := (((((Ft.no.put 53 textS).put 84 kindS).put 55 failS).put 56 needS).put 85 termRS).put 58 saidRS) Tryz.func54 rfl (by kernel_rfl) [.cell 2 28] rfl Tryz.ntmps54 (((((((FtOk.no _).put text_ok).put kind_ok).put fail_ok).put need_ok).put term_ok2).put said_ok2) ?_
 intro R args r R' i h n hp hg hi hok
 unfold literalF at hg
 split at hg
 · cases hg
   have hi0 : i ≠ n := by omega
   have hi1 : i ≠ n + 1 := by omega
   have hi2 : i ≠ n + 1 + 1 := by omega
   have hi3 : i ≠ n + 1 + 1 + 1 := by omega
   have hj0 : n ≠ i := by omega
   have hj1 : n + 1 ≠ i := by omega
   have hj2 : n + 1 + 1 ≠ i := by omega
   have hj3 : n + 1 + 1 + 1 ≠ i := by omega
   obtain ⟨hL1, hL2⟩ := hp.len
   refine ⟨[], trivial, ⟨by decide, by simp⟩, ?_⟩
   cases hn : R.is 0 ⟨#[110, 111, 116]⟩ with
   | true =>
     have hA := hp.adv_txt hn (by decide)
     have hk := txt_lt hn (by decide)
     have hF : R.literal = R.adv.said 2 := by unfold Rd.literal; rw [if_pos hn]
     rw [hF]
     unfold Rd.is at hn
     repeat' (first | (with_reducible first | refine XG_split (fun hq => ?_) (fun hq => ?_) | refine MX1.of 4000 (by simp) ?_ | refine MX2.of 4000 (by simp) ?_ | refine And.intro ?_ ?_) | ((with_reducible first | refine Or.inl (And.intro (And.intro mixedP ?_) ?_) | refine Or.inl (And.intro mixedP ?_)); kernel_rfl) | simp only [go_sem,Nat.reduceEqDiff,Nat.reduceAdd,Nat.reduceMul,Nat.reduceLeDiff,Int.reduceBEq,upd_ne,hi0,hi1,hi2,hi3,hj0,hj1,hj2,hj3,Lit.av,Term.av,Term.z,Val.z,noStr,hn])
     all_goals first | omega | (unfold maxLen; omega) | (right; omega) | (left; simp; done) | (simp only [wk3,wkL2,wk2,wkL,wk1_d,wk1_own,wk1_nil,and_self]; done) | (intro i hi; simp only [upd]; (repeat' split); all_goals first | rfl | omega) | exact hp | (refine ⟨hp,?_,?_⟩ <;> omega) | exact hA | (refine ⟨hA,?_,?_⟩ <;> omega) | skip
   | false =>
     cases hc : R.compare with
     | false =>
       have hF : R.literal = R.said 1 := by unfold Rd.literal; rw [hn, hc]; rfl
       rw [hF]
       unfold Rd.is at hn
       have hcc : (R.kd == 3) = false ∧ ((R.kd == 2) = true ∧ (R.kd == 1) = false ∧ ((R.txt 1).toList == (⟨#[115, 97, 121, 115]⟩ : ByteArray).toList) = true ∨ (R.kd == 2) = false ∧ (R.kd == 1) = true ∧ ((R.txt 1).toList == (⟨#[60]⟩ : ByteArray).toList) = false ∧ ((R.txt 1).toList == (⟨#[33, 61]⟩ : ByteArray).toList) = false ∨ (R.kd == 2) = false ∧ (R.kd == 1) = false) := by
        unfold Rd.compare Rd.is saysS at hc
        simp only [Bool.or_eq_false_iff] at hc
        obtain ⟨⟨h3, h2⟩, h1⟩ := hc
        refine ⟨h3, ?_⟩
        by_cases k2 : R.kd = 2
        · left
          simp only [k2, beq_self_eq_true, Bool.true_and, Bool.not_eq_false'] at h2
          exact ⟨by simp [k2], by simp [k2], h2⟩
        · by_cases k1 : R.kd = 1
          · right; left
            simp only [k1, beq_self_eq_true, Bool.true_and, Bool.or_eq_false_iff] at h1
            exact ⟨by simp [k2], by simp [k1], h1.1, h1.2⟩
          · right; right
            exact ⟨by simp [k2], by simp [k1]⟩
       obtain ⟨c3, ⟨c2, c1, hs⟩ | ⟨c2, c1, hs, hs'⟩ | ⟨c2, c1⟩⟩ := hcc
       · repeat' (first | (with_reducible first | refine XG_split (fun hq => ?_) (fun hq => ?_) | refine MX1.of 4000 (by simp) ?_ | refine MX2.of 4000 (by simp) ?_ | refine And.intro ?_ ?_) | ((with_reducible first | refine Or.inl (And.intro (And.intro mixedP ?_) ?_) | refine Or.inl (And.intro mixedP ?_)); kernel_rfl) | simp only [go_sem,Nat.reduceEqDiff,Nat.reduceAdd,Nat.reduceMul,Nat.reduceLeDiff,Int.reduceBEq,upd_ne,hi0,hi1,hi2,hi3,hj0,hj1,hj2,hj3,Lit.av,Term.av,Term.z,Val.z,noStr,hn,c1,c2,c3,hs])
         all_goals first | omega | (unfold maxLen; omega) | (right; omega) | (left; simp; done) | (simp only [wk3,wkL2,wk2,wkL,wk1_d,wk1_own,wk1_nil,and_self]; done) | (intro i hi; simp only [upd]; (repeat' split); all_goals first | rfl | omega) | exact hp | (refine ⟨hp,?_,?_⟩ <;> omega) | skip
       · repeat' (first | (with_reducible first | refine XG_split (fun hq => ?_) (fun hq => ?_) | refine MX1.of 4000 (by simp) ?_ | refine MX2.of 4000 (by simp) ?_ | refine And.intro ?_ ?_) | ((with_reducible first | refine Or.inl (And.intro (And.intro mixedP ?_) ?_) | refine Or.inl (And.intro mixedP ?_)); kernel_rfl) | simp only [go_sem,Nat.reduceEqDiff,Nat.reduceAdd,Nat.reduceMul,Nat.reduceLeDiff,Int.reduceBEq,upd_ne,hi0,hi1,hi2,hi3,hj0,hj1,hj2,hj3,Lit.av,Term.av,Term.z,Val.z,noStr,hn,c1,c2,c3,hs,hs'])
         all_goals first | omega | (unfold maxLen; omega) | (right; omega) | (left; simp; done) | (simp only [wk3,wkL2,wk2,wkL,wk1_d,wk1_own,wk1_nil,and_self]; done) | (intro i hi; simp only [upd]; (repeat' split); all_goals first | rfl | omega) | exact hp | (refine ⟨hp,?_,?_⟩ <;> omega) | skip
       · repeat' (first | (with_reducible first | refine XG_split (fun hq => ?_) (fun hq => ?_) | refine MX1.of 4000 (by simp) ?_ | refine MX2.of 4000 (by simp) ?_ | refine And.intro ?_ ?_) | ((with_reducible first | refine Or.inl (And.intro (And.intro mixedP ?_) ?_) | refine Or.inl (And.intro mixedP ?_)); kernel_rfl) | simp only [go_sem,Nat.reduceEqDiff,Nat.reduceAdd,Nat.reduceMul,Nat.reduceLeDiff,Int.reduceBEq,upd_ne,hi0,hi1,hi2,hi3,hj0,hj1,hj2,hj3,Lit.av,Term.av,Term.z,Val.z,noStr,hn,c1,c2,c3])
         all_goals first | omega | (unfold maxLen; omega) | (right; omega) | (left; simp; done) | (simp only [wk3,wkL2,wk2,wkL,wk1_d,wk1_own,wk1_nil,and_self]; done) | (intro i hi; simp only [upd]; (repeat' split); all_goals first | rfl | omega) | exact hp | (refine ⟨hp,?_,?_⟩ <;> omega) | skip
     | true =>
       have hF : R.literal = (⟨R.term.2.mid.1, Term.z, noStr, [R.term.1, R.term.2.mid.2.term.1]⟩, R.term.2.mid.2.term.2) := by unfold Rd.literal; rw [hn, hc]; rfl
       rw [hF]
       unfold Rd.is at hn
       have hT := hp.term
       obtain ⟨R1, hR1⟩ : ∃ R1, R1 = R.term.2 := ⟨_, rfl⟩
       rw [← hR1] at hT ⊢
       obtain ⟨hT1, hT2⟩ := hT.len
       have hcc : ((R.kd == 3) = true) ∨ ((R.kd == 3) = false ∧ (R.kd == 2) = true ∧ (R.kd == 1) = false ∧ ((R.txt 1).toList == (⟨#[115, 97, 121, 115]⟩ : ByteArray).toList) = false) ∨ ((R.kd == 3) = false ∧ (R.kd == 2) = false ∧ (R.kd == 1) = true ∧ ((R.txt 1).toList == (⟨#[60]⟩ : ByteArray).toList) = true) ∨ ((R.kd == 3) = false ∧ (R.kd == 2) = false ∧ (R.kd == 1) = true ∧ ((R.txt 1).toList == (⟨#[60]⟩ : ByteArray).toList) = false ∧ ((R.txt 1).toList == (⟨#[33, 61]⟩ : ByteArray).toList) = true) := by
        unfold Rd.compare Rd.is saysS at hc
        by_cases k3 : R.kd = 3
        · left; simp [k3]
        · have c3 : (R.kd == 3) = false := by simp [k3]
          by_cases k2 : R.kd = 2
          · right; left
            simp only [k2, Bool.or_eq_true, beq_self_eq_true, Bool.true_and, Bool.not_eq_true'] at hc
            refine ⟨c3, by simp [k2], by simp [k2], ?_⟩
            simpa using hc
          · have c2 : (R.kd == 2) = false := by simp [k2]
            simp only [c3, c2, Bool.false_or, Bool.false_and, Bool.and_eq_true, Bool.or_eq_true] at hc
            right; right
            cases hq : (R.txt 1).toList == (⟨#[60]⟩ : ByteArray).toList with
            | true => left; exact ⟨c3, c2, hc.1, rfl⟩
            | false =>
              right
              rw [hq] at hc
              exact ⟨c3, c2, hc.1, rfl, by simpa using hc.2⟩
       cases hm : R1.is 0 ⟨#[33, 61]⟩ with
       | true =>
         have hM : R1.mid = (4, R1.adv) := by unfold Rd.mid; rw [if_pos hm]
         have hA := hT.adv_txt hm (by decide)
         have hk := txt_lt hm (by decide)
         unfold Rd.is at hm
         rcases hcc with c3 | ⟨c3, c2, c1, hs⟩ | ⟨c3, c2, c1, hs⟩ | ⟨c3, c2, c1, hs, hs'⟩
         · repeat' (first | (with_reducible first | refine XG_split (fun hq => ?_) (fun hq => ?_) | refine MX1.of 4000 (by simp) ?_ | refine MX2.of 4000 (by simp) ?_ | refine And.intro ?_ ?_) | ((with_reducible first | refine Or.inl (And.intro (And.intro mixedP ?_) ?_) | refine Or.inl (And.intro mixedP ?_)); kernel_rfl) | simp only [go_sem,Nat.reduceEqDiff,Nat.reduceAdd,Nat.reduceMul,Nat.reduceLeDiff,Int.reduceBEq,upd_ne,hi0,hi1,hi2,hi3,hj0,hj1,hj2,hj3,Lit.av,Term.av,Term.z,Val.z,noStr,hn,Term.cells,c3,hm,hM,← hR1])
           all_goals first | omega | (unfold maxLen; omega) | (right; omega) | (left; simp; done) | (simp only [wk3,wkL2,wk2,wkL,wk1_d,wk1_own,wk1_nil,and_self]; done) | (intro i hi; simp only [upd]; (repeat' split); all_goals first | rfl | omega) | exact hp | (refine ⟨hp,?_,?_⟩ <;> omega) | exact hT | (refine ⟨hT,?_,?_⟩ <;> omega) | exact hA | (refine ⟨hA,?_,?_⟩ <;> omega) | skip
         · repeat' (first | (with_reducible first | refine XG_split (fun hq => ?_) (fun hq => ?_) | refine MX1.of 4000 (by simp) ?_ | refine MX2.of 4000 (by simp) ?_ | refine And.intro ?_ ?_) | ((with_reducible first | refine Or.inl (And.intro (And.intro mixedP ?_) ?_) | refine Or.inl (And.intro mixedP ?_)); kernel_rfl) | simp only [go_sem,Nat.reduceEqDiff,Nat.reduceAdd,Nat.reduceMul,Nat.reduceLeDiff,Int.reduceBEq,upd_ne,hi0,hi1,hi2,hi3,hj0,hj1,hj2,hj3,Lit.av,Term.av,Term.z,Val.z,noStr,hn,Term.cells,c3,c2,c1,hs,hm,hM,← hR1])
           all_goals first | omega | (unfold maxLen; omega) | (right; omega) | (left; simp; done) | (simp only [wk3,wkL2,wk2,wkL,wk1_d,wk1_own,wk1_nil,and_self]; done) | (intro i hi; simp only [upd]; (repeat' split); all_goals first | rfl | omega) | exact hp | (refine ⟨hp,?_,?_⟩ <;> omega) | exact hT | (refine ⟨hT,?_,?_⟩ <;> omega) | exact hA | (refine ⟨hA,?_,?_⟩ <;> omega) | skip
         · repeat' (first | (with_reducible first | refine XG_split (fun hq => ?_) (fun hq => ?_) | refine MX1.of 4000 (by simp) ?_ | refine MX2.of 4000 (by simp) ?_ | refine And.intro ?_ ?_) | ((with_reducible first | refine Or.inl (And.intro (And.intro mixedP ?_) ?_) | refine Or.inl (And.intro mixedP ?_)); kernel_rfl) | simp only [go_sem,Nat.reduceEqDiff,Nat.reduceAdd,Nat.reduceMul,Nat.reduceLeDiff,Int.reduceBEq,upd_ne,hi0,hi1,hi2,hi3,hj0,hj1,hj2,hj3,Lit.av,Term.av,Term.z,Val.z,noStr,hn,Term.cells,c3,c2,c1,hs,hm,hM,← hR1])
           all_goals first | omega | (unfold maxLen; omega) | (right; omega) | (left; simp; done) | (simp only [wk3,wkL2,wk2,wkL,wk1_d,wk1_own,wk1_nil,and_self]; done) | (intro i hi; simp only [upd]; (repeat' split); all_goals first | rfl | omega) | exact hp | (refine ⟨hp,?_,?_⟩ <;> omega) | exact hT | (refine ⟨hT,?_,?_⟩ <;> omega) | exact hA | (refine ⟨hA,?_,?_⟩ <;> omega) | skip
         · repeat' (first | (with_reducible first | refine XG_split (fun hq => ?_) (fun hq => ?_) | refine MX1.of 4000 (by simp) ?_ | refine MX2.of 4000 (by simp) ?_ | refine And.intro ?_ ?_) | ((with_reducible first | refine Or.inl (And.intro (And.intro mixedP ?_) ?_) | refine Or.inl (And.intro mixedP ?_)); kernel_rfl) | simp only [go_sem,Nat.reduceEqDiff,Nat.reduceAdd,Nat.reduceMul,Nat.reduceLeDiff,Int.reduceBEq,upd_ne,hi0,hi1,hi2,hi3,hj0,hj1,hj2,hj3,Lit.av,Term.av,Term.z,Val.z,noStr,hn,Term.cells,c3,c2,c1,hs,hs',hm,hM,← hR1])
           all_goals first | omega | (unfold maxLen; omega) | (right; omega) | (left; simp; done) | (simp only [wk3,wkL2,wk2,wkL,wk1_d,wk1_own,wk1_nil,and_self]; done) | (intro i hi; simp only [upd]; (repeat' split); all_goals first | rfl | omega) | exact hp | (refine ⟨hp,?_,?_⟩ <;> omega) | exact hT | (refine ⟨hT,?_,?_⟩ <;> omega) | exact hA | (refine ⟨hA,?_,?_⟩ <;> omega) | skip
       | false =>
         have hM : R1.mid = (3, R1.need ⟨#[60]⟩) := by unfold Rd.mid; rw [if_neg (by rw [hm]; simp)]
         have hA := hT.need (x := ⟨#[60]⟩) (by decide)
         unfold Rd.is at hm
         rcases hcc with c3 | ⟨c3, c2, c1, hs⟩ | ⟨c3, c2, c1, hs⟩ | ⟨c3, c2, c1, hs, hs'⟩
         · repeat' (first | (with_reducible first | refine XG_split (fun hq => ?_) (fun hq => ?_) | refine MX1.of 4000 (by simp) ?_ | refine MX2.of 4000 (by simp) ?_ | refine And.intro ?_ ?_) | ((with_reducible first | refine Or.inl (And.intro (And.intro mixedP ?_) ?_) | refine Or.inl (And.intro mixedP ?_)); kernel_rfl) | simp only [go_sem,Nat.reduceEqDiff,Nat.reduceAdd,Nat.reduceMul,Nat.reduceLeDiff,Int.reduceBEq,upd_ne,hi0,hi1,hi2,hi3,hj0,hj1,hj2,hj3,Lit.av,Term.av,Term.z,Val.z,noStr,hn,Term.cells,c3,hm,hM,← hR1])
           all_goals first | omega | (unfold maxLen; omega) | (right; omega) | (left; simp; done) | (simp only [wk3,wkL2,wk2,wkL,wk1_d,wk1_own,wk1_nil,and_self]; done) | (intro i hi; simp only [upd]; (repeat' split); all_goals first | rfl | omega) | exact hp | (refine ⟨hp,?_,?_⟩ <;> omega) | exact hT | (refine ⟨hT,?_,?_⟩ <;> omega) | exact hA | (refine ⟨hA,?_,?_⟩ <;> omega) | skip
         · repeat' (first | (with_reducible first | refine XG_split (fun hq => ?_) (fun hq => ?_) | refine MX1.of 4000 (by simp) ?_ | refine MX2.of 4000 (by simp) ?_ | refine And.intro ?_ ?_) | ((with_reducible first | refine Or.inl (And.intro (And.intro mixedP ?_) ?_) | refine Or.inl (And.intro mixedP ?_)); kernel_rfl) | simp only [go_sem,Nat.reduceEqDiff,Nat.reduceAdd,Nat.reduceMul,Nat.reduceLeDiff,Int.reduceBEq,upd_ne,hi0,hi1,hi2,hi3,hj0,hj1,hj2,hj3,Lit.av,Term.av,Term.z,Val.z,noStr,hn,Term.cells,c3,c2,c1,hs,hm,hM,← hR1])
           all_goals first | omega | (unfold maxLen; omega) | (right; omega) | (left; simp; done) | (simp only [wk3,wkL2,wk2,wkL,wk1_d,wk1_own,wk1_nil,and_self]; done) | (intro i hi; simp only [upd]; (repeat' split); all_goals first | rfl | omega) | exact hp | (refine ⟨hp,?_,?_⟩ <;> omega) | exact hT | (refine ⟨hT,?_,?_⟩ <;> omega) | exact hA | (refine ⟨hA,?_,?_⟩ <;> omega) | skip
         · repeat' (first | (with_reducible first | refine XG_split (fun hq => ?_) (fun hq => ?_) | refine MX1.of 4000 (by simp) ?_ | refine MX2.of 4000 (by simp) ?_ | refine And.intro ?_ ?_) | ((with_reducible first | refine Or.inl (And.intro (And.intro mixedP ?_) ?_) | refine Or.inl (And.intro mixedP ?_)); kernel_rfl) | simp only [go_sem,Nat.reduceEqDiff,Nat.reduceAdd,Nat.reduceMul,Nat.reduceLeDiff,Int.reduceBEq,upd_ne,hi0,hi1,hi2,hi3,hj0,hj1,hj2,hj3,Lit.av,Term.av,Term.z,Val.z,noStr,hn,Term.cells,c3,c2,c1,hs,hm,hM,← hR1])
           all_goals first | omega | (unfold maxLen; omega) | (right; omega) | (left; simp; done) | (simp only [wk3,wkL2,wk2,wkL,wk1_d,wk1_own,wk1_nil,and_self]; done) | (intro i hi; simp only [upd]; (repeat' split); all_goals first | rfl | omega) | exact hp | (refine ⟨hp,?_,?_⟩ <;> omega) | exact hT | (refine ⟨hT,?_,?_⟩ <;> omega) | exact hA | (refine ⟨hA,?_,?_⟩ <;> omega) | skip
         · repeat' (first | (with_reducible first | refine XG_split (fun hq => ?_) (fun hq => ?_) | refine MX1.of 4000 (by simp) ?_ | refine MX2.of 4000 (by simp) ?_ | refine And.intro ?_ ?_) | ((with_reducible first | refine Or.inl (And.intro (And.intro mixedP ?_) ?_) | refine Or.inl (And.intro mixedP ?_)); kernel_rfl) | simp only [go_sem,Nat.reduceEqDiff,Nat.reduceAdd,Nat.reduceMul,Nat.reduceLeDiff,Int.reduceBEq,upd_ne,hi0,hi1,hi2,hi3,hj0,hj1,hj2,hj3,Lit.av,Term.av,Term.z,Val.z,noStr,hn,Term.cells,c3,c2,c1,hs,hs',hm,hM,← hR1])
           all_goals first | omega | (unfold maxLen; omega) | (right; omega) | (left; simp; done) | (simp only [wk3,wkL2,wk2,wkL,wk1_d,wk1_own,wk1_nil,and_self]; done) | (intro i hi; simp only [upd]; (repeat' split); all_goals first | rfl | omega) | exact hp | (refine ⟨hp,?_,?_⟩ <;> omega) | exact hT | (refine ⟨hT,?_,?_⟩ <;> omega) | exact hA | (refine ⟨hA,?_,?_⟩ <;> omega) | skip
 · cases hg
end Go.Proofs.YtfhpecgknmfnnaaGreatDoor.M
end
