import Derived.Test.YtfhpecgknmfnnaaDoorC7
import Derived.Test.YtfhpecgknmfnnaaDoorProg
import Derived.KernelRfl
import Derived.Test.YtfhpecgknmfnnaaDoorC2
import Derived.Laws.StructEq
import Derived.Laws.BitsLemmas
import Derived.Test.YtfhpecgknmfnnaaDoorC3
set_option linter.unusedVariables false
set_option linter.unusedSimpArgs false
attribute [go_sem] Bool.not_true Bool.not_false
section
namespace Go.Proofs.YtfhpecgknmfnnaaDoor.M
open Go.R
@[go_sem] theorem ty_bs89_9 : bsP Tryd.prog 89 9 = true := by kernel_rfl
@[go_sem] theorem ty_sz2 : sizeP Tryd.prog 2 = 1 := by kernel_rfl
@[go_sem] theorem ty_in2 : infoP Tryd.prog 2 = true := by kernel_rfl
@[go_sem] theorem ty_ag2 : aggP Tryd.prog 2 = false := by kernel_rfl
@[go_sem] theorem ty_ik2 : intKP Tryd.prog 2 = some .i64 := by kernel_rfl
@[go_sem] theorem ty_us2 : (Tryd.prog.underlying 2).isSome = true := by kernel_rfl
@[go_sem] theorem ty_ze2 : zeroA Tryd.prog 2 = some [.d (.v (.int .i64 0))] := by kernel_rfl
@[go_sem] theorem ty_by2 : bytesP Tryd.prog 2 = 8 := by kernel_rfl
@[go_sem] theorem ty_sz3 : sizeP Tryd.prog 3 = 1 := by kernel_rfl
@[go_sem] theorem ty_in3 : infoP Tryd.prog 3 = true := by kernel_rfl
@[go_sem] theorem ty_ag3 : aggP Tryd.prog 3 = false := by kernel_rfl
@[go_sem] theorem ty_ik3 : intKP Tryd.prog 3 = some .i64 := by kernel_rfl
@[go_sem] theorem ty_us3 : (Tryd.prog.underlying 3).isSome = true := by kernel_rfl
@[go_sem] theorem ty_ze3 : zeroA Tryd.prog 3 = some [.d (.v (.int .i64 0))] := by kernel_rfl
@[go_sem] theorem ty_by3 : bytesP Tryd.prog 3 = 8 := by kernel_rfl
@[go_sem] theorem ty_sz4 : sizeP Tryd.prog 4 = 1 := by kernel_rfl
@[go_sem] theorem ty_in4 : infoP Tryd.prog 4 = true := by kernel_rfl
@[go_sem] theorem ty_ag4 : aggP Tryd.prog 4 = false := by kernel_rfl
@[go_sem] theorem ty_ze4 : zeroA Tryd.prog 4 = some [.d (.v (.bool false))] := by kernel_rfl
@[go_sem] theorem ty_by4 : bytesP Tryd.prog 4 = 1 := by kernel_rfl
attribute [go_sem] Tryd.underlying4
@[go_sem] theorem ty_sz5 : sizeP Tryd.prog 5 = 1 := by kernel_rfl
@[go_sem] theorem ty_in5 : infoP Tryd.prog 5 = true := by kernel_rfl
@[go_sem] theorem ty_ag5 : aggP Tryd.prog 5 = false := by kernel_rfl
@[go_sem] theorem ty_ik5 : intKP Tryd.prog 5 = some .u8 := by kernel_rfl
@[go_sem] theorem ty_us5 : (Tryd.prog.underlying 5).isSome = true := by kernel_rfl
@[go_sem] theorem ty_ze5 : zeroA Tryd.prog 5 = some [.d (.v (.int .u8 0))] := by kernel_rfl
@[go_sem] theorem ty_by5 : bytesP Tryd.prog 5 = 1 := by kernel_rfl
@[go_sem] theorem ty_sz9 : sizeP Tryd.prog 9 = 1 := by kernel_rfl
@[go_sem] theorem ty_in9 : infoP Tryd.prog 9 = true := by kernel_rfl
@[go_sem] theorem ty_ag9 : aggP Tryd.prog 9 = false := by kernel_rfl
@[go_sem] theorem ty_sl9 : sliceP Tryd.prog 9 = none := by kernel_rfl
@[go_sem] theorem ty_st9 : strP Tryd.prog 9 = true := by kernel_rfl
@[go_sem] theorem ty_ze9 : zeroA Tryd.prog 9 = some [.d (.v (.string (⟨#[]⟩ : ByteArray)))] := by kernel_rfl
@[go_sem] theorem ty_by9 : bytesP Tryd.prog 9 = 16 := by kernel_rfl
@[go_sem] theorem ty_sz23 : sizeP Tryd.prog 23 = 2 := by kernel_rfl
@[go_sem] theorem ty_in23 : infoP Tryd.prog 23 = true := by kernel_rfl
@[go_sem] theorem ty_ag23 : aggP Tryd.prog 23 = true := by kernel_rfl
@[go_sem] theorem ty_fl23_0 : fieldP Tryd.prog 23 0 = some (0, 9) := by kernel_rfl
@[go_sem] theorem ty_fl23_1 : fieldP Tryd.prog 23 1 = some (1, 2) := by kernel_rfl
@[go_sem] theorem ty_fo23 : fieldsOk Tryd.prog 23 = true := by kernel_rfl
@[go_sem] theorem ty_ze23 : zeroA Tryd.prog 23 = some [.d (.v (.string (⟨#[]⟩ : ByteArray))), .d (.v (.int .i64 0))] := by kernel_rfl
@[go_sem] theorem ty_by23 : bytesP Tryd.prog 23 = 24 := by kernel_rfl
@[go_sem] theorem ty_sz25 : sizeP Tryd.prog 25 = 3 := by kernel_rfl
@[go_sem] theorem ty_in25 : infoP Tryd.prog 25 = true := by kernel_rfl
@[go_sem] theorem ty_ag25 : aggP Tryd.prog 25 = true := by kernel_rfl
@[go_sem] theorem ty_fl25_0 : fieldP Tryd.prog 25 0 = some (0, 9) := by kernel_rfl
@[go_sem] theorem ty_fl25_1 : fieldP Tryd.prog 25 1 = some (1, 23) := by kernel_rfl
@[go_sem] theorem ty_fo25 : fieldsOk Tryd.prog 25 = true := by kernel_rfl
@[go_sem] theorem ty_ze25 : zeroA Tryd.prog 25 = some [.d (.v (.string (⟨#[]⟩ : ByteArray))), .d (.v (.string (⟨#[]⟩ : ByteArray))), .d (.v (.int .i64 0))] := by kernel_rfl
@[go_sem] theorem ty_by25 : bytesP Tryd.prog 25 = 40 := by kernel_rfl
@[go_sem] theorem ty_sz26 : sizeP Tryd.prog 26 = 1 := by kernel_rfl
@[go_sem] theorem ty_in26 : infoP Tryd.prog 26 = true := by kernel_rfl
@[go_sem] theorem ty_ag26 : aggP Tryd.prog 26 = false := by kernel_rfl
@[go_sem] theorem ty_sl26 : sliceP Tryd.prog 26 = some 25 := by kernel_rfl
@[go_sem] theorem ty_ze26 : zeroA Tryd.prog 26 = some [.d (.v (.slice none 0 0))] := by kernel_rfl
@[go_sem] theorem ty_by26 : bytesP Tryd.prog 26 = 24 := by kernel_rfl
@[go_sem] theorem ty_sz28 : sizeP Tryd.prog 28 = 6 := by kernel_rfl
@[go_sem] theorem ty_in28 : infoP Tryd.prog 28 = true := by kernel_rfl
@[go_sem] theorem ty_ag28 : aggP Tryd.prog 28 = true := by kernel_rfl
@[go_sem] theorem ty_fl28_0 : fieldP Tryd.prog 28 0 = some (0, 5) := by kernel_rfl
@[go_sem] theorem ty_fl28_1 : fieldP Tryd.prog 28 1 = some (1, 25) := by kernel_rfl
@[go_sem] theorem ty_fl28_2 : fieldP Tryd.prog 28 2 = some (4, 9) := by kernel_rfl
@[go_sem] theorem ty_fl28_3 : fieldP Tryd.prog 28 3 = some (5, 26) := by kernel_rfl
@[go_sem] theorem ty_fo28 : fieldsOk Tryd.prog 28 = true := by kernel_rfl
@[go_sem] theorem ty_ze28 : zeroA Tryd.prog 28 = some [.d (.v (.int .u8 0)), .d (.v (.string (⟨#[]⟩ : ByteArray))), .d (.v (.string (⟨#[]⟩ : ByteArray))), .d (.v (.int .i64 0)), .d (.v (.string (⟨#[]⟩ : ByteArray))), .d (.v (.slice none 0 0))] := by kernel_rfl
@[go_sem] theorem ty_by28 : bytesP Tryd.prog 28 = 88 := by kernel_rfl
@[go_sem] theorem ty_sz29 : sizeP Tryd.prog 29 = 1 := by kernel_rfl
@[go_sem] theorem ty_in29 : infoP Tryd.prog 29 = true := by kernel_rfl
@[go_sem] theorem ty_ag29 : aggP Tryd.prog 29 = false := by kernel_rfl
@[go_sem] theorem ty_sl29 : sliceP Tryd.prog 29 = some 28 := by kernel_rfl
@[go_sem] theorem ty_ze29 : zeroA Tryd.prog 29 = some [.d (.v (.slice none 0 0))] := by kernel_rfl
@[go_sem] theorem ty_by29 : bytesP Tryd.prog 29 = 24 := by kernel_rfl
@[go_sem] theorem ty_sz31 : sizeP Tryd.prog 31 = 7 := by kernel_rfl
@[go_sem] theorem ty_in31 : infoP Tryd.prog 31 = true := by kernel_rfl
@[go_sem] theorem ty_ag31 : aggP Tryd.prog 31 = true := by kernel_rfl
@[go_sem] theorem ty_fl31_0 : fieldP Tryd.prog 31 0 = some (0, 28) := by kernel_rfl
@[go_sem] theorem ty_fl31_1 : fieldP Tryd.prog 31 1 = some (6, 29) := by kernel_rfl
@[go_sem] theorem ty_fo31 : fieldsOk Tryd.prog 31 = true := by kernel_rfl
@[go_sem] theorem ty_ze31 : zeroA Tryd.prog 31 = some [.d (.v (.int .u8 0)), .d (.v (.string (⟨#[]⟩ : ByteArray))), .d (.v (.string (⟨#[]⟩ : ByteArray))), .d (.v (.int .i64 0)), .d (.v (.string (⟨#[]⟩ : ByteArray))), .d (.v (.slice none 0 0)), .d (.v (.slice none 0 0))] := by kernel_rfl
@[go_sem] theorem ty_by31 : bytesP Tryd.prog 31 = 112 := by kernel_rfl
@[go_sem] theorem ty_sz33 : sizeP Tryd.prog 33 = 17 := by kernel_rfl
@[go_sem] theorem ty_in33 : infoP Tryd.prog 33 = true := by kernel_rfl
@[go_sem] theorem ty_ag33 : aggP Tryd.prog 33 = true := by kernel_rfl
@[go_sem] theorem ty_fl33_0 : fieldP Tryd.prog 33 0 = some (0, 5) := by kernel_rfl
@[go_sem] theorem ty_fl33_1 : fieldP Tryd.prog 33 1 = some (1, 9) := by kernel_rfl
@[go_sem] theorem ty_fl33_2 : fieldP Tryd.prog 33 2 = some (2, 2) := by kernel_rfl
@[go_sem] theorem ty_fl33_3 : fieldP Tryd.prog 33 3 = some (3, 31) := by kernel_rfl
@[go_sem] theorem ty_fl33_4 : fieldP Tryd.prog 33 4 = some (10, 3) := by kernel_rfl
@[go_sem] theorem ty_fl33_5 : fieldP Tryd.prog 33 5 = some (11, 28) := by kernel_rfl
@[go_sem] theorem ty_fo33 : fieldsOk Tryd.prog 33 = true := by kernel_rfl
@[go_sem] theorem ty_ze33 : zeroA Tryd.prog 33 = some [.d (.v (.int .u8 0)), .d (.v (.string (⟨#[]⟩ : ByteArray))), .d (.v (.int .i64 0)), .d (.v (.int .u8 0)), .d (.v (.string (⟨#[]⟩ : ByteArray))), .d (.v (.string (⟨#[]⟩ : ByteArray))), .d (.v (.int .i64 0)), .d (.v (.string (⟨#[]⟩ : ByteArray))), .d (.v (.slice none 0 0)), .d (.v (.slice none 0 0)), .d (.v (.int .i64 0)), .d (.v (.int .u8 0)), .d (.v (.string (⟨#[]⟩ : ByteArray))), .d (.v (.string (⟨#[]⟩ : ByteArray))), .d (.v (.int .i64 0)), .d (.v (.string (⟨#[]⟩ : ByteArray))), .d (.v (.slice none 0 0))] := by kernel_rfl
@[go_sem] theorem ty_by33 : bytesP Tryd.prog 33 = 240 := by kernel_rfl
@[go_sem] theorem ty_sz35 : sizeP Tryd.prog 35 = 1 := by kernel_rfl
@[go_sem] theorem ty_in35 : infoP Tryd.prog 35 = true := by kernel_rfl
@[go_sem] theorem ty_ag35 : aggP Tryd.prog 35 = false := by kernel_rfl
@[go_sem] theorem ty_ik35 : intKP Tryd.prog 35 = some .i64 := by kernel_rfl
@[go_sem] theorem ty_us35 : (Tryd.prog.underlying 35).isSome = true := by kernel_rfl
@[go_sem] theorem ty_ze35 : zeroA Tryd.prog 35 = some [.d (.v (.int .i64 0))] := by kernel_rfl
@[go_sem] theorem ty_by35 : bytesP Tryd.prog 35 = 8 := by kernel_rfl
@[go_sem] theorem ty_sz51 : sizeP Tryd.prog 51 = 1 := by kernel_rfl
@[go_sem] theorem ty_in51 : infoP Tryd.prog 51 = true := by kernel_rfl
@[go_sem] theorem ty_ag51 : aggP Tryd.prog 51 = false := by kernel_rfl
@[go_sem] theorem ty_sl51 : sliceP Tryd.prog 51 = some 72 := by kernel_rfl
@[go_sem] theorem ty_ze51 : zeroA Tryd.prog 51 = some [.d (.v (.slice none 0 0))] := by kernel_rfl
@[go_sem] theorem ty_by51 : bytesP Tryd.prog 51 = 24 := by kernel_rfl
@[go_sem] theorem ty_sz54 : sizeP Tryd.prog 54 = 1 := by kernel_rfl
@[go_sem] theorem ty_in54 : infoP Tryd.prog 54 = true := by kernel_rfl
@[go_sem] theorem ty_ag54 : aggP Tryd.prog 54 = false := by kernel_rfl
@[go_sem] theorem ty_ze54 : zeroA Tryd.prog 54 = some [.d (.v (.pointer none))] := by kernel_rfl
@[go_sem] theorem ty_by54 : bytesP Tryd.prog 54 = 8 := by kernel_rfl
@[go_sem] theorem ty_sz56 : sizeP Tryd.prog 56 = 2 := by kernel_rfl
@[go_sem] theorem ty_in56 : infoP Tryd.prog 56 = true := by kernel_rfl
@[go_sem] theorem ty_ag56 : aggP Tryd.prog 56 = true := by kernel_rfl
@[go_sem] theorem ty_fl56_0 : fieldP Tryd.prog 56 0 = some (0, 9) := by kernel_rfl
@[go_sem] theorem ty_fl56_1 : fieldP Tryd.prog 56 1 = some (1, 51) := by kernel_rfl
@[go_sem] theorem ty_fo56 : fieldsOk Tryd.prog 56 = true := by kernel_rfl
@[go_sem] theorem ty_ze56 : zeroA Tryd.prog 56 = some [.d (.v (.string (⟨#[]⟩ : ByteArray))), .d (.v (.slice none 0 0))] := by kernel_rfl
@[go_sem] theorem ty_by56 : bytesP Tryd.prog 56 = 40 := by kernel_rfl
@[go_sem] theorem ty_sz63 : sizeP Tryd.prog 63 = 1 := by kernel_rfl
@[go_sem] theorem ty_in63 : infoP Tryd.prog 63 = true := by kernel_rfl
@[go_sem] theorem ty_ag63 : aggP Tryd.prog 63 = false := by kernel_rfl
@[go_sem] theorem ty_ze63 : zeroA Tryd.prog 63 = some [.d (.v (.pointer none))] := by kernel_rfl
@[go_sem] theorem ty_by63 : bytesP Tryd.prog 63 = 8 := by kernel_rfl
@[go_sem] theorem ty_sz70 : sizeP Tryd.prog 70 = 1 := by kernel_rfl
@[go_sem] theorem ty_in70 : infoP Tryd.prog 70 = true := by kernel_rfl
@[go_sem] theorem ty_ag70 : aggP Tryd.prog 70 = false := by kernel_rfl
@[go_sem] theorem ty_sl70 : sliceP Tryd.prog 70 = some 9 := by kernel_rfl
@[go_sem] theorem ty_ze70 : zeroA Tryd.prog 70 = some [.d (.v (.slice none 0 0))] := by kernel_rfl
@[go_sem] theorem ty_by70 : bytesP Tryd.prog 70 = 24 := by kernel_rfl
@[go_sem] theorem ty_sz72 : sizeP Tryd.prog 72 = 3 := by kernel_rfl
@[go_sem] theorem ty_in72 : infoP Tryd.prog 72 = true := by kernel_rfl
@[go_sem] theorem ty_ag72 : aggP Tryd.prog 72 = true := by kernel_rfl
@[go_sem] theorem ty_fl72_0 : fieldP Tryd.prog 72 0 = some (0, 5) := by kernel_rfl
@[go_sem] theorem ty_fl72_1 : fieldP Tryd.prog 72 1 = some (1, 3) := by kernel_rfl
@[go_sem] theorem ty_fl72_2 : fieldP Tryd.prog 72 2 = some (2, 3) := by kernel_rfl
@[go_sem] theorem ty_fo72 : fieldsOk Tryd.prog 72 = true := by kernel_rfl
@[go_sem] theorem ty_ze72 : zeroA Tryd.prog 72 = some [.d (.v (.int .u8 0)), .d (.v (.int .i64 0)), .d (.v (.int .i64 0))] := by kernel_rfl
@[go_sem] theorem ty_by72 : bytesP Tryd.prog 72 = 24 := by kernel_rfl
@[go_sem] theorem ty_sz85 : sizeP Tryd.prog 85 = 24 := by kernel_rfl
@[go_sem] theorem ty_in85 : infoP Tryd.prog 85 = true := by kernel_rfl
@[go_sem] theorem ty_ag85 : aggP Tryd.prog 85 = true := by kernel_rfl
@[go_sem] theorem ty_sl85 : sliceP Tryd.prog 85 = none := by kernel_rfl
@[go_sem] theorem ty_ar85 : arrayP Tryd.prog 85 = some (24, 5) := by kernel_rfl
@[go_sem] theorem ty_ze85 : zeroA Tryd.prog 85 = some [.d (.v (.int .u8 0)), .d (.v (.int .u8 0)), .d (.v (.int .u8 0)), .d (.v (.int .u8 0)), .d (.v (.int .u8 0)), .d (.v (.int .u8 0)), .d (.v (.int .u8 0)), .d (.v (.int .u8 0)), .d (.v (.int .u8 0)), .d (.v (.int .u8 0)), .d (.v (.int .u8 0)), .d (.v (.int .u8 0)), .d (.v (.int .u8 0)), .d (.v (.int .u8 0)), .d (.v (.int .u8 0)), .d (.v (.int .u8 0)), .d (.v (.int .u8 0)), .d (.v (.int .u8 0)), .d (.v (.int .u8 0)), .d (.v (.int .u8 0)), .d (.v (.int .u8 0)), .d (.v (.int .u8 0)), .d (.v (.int .u8 0)), .d (.v (.int .u8 0))] := by kernel_rfl
@[go_sem] theorem ty_by85 : bytesP Tryd.prog 85 = 24 := by kernel_rfl
@[go_sem] theorem ty_sz86 : sizeP Tryd.prog 86 = 1 := by kernel_rfl
@[go_sem] theorem ty_in86 : infoP Tryd.prog 86 = true := by kernel_rfl
@[go_sem] theorem ty_ag86 : aggP Tryd.prog 86 = false := by kernel_rfl
@[go_sem] theorem ty_ik86 : intKP Tryd.prog 86 = some .u64 := by kernel_rfl
@[go_sem] theorem ty_us86 : (Tryd.prog.underlying 86).isSome = true := by kernel_rfl
@[go_sem] theorem ty_ze86 : zeroA Tryd.prog 86 = some [.d (.v (.int .u64 0))] := by kernel_rfl
@[go_sem] theorem ty_by86 : bytesP Tryd.prog 86 = 8 := by kernel_rfl
@[go_sem] theorem ty_sz89 : sizeP Tryd.prog 89 = 1 := by kernel_rfl
@[go_sem] theorem ty_in89 : infoP Tryd.prog 89 = true := by kernel_rfl
@[go_sem] theorem ty_ag89 : aggP Tryd.prog 89 = false := by kernel_rfl
@[go_sem] theorem ty_sl89 : sliceP Tryd.prog 89 = some 5 := by kernel_rfl
@[go_sem] theorem ty_ze89 : zeroA Tryd.prog 89 = some [.d (.v (.slice none 0 0))] := by kernel_rfl
@[go_sem] theorem ty_by89 : bytesP Tryd.prog 89 = 24 := by kernel_rfl
@[go_sem] theorem ty_sz98 : sizeP Tryd.prog 98 = 1 := by kernel_rfl
@[go_sem] theorem ty_in98 : infoP Tryd.prog 98 = true := by kernel_rfl
@[go_sem] theorem ty_ag98 : aggP Tryd.prog 98 = false := by kernel_rfl
@[go_sem] theorem ty_ze98 : zeroA Tryd.prog 98 = some [.d (.v (.pointer none))] := by kernel_rfl
@[go_sem] theorem ty_by98 : bytesP Tryd.prog 98 = 8 := by kernel_rfl
@[go_sem] theorem ty_sz100 : sizeP Tryd.prog 100 = 1 := by kernel_rfl
@[go_sem] theorem ty_in100 : infoP Tryd.prog 100 = true := by kernel_rfl
@[go_sem] theorem ty_ag100 : aggP Tryd.prog 100 = false := by kernel_rfl
@[go_sem] theorem ty_ze100 : zeroA Tryd.prog 100 = some [.d (.v (.pointer none))] := by kernel_rfl
@[go_sem] theorem ty_by100 : bytesP Tryd.prog 100 = 8 := by kernel_rfl
@[go_sem] theorem ty_sz103 : sizeP Tryd.prog 103 = 3 := by kernel_rfl
@[go_sem] theorem ty_in103 : infoP Tryd.prog 103 = true := by kernel_rfl
@[go_sem] theorem ty_ag103 : aggP Tryd.prog 103 = true := by kernel_rfl
@[go_sem] theorem ty_fl103_0 : fieldP Tryd.prog 103 0 = some (0, 9) := by kernel_rfl
@[go_sem] theorem ty_fl103_1 : fieldP Tryd.prog 103 1 = some (1, 51) := by kernel_rfl
@[go_sem] theorem ty_fl103_2 : fieldP Tryd.prog 103 2 = some (2, 3) := by kernel_rfl
@[go_sem] theorem ty_fo103 : fieldsOk Tryd.prog 103 = true := by kernel_rfl
@[go_sem] theorem ty_ze103 : zeroA Tryd.prog 103 = some [.d (.v (.string (⟨#[]⟩ : ByteArray))), .d (.v (.slice none 0 0)), .d (.v (.int .i64 0))] := by kernel_rfl
@[go_sem] theorem ty_by103 : bytesP Tryd.prog 103 = 48 := by kernel_rfl
@[go_sem] theorem ty_sz113 : sizeP Tryd.prog 113 = 1 := by kernel_rfl
@[go_sem] theorem ty_in113 : infoP Tryd.prog 113 = true := by kernel_rfl
@[go_sem] theorem ty_ag113 : aggP Tryd.prog 113 = false := by kernel_rfl
@[go_sem] theorem ty_ze113 : zeroA Tryd.prog 113 = some [.d (.v (.pointer none))] := by kernel_rfl
@[go_sem] theorem ty_by113 : bytesP Tryd.prog 113 = 8 := by kernel_rfl
@[go_sem] theorem ty_sz115 : sizeP Tryd.prog 115 = 2 := by kernel_rfl
@[go_sem] theorem ty_in115 : infoP Tryd.prog 115 = true := by kernel_rfl
@[go_sem] theorem ty_ag115 : aggP Tryd.prog 115 = true := by kernel_rfl
@[go_sem] theorem ty_fl115_0 : fieldP Tryd.prog 115 0 = some (0, 113) := by kernel_rfl
@[go_sem] theorem ty_fl115_1 : fieldP Tryd.prog 115 1 = some (1, 89) := by kernel_rfl
@[go_sem] theorem ty_fo115 : fieldsOk Tryd.prog 115 = true := by kernel_rfl
@[go_sem] theorem ty_ze115 : zeroA Tryd.prog 115 = some [.d (.v (.pointer none)), .d (.v (.slice none 0 0))] := by kernel_rfl
@[go_sem] theorem ty_by115 : bytesP Tryd.prog 115 = 32 := by kernel_rfl
@[go_sem] theorem ty_sz123 : sizeP Tryd.prog 123 = 20 := by kernel_rfl
@[go_sem] theorem ty_in123 : infoP Tryd.prog 123 = true := by kernel_rfl
@[go_sem] theorem ty_ag123 : aggP Tryd.prog 123 = true := by kernel_rfl
@[go_sem] theorem ty_sl123 : sliceP Tryd.prog 123 = none := by kernel_rfl
@[go_sem] theorem ty_ar123 : arrayP Tryd.prog 123 = some (20, 86) := by kernel_rfl
@[go_sem] theorem ty_ze123 : zeroA Tryd.prog 123 = some [.d (.v (.int .u64 0)), .d (.v (.int .u64 0)), .d (.v (.int .u64 0)), .d (.v (.int .u64 0)), .d (.v (.int .u64 0)), .d (.v (.int .u64 0)), .d (.v (.int .u64 0)), .d (.v (.int .u64 0)), .d (.v (.int .u64 0)), .d (.v (.int .u64 0)), .d (.v (.int .u64 0)), .d (.v (.int .u64 0)), .d (.v (.int .u64 0)), .d (.v (.int .u64 0)), .d (.v (.int .u64 0)), .d (.v (.int .u64 0)), .d (.v (.int .u64 0)), .d (.v (.int .u64 0)), .d (.v (.int .u64 0)), .d (.v (.int .u64 0))] := by kernel_rfl
@[go_sem] theorem ty_by123 : bytesP Tryd.prog 123 = 160 := by kernel_rfl
@[go_sem] theorem ty_sz124 : sizeP Tryd.prog 124 = 1 := by kernel_rfl
@[go_sem] theorem ty_in124 : infoP Tryd.prog 124 = true := by kernel_rfl
@[go_sem] theorem ty_ag124 : aggP Tryd.prog 124 = false := by kernel_rfl
@[go_sem] theorem ty_ik124 : intKP Tryd.prog 124 = some .u32 := by kernel_rfl
@[go_sem] theorem ty_us124 : (Tryd.prog.underlying 124).isSome = true := by kernel_rfl
@[go_sem] theorem ty_ze124 : zeroA Tryd.prog 124 = some [.d (.v (.int .u32 0))] := by kernel_rfl
@[go_sem] theorem ty_by124 : bytesP Tryd.prog 124 = 4 := by kernel_rfl
@[go_sem] theorem ty_sz125 : sizeP Tryd.prog 125 = 65 := by kernel_rfl
@[go_sem] theorem ty_in125 : infoP Tryd.prog 125 = true := by kernel_rfl
@[go_sem] theorem ty_ag125 : aggP Tryd.prog 125 = true := by kernel_rfl
@[go_sem] theorem ty_sl125 : sliceP Tryd.prog 125 = none := by kernel_rfl
@[go_sem] theorem ty_ar125 : arrayP Tryd.prog 125 = some (65, 5) := by kernel_rfl
@[go_sem] theorem ty_by125 : bytesP Tryd.prog 125 = 65 := by kernel_rfl
@[go_sem] theorem ty_sz127 : sizeP Tryd.prog 127 = 1 := by kernel_rfl
@[go_sem] theorem ty_in127 : infoP Tryd.prog 127 = true := by kernel_rfl
@[go_sem] theorem ty_ag127 : aggP Tryd.prog 127 = false := by kernel_rfl
@[go_sem] theorem ty_ik127 : intKP Tryd.prog 127 = some .u64 := by kernel_rfl
@[go_sem] theorem ty_us127 : (Tryd.prog.underlying 127).isSome = true := by kernel_rfl
@[go_sem] theorem ty_ze127 : zeroA Tryd.prog 127 = some [.d (.v (.int .u64 0))] := by kernel_rfl
@[go_sem] theorem ty_by127 : bytesP Tryd.prog 127 = 8 := by kernel_rfl
@[go_sem] theorem ty_sz131 : sizeP Tryd.prog 131 = 2 := by kernel_rfl
@[go_sem] theorem ty_in131 : infoP Tryd.prog 131 = true := by kernel_rfl
@[go_sem] theorem ty_ag131 : aggP Tryd.prog 131 = true := by kernel_rfl
@[go_sem] theorem ty_fl131_0 : fieldP Tryd.prog 131 0 = some (0, 3) := by kernel_rfl
@[go_sem] theorem ty_fl131_1 : fieldP Tryd.prog 131 1 = some (1, 35) := by kernel_rfl
@[go_sem] theorem ty_fo131 : fieldsOk Tryd.prog 131 = true := by kernel_rfl
@[go_sem] theorem ty_ze131 : zeroA Tryd.prog 131 = some [.d (.v (.int .i64 0)), .d (.v (.int .i64 0))] := by kernel_rfl
@[go_sem] theorem ty_by131 : bytesP Tryd.prog 131 = 16 := by kernel_rfl
@[go_sem] theorem ty_sz140 : sizeP Tryd.prog 140 = 1 := by kernel_rfl
@[go_sem] theorem ty_in140 : infoP Tryd.prog 140 = true := by kernel_rfl
@[go_sem] theorem ty_ag140 : aggP Tryd.prog 140 = false := by kernel_rfl
@[go_sem] theorem ty_ze140 : zeroA Tryd.prog 140 = some [.d (.v (.pointer none))] := by kernel_rfl
@[go_sem] theorem ty_by140 : bytesP Tryd.prog 140 = 8 := by kernel_rfl
@[go_sem] theorem ty_sz145 : sizeP Tryd.prog 145 = 1 := by kernel_rfl
@[go_sem] theorem ty_in145 : infoP Tryd.prog 145 = true := by kernel_rfl
@[go_sem] theorem ty_ag145 : aggP Tryd.prog 145 = false := by kernel_rfl
@[go_sem] theorem ty_ze145 : zeroA Tryd.prog 145 = some [.d (.v (.pointer none))] := by kernel_rfl
@[go_sem] theorem ty_by145 : bytesP Tryd.prog 145 = 8 := by kernel_rfl
@[go_sem] theorem ty_sz148 : sizeP Tryd.prog 148 = 32 := by kernel_rfl
@[go_sem] theorem ty_in148 : infoP Tryd.prog 148 = true := by kernel_rfl
@[go_sem] theorem ty_ag148 : aggP Tryd.prog 148 = true := by kernel_rfl
@[go_sem] theorem ty_sl148 : sliceP Tryd.prog 148 = none := by kernel_rfl
@[go_sem] theorem ty_ar148 : arrayP Tryd.prog 148 = some (32, 5) := by kernel_rfl
@[go_sem] theorem ty_ze148 : zeroA Tryd.prog 148 = some [.d (.v (.int .u8 0)), .d (.v (.int .u8 0)), .d (.v (.int .u8 0)), .d (.v (.int .u8 0)), .d (.v (.int .u8 0)), .d (.v (.int .u8 0)), .d (.v (.int .u8 0)), .d (.v (.int .u8 0)), .d (.v (.int .u8 0)), .d (.v (.int .u8 0)), .d (.v (.int .u8 0)), .d (.v (.int .u8 0)), .d (.v (.int .u8 0)), .d (.v (.int .u8 0)), .d (.v (.int .u8 0)), .d (.v (.int .u8 0)), .d (.v (.int .u8 0)), .d (.v (.int .u8 0)), .d (.v (.int .u8 0)), .d (.v (.int .u8 0)), .d (.v (.int .u8 0)), .d (.v (.int .u8 0)), .d (.v (.int .u8 0)), .d (.v (.int .u8 0)), .d (.v (.int .u8 0)), .d (.v (.int .u8 0)), .d (.v (.int .u8 0)), .d (.v (.int .u8 0)), .d (.v (.int .u8 0)), .d (.v (.int .u8 0)), .d (.v (.int .u8 0)), .d (.v (.int .u8 0))] := by kernel_rfl
@[go_sem] theorem ty_by148 : bytesP Tryd.prog 148 = 32 := by kernel_rfl
@[go_sem] theorem ty_sz149 : sizeP Tryd.prog 149 = 64 := by kernel_rfl
@[go_sem] theorem ty_in149 : infoP Tryd.prog 149 = true := by kernel_rfl
@[go_sem] theorem ty_ag149 : aggP Tryd.prog 149 = true := by kernel_rfl
@[go_sem] theorem ty_sl149 : sliceP Tryd.prog 149 = none := by kernel_rfl
@[go_sem] theorem ty_ar149 : arrayP Tryd.prog 149 = some (64, 5) := by kernel_rfl
@[go_sem] theorem ty_by149 : bytesP Tryd.prog 149 = 64 := by kernel_rfl
theorem mixedP : Tryd.prog.follows .mixedOrders = true := by kernel_rfl
end Go.Proofs.YtfhpecgknmfnnaaDoor.M
end
section
namespace Go.Proofs.YtfhpecgknmfnnaaDoor.M
open Go.R
def Val.cells (v : Val) : List DV := [.v (.string v.sym), .v (.int .i64 v.num)]
def Term.cells (t : Term) : List DV := [.v (.string t.var), .v (.string t.val.sym), .v (.int .i64 t.val.num)]
def Lit.cells (l : Lit) : List DV := [.v (.int .u8 l.kind), .v (.string l.who.var), .v (.string l.who.val.sym), .v (.int .i64 l.who.val.num), .v (.string l.pred), .sl 3 (l.args.map Term.cells)]
def Clause.cells (c : Clause) : List DV := [.v (.int .u8 c.head.kind), .v (.string c.head.who.var), .v (.string c.head.who.val.sym), .v (.int .i64 c.head.who.val.num), .v (.string c.head.pred), .sl 3 (c.head.args.map Term.cells), .sl 6 (c.body.map Lit.cells)]
def Val.av (v : Val) : AV := .agg [.d (.v (.string v.sym)), .d (.v (.int .i64 v.num))]
def Term.av (t : Term) : AV := .agg [.d (.v (.string t.var)), .d (.v (.string t.val.sym)), .d (.v (.int .i64 t.val.num))]
def Lit.av (l : Lit) : AV := .agg [.d (.v (.int .u8 l.kind)), .d (.v (.string l.who.var)), .d (.v (.string l.who.val.sym)), .d (.v (.int .i64 l.who.val.num)), .d (.v (.string l.pred)), .d (.sl 3 (l.args.map Term.cells))]
def Clause.av (c : Clause) : AV := .agg [.d (.v (.int .u8 c.head.kind)), .d (.v (.string c.head.who.var)), .d (.v (.string c.head.who.val.sym)), .d (.v (.int .i64 c.head.who.val.num)), .d (.v (.string c.head.pred)), .d (.sl 3 (c.head.args.map Term.cells)), .d (.sl 6 (c.body.map Lit.cells))]
def dRows {α : Type} (d : List DV → Option α) : List (List DV) → Option (List α)
 | [] => some []
 | x :: r => match d x with
   | some a => match dRows d r with
     | some l => some (a :: l)
     | none => none
   | none => none
theorem dRows_map {α : Type} {d : List DV → Option α} {f : α → List DV} (h : ∀ x, d (f x) = some x) : ∀ l : List α, dRows d (l.map f) = some l
 | [] => rfl
 | x :: l => by simp [dRows, h, dRows_map h l]
theorem dRows_eq {α : Type} {d : List DV → Option α} {f : α → List DV} (h : ∀ c x, d c = some x → c = f x) : ∀ {xs : List (List DV)} {l : List α}, dRows d xs = some l → xs = l.map f
 | [], l, e => by simp [dRows] at e; subst e; rfl
 | x :: r, l, e => by
   simp only [dRows] at e
   cases h1 : d x with
   | none => simp [h1] at e
   | some a =>
     cases h2 : dRows d r with
     | none => simp [h1, h2] at e
     | some l' =>
       simp [h1, h2] at e
       subst e
       rw [h x a h1, dRows_eq h h2]
       rfl
def cTerm : List DV → Option Term
 | [.v (.string a), .v (.string b), .v (.int .i64 n)] => some ⟨a, ⟨b, n⟩⟩
 | _ => none
@[go_sem] theorem cTerm_cells (t : Term) : cTerm t.cells = some t := rfl
theorem cTerm_eq {c : List DV} {t : Term} (h : cTerm c = some t) : c = t.cells := by
 unfold cTerm at h
 split at h
 · cases h; rfl
 · cases h
def cLit : List DV → Option Lit
 | [.v (.int .u8 k), .v (.string a), .v (.string b), .v (.int .i64 n), .v (.string p), .sl 3 xs] => match dRows cTerm xs with
   | some l => some ⟨k, ⟨a, ⟨b, n⟩⟩, p, l⟩
   | none => none
 | _ => none
@[go_sem] theorem dTerms (l : List Term) : dRows cTerm (l.map Term.cells) = some l := dRows_map cTerm_cells l
@[go_sem] theorem cLit_cells (l : Lit) : cLit l.cells = some l := by simp [cLit, Lit.cells, dTerms]
theorem cLit_eq {c : List DV} {l : Lit} (h : cLit c = some l) : c = l.cells := by
 unfold cLit at h
 split at h
 · rename_i xs
   cases hx : dRows cTerm xs with
   | none => simp [hx] at h
   | some ts =>
     simp only [hx, Option.some.injEq] at h
     subst h
     rw [dRows_eq (fun c x => cTerm_eq) hx]
     rfl
 · cases h
@[go_sem] theorem dLits (l : List Lit) : dRows cLit (l.map Lit.cells) = some l := dRows_map cLit_cells l
def aVal : AV → Option Val
 | .agg [.d (.v (.string b)), .d (.v (.int .i64 n))] => some ⟨b, n⟩
 | _ => none
def aTerm : AV → Option Term
 | .agg [.d (.v (.string a)), .d (.v (.string b)), .d (.v (.int .i64 n))] => some ⟨a, ⟨b, n⟩⟩
 | _ => none
def aTerms (x : AV) : Option (List Term) := match rowsOf 3 x with
 | some xs => dRows cTerm xs
 | none => none
def aLits (x : AV) : Option (List Lit) := match rowsOf 6 x with
 | some xs => dRows cLit xs
 | none => none
def aLit : AV → Option Lit
 | .agg [.d (.v (.int .u8 k)), .d (.v (.string a)), .d (.v (.string b)), .d (.v (.int .i64 n)), .d (.v (.string p)), x] => match aTerms x with
   | some l => some ⟨k, ⟨a, ⟨b, n⟩⟩, p, l⟩
   | none => none
 | _ => none
def aClause : AV → Option Clause
 | .agg [.d (.v (.int .u8 k)), .d (.v (.string a)), .d (.v (.string b)), .d (.v (.int .i64 n)), .d (.v (.string p)), x, y] => match aTerms x with
   | some l => match aLits y with
     | some b' => some ⟨⟨k, ⟨a, ⟨b, n⟩⟩, p, l⟩, b'⟩
     | none => none
   | none => none
 | _ => none
def aStr : AV → Option ByteArray
 | .d (.v (.string s)) => some s
 | _ => none
theorem aVal_le {x : AV} {t : Val} (h : aVal x = some t) : AV.le x t.av := by
 unfold aVal at h
 split at h
 · cases h; exact AV.le.refl _
 · cases h
theorem aTerm_le {x : AV} {t : Term} (h : aTerm x = some t) : AV.le x t.av := by
 unfold aTerm at h
 split at h
 · cases h; exact AV.le.refl _
 · cases h
theorem aTerms_le {x : AV} {l : List Term} (h : aTerms x = some l) : AV.le x (.d (.sl 3 (l.map Term.cells))) := by
 unfold aTerms at h
 cases hr : rowsOf 3 x with
 | none => simp [hr] at h
 | some xs =>
   simp only [hr] at h
   rw [← dRows_eq (fun c x => cTerm_eq) h]
   exact AV.le.rows hr
theorem aLits_le {x : AV} {l : List Lit} (h : aLits x = some l) : AV.le x (.d (.sl 6 (l.map Lit.cells))) := by
 unfold aLits at h
 cases hr : rowsOf 6 x with
 | none => simp [hr] at h
 | some xs =>
   simp only [hr] at h
   rw [← dRows_eq (fun c x => cLit_eq) h]
   exact AV.le.rows hr
theorem aLit_le {x : AV} {l : Lit} (h : aLit x = some l) : AV.le x l.av := by
 unfold aLit at h
 split at h
 · rename_i y
   cases hy : aTerms y with
   | none => simp [hy] at h
   | some ts =>
     simp only [hy, Option.some.injEq] at h
     subst h
     exact AV.le.agg ⟨AV.le.refl _, AV.le.refl _, AV.le.refl _, AV.le.refl _, AV.le.refl _, aTerms_le hy, trivial⟩
 · cases h
theorem aClause_le {x : AV} {l : Clause} (h : aClause x = some l) : AV.le x l.av := by
 unfold aClause at h
 split at h
 · rename_i y z
   cases hy : aTerms y with
   | none => simp [hy] at h
   | some ts =>
     cases hz : aLits z with
     | none => simp [hy, hz] at h
     | some bs =>
       simp only [hy, hz, Option.some.injEq] at h
       subst h
       exact AV.le.agg ⟨AV.le.refl _, AV.le.refl _, AV.le.refl _, AV.le.refl _, AV.le.refl _, aTerms_le hy, aLits_le hz, trivial⟩
 · cases h
theorem aStr_eq {x : AV} {s : ByteArray} (h : aStr x = some s) : x = .d (.v (.string s)) := by
 unfold aStr at h
 split at h
 · cases h; rfl
 · cases h
@[go_sem] theorem Val.eta (v : Val) : Val.mk v.sym v.num = v := rfl
@[go_sem] theorem Term.eta (t : Term) : Term.mk t.var t.val = t := rfl
@[go_sem] theorem Lit.eta (l : Lit) : Lit.mk l.kind l.who l.pred l.args = l := rfl
@[go_sem] theorem Clause.eta (c : Clause) : Clause.mk c.head c.body = c := rfl
@[go_sem] theorem Term.len (t : Term) : t.cells.length = 3 := rfl
@[go_sem] theorem Lit.len (l : Lit) : l.cells.length = 6 := rfl
theorem Term.ds (t : Term) : t.cells.map AV.d = [.d (.v (.string t.var)), .d (.v (.string t.val.sym)), .d (.v (.int .i64 t.val.num))] := rfl
theorem Lit.ds (l : Lit) : l.cells.map AV.d = [.d (.v (.int .u8 l.kind)), .d (.v (.string l.who.var)), .d (.v (.string l.who.val.sym)), .d (.v (.int .i64 l.who.val.num)), .d (.v (.string l.pred)), .d (.sl 3 (l.args.map Term.cells))] := rfl
attribute [go_sem] aVal aTerm aTerms aLits aLit aClause aStr rowAt_map Int.toNat_natCast Option.map_some Term.ds Lit.ds List.drop_nil List.map_drop List.length_map placeP tokIs upd_same
def g1 {α : Type} (a : AV → Option α) (f : α → AV) : List AV → Option AV
 | [x] => match a x with
   | some v => some (f v)
   | none => none
 | _ => none
def g2 {α β : Type} (a : AV → Option α) (b : AV → Option β) (f : α → β → AV) : List AV → Option AV
 | [x, y] => match a x with
   | some v => match b y with
     | some u => some (f v u)
     | none => none
   | none => none
 | _ => none
theorem g1_eq {α : Type} {a : AV → Option α} {f : α → AV} {l : List AV} {r : AV} (h : g1 a f l = some r) : ∃ x v, l = [x] ∧ a x = some v ∧ f v = r := by
 unfold g1 at h
 split at h
 · rename_i x
   cases hx : a x with
   | none => simp [hx] at h
   | some v => simp [hx] at h; exact ⟨x, v, rfl, hx, h⟩
 · cases h
theorem g2_eq {α β : Type} {a : AV → Option α} {b : AV → Option β} {f : α → β → AV} {l : List AV} {r : AV} (h : g2 a b f l = some r) : ∃ x y v u, l = [x, y] ∧ a x = some v ∧ b y = some u ∧ f v u = r := by
 unfold g2 at h
 split at h
 · rename_i x y
   cases hx : a x with
   | none => simp [hx] at h
   | some v =>
     cases hy : b y with
     | none => simp [hx, hy] at h
     | some u => simp [hx, hy] at h; exact ⟨x, y, v, u, rfl, hx, hy, h⟩
 · cases h
@[go_sem] theorem g1_one {α : Type} (a : AV → Option α) (f : α → AV) (x : AV) : g1 a f [x] = (a x).map f := by
  cases h : a x <;> simp [g1, h]
@[go_sem] theorem g2_two {α β : Type} (a : AV → Option α) (b : AV → Option β) (f : α → β → AV) (x y : AV) : g2 a b f [x, y] = (a x).bind fun v => (b y).map (f v) := by
  cases h : a x <;> cases h' : b y <;> simp [g2, h, h']
@[go_sem] theorem pure_run (g : List AV → Option AV) (x : List AV) (h : AH) (n : Nat) : (Fs.pure g).run x h n = (g x).map fun r => (r, h, n) := rfl
@[go_sem] theorem pure_pre (g : List AV → Option AV) (x : List AV) (h : AH) (n : Nat) : (Fs.pure g).pre x h n = True := rfl
@[go_sem] theorem pure_tch (g : List AV → Option AV) (x : List AV) : (Fs.pure g).tch x = [] := rfl
@[go_sem] theorem pureIf_run (p : List AV → Prop) (g : List AV → Option AV) (x : List AV) (h : AH) (n : Nat) : (Fs.pureIf p g).run x h n = (g x).map fun r => (r, h, n) := rfl
@[go_sem] theorem pureIf_pre (p : List AV → Prop) (g : List AV → Option AV) (x : List AV) (h : AH) (n : Nat) : (Fs.pureIf p g).pre x h n = p x := rfl
@[go_sem] theorem pureIf_tch (p : List AV → Prop) (g : List AV → Option AV) (x : List AV) : (Fs.pureIf p g).tch x = [] := rfl
@[go_sem] theorem put_app (F : Ft) (f g : FuncId) (S : Fs) : Ft.put F f S g = if g = f then S else F g := rfl
section
variable {P : Program} {E : EqT P} {F : Ft}
theorem of_X1 {α : Type} {a : AV → Option α} (av : α → AV) {g : α → AV} (hle : ∀ x v, a x = some v → AV.le x (av v)) {f : FuncId} {fn : Func} {code : Code} (hf : P.funcs[f]? = some fn) (hbody : fn.body = some code) (hn : (fn.name == "runtime.NumGoroutine") = false)
 (rs : List ResultVar) {nt : Nat} (hrs : fn.results = rs.toArray) (hnt : fn.ntmps = nt) (hl : nt ≤ 900000) (hF : FtOk P F)
 (H : ∀ v h n, HOk n h → X E F [] (FinP P rs n h (g v)) 4000 (.code code) [] ⟨av v :: List.replicate (nt - 1) .any, h, n, n⟩) : FsOk P f (.pure (g1 a g)) := by
 refine FsOk.of_XP (E := E) _ hf hbody hn hrs hnt hF (fun _ _ _ => rfl) ?_
 intro args h n r _ hS hok
 obtain ⟨x, v, rfl, hx, rfl⟩ := g1_eq hS
 exact ⟨[av v], ⟨hle x v hx, trivial⟩, ⟨hl, by simp⟩, H v h n hok⟩
end
def oP {α : Type} (x : Option α) (p : α → Prop) : Prop := ∀ v, x = some v → p v
@[go_sem] theorem oP_some {α : Type} (v : α) (p : α → Prop) : oP (some v) p = p v := propext ⟨fun h => h v rfl, fun h u e => by cases e; exact h⟩
def g1p {α : Type} (a : AV → Option α) (p : α → Prop) : List AV → Prop
 | [x] => oP (a x) p
 | _ => True
@[go_sem] theorem g1p_one {α : Type} (a : AV → Option α) (p : α → Prop) (x : AV) : g1p a p [x] = oP (a x) p := rfl
section
variable {P : Program} {E : EqT P} {F : Ft}
theorem of_Y1 {α : Type} {a : AV → Option α} (av : α → AV) {p : α → Prop} {g : α → AV} (hle : ∀ x v, a x = some v → AV.le x (av v)) {f : FuncId} {fn : Func} {code : Code} (hf : P.funcs[f]? = some fn) (hbody : fn.body = some code) (hn : (fn.name == "runtime.NumGoroutine") = false)
 (rs : List ResultVar) {nt : Nat} (hrs : fn.results = rs.toArray) (hnt : fn.ntmps = nt) (hl : nt ≤ 900000) (hF : FtOk P F)
 (H : ∀ v h n, p v → HOk n h → X E F [] (FinP P rs n h (g v)) 4000 (.code code) [] ⟨av v :: List.replicate (nt - 1) .any, h, n, n⟩) : FsOk P f (.pureIf (g1p a p) (g1 a g)) := by
 refine FsOk.of_XP (E := E) _ hf hbody hn hrs hnt hF (fun _ _ _ => rfl) ?_
 intro args h n r hp hS hok
 obtain ⟨x, v, rfl, hx, rfl⟩ := g1_eq hS
 exact ⟨[av v], ⟨hle x v hx, trivial⟩, ⟨hl, by simp⟩, H v h n (hp v hx) hok⟩
end
def g2p {α β : Type} (a : AV → Option α) (b : AV → Option β) (p : α → β → Prop) : List AV → Prop
 | [x, y] => oP (a x) fun v => oP (b y) fun u => p v u
 | _ => True
@[go_sem] theorem g2p_two {α β : Type} (a : AV → Option α) (b : AV → Option β) (p : α → β → Prop) (x y : AV) : g2p a b p [x, y] = oP (a x) fun v => oP (b y) fun u => p v u := rfl
section
variable {P : Program} {E : EqT P} {F : Ft}
theorem of_Y2 {α β : Type} {a : AV → Option α} {b : AV → Option β} (av : α → AV) (bv : β → AV) {p : α → β → Prop} {g : α → β → AV} (hle : ∀ x v, a x = some v → AV.le x (av v)) (hle' : ∀ x v, b x = some v → AV.le x (bv v)) {f : FuncId} {fn : Func} {code : Code}
 (hf : P.funcs[f]? = some fn) (hbody : fn.body = some code) (hn : (fn.name == "runtime.NumGoroutine") = false) (rs : List ResultVar) {nt : Nat} (hrs : fn.results = rs.toArray) (hnt : fn.ntmps = nt) (hl : nt ≤ 900000) (hF : FtOk P F)
 (H : ∀ v u h n, p v u → HOk n h → X E F [] (FinP P rs n h (g v u)) 4000 (.code code) [] ⟨av v :: bv u :: List.replicate (nt - 2) .any, h, n, n⟩) : FsOk P f (.pureIf (g2p a b p) (g2 a b g)) := by
 refine FsOk.of_XP (E := E) _ hf hbody hn hrs hnt hF (fun _ _ _ => rfl) ?_
 intro args h n r hp hS hok
 obtain ⟨x, y, v, u, rfl, hx, hy, rfl⟩ := g2_eq hS
 exact ⟨[av v, bv u], ⟨hle x v hx, hle' y u hy, trivial⟩, ⟨hl, by simp⟩, H v u h n (hp v hx u hy) hok⟩
end
theorem aStr_le {x : AV} {s : ByteArray} (h : aStr x = some s) : AV.le x (.d (.v (.string s))) := by rw [aStr_eq h]; exact AV.le.refl _
def aU8 : AV → Option Int
 | .d (.v (.int .u8 c)) => some c
 | _ => none
theorem aU8_eq {x : AV} {c : Int} (h : aU8 x = some c) : x = .d (.v (.int .u8 c)) := by
 unfold aU8 at h
 split at h
 · cases h; rfl
 · cases h
abbrev vB (b : Bool) : AV := .d (.v (.bool b))
abbrev vS (s : ByteArray) : AV := .d (.v (.string s))
abbrev vI (n : Int) : AV := .d (.v (.int .i64 n))
attribute [go_sem] aU8
end Go.Proofs.YtfhpecgknmfnnaaDoor.M
end
section
namespace Go.Proofs.YtfhpecgknmfnnaaDoor.M
open Go.R
def goodV (v : Val) : Bool := v.sym.size == 0 || (nameB v.sym && v.num == 0)
def ownT (t : Term) : Bool := t.var.size == 0 && t.val.sym.size == 0 && t.val.num == 0
def varB (s : ByteArray) : Bool := decide (0 < s.size) && decide (s.size ≤ 16) && uppB (byteAt s 0) && (List.range s.size).all fun i => pieceB (byteAt s i)
end Go.Proofs.YtfhpecgknmfnnaaDoor.M
end
section
namespace Go.Proofs.YtfhpecgknmfnnaaDoor.M
open Go.R
def termB (t : Term) : Bool := if 0 < t.var.size then varB t.var && (t.val.sym.size == 0 && t.val.num == 0) else goodV t.val
def termsB (l : List Term) : Bool := l.all termB
end Go.Proofs.YtfhpecgknmfnnaaDoor.M
end
section
namespace Go.Proofs.YtfhpecgknmfnnaaDoor.M
open Go.R
def saidB (l : Lit) : Bool := (ownT l.who || termB l.who && (decide (0 < l.who.var.size) || decide (0 < l.who.val.sym.size))) && nameB l.pred && decide (l.args.length ≤ 4) && termsB l.args
def checkLitB (l : Lit) : Bool := l.kind == 1 && saidB l
def literalB (l : Lit) : Bool := if l.kind == 1 || l.kind == 2 then saidB l else (l.kind == 3 || l.kind == 4) && l.pred.size == 0 && ownT l.who && l.args.length == 2 && termsB l.args
def checkB (c : Clause) : Bool := checkLitB c.head && ownT c.head.who && decide (c.body.length ≤ 6) && c.body.all literalB
def Clause.ds (c : Clause) : List AV := [.d (.v (.int .u8 c.head.kind)), .d (.v (.string c.head.who.var)), .d (.v (.string c.head.who.val.sym)), .d (.v (.int .i64 c.head.who.val.num)), .d (.v (.string c.head.pred)), .d (.sl 3 (c.head.args.map Term.cells)), .d (.sl 6 (c.body.map Lit.cells))]
end Go.Proofs.YtfhpecgknmfnnaaDoor.M
end
section
namespace Go.Proofs.YtfhpecgknmfnnaaDoor.M
open Go.R
theorem noGuardT : Tryd.prog.eqGuardType Tryd.prog.depth 25 = false := by kernel_rfl
theorem undT : Tryd.prog.underlying 25 = some (.struct (Tryd.prog.fieldsOf 25)) := by kernel_rfl
theorem undV : Tryd.prog.underlying 23 = some (.struct (Tryd.prog.fieldsOf 23)) := by kernel_rfl
theorem heldT : Tryd.prog.stoodInHeld 25 = false := by kernel_rfl
theorem heldV : Tryd.prog.stoodInHeld 23 = false := by kernel_rfl
def eqTermF (t : TypeId) (us vs : List Value) : Option Bool := if t = 25 then match us, vs with
 | [.string a, .string b, .int .i64 n], [.string a', .string b', .int .i64 n'] => some (a.toList == a'.toList && (b.toList == b'.toList && n == n'))
 | _, _ => none
 else none
def eqF3 (d : Nat) (xs ys : Array Value) : List (String × TypeId × Nat) → Sem Bool
 | [] => pure true
 | f :: fs =>
   if f.1 ≠ "_" then do
    let a ← part f.2.1 xs f.2.2
    let b ← part f.2.1 ys f.2.2
    let r ← Op.equalIn d f.2.1 a b
    if (!r) = true then pure false else eqF3 d xs ys fs
   else eqF3 d xs ys fs
theorem eqFields_map (d : Nat) (xs ys : Array Value) : ∀ fs : List Field, Op.eqFields d xs ys fs = eqF3 d xs ys (fs.map fun f => (f.name, f.type, f.offset))
 | [] => rfl
 | f :: fs => by simp only [Op.eqFields, List.map_cons, eqF3, eqFields_map d xs ys fs]
theorem e1 : (Tryd.prog.fieldsOf 25).toList.map (fun f => (f.name, f.type, f.offset)) = [("Var", 9, 0), ("Val", 23, 1)] := by kernel_rfl
theorem e2 : (Tryd.prog.fieldsOf 23).toList.map (fun f => (f.name, f.type, f.offset)) = [("Sym", 9, 0), ("Num", 2, 1)] := by kernel_rfl
theorem und_s : Tryd.prog.underlying 9 = some .string := by kernel_rfl
theorem und_i : Tryd.prog.underlying 2 = some (.int .i64) := by kernel_rfl
theorem equalIn_term (a b a' b' : ByteArray) (n n' : Int) (w : World) : (Op.equalIn 10000 25 (.agg #[.string a, .string b, .int .i64 n]) (.agg #[.string a', .string b', .int .i64 n'])).run Tryd.prog w = .ok (a.toList == a'.toList && (b.toList == b'.toList && n == n')) w := by
 rw [run_equalIn_agg w 9999 _ _ _ undT heldT, eqFields_map, e1]
 simp [go_sem, eqF3, und_s, und_i]
 by_cases h1 : a.toList = a'.toList <;> by_cases h2 : b.toList = b'.toList <;> by_cases h3 : n = n' <;> simp [*]
def eqT : EqT Tryd.prog := ⟨eqTermF, fun t us vs b h op x y w => by
 unfold eqTermF at h
 split at h
 · rename_i e
   subst e
   split at h
   · cases h
     refine ⟨?_, ?_⟩ <;> (rintro rfl; simp only [Sem.run_bind, run_eqGuard_agg _ _ _ _ _ _ _ noGuardT, Result.andThen_ok, run_eql_struct, run_neq_struct, equalIn_term])
   · cases h
 · cases h⟩
@[go_sem] theorem eqT_term (a b a' b' : ByteArray) (n n' : Int) : eqT.eq 25 [.string a, .string b, .int .i64 n] [.string a', .string b', .int .i64 n'] = some (a.toList == a'.toList && (b.toList == b'.toList && n == n')) := rfl
end Go.Proofs.YtfhpecgknmfnnaaDoor.M
end
section
namespace Go.Proofs.YtfhpecgknmfnnaaDoor.M
open Go.R
noncomputable def eqB {α : Type} (a b : α) : Bool := @decide (a = b) (Classical.propDecidable _)
theorem eqB_true {α : Type} {a b : α} (h : a = b) : eqB a b = true := by simp [eqB, h]
theorem eqB_false {α : Type} {a b : α} (h : ¬a = b) : eqB a b = false := by simp [eqB, h]
theorem toList_inj {a b : ByteArray} (h : a.toList = b.toList) : a = b := by
 rw [toList_eq, toList_eq] at h
 obtain ⟨⟨x⟩⟩ := a
 obtain ⟨⟨y⟩⟩ := b
 simp only at h
 rw [h]
theorem Term.eq_of {a b : Term} (h : (a.var.toList == b.var.toList && (a.val.sym.toList == b.val.sym.toList && a.val.num == b.val.num)) = true) : a = b := by
 simp only [Bool.and_eq_true, beq_iff_eq] at h
 obtain ⟨h1, h2, h3⟩ := h
 obtain ⟨a1, a2, a3⟩ := a
 obtain ⟨b1, b2, b3⟩ := b
 have e1 := toList_inj h1
 have e2 := toList_inj h2
 simp only at e1 e2 h3
 rw [e1, e2, h3]
theorem Term.ne_of {a b : Term} (h : (a.var.toList == b.var.toList && (a.val.sym.toList == b.val.sym.toList && a.val.num == b.val.num)) = false) : ¬a = b := by
 rintro rfl
 simp at h
def Lit.bx (l : Lit) : List AV := [.d (.v (.int .u8 l.kind)), .d (.v (.string l.who.var)), .d (.v (.string l.who.val.sym)), .d (.v (.int .i64 l.who.val.num)), .d (.v (.string l.pred)), .d (.sl 3 (l.args.map Term.cells))]
noncomputable abbrev sameLitS : Fs := .pureIf (g2p aLit aLit fun a b => a.args.length ≤ 4611686018427387904) (g2 aLit aLit fun a b => vB (eqB a b))
def smallC (c : Clause) : Prop := c.body.length ≤ 4611686018427387904 ∧ c.head.args.length ≤ 4611686018427387904 ∧ ∀ l ∈ c.body, l.args.length ≤ 4611686018427387904
noncomputable abbrev sameS : Fs := .pureIf (g2p aClause aClause fun a b => smallC a) (g2 aClause aClause fun a b => vB (eqB a b))
set_option maxHeartbeats 1000000 in
theorem sameLit_ok : FsOk Tryd.prog 22 sameLitS := by
 refine of_Y2 (E := eqT) (F := Ft.no) Lit.av Lit.av (fun _ _ => aLit_le) (fun _ _ => aLit_le) Tryd.func22 rfl (by kernel_rfl) [.tmp 4] rfl Tryd.ntmps22 (by decide) (FtOk.no _) ?_
 intro l l' h n hp hok
 repeat' (first | (with_reducible refine XG_split (fun hq => ?_) (fun hq => ?_)) | (with_reducible refine Or.inl (And.intro (And.intro mixedP ?_) ?_); kernel_rfl) | (with_reducible refine MX1.of 4000 (by simp) ?_) | (with_reducible refine MX2.of 4000 (by simp) ?_) | (with_reducible refine And.intro ?_ ?_) | simp only [go_sem,Nat.reduceEqDiff,Nat.reduceAdd,Nat.reduceMul,Nat.reduceLeDiff,Lit.av,cvals,cval])
 all_goals first | (refine wk_v (congrArg Value.bool ?_)) | skip
 · exact (eqB_false (by rintro rfl; simp at hq)).symm
 · exact (eqB_false (by rintro rfl; simp at hq)).symm
 · exact (eqB_false (by rintro rfl; simp at hq)).symm
 · exact (eqB_false (by rintro rfl; simp at hq)).symm
 rename_i h1 h2 h3
 have e1 : l.kind = l'.kind := by simpa using h1
 have e2 : l.who = l'.who := Term.eq_of (by simpa using h2)
 have e3 : l.pred = l'.pred := toList_inj (by simpa using h3)
 have e4 : l.args.length = l'.args.length := by simp at hq; omega
 have hok' : HOk (n + 1) (upd h n (.box l.bx)) := (hok.mono (Nat.le_succ n)).upd_box (Nat.lt_succ_self n) (by simp only [go_sem, Lit.bx])
 have hok2 : HOk (n + 1 + 1) (upd (upd h n (.box l.bx)) (n + 1) (.box l'.bx)) := (hok'.mono (Nat.le_succ _)).upd_box (Nat.lt_succ_self _) (by simp only [go_sem, Lit.bx])
 refine AW.loopJ (E := eqT) (S := fun k : Nat => ⟨fr [(2, .p n 0), (3, .p (n + 1) 0), (5, vI k)] (List.replicate 52 .any), upd (upd h n (.box l.bx)) (n + 1) (.box l'.bx), n, n + 1 + 1⟩) (I := fun k => k ≤ l.args.length ∧ ∀ i, i < k → l.args[i]? = l'.args[i]?) (μ := fun k => l.args.length - k) 0 ⟨Nat.zero_le _, fun i hi => absurd hi (Nat.not_lt_zero i)⟩ ?_ 4000 (fun _ => by simp only [fr_len, List.length_replicate]; decide) ?_
 · exact Wk.same (by simp only [go_sem]) hok2 (by omega) (by simp only [go_sem]; omega)
 · rintro k ⟨hk, hA⟩
   rcases Nat.lt_or_ge k l.args.length with hkl | hkl
   · have hkl' : k < l'.args.length := by omega
     repeat' (first | (with_reducible refine XG_split (fun hq => ?_) (fun hq => ?_)) | (with_reducible refine Or.inl (And.intro (And.intro mixedP ?_) ?_); kernel_rfl) | (with_reducible refine MX1.of 4000 (by simp) ?_) | (with_reducible refine MX2.of 4000 (by simp) ?_) | (with_reducible refine And.intro ?_ ?_) | simp only [go_sem,Nat.reduceEqDiff,Nat.reduceAdd,Nat.reduceMul,Nat.reduceLeDiff,Lit.bx,cvals,cval,decide_eq_true hkl,List.getElem?_eq_getElem hkl,List.getElem?_eq_getElem hkl'])
     all_goals try (first | omega | done)
     · refine wk_v (congrArg Value.bool ?_)
       refine (eqB_false ?_).symm
       intro e
       have : l.args[k] = l'.args[k] := by simp only [e]
       exact Term.ne_of (by simpa only [Bool.not_eq_true'] using hq) this
     · refine ⟨k + 1, ⟨by omega, fun i hi => ?_⟩, Wk.same (by simp only [go_sem]) hok2 (by omega) (by simp only [go_sem]; omega), by omega⟩
       rcases Nat.lt_or_ge i k with h | h
       · exact hA i h
       · obtain rfl : i = k := by omega
         rw [List.getElem?_eq_getElem hkl, List.getElem?_eq_getElem hkl', Term.eq_of (a := l.args[i]) (b := l'.args[i]) (by simpa only [Bool.not_eq_false'] using hq)]
   · obtain rfl : k = l.args.length := by omega
     repeat' (first | (with_reducible refine XG_split (fun hq => ?_) (fun hq => ?_)) | (with_reducible refine Or.inl (And.intro (And.intro mixedP ?_) ?_); kernel_rfl) | (with_reducible refine MX1.of 4000 (by simp) ?_) | (with_reducible refine MX2.of 4000 (by simp) ?_) | (with_reducible refine And.intro ?_ ?_) | simp only [go_sem,Nat.reduceEqDiff,Nat.reduceAdd,Nat.reduceMul,Nat.reduceLeDiff,Lit.bx,Nat.lt_irrefl,decide_false])
     refine wk_v (congrArg Value.bool ?_)
     refine (eqB_true ?_).symm
     have e5 : l.args = l'.args := List.ext_getElem? fun i => by
      rcases Nat.lt_or_ge i l.args.length with h | h
      · exact hA i h
      · rw [List.getElem?_eq_none h, List.getElem?_eq_none (by omega)]
     obtain ⟨a1, a2, a3, a4⟩ := l
     obtain ⟨b1, b2, b3, b4⟩ := l'
     simp only at e1 e2 e3 e5
     rw [e1, e2, e3, e5]
set_option maxHeartbeats 1000000 in
theorem same_ok : FsOk Tryd.prog 21 sameS := by
 refine of_Y2 (E := EqT.no _) (F := Ft.no.put 22 sameLitS) Clause.av Clause.av (fun _ _ => aClause_le) (fun _ _ => aClause_le) Tryd.func21 rfl (by kernel_rfl) [.tmp 4] rfl Tryd.ntmps21 (by decide) ((FtOk.no _).put sameLit_ok) ?_
 intro l l' h n hp hok
 obtain ⟨hp1, hp2, hp3⟩ := hp
 repeat' (first | (with_reducible refine XG_split (fun hq => ?_) (fun hq => ?_)) | (with_reducible refine Or.inl (And.intro (And.intro mixedP ?_) ?_); kernel_rfl) | (with_reducible refine MX1.of 4000 (by simp) ?_) | (with_reducible refine MX2.of 4000 (by simp) ?_) | (with_reducible refine And.intro ?_ ?_) | simp only [go_sem,Nat.reduceEqDiff,Nat.reduceAdd,Nat.reduceMul,Nat.reduceLeDiff,Clause.av])
 all_goals first | (exact hp2) | (refine wk_v (congrArg Value.bool ?_)) | skip
 · refine (eqB_false ?_).symm
   rintro rfl
   rw [eqB_true rfl] at hq
   cases hq
 · refine (eqB_false ?_).symm
   rintro rfl
   simp at hq
 rename_i h1
 have e1 : l.head = l'.head := by
  refine Classical.byContradiction fun e => ?_
  rw [eqB_false e] at h1
  cases h1
 have e4 : l.body.length = l'.body.length := by simp at hq; omega
 have hok' : HOk (n + 1) (upd h n (.box l.ds)) := (hok.mono (Nat.le_succ n)).upd_box (Nat.lt_succ_self n) (by simp only [go_sem, Clause.ds])
 have hok2 : HOk (n + 1 + 1) (upd (upd h n (.box l.ds)) (n + 1) (.box l'.ds)) := (hok'.mono (Nat.le_succ _)).upd_box (Nat.lt_succ_self _) (by simp only [go_sem, Clause.ds])
 refine AW.loopJ (E := EqT.no _) (S := fun k : Nat => ⟨fr [(2, .p n 0), (3, .p (n + 1) 0), (5, vI k)] (List.replicate 40 .any), upd (upd h n (.box l.ds)) (n + 1) (.box l'.ds), n, n + 1 + 1⟩) (I := fun k => k ≤ l.body.length ∧ ∀ i, i < k → l.body[i]? = l'.body[i]?) (μ := fun k => l.body.length - k) 0 ⟨Nat.zero_le _, fun i hi => absurd hi (Nat.not_lt_zero i)⟩ ?_ 4000 (fun _ => by simp only [fr_len, List.length_replicate]; decide) ?_
 · exact Wk.same (by simp only [go_sem]) hok2 (by omega) (by simp only [go_sem]; omega)
 · rintro k ⟨hk, hA⟩
   rcases Nat.lt_or_ge k l.body.length with hkl | hkl
   · have hkl' : k < l'.body.length := by omega
     repeat' (first | (with_reducible refine XG_split (fun hq => ?_) (fun hq => ?_)) | (with_reducible refine Or.inl (And.intro (And.intro mixedP ?_) ?_); kernel_rfl) | (with_reducible refine MX1.of 4000 (by simp) ?_) | (with_reducible refine MX2.of 4000 (by simp) ?_) | (with_reducible refine And.intro ?_ ?_) | simp only [go_sem,Nat.reduceEqDiff,Nat.reduceAdd,Nat.reduceMul,Nat.reduceLeDiff,Clause.ds,decide_eq_true hkl,List.getElem?_eq_getElem hkl,List.getElem?_eq_getElem hkl'])
     all_goals try (first | omega | done)
     · exact hp3 _ (List.getElem_mem hkl)
     · refine wk_v (congrArg Value.bool ?_)
       refine (eqB_false ?_).symm
       intro e
       rw [eqB_true (by simp only [e])] at hq
       cases hq
     · refine ⟨k + 1, ⟨by omega, fun i hi => ?_⟩, Wk.same (by simp only [go_sem]) hok2 (by omega) (by simp only [go_sem]; omega), by omega⟩
       rcases Nat.lt_or_ge i k with h | h
       · exact hA i h
       · obtain rfl : i = k := by omega
         rw [List.getElem?_eq_getElem hkl, List.getElem?_eq_getElem hkl']
         refine congrArg some (Classical.byContradiction fun e => ?_)
         rw [eqB_false e] at hq
         cases hq
   · obtain rfl : k = l.body.length := by omega
     repeat' (first | (with_reducible refine XG_split (fun hq => ?_) (fun hq => ?_)) | (with_reducible refine Or.inl (And.intro (And.intro mixedP ?_) ?_); kernel_rfl) | (with_reducible refine MX1.of 4000 (by simp) ?_) | (with_reducible refine MX2.of 4000 (by simp) ?_) | (with_reducible refine And.intro ?_ ?_) | simp only [go_sem,Nat.reduceEqDiff,Nat.reduceAdd,Nat.reduceMul,Nat.reduceLeDiff,Clause.ds,Nat.lt_irrefl,decide_false])
     refine wk_v (congrArg Value.bool ?_)
     refine (eqB_true ?_).symm
     have e5 : l.body = l'.body := List.ext_getElem? fun i => by
      rcases Nat.lt_or_ge i l.body.length with h | h
      · exact hA i h
      · rw [List.getElem?_eq_none h, List.getElem?_eq_none (by omega)]
     obtain ⟨a1, a2⟩ := l
     obtain ⟨b1, b2⟩ := l'
     simp only at e1 e5
     rw [e1, e5]
end Go.Proofs.YtfhpecgknmfnnaaDoor.M
end
section
namespace Go.R
open Go.RowKit
section
variable {P : Program} {C : Tb} {c c0 c' : Cx} {s s1 s2 : St} {a : Act} {w w0 w' : World} {h h0 h' : AH} {n n' : Nat} {T T1 : List Nat} {ops : Array Oper} {Q : Exit → Act → World → Prop} {Cl : World → Prop} {D : Option Nat}
def SameBut (T1 : List Nat) (c : Cx) (h : AH) (w w' : World) : Prop := ∀ b, b < w.heap.size → (∀ i, i ∈ T1 → (h i).blk c i ≠ some b) → w'.heap[b]? = w.heap[b]?
theorem cells_readC {cs : List AV} {ty : TypeId} {K : AV → Prop} {h : AH} {b o : Nat} (hi : infoP P ty = true) (vals : List Value) (hl : cs.length ≤ vals.length)
 (hcl : ∀ w', Cl w' → w'.heap[b]? = w.heap[b]?)
 (hcell : ∀ (j : Nat) v, vals[j]? = some v → w.cell? ⟨b, o + j, none⟩ = some v) (hr : ∀ (j : Nat) v x, vals[j]? = some v → cs[j]? = some x → ARep c h w v x)
 (hK : pack P ty cs K) : ∃ v r, (∀ w', Cl w' → (do pure (Next.value (← loadVar ty ⟨b, o, none⟩)) : Sem Next).run P w' = .ok (.value v) w') ∧ ARep c h w v r ∧ K r := by
 have hcell' : ∀ w', Cl w' → ∀ (j : Nat) v, vals[j]? = some v → w'.cell? ⟨b, o + j, none⟩ = some v := fun w' q j v hj => (cell_of_block (hcl w' q)).trans (hcell j v hj)
 obtain ⟨d, hd⟩ := Option.isSome_iff_exists.1 (und_of_info hi)
 have hagg : ∀ w', (isAgg ty).run P w' = .ok (aggP P ty) w' := by
  intro w'
  unfold isAgg aggP
  rw [Sem.run_bind, run_underlying hd w']
  cases d <;> simp [hd, Result.andThen_ok]
 unfold pack at hK
 cases hg : aggP P ty with
 | true =>
   rw [if_pos hg] at hK
   obtain ⟨hsz, hK⟩ := hK
   refine ⟨.agg (vals.take (sizeP P ty)).toArray, _, fun w' q => ?_, .agg _ _ (by simp; omega) (fun j v x hj hx => ?_), hK⟩
   · refine run_next _ _ _ ?_
     have hload := run_loadCells_list (P := P) w' ⟨b, o, none⟩ (vals.take (sizeP P ty)) (fun j v hj => by
      have h1 : j < sizeP P ty := by have := (List.getElem?_eq_some_iff.1 hj).1; simp at this; omega
      rw [List.getElem?_take_of_lt h1] at hj
      have hadd : (⟨b, o, none⟩ : Addr).add j = ⟨b, o + j, none⟩ := by unfold Addr.add; split <;> simp_all
      rw [hadd]; exact hcell' w' q j v hj)
     rw [List.length_take, Nat.min_eq_left (by omega)] at hload
     simp only [loadVar, Sem.run_bind, hagg w', hg, Result.andThen_ok, run_sizeP hi w', hload, if_true]
     rfl
   · have h1 : j < sizeP P ty := by have := (List.getElem?_eq_some_iff.1 hj).1; simp at this; omega
     rw [List.getElem?_take_of_lt h1] at hj hx
     exact hr j v x hj hx
 | false =>
   rw [if_neg (by simp [hg])] at hK
   cases cs with
   | nil => exact hK.elim
   | cons x cs =>
     cases vals with
     | nil => simp at hl
     | cons v vals =>
       refine ⟨v, x, fun w' q => run_next _ _ _ ?_, hr 0 v x rfl rfl, hK⟩
       have := hcell' w' q 0 v rfl
       simp only [loadVar, Sem.run_bind, hagg w', hg, Result.andThen_ok, if_false, Bool.false_eq_true, Nat.add_zero] at this ⊢
       simp [run_load, this]
theorem aload_readsC (hw : Wd c h n w) {i off : Nat} {v : Value} {ty : TypeId} {K : AV → Prop} (r : ARep c h w v (.p i off)) (hi : infoP P ty = true) (hT : i ∉ T1) (hK : aload P ty h (.p i off) K) :
 ∃ u r, (∀ w', SameBut T1 c h w w' → (do pure (Next.value (← Instr.loadAt ty v)) : Sem Next).run P w' = .ok (.value u) w') ∧ ARep c h w u r ∧ K r := by
 cases r with
 | p i off cs hbox =>
   simp only [aload, hbox] at hK
   obtain ⟨_, vals, tyb, hb, hsz, hr⟩ := hw.box i cs hbox
   have hcell : ∀ (j : Nat) v, (vals.toList.drop off)[j]? = some v → w.cell? ⟨c.β i, off + j, none⟩ = some v := fun j v hj => by
    simp only [World.cell?, hb]
    rw [List.getElem?_drop] at hj
    simpa using hj
   have := cells_readC (P := P) (Cl := SameBut T1 c h w) (c := c) (h := h) (w := w) (cs := cs.drop off) (b := c.β i) (o := off) hi (vals.toList.drop off) (by simp [hsz])
    (fun w' q => q _ (Array.getElem?_eq_some_iff.1 hb).1 (fun j hj e => hw.ne i j (c.β i) (fun e => hT (e ▸ hj)) (by rw [hbox]; rfl) e)) hcell (fun j v x hj hx => by
    rw [List.getElem?_drop] at hj hx
    exact hr (off + j) v x (by simpa using hj) hx) hK
   simpa [Instr.loadAt, Instr.sureAddr] using this
def ldW (T1 : List Nat) (op : Op) (t : List AV) : Prop := match op with
 | .load _ x => (match ev t x with
   | .p j _ => j ∉ T1
   | _ => False)
 | .nilCheck _ => True
 | .binOp _ _ _ _ _ => True
 | .call cl => (match cl.callee with
   | .builtin _ => True
   | _ => False)
 | op => blindK op = true
def Blind (P : Program) (c : Cx) (h : AH) (w : World) (sm : World → Result Next) (K : AV → Prop) : Prop := ∃ v r, (∀ w', sm w' = .ok (.value v) w') ∧ ARep c h w v r ∧ K r
theorem abi_blind (hs : SRep c s a w) {b : Builtin} {cl : Call} {ty : TypeId} {K : AV → Prop} (hK : abi P b cl ty (cl.args.toList.map (ev s.t)) K) :
 Blind P c s.h w (fun w' => (builtin b cl.argTypes ty (cl.args.map aconst) (cl.args.map a.eval)).run P w') K := by
 have hargs : cl.args.map a.eval = (cl.args.toList.map a.eval).toArray := map_arr _ _
 have gen : ∀ vs, svals (cl.args.toList.map (ev s.t)) = some vs → abuiltin P b cl.argTypes ty (cl.args.map aconst) vs K → Blind P c s.h w (fun w' => (builtin b cl.argTypes ty (cl.args.map aconst) (cl.args.map a.eval)).run P w') K := by
  intro vs hvs hK
  have := svals_rep (by simp) (args_rep hs cl.args.toList) hvs
  rw [hargs, this]
  obtain ⟨v, hv, hK⟩ := hK
  exact ⟨v, _, hv, lift_rep v, hK⟩
 have gen2 : (match svals (cl.args.toList.map (ev s.t)) with
  | some vs => abuiltin P b cl.argTypes ty (cl.args.map aconst) vs K
  | none => False) → Blind P c s.h w (fun w' => (builtin b cl.argTypes ty (cl.args.map aconst) (cl.args.map a.eval)).run P w') K := by
  intro hK
  cases hq : svals (cl.args.toList.map (ev s.t)) with
  | none => simp only [hq] at hK
  | some vs => simp only [hq] at hK; exact gen vs hq hK
 unfold abi at hK
 split at hK
 · rename_i x hx
   cases hl : alen x with
   | none =>
     simp only [hl] at hK
     exact gen2 hK
   | some m =>
     simp only [hl] at hK
     obtain ⟨hb, ht, hK⟩ := hK
     have hb : b = .len := by cases b <;> simp [isLen] at hb; rfl
     subst hb
     obtain ⟨q, hq, rfl⟩ : ∃ q, cl.args.toList = [q] ∧ ev s.t q = x := by
      cases hl : cl.args.toList with
      | nil => simp [hl] at hx
      | cons q r =>
        cases r with
        | nil => simp [hl] at hx; exact ⟨q, rfl, hx⟩
        | cons _ _ => simp [hl] at hx
     obtain ⟨A, cap, hv⟩ := alen_rep (ev_rep hs q) hl
     cases h0 : cl.argTypes[0]? with
     | none => simp only [h0] at ht
     | some t =>
       simp only [h0] at ht
       obtain ⟨e, he⟩ := Option.isSome_iff_exists.1 ht
       refine ⟨.int .i64 m, _, fun w' => ?_, .d _ _ (.v _ rfl), hK⟩
       rw [hargs, hq]
       simp [builtin, Builtin.len_, h0, hv, run_underlying (und_of_slice he), goInt]
 · exact gen2 hK
theorem bin_blind (hs : SRep c s a w) {o : Oper} {op : BinOp} {ty ty' : TypeId} {x y : Operand} {K : AV → Prop} (hop : o.op = .binOp op ty x y ty') (hK : ard P o s.t s.h K) : ∃ v r, (∀ w', (execOp a.eval o).run P w' = .ok (.value v) w') ∧ ARep c s.h w v r ∧ K r := by
 have hr := ev_rep hs
 simp only [ard, hop] at hK
 simp only [execOp, hop]
 cases h1 : sval (ev s.t x) with
 | none =>
   simp only [h1] at hK
   unfold afnil at hK
   split at hK
   · rename_i g af ac hq
     have hx := hr x
     rw [hq] at hx
     generalize a.eval x = v at hx
     cases hx with
     | fn f vf vc af ac g1 g2 g3 g4 =>
       split at hK
       · rename_i hq2
         have hy := hr y
         rw [hq2] at hy
         rw [cval_rep hy rfl]
         split at hK
         · exact ⟨_, _, fun w' => run_next _ _ _ (fnil_run hK.1 (.inl rfl)), .d _ _ (.v _ rfl), hK.2⟩
         · exact ⟨_, _, fun w' => run_next _ _ _ (fnil_run hK.1 (.inr rfl)), .d _ _ (.v _ rfl), hK.2⟩
         · exact hK.elim
       · exact hK.elim
   · exact hK.elim
 | some u =>
   cases h2 : sval (ev s.t y) with
   | none => simp only [h1, h2] at hK
   | some v =>
     simp only [h1, h2] at hK
     rw [sval_rep (hr x) h1, sval_rep (hr y) h2]
     obtain ⟨v, hv, hK⟩ := hK
     exact ⟨v, _, fun w' => run_next _ _ _ (hv w'), lift_rep v, hK⟩
theorem nil_blind (hs : SRep c s a w) {o : Oper} {x : Operand} {K : AV → Prop} (hop : o.op = .nilCheck x) (hK : ard P o s.t s.h K) : ∃ v r, (∀ w', (execOp a.eval o).run P w' = .ok (.value v) w') ∧ ARep c s.h w v r ∧ K r := by
 have hr := ev_rep hs
 simp only [ard, hop] at hK
 simp only [execOp, hop]
 have hx := hr x
 split at hK
 · rename_i i off hq
   rw [hq] at hx
   generalize a.eval x = v at hx
   cases hx with
   | p i off cs hi => exact ⟨_, _, fun _ => rfl, .p i off cs hi, hK⟩
 · rename_i cs hq
   rw [hq] at hx
   generalize a.eval x = v at hx
   cases hx with
   | e b o cs f h1 h2 => exact ⟨_, _, fun _ => rfl, .e b o cs f h1 h2, hK⟩
 · rename_i f af ac hq
   rw [hq] at hx
   generalize a.eval x = v at hx
   cases hx with
   | fn f vf vc af ac h1 h2 h3 h4 => exact ⟨_, _, fun _ => rfl, .fn _ vf vc af ac h1 h2 h3 h4, hK⟩
 · exact hK.elim
theorem quiet_QYW (I : SI T c0 h0 w0 c s a w) {o : Oper} {K : AV → Prop} (hg : o.guard = none) (hl : ldW T1 o.op s.t) (hK : aopQ P C o s.t s.h s.n K) :
 ∃ v r, QY P ops (fun w' => blindK o.op = true ∨ SameBut T1 c s.h w w') o v a ∧ ARep c s.h w v r ∧ K r := by
 have hw : Region.wanted o (yielded ops a.tmps) = true := by simp [Region.wanted, hg]
 have hK : ard P o s.t s.h K := by
  unfold aopQ at hK
  unfold ldW at hl
  cases hop : o.op with
  | call cl =>
    simp only [hop] at hK hl
    cases hc : cl.callee with
    | builtin b => simp only [hc] at hK; exact hK
    | value f => simp only [hc] at hl
    | invoke r m => simp only [hc] at hl
  | _ => simp only [hop] at hK; exact hK
 unfold ldW at hl
 split at hl
 · rename_i ty x hop
   have hr := ev_rep I.srep x
   split at hl
   · rename_i j off hx
     rw [hx] at hr
     simp only [ard, hop, hx] at hK
     obtain ⟨v, r, h1, h2, h3⟩ := aload_readsC I.srep.wd hr hK.1 hl hK.2
     refine ⟨v, r, .inl ⟨hw, fun w' q => ?_⟩, h2, h3⟩
     rcases q with q | q
     · simp [blindK, hop] at q
     · have := h1 w' q
       simpa [execOp, hop] using this
   · exact hl.elim
 · rename_i x hop
   obtain ⟨v, r, h1, h2, h3⟩ := nil_blind I.srep hop hK
   exact ⟨v, r, .inl ⟨hw, fun w' _ => h1 w'⟩, h2, h3⟩
 · rename_i op ty x y ty' hop
   obtain ⟨v, r, h1, h2, h3⟩ := bin_blind I.srep hop hK
   exact ⟨v, r, .inl ⟨hw, fun w' _ => h1 w'⟩, h2, h3⟩
 · rename_i cl hop
   cases hc : cl.callee with
   | builtin b =>
     simp only [ard, hop, hc] at hK
     obtain ⟨v, r, h1, h2, h3⟩ := abi_blind I.srep hK
     refine ⟨v, r, .inl ⟨hw, fun w' _ => ?_⟩, h2, h3⟩
     have h1 := h1 w'
     simp only [execOp, hop, resolve, hc, Sem.run_bind, Sem.run_pure, Result.andThen_ok, invoke]
     exact h1
   | value f => simp only [hc] at hl
   | invoke r m => simp only [hc] at hl
 · obtain ⟨v, r, h1, h2, h3⟩ := ard_blind I.srep hl hK
   exact ⟨v, r, .inl ⟨hw, fun w' _ => h1 w'⟩, h2, h3⟩
def xopsW (P : Program) (C : Tb) (T1 : List Nat) (ops : Array Oper) : List Nat → St → (St → Prop) → Prop
 | [], s, K => K s
 | k :: ks, s, K => (match ops[k]? with
   | some o => ldW T1 o.op s.t
   | none => False) ∧ xopsQ P C ops (opsAt ops [k]) s fun s' => s'.t.length ≤ 1000000 → xopsW P C T1 ops ks s' K
end
section
variable {P : Program} {E : EqT P} {F : Ft} {T : List Nat} {Q : Exit → St → Prop} {s s1 s2 : St} {ops : Array Oper} {T1 cs1 cs2 qs : List Nat} {k b : Nat}
def ldK (T1 : List Nat) (ops : Array Oper) (k : Nat) (t : List AV) : Prop := match ops[k]? with
 | some o => ldW T1 o.op t
 | none => False
end
end Go.R
end
section
namespace Go.R
structure Ob (σ : Type) where
 bx : σ → List AV
 dec : List AV → Option σ
 ok : ∀ cs R, dec cs = some R → cs = bx R
 lt : ∀ n R, ltL n (bx R)
section
variable {σ : Type}
def obAt (o : Ob σ) (f : σ → List AV → Option (AV × σ)) (i : Nat) (args : List AV) (h : AH) (n : Nat) : AO → Option (AV × AH × Nat)
 | .box cs => match o.dec cs with
   | some R => match f R args with
     | some q => some (q.1, upd h i (.box (o.bx q.2)), n)
     | none => none
   | none => none
 | _ => none
def obRun (o : Ob σ) (f : σ → List AV → Option (AV × σ)) : List AV → AH → Nat → Option (AV × AH × Nat)
 | .p i 0 :: args, h, n => obAt o f i args h n (h i)
 | _, _, _ => none
def obPreAt (o : Ob σ) (p : σ → List AV → Prop) (args : List AV) : AO → Prop
 | .box cs => match o.dec cs with
   | some R => p R args
   | none => True
 | _ => True
def obPre (o : Ob σ) (p : σ → List AV → Prop) : List AV → AH → Nat → Prop
 | .p i 0 :: args, h, n => obPreAt o p args (h i)
 | _, _, _ => True
def obTch : List AV → List Nat
 | .p i _ :: _ => [i]
 | _ => []
def obS (o : Ob σ) (p : σ → List AV → Prop) (f : σ → List AV → Option (AV × σ)) : Fs := ⟨obRun o f, obPre o p, obTch⟩
def obqAt (o : Ob σ) (f : σ → List AV → Option AV) (args : List AV) (h : AH) (n : Nat) : AO → Option (AV × AH × Nat)
 | .box cs => match o.dec cs with
   | some R => match f R args with
     | some r => some (r, h, n)
     | none => none
   | none => none
 | _ => none
def obqRun (o : Ob σ) (f : σ → List AV → Option AV) : List AV → AH → Nat → Option (AV × AH × Nat)
 | .p i 0 :: args, h, n => obqAt o f args h n (h i)
 | _, _, _ => none
def obQ (o : Ob σ) (p : σ → List AV → Prop) (f : σ → List AV → Option AV) : Fs := ⟨obqRun o f, obPre o p, fun _ => []⟩
variable {o : Ob σ} {p : σ → List AV → Prop} {f : σ → List AV → Option (AV × σ)} {g : σ → List AV → Option AV} {i n : Nat} {h : AH} {args : List AV} {cs : List AV}
@[go_sem] theorem obS_run : (obS o p f).run (.p i 0 :: args) h n = obAt o f i args h n (h i) := rfl
@[go_sem] theorem obS_pre : (obS o p f).pre (.p i 0 :: args) h n = obPreAt o p args (h i) := rfl
@[go_sem] theorem obS_tch : (obS o p f).tch (.p i 0 :: args) = [i] := rfl
@[go_sem] theorem obQ_run : (obQ o p g).run (.p i 0 :: args) h n = obqAt o g args h n (h i) := rfl
@[go_sem] theorem obQ_pre : (obQ o p g).pre (.p i 0 :: args) h n = obPreAt o p args (h i) := rfl
@[go_sem] theorem obQ_tch : (obQ o p g).tch args = [] := rfl
def obD (R : Option σ) (p : σ → Prop) : Prop := match R with
 | some R => p R
 | none => True
def obE (o : Ob σ) (f : σ → List AV → Option (AV × σ)) (args : List AV) (R : Option σ) (i : Nat) (h : AH) (n : Nat) : Option (AV × AH × Nat) := match R with
 | some R => match f R args with
   | some q => some (q.1, upd h i (.box (o.bx q.2)), n)
   | none => none
 | none => none
def obF (g : σ → List AV → Option AV) (args : List AV) (R : Option σ) (h : AH) (n : Nat) : Option (AV × AH × Nat) := match R with
 | some R => match g R args with
   | some r => some (r, h, n)
   | none => none
 | none => none
@[go_sem] theorem obAt_box : obAt o f i args h n (.box cs) = obE o f args (o.dec cs) i h n := rfl
@[go_sem] theorem obqAt_box : obqAt o g args h n (.box cs) = obF g args (o.dec cs) h n := rfl
@[go_sem] theorem obPreAt_box : obPreAt o p args (.box cs) = obD (o.dec cs) fun R => p R args := by
  unfold obPreAt obD
  simp only
@[go_sem] theorem obD_some (R : σ) (p : σ → Prop) : obD (some R) p = p R := rfl
@[go_sem] theorem obE_some (R : σ) : obE o f args (some R) i h n = match f R args with
   | some q => some (q.1, upd h i (.box (o.bx q.2)), n)
   | none => none := rfl
@[go_sem] theorem obF_some (R : σ) : obF g args (some R) h n = match g R args with
   | some r => some (r, h, n)
   | none => none := rfl
end
def FinO {σ : Type} (o : Ob σ) (P : Program) (rs : List ResultVar) (n : Nat) (h : AH) (i : Nat) (R' : σ) (r : AV) (e : Exit) (s : St) : Prop := (match e with
    | .normal => True
    | .ret => True
    | _ => False) ∧ resN P s.t s.h rs ∧ (match resO P s.t s.h rs with
    | some l => wk3 (packR l) r
    | none => False) ∧ agree n (upd h i (.box (o.bx R'))) s.h ∧ AV.lt n r
theorem FinO.fin {σ : Type} {o : Ob σ} {P : Program} {rs : List ResultVar} {n : Nat} {h : AH} {i : Nat} {R' : σ} {r : AV} {e : Exit} {s : St} (hi : i < n) (hok : HOk n h) (q : FinO o P rs n h i R' r e s) :
 FinE P rs n h (upd h i (.box (o.bx R'))) n r e s := by
 obtain ⟨q1, q2, q3, q4, q5⟩ := q
 refine ⟨q1, q2, q3, q4, q5, Nat.le_refl _, fun j hj => ?_, fun j cs hj hc => ?_⟩
 · rw [upd_ne _ _ (by omega)]
   exact hok.no j hj
 · by_cases e : j = i
   · subst e
     rw [upd_same] at hc
     cases hc
     exact .inr (o.lt n R')
   · rw [upd_ne _ _ e] at hc
     exact .inl hc
section
variable {P : Program} {E : EqT P} {F : Ft} {σ : Type} {o : Ob σ} {p : σ → List AV → Prop} {f : σ → List AV → Option (AV × σ)} {g : σ → List AV → Option AV}
theorem of_obS {fi : FuncId} {fn : Func} {code : Code} (hf : P.funcs[fi]? = some fn) (hbody : fn.body = some code) (hn : (fn.name == "runtime.NumGoroutine") = false) (rs : List ResultVar) {nt : Nat} (hrs : fn.results = rs.toArray) (hnt : fn.ntmps = nt) (hF : FtOk P F)
 (H : ∀ R args r R' i h n, p R args → f R args = some (r, R') → i < n → HOk n (upd h i (.box (o.bx R))) → ∃ args', leL args args' ∧ (nt ≤ 900000 ∧ args'.length ≤ 40000) ∧
   X E F [i] (FinO o P rs n h i R' r) 4000 (.code code) [] ⟨.p i 0 :: (args' ++ List.replicate (nt - (args'.length + 1)) .any), upd h i (.box (o.bx R)), n, n⟩) : FsOk P fi (obS o p f) := by
 subst hnt
 refine SpOk.of_code hf hbody hn hF fun args h n K hS hno hbx => ?_
 have hok : HOk n h := ⟨hno, hbx⟩
 rw [hrs]
 obtain ⟨hpre, hrun⟩ := hS
 obtain ⟨⟨r, h', n'⟩, hr, hK⟩ := onO_iff hrun
 simp only [obS] at hr hpre ⊢
 unfold obRun at hr
 split at hr
 · rename_i i args
   simp only [obPre] at hpre
   unfold obAt at hr
   split at hr
   · rename_i cs hc
     rw [hc] at hpre
     simp only [obPreAt] at hpre
     cases hd : o.dec cs with
     | none => simp [hd] at hr
     | some R =>
       simp only [hd] at hr hpre
       cases hfa : f R args with
       | none => simp [hfa] at hr
       | some q =>
         simp only [hfa, Option.some.injEq, Prod.mk.injEq] at hr
         obtain ⟨rfl, rfl, rfl⟩ := hr
         obtain rfl := o.ok cs R hd
         have hin : i < n := Nat.lt_of_not_le fun hle => by rw [hno i hle] at hc; cases hc
         have hh : upd h i (.box (o.bx R)) = h := by
          funext j
          by_cases e : j = i
          · subst e; rw [upd_same, hc]
          · rw [upd_ne _ _ e]
         obtain ⟨args', hle, ⟨hl1, hl2⟩, hX⟩ := H R args q.1 q.2 i h n hpre hfa hin (by rw [hh]; exact hok)
         rw [hh] at hX
         refine ⟨.p i 0 :: args', fun c w vs hl hr => leL_rep (a := .p i 0 :: args) (b := .p i 0 :: args') ⟨AV.le.refl _, hle⟩ hl hr, ?_⟩
         refine (AW.of_X 4000 (by simp; omega) hX).mono fun e s' _ _ q => ?_
         obtain ⟨q1, q2, q3, q4, q5, q6, q7, q8⟩ := q.fin hin hok
         cases hres : resO P s'.t s'.h rs with
         | none => rw [hres] at q3; exact q3.elim
         | some l =>
           rw [hres] at q3
           exact ⟨q1, res_ares q2 hres ⟨n, _, _, q6, q4, q7, q8, q3, q5, hK⟩⟩
   · cases hr
 · cases hr
theorem of_obQ {fi : FuncId} {fn : Func} {code : Code} (hf : P.funcs[fi]? = some fn) (hbody : fn.body = some code) (hn : (fn.name == "runtime.NumGoroutine") = false) (rs : List ResultVar) {nt : Nat} (hrs : fn.results = rs.toArray) (hnt : fn.ntmps = nt) (hF : FtOk P F)
 (H : ∀ R args r i h n, p R args → g R args = some r → i < n → HOk n (upd h i (.box (o.bx R))) → ∃ args', leL args args' ∧ (nt ≤ 900000 ∧ args'.length ≤ 40000) ∧
   X E F [] (FinP P rs n (upd h i (.box (o.bx R))) r) 4000 (.code code) [] ⟨.p i 0 :: (args' ++ List.replicate (nt - (args'.length + 1)) .any), upd h i (.box (o.bx R)), n, n⟩) : FsOk P fi (obQ o p g) := by
 subst hnt
 refine SpOk.of_code hf hbody hn hF fun args h n K hS hno hbx => ?_
 have hok : HOk n h := ⟨hno, hbx⟩
 rw [hrs]
 obtain ⟨hpre, hrun⟩ := hS
 obtain ⟨⟨r, h', n'⟩, hr, hK⟩ := onO_iff hrun
 simp only [obQ] at hr hpre ⊢
 unfold obqRun at hr
 split at hr
 · rename_i i args
   simp only [obPre] at hpre
   unfold obqAt at hr
   split at hr
   · rename_i cs hc
     rw [hc] at hpre
     simp only [obPreAt] at hpre
     cases hd : o.dec cs with
     | none => simp [hd] at hr
     | some R =>
       simp only [hd] at hr hpre
       cases hga : g R args with
       | none => simp [hga] at hr
       | some q =>
         simp only [hga, Option.some.injEq, Prod.mk.injEq] at hr
         obtain ⟨rfl, rfl, rfl⟩ := hr
         obtain rfl := o.ok cs R hd
         have hin : i < n := Nat.lt_of_not_le fun hle => by rw [hno i hle] at hc; cases hc
         have hh : upd h i (.box (o.bx R)) = h := by
          funext j
          by_cases e : j = i
          · subst e; rw [upd_same, hc]
          · rw [upd_ne _ _ e]
         obtain ⟨args', hle, ⟨hl1, hl2⟩, hX⟩ := H R args q i h n hpre hga hin (by rw [hh]; exact hok)
         rw [hh] at hX
         refine ⟨.p i 0 :: args', fun c w vs hl hr => leL_rep (a := .p i 0 :: args) (b := .p i 0 :: args') ⟨AV.le.refl _, hle⟩ hl hr, ?_⟩
         refine (AW.of_X 4000 (by simp; omega) hX).mono fun e s' _ _ q => ?_
         obtain ⟨q1, q2, q3, q4, q5⟩ := q
         cases hres : resO P s'.t s'.h rs with
         | none => rw [hres] at q3; exact q3.elim
         | some l =>
           rw [hres] at q3
           exact ⟨q1, res_ares q2 hres (AFin.pure hno q4 q3 q5 hK)⟩
   · cases hr
 · cases hr
end
attribute [go_sem] FinO Int.toNat_zero Int.toNat_one
end Go.R
end
section
namespace Go.Proofs.YtfhpecgknmfnnaaDoor.M
open Go.R
def Tok.cells (t : Tok) : List DV := [.v (.int .u8 t.kind), .v (.int .i64 t.lo), .v (.int .i64 t.hi)]
@[go_sem] theorem Tok.ds (t : Tok) : t.cells.map AV.d = [.d (.v (.int .u8 t.kind)), .d (.v (.int .i64 t.lo)), .d (.v (.int .i64 t.hi))] := rfl
@[go_sem] theorem Tok.len (t : Tok) : t.cells.length = 3 := rfl
def cTok : List DV → Option Tok
 | [.v (.int .u8 k), .v (.int .i64 a), .v (.int .i64 b)] => some ⟨k, a, b⟩
 | _ => none
theorem cTok_cells (t : Tok) : cTok t.cells = some t := rfl
theorem cTok_eq {c : List DV} {t : Tok} (h : cTok c = some t) : c = t.cells := by
 unfold cTok at h
 split at h
 · cases h; rfl
 · cases h
@[go_sem] theorem dToks (l : List Tok) : dRows cTok (l.map Tok.cells) = some l := dRows_map cTok_cells l
structure Rd where
 s : ByteArray
 T : List Tok
 k : Nat
 e : Int
 fr : Int
def Rd.bx (R : Rd) : List AV := [vS R.s, .d (.sl 3 (R.T.map Tok.cells)), vI R.k, vI R.e, vI R.fr]
def dRd : List AV → Option Rd
 | [.d (.v (.string s)), .d (.sl 3 xs), .d (.v (.int .i64 k)), .d (.v (.int .i64 e)), .d (.v (.int .i64 f))] => match dRows cTok xs with
   | some T => if 0 ≤ k then some ⟨s, T, k.toNat, e, f⟩ else none
   | none => none
 | _ => none
theorem dRd_eq {cs : List AV} {R : Rd} (h : dRd cs = some R) : cs = R.bx := by
 unfold dRd at h
 split at h
 · rename_i xs k e f
   cases hx : dRows cTok xs with
   | none => simp [hx] at h
   | some T =>
     simp only [hx] at h
     split at h
     · rename_i hk
       cases h
       obtain rfl := dRows_eq (fun c x => cTok_eq) hx
       have : ((k.toNat : Nat) : Int) = k := by omega
       simp only [Rd.bx, this]
     · cases h
 · cases h
def obRd : Ob Rd := ⟨Rd.bx, dRd, fun _ _ => dRd_eq, fun n R => by simp [Rd.bx, ltL, AV.lt]⟩
@[go_sem] theorem obRd_bx (R : Rd) : obRd.bx R = [vS R.s, .d (.sl 3 (R.T.map Tok.cells)), vI R.k, vI R.e, vI R.fr] := rfl
@[go_sem] theorem obRd_dec (s : ByteArray) (T : List Tok) (k : Nat) (e f : Int) : obRd.dec [.d (.v (.string s)), .d (.sl 3 (T.map Tok.cells)), .d (.v (.int .i64 k)), .d (.v (.int .i64 e)), .d (.v (.int .i64 f))] = some ⟨s, T, k, e, f⟩ := by
  simp only [obRd]
  simp [dRd, dToks]
@[go_sem] theorem obRd_dec1 (s : ByteArray) (T : List Tok) (k : Nat) (e f : Int) : obRd.dec [.d (.v (.string s)), .d (.sl 3 (T.map Tok.cells)), .d (.v (.int .i64 ((k : Int) + 1))), .d (.v (.int .i64 e)), .d (.v (.int .i64 f))] = some ⟨s, T, k + 1, e, f⟩ := obRd_dec s T (k + 1) e f
@[go_sem] theorem obRd_dec2 (s : ByteArray) (T : List Tok) (k : Nat) (e f : Int) : obRd.dec [.d (.v (.string s)), .d (.sl 3 (T.map Tok.cells)), .d (.v (.int .i64 ((k : Int) + 1 + 1))), .d (.v (.int .i64 e)), .d (.v (.int .i64 f))] = some ⟨s, T, k + 1 + 1, e, f⟩ := obRd_dec s T (k + 1 + 1) e f
@[go_sem] theorem Rd.eta (R : Rd) : Rd.mk R.s R.T R.k R.e R.fr = R := rfl
def RdOk (R : Rd) : Prop := TokOk R.s R.T ∧ R.k ≤ R.T.length
def Rd.txt (R : Rd) (m : Nat) : ByteArray := textT R.T R.s (R.k + m)
def Rd.kd (R : Rd) : Int := kindT R.T R.k
def Rd.fail (R : Rd) (e : Int) : Rd := if R.e == 0 then { R with e := e, fr := posOf R.T R.s R.k } else R
def Rd.adv (R : Rd) : Rd := { R with k := R.k + 1 }
def Rd.need (R : Rd) (x : ByteArray) : Rd := if R.e == 0 && (R.txt 0).toList == x.toList then R.adv else R.fail 6
def textP (R : Rd) : List AV → Prop
 | [.d (.v (.int .i64 m))] => RdOk R ∧ 0 ≤ m ∧ m ≤ 10
 | _ => RdOk R
def textG (R : Rd) : List AV → Option AV
 | [.d (.v (.int .i64 m))] => some (vS (R.txt m.toNat))
 | _ => none
def kindG (R : Rd) : List AV → Option AV
 | [] => some (.d (.v (.int .u8 R.kd)))
 | _ => none
def failF (R : Rd) : List AV → Option (AV × Rd)
 | [.d (.v (.int .i64 e))] => some (.tup [], R.fail e)
 | _ => none
def needF (R : Rd) : List AV → Option (AV × Rd)
 | [.d (.v (.string x))] => some (.tup [], R.need x)
 | _ => none
def endedF (R : Rd) : List AV → Option (AV × Rd)
 | [] => some (.tup [], if R.e == 0 && decide (R.k < R.T.length) then R.fail 6 else R)
 | _ => none
attribute [go_sem] textP textG kindG failF needF endedF
@[go_sem] theorem txt_mk (s : ByteArray) (T : List Tok) (k : Nat) (e f : Int) (m : Nat) : (Rd.mk s T k e f).txt m = textT T s (k + m) := rfl
end Go.Proofs.YtfhpecgknmfnnaaDoor.M
end
section
namespace Go.Proofs.YtfhpecgknmfnnaaDoor.M
open Go.R
def decL (n : Nat) : List Int := if h : n < 10 then [48 + (n : Int)] else decL (n / 10) ++ [48 + ((n % 10 : Nat) : Int)]
termination_by n
decreasing_by omega
theorem decL_len : ∀ (k n : Nat), n < 10 ^ (k + 1) → (decL n).length ≤ k + 1
 | 0, n, h => by
   rw [decL, dif_pos (by simpa using h)]
   simp
 | k + 1, n, h => by
   rw [decL]
   split
   · simp
   · rw [List.length_append]
     have : n / 10 < 10 ^ (k + 1) := by rw [Nat.pow_succ] at h; omega
     have := decL_len k _ this
     simp only [List.length_singleton]
     omega
theorem strOf_append (a b : List Int) : strOf (a ++ b) = strOf a ++ strOf b := by
 have key : ∀ (l : List Int) (x y : ByteArray), l.foldl (fun r n => r.push (UInt8.ofNat n.toNat)) (x ++ y) = x ++ l.foldl (fun r n => r.push (UInt8.ofNat n.toNat)) y := by
  intro l
  induction l with
  | nil => intro x y; rfl
  | cons c l ih =>
    intro x y
    rw [List.foldl_cons, List.foldl_cons, ← ih]
    congr 1
    apply ByteArray.ext
    simp
 unfold strOf
 rw [List.foldl_append]
 have := key b (a.foldl (fun r n => r.push (UInt8.ofNat n.toNat)) ByteArray.empty) ByteArray.empty
 rw [← this]
 congr 1
 apply ByteArray.ext
 simp
theorem strOf_size (a : List Int) : (strOf a).size = a.length := by
 have key : ∀ (l : List Int) (x : ByteArray), (l.foldl (fun r n => r.push (UInt8.ofNat n.toNat)) x).size = x.size + l.length := by
  intro l
  induction l with
  | nil => intro x; rfl
  | cons c l ih =>
    intro x
    rw [List.foldl_cons, ih, ByteArray.size_push, List.length_cons]
    omega
 have := key a ByteArray.empty
 unfold strOf
 rw [this]
 simp
def numText (n : Int) : ByteArray := if n < 0 then strOf (45 :: decL (-n).toNat) else strOf (decL n.toNat)
theorem decL_step (m : Nat) (h : 0 < m / 10) : decL m = decL (m / 10) ++ [48 + ((m % 10 : Nat) : Int)] := by
 rw [decL, dif_neg (by omega)]
theorem decL_last (m : Nat) (h : m / 10 = 0) : decL m = [48 + ((m % 10 : Nat) : Int)] := by
 have : m % 10 = m := Nat.mod_eq_of_lt (by omega)
 rw [decL, dif_pos (by omega), this]
theorem dig_u8 (m : Nat) : IntKind.wrap .u8 (48 + ((m % 10 : Nat) : Int)) = 48 + ((m % 10 : Nat) : Int) := by
 rw [IntKind.wrap_u8]
 omega
def aI64 : AV → Option Int
 | .d (.v (.int .i64 c)) => some c
 | _ => none
theorem aI64_le {x : AV} {c : Int} (h : aI64 x = some c) : AV.le x (vI c) := by
 unfold aI64 at h
 split at h
 · cases h; exact AV.le.refl _
 · cases h
attribute [go_sem] aI64
end Go.Proofs.YtfhpecgknmfnnaaDoor.M
end
section
namespace Go.Proofs.YtfhpecgknmfnnaaDoor.M
open Go.R
theorem wk3_eq {x y : AV} (h : x = y) : wk3 x y := by rw [h, wk3_refl]; trivial
def i64 (n : Int) : Prop := -9223372036854775808 ≤ n ∧ n ≤ 9223372036854775807
def textB (v : Val) : ByteArray := if goodV v then (if 0 < v.sym.size then v.sym else numText v.num) else ⟨#[]⟩
def termText (t : Term) : ByteArray := if 0 < t.var.size then t.var else textB t.val
end Go.Proofs.YtfhpecgknmfnnaaDoor.M
end
section
namespace Go.Proofs.YtfhpecgknmfnnaaDoor.M
open Go.R Go.Proofs.YtfhpecgknmfnnaaDoorW.PrintWords Go.Proofs.YtfhpecgknmfnnaaDoorW.PrintMore
theorem byteAt_bt (s : ByteArray) (i : Int) : byteAt s i = bt s i := by
 unfold byteAt bt
 by_cases h : i.toNat < s.size
 · rw [dif_pos h, getElem?_pos s i.toNat h]
 · rw [dif_neg h, getElem?_neg s i.toNat h]
theorem digs_append : ∀ (l r : List Int) (u : Int), digs u (l ++ r) = (digs u l).bind fun v => digs v r
 | [], r, u => rfl
 | c :: l, r, u => by
   simp only [List.cons_append, digs]
   split
   · exact digs_append l r _
   · rfl
theorem digB_iff (c : Int) : digB c = true ↔ 48 ≤ c ∧ c ≤ 57 := by
 unfold digB
 simp
theorem digs_ge : ∀ (l : List Int) (u v : Int), 0 ≤ u → digs u l = some v → u ≤ v
 | [], u, v, _, h => by simp [digs] at h; omega
 | c :: l, u, v, hu, h => by
   simp only [digs] at h
   split at h
   · rename_i hc
     rw [digB_iff] at hc
     have := digs_ge l (10 * u + (c - 48)) v (by omega) h
     omega
   · cases h
theorem digs_dig : ∀ (l : List Int) (u v : Int), digs u l = some v → ∀ c ∈ l, digB c = true
 | [], u, v, _, c, hc => by simp at hc
 | c :: l, u, v, h, x, hx => by
   simp only [digs] at h
   split at h
   · rename_i hc
     rcases List.mem_cons.1 hx with rfl | hx
     · exact hc
     · exact digs_dig l _ v h x hx
   · cases h
theorem decL_head (n : Nat) (h : 0 < n) : ∃ c t, decL n = c :: t ∧ c ≠ 48 := by
 rw [decL]
 split
 · exact ⟨_, _, rfl, by omega⟩
 · obtain ⟨c, t, e, hc⟩ := decL_head (n / 10) (by omega)
   rw [e]
   exact ⟨c, _, rfl, hc⟩
termination_by n
decreasing_by omega
theorem canon_l (v : Int) (hv : 0 ≤ v) : digs 0 (decL v.toNat) = some v ∧ (decL v.toNat = [48] ∨ (decL v.toNat).head? ≠ some 48) := by
 constructor
 · have key : ∀ n : Nat, digs 0 (decL n) = some (n : Int) := by
    intro n
    induction n using Nat.strongRecOn with
    | ind n ih =>
      rw [decL]
      split
      · have : digB (48 + (n : Int)) = true := by rw [digB_iff]; omega
        simp only [digs, this, if_true, Option.some.injEq]
        omega
      · rw [digs_append, ih (n / 10) (by omega)]
        have : digB (48 + ((n % 10 : Nat) : Int)) = true := by rw [digB_iff]; omega
        simp only [Option.bind_some, digs, this, if_true, Option.some.injEq]
        omega
   have := key v.toNat
   rw [this]
   congr 1
   omega
 · rcases Nat.eq_zero_or_pos v.toNat with h | h
   · left
     rw [h, decL]
     simp
   · right
     obtain ⟨c, t, e, hc⟩ := decL_head v.toNat h
     rw [e]
     simpa using hc
theorem bytesOf_strOf (l : List Int) (h : ∀ c ∈ l, 0 ≤ c ∧ c < 256) : bytesOf (strOf l) = l := by
 have key : ∀ (l : List Int) (r : ByteArray), (∀ c ∈ l, 0 ≤ c ∧ c < 256) → bytesOf (l.foldl (fun r n => r.push (UInt8.ofNat n.toNat)) r) = bytesOf r ++ l := by
  intro l
  induction l with
  | nil => intro r _; simp
  | cons c l ih =>
    intro r hl
    rw [List.foldl_cons, ih _ (fun x hx => hl x (List.mem_cons_of_mem _ hx))]
    have hc := hl c (List.mem_cons_self ..)
    have : bytesOf (r.push (UInt8.ofNat c.toNat)) = bytesOf r ++ [c] := by
     unfold bytesOf
     simp only [ByteArray.data_push, Array.toList_push, List.map_append, List.map_cons, List.map_nil, UInt8.toNat_ofNat']
     congr 2
     omega
    rw [this]
    simp
 have := key l ByteArray.empty h
 unfold strOf
 rw [this]
 rfl
theorem bytesOf_inj {a b : ByteArray} (h : bytesOf a = bytesOf b) : a = b := by
 unfold bytesOf at h
 have : a.data.toList = b.data.toList := by
  refine List.map_inj_right (f := fun b : UInt8 => ((b.toNat : Nat) : Int)) (fun x y e => ?_) |>.1 h
  have : x.toNat = y.toNat := Int.ofNat_inj.1 e
  exact UInt8.toNat_inj.1 this
 obtain ⟨⟨x⟩⟩ := a
 obtain ⟨⟨y⟩⟩ := b
 simp only at this
 rw [this]
theorem dec_range (n : Nat) : ∀ c ∈ decL n, 0 ≤ c ∧ c < 256 := by
 intro c hc
 have h := (canon_l (n : Int) (by omega)).1
 have := digs_dig _ _ _ h c (by simpa using hc)
 rw [digB_iff] at this
 omega
theorem bytesOf_head (s : ByteArray) (h : 0 < s.size) : (bytesOf s).head? = some (bt s 0) := by
 have := bytesOf_drop s 0 h
 rw [List.drop_zero] at this
 rw [this]
 rfl
theorem bytesOf_extract (s : ByteArray) (a b : Nat) : bytesOf (s.extract a b) = ((bytesOf s).take b).drop a := by
 unfold bytesOf
 have : (s.extract a b).data.toList = (s.data.toList.take b).drop a := by
  rw [ByteArray.data_extract, Array.toList_extract, List.extract_eq_take_drop, List.drop_take]
 rw [this, List.map_drop, List.map_take]
theorem toList_injA {a b : ByteArray} (h : a.toList = b.toList) : a = b := by
 rw [toList_eq, toList_eq] at h
 obtain ⟨⟨x⟩⟩ := a
 obtain ⟨⟨y⟩⟩ := b
 simp only at h
 rw [h]
end Go.Proofs.YtfhpecgknmfnnaaDoor.M
end
section

end
section
namespace Go.Proofs.YtfhpecgknmfnnaaDoor.M
open Go.R
abbrev copyLitS : Fs := .pureIf (g1p aLit fun l => l.args.length ≤ 1099511627776) (g1 aLit fun l => l.av)
def copyP (c : Clause) : Prop := c.body.length ≤ 1099511627776 ∧ c.head.args.length ≤ 1099511627776 ∧ ∀ l ∈ c.body, l.args.length ≤ 1099511627776
def Clause.bxs (c : Clause) (x : AV) : List AV := [.d (.v (.int .u8 c.head.kind)), .d (.v (.string c.head.who.var)), .d (.v (.string c.head.who.val.sym)), .d (.v (.int .i64 c.head.who.val.num)), .d (.v (.string c.head.pred)), .d (.sl 3 (c.head.args.map Term.cells)), x]
def zeroCA : List AV := [.d (.v (.int .u8 0)), .d (.v (.string ⟨#[]⟩)), .d (.v (.string ⟨#[]⟩)), .d (.v (.int .i64 0)), .d (.v (.string ⟨#[]⟩)), .d (.v (.slice none 0 0)), .d (.v (.slice none 0 0))]
def copyH (c : Clause) (n : Nat) (h : AH) (x : AV) : AH := upd (upd (upd h n (.box (c.bxs (.d (.sl 6 (c.body.map Lit.cells)))))) (n + 1) (.box zeroCA)) (n + 1 + 1) (.box (c.bxs x))
theorem dnat1 {a b : Nat} (h : a + 1 < b) : decide (((a : Int) + 1) < (b : Int)) = true := decide_eq_true (by omega)
theorem dnat0 {a b : Nat} (h : b ≤ a + 1) : decide (((a : Int) + 1) < (b : Int)) = false := decide_eq_false (by omega)
theorem toNat1 (a : Nat) : ((a : Int) + 1).toNat = a + 1 := by omega
theorem copyH_ok {c : Clause} {n m : Nat} {h : AH} {x : AV} (hok : HOk n h) (hm : n + 3 ≤ m) (hx : ltL m [x]) : HOk m (copyH c n h x) := by
 have hx : AV.lt m x := hx.1
 refine (((hok.mono (by omega)).upd_box (by omega) ?_).upd_box (by omega) ?_).upd_box (by omega) ?_
 · simp only [go_sem, Clause.bxs]
 · simp only [go_sem, zeroCA]
 · simp only [go_sem, Clause.bxs, hx]
abbrev copyS : Fs := .pureIf (g1p aClause copyP) (g1 aClause fun c => c.av)
set_option maxHeartbeats 1000000 in
theorem copyLit_ok : FsOk Tryd.prog 16 copyLitS := by
 refine of_Y1 (E := EqT.no _) (F := Ft.no) Lit.av (fun _ _ => aLit_le) Tryd.func16 rfl (by kernel_rfl) [.cell 2 28] rfl Tryd.ntmps16 (by decide) (FtOk.no _) ?_
 intro l h n hp hok
 repeat' (first | (with_reducible refine XG_split (fun hq => ?_) (fun hq => ?_)) | (with_reducible refine Or.inl (And.intro (And.intro mixedP ?_) ?_); kernel_rfl) | (with_reducible refine MX1.of 4000 (by simp) ?_) | (with_reducible refine MX2.of 4000 (by simp) ?_) | (with_reducible refine And.intro ?_ ?_) | simp only [go_sem,Nat.reduceEqDiff,Nat.reduceAdd,Nat.reduceMul,Nat.reduceLeDiff,Lit.av])
 all_goals first | omega | (unfold maxLen; omega) | (exact .inr (by omega)) | (simp (disch := omega) only [agree_upd_eq,agree_refl_eq]; done) | skip
 simp only [wk3, wk2, wkL, wk1_own, wk1_refl, and_self]
set_option maxHeartbeats 1000000 in
theorem copy_ok : FsOk Tryd.prog 15 copyS := by
 refine of_Y1 (E := EqT.no _) (F := Ft.no.put 16 copyLitS) Clause.av (fun _ _ => aClause_le) Tryd.func15 rfl (by kernel_rfl) [.cell 2 31] rfl Tryd.ntmps15 (by decide) ((FtOk.no _).put copyLit_ok) ?_
 intro l h n hp hok
 obtain ⟨hp1, hp2, hp3⟩ := hp
 repeat' (first | (with_reducible refine XG_split (fun hq => ?_) (fun hq => ?_)) | (with_reducible refine Or.inl (And.intro (And.intro mixedP ?_) ?_); kernel_rfl) | (with_reducible refine MX1.of 4000 (by simp) ?_) | (with_reducible refine MX2.of 4000 (by simp) ?_) | (with_reducible refine And.intro ?_ ?_) | simp only [go_sem,Nat.reduceEqDiff,Nat.reduceAdd,Nat.reduceMul,Nat.reduceLeDiff,Clause.av,Lit.av])
 all_goals first | exact hp2 | omega | (unfold maxLen; omega) | (exact .inr (by omega)) | (simp (disch := omega) only [agree_upd_eq, agree_refl_eq]; done) | skip
 refine AW.loopJ (E := EqT.no _) (S := fun k : Nat => match k with
  | 0 => ⟨fr [(1, .p n 0), (2, .p (n + 1) 0), (3, .p (n + 1 + 1) 0), (4, vI 0)] (List.replicate 28 .any), copyH l n h (.d (.v (.slice none 0 0))), n, n + 1 + 1 + 1⟩
  | k + 1 => ⟨fr [(1, .p n 0), (2, .p (n + 1) 0), (3, .p (n + 1 + 1) 0), (4, vI (k + 1))] (List.replicate 28 .any), upd (copyH l n h (.own (n + 1 + 1 + 1) 6 ((l.body.take (k + 1)).map Lit.cells))) (n + 1 + 1 + 1) (.tok (k + 1) 6), n, n + 1 + 1 + 1 + 1⟩)
  (I := fun k => k ≤ l.body.length) (μ := fun k => l.body.length - k) 0 (Nat.zero_le _) ?_ 4000 (fun k => by cases k <;> simp only [fr_len, List.length_replicate] <;> decide) ?_
 · refine Wk.of (by simp only [go_sem]) ?_ (copyH_ok hok (Nat.le_refl _) (by simp only [go_sem])) (Nat.le_refl _) (by omega) (by simp only [go_sem]; omega)
   intro i hi
   simp only [copyH, upd, Clause.bxs, zeroCA]
   repeat' split
   all_goals first | rfl | omega
 · intro k hk
   cases k with
   | zero =>
     rcases Nat.lt_or_ge 0 l.body.length with hkl | hkl
     · repeat' (first | (with_reducible refine Or.inr (AW.mixX (E := EqT.no _) [0,1,2,3,4,5,6] [7,8] [9,10,11] 4000 mixedP ?_ ?_ ?_); kernel_rfl; (simp only [List.length_cons,List.length_nil]; decide)) | (with_reducible refine (AW.mixX (E := EqT.no _) [0,1,2,3,4,5,6] [7,8] [9,10,11] 4000 mixedP ?_ ?_ ?_); kernel_rfl; (simp only [List.length_cons,List.length_nil]; decide)) | (with_reducible refine XG_split (fun hq => ?_) (fun hq => ?_)) | (with_reducible refine Or.inl (And.intro (And.intro mixedP ?_) ?_); kernel_rfl) | (with_reducible refine MX1.of 4000 (by simp) ?_) | (with_reducible refine MX2.of 4000 (by simp) ?_) | (with_reducible refine And.intro ?_ ?_) | simp only [go_sem,Nat.reduceEqDiff,Nat.reduceAdd,Nat.reduceMul,Nat.reduceLeDiff,copyH,Clause.bxs,zeroCA,Lit.av,decide_eq_true hkl,List.getElem?_eq_getElem hkl])
       all_goals first | omega | exact hp3 _ (List.getElem_mem hkl) | (unfold maxLen; omega) | (exact .inr (by omega)) | skip
       refine ⟨1, hkl, ?_, by omega⟩
       refine Wk.of ?_ ?_ ?_ (Nat.le_refl _) (by omega) ?_
       · simp only [go_sem, Int.zero_add]
       · have hrow : (List.take (0 + 1) l.body).map Lit.cells = [l.body[0].cells] := by
          rw [List.take_succ_eq_append_getElem hkl]
          rfl
         intro i hi
         simp only [hrow, upd]
         repeat' split
         all_goals first | rfl | omega
       · exact (copyH_ok hok (Nat.le_succ _) (by simp only [go_sem]; omega)).upd_tok (Nat.lt_succ_self _)
       · simp only [go_sem]; omega
     · have hb : l.body = [] := List.eq_nil_of_length_eq_zero (by omega)
       repeat' (first | (with_reducible refine XG_split (fun hq => ?_) (fun hq => ?_)) | (with_reducible refine Or.inl (And.intro (And.intro mixedP ?_) ?_); kernel_rfl) | (with_reducible refine MX1.of 4000 (by simp) ?_) | (with_reducible refine MX2.of 4000 (by simp) ?_) | (with_reducible refine And.intro ?_ ?_) | simp only [go_sem,Nat.reduceEqDiff,Nat.reduceAdd,Nat.reduceMul,Nat.reduceLeDiff,copyH,Clause.bxs,zeroCA,Lit.av,decide_eq_false (Nat.not_lt.2 hkl)])
       all_goals first | omega | (exact .inr (by omega)) | (simp (disch := omega) only [agree_upd_eq,agree_refl_eq]; done) | skip
       simp only [wk3, wk2, wkL, wk1_own, wk1_refl, wk1_nil, and_self, hb, List.map_nil]
   | succ k =>
     rcases Nat.lt_or_ge (k + 1) l.body.length with hkl | hkl
     · repeat' (first | (with_reducible refine Or.inr (AW.mixX (E := EqT.no _) [0,1,2,3,4,5,6] [7,8] [9,10,11] 4000 mixedP ?_ ?_ ?_); kernel_rfl; (simp only [List.length_cons,List.length_nil]; decide)) | (with_reducible refine (AW.mixX (E := EqT.no _) [0,1,2,3,4,5,6] [7,8] [9,10,11] 4000 mixedP ?_ ?_ ?_); kernel_rfl; (simp only [List.length_cons,List.length_nil]; decide)) | (with_reducible refine XG_split (fun hq => ?_) (fun hq => ?_)) | (with_reducible refine Or.inl (And.intro (And.intro mixedP ?_) ?_); kernel_rfl) | (with_reducible refine MX1.of 4000 (by simp) ?_) | (with_reducible refine MX2.of 4000 (by simp) ?_) | (with_reducible refine And.intro ?_ ?_) | simp only [go_sem,Nat.reduceEqDiff,Nat.reduceAdd,Nat.reduceMul,Nat.reduceLeDiff,copyH,Clause.bxs,zeroCA,Lit.av,dnat1 hkl,toNat1,List.getElem?_eq_getElem hkl,List.length_take,Nat.min_eq_left hk])
       all_goals first | omega | exact hp3 _ (List.getElem_mem hkl) | (unfold maxLen; omega) | (exact .inr (by omega)) | skip
       all_goals try (refine ⟨k + 1 + 1, hkl, ?_, by omega⟩)
       all_goals try (refine Wk.of ?_ ?_ ?_ (Nat.le_refl _) (by omega) ?_)
       · simp only [go_sem]
       · have hrow : (List.take (k + 1 + 1) l.body).map Lit.cells = (List.take (k + 1) l.body).map Lit.cells ++ [l.body[k + 1].cells] := by
          rw [List.take_succ_eq_append_getElem hkl, List.map_append]
          rfl
         intro i hi
         simp only [hrow, upd]
         repeat' split
         all_goals first | rfl | omega
       · exact (copyH_ok hok (Nat.le_succ _) (by simp only [go_sem]; omega)).upd_tok (Nat.lt_succ_self _)
       · simp only [go_sem]; omega
     · repeat' (first | (with_reducible refine XG_split (fun hq => ?_) (fun hq => ?_)) | (with_reducible refine Or.inl (And.intro (And.intro mixedP ?_) ?_); kernel_rfl) | (with_reducible refine MX1.of 4000 (by simp) ?_) | (with_reducible refine MX2.of 4000 (by simp) ?_) | (with_reducible refine And.intro ?_ ?_) | simp only [go_sem,Nat.reduceEqDiff,Nat.reduceAdd,Nat.reduceMul,Nat.reduceLeDiff,copyH,Clause.bxs,zeroCA,Lit.av,dnat0 hkl,List.length_take,Nat.min_eq_left hk])
       all_goals first | omega | (exact .inr (by omega)) | (simp (disch := omega) only [agree_upd_eq,agree_refl_eq]; done) | skip
       simp only [wk3, wk2, wkL, wk1_own, wk1_refl, wk1_nil, and_self, List.take_of_length_le hkl]
end Go.Proofs.YtfhpecgknmfnnaaDoor.M
end
section
namespace Go.Proofs.YtfhpecgknmfnnaaDoor.M
open Go.R
def strRow (s : ByteArray) : List DV := [.v (.string s)]
def cStr : List DV → Option ByteArray
 | [.v (.string s)] => some s
 | _ => none
theorem cStr_row (s : ByteArray) : cStr (strRow s) = some s := rfl
theorem cStr_eq {c : List DV} {s : ByteArray} (h : cStr c = some s) : c = strRow s := by
 unfold cStr at h
 split at h
 · cases h; rfl
 · cases h
@[go_sem] theorem dStrs (l : List ByteArray) : dRows cStr (l.map strRow) = some l := dRows_map cStr_row l
end Go.Proofs.YtfhpecgknmfnnaaDoor.M
end
section
namespace Go.Proofs.YtfhpecgknmfnnaaDoor.M
open Go.R Go.Proofs.YtfhpecgknmfnnaaDoorW.PrintWords Go.Proofs.YtfhpecgknmfnnaaDoorW.PrintMore
theorem tl_eq (a b : ByteArray) : (a.toList == b.toList) = decide (bytesOf a = bytesOf b) := by
 rw [Bool.eq_iff_iff, beq_iff_eq, decide_eq_true_eq]
 exact ⟨fun h => by rw [toList_injA h], fun h => by rw [bytesOf_inj h]⟩
theorem bytesOf_cut (s : ByteArray) (p n : Nat) : bytesOf (s.extract p (p + n)) = ((bytesOf s).drop p).take n := by
 rw [bytesOf_extract, List.drop_take]
 congr 1
 omega
def smatch (s : ByteArray) (p : Nat) (x : ByteArray) : Bool := decide ((x.size : Int) ≤ (s.size : Int) - (p : Int)) && (s.extract p (p + x.size)).toList == x.toList
def sgn : List ByteArray := [⟨#[58, 45]⟩, ⟨#[33, 61]⟩, ⟨#[40]⟩, ⟨#[41]⟩, ⟨#[44]⟩, ⟨#[46]⟩, ⟨#[60]⟩]
theorem smatch1 {s : ByteArray} {p : Nat} (hp : p < s.size) (b : UInt8) : smatch s p ⟨#[b]⟩ = (bt s p == (b.toNat : Int)) := by
 unfold smatch
 have e1 : (⟨#[b]⟩ : ByteArray).size = 1 := rfl
 have e2 : bytesOf (⟨#[b]⟩ : ByteArray) = [(b.toNat : Int)] := rfl
 rw [tl_eq, e1, bytesOf_cut, bytesOf_drop s p hp, e2, List.take_succ_cons, List.take_zero]
 have : decide (((1 : Nat) : Int) ≤ (s.size : Int) - (p : Int)) = true := decide_eq_true (by omega)
 rw [this, Bool.eq_iff_iff]
 simp
theorem smatch2 {s : ByteArray} {p : Nat} (hp : p < s.size) (b c : UInt8) : smatch s p ⟨#[b, c]⟩ = (bt s p == (b.toNat : Int) && nxt s p == (c.toNat : Int)) := by
 unfold smatch nxt
 have e1 : (⟨#[b, c]⟩ : ByteArray).size = 2 := rfl
 have e2 : bytesOf (⟨#[b, c]⟩ : ByteArray) = [(b.toNat : Int), (c.toNat : Int)] := rfl
 rw [tl_eq, e1, bytesOf_cut, bytesOf_drop s p hp, e2]
 by_cases h : p + 1 < s.size
 · have : decide (((2 : Nat) : Int) ≤ (s.size : Int) - (p : Int)) = true := decide_eq_true (by omega)
   rw [this, if_pos h, bytesOf_drop s (p + 1) h, List.take_succ_cons, List.take_succ_cons, List.take_zero, Bool.eq_iff_iff]
   simp
 · have : decide (((2 : Nat) : Int) ≤ (s.size : Int) - (p : Int)) = false := decide_eq_false (by omega)
   have hc : (0 : Int) ≤ (c.toNat : Int) := by omega
   rw [this, if_neg h, Bool.eq_iff_iff]
   simp
theorem nblank {s : ByteArray} {p : Nat} (hp : p < s.size) : ¬ s.size ≤ p := Nat.not_le.2 hp
theorem sgn_hit {s : ByteArray} {p : Nat} (hp : p < s.size) {x : ByteArray} (hx : x ∈ sgn) (hm : smatch s p x = true) : oneT s p = (⟨4, p, p + (x.size : Int)⟩, 0) := by
 unfold oneT
 rw [if_neg (nblank hp)]
 unfold sgn at hx
 have one : ∀ b : UInt8, x = ⟨#[b]⟩ → bt s p = (b.toNat : Int) := fun b e => by
  rw [e, smatch1 hp] at hm
  simpa using hm
 have two : ∀ b c : UInt8, x = ⟨#[b, c]⟩ → bt s p = (b.toNat : Int) ∧ nxt s p = (c.toNat : Int) := fun b c e => by
  rw [e, smatch2 hp] at hm
  simpa using hm
 simp only [List.mem_cons, List.not_mem_nil, or_false] at hx
 rcases hx with e | e | e | e | e | e | e
 · obtain ⟨h1, h2⟩ := two _ _ e; subst e; simp [h1, h2, pieceB, lowB, uppB, digB]; rfl
 · obtain ⟨h1, h2⟩ := two _ _ e; subst e; simp [h1, h2, pieceB, lowB, uppB, digB]; rfl
 all_goals (have h1 := one _ e; subst e; simp [h1, pieceB, lowB, uppB, digB]; rfl)
theorem oneT_blank {s : ByteArray} {p : Nat} (hp : p < s.size) (hb : (bt s p == 32 || bt s p == 9) = true) : oneT s p = (Tok.z, 4) := by
 unfold oneT
 rw [if_neg (nblank hp)]
 simp only [hb, if_true]
end Go.Proofs.YtfhpecgknmfnnaaDoor.M
end
section
namespace Go.Proofs.YtfhpecgknmfnnaaDoor.M
open Go.R Go.Proofs.YtfhpecgknmfnnaaDoorW.PrintWords Go.Proofs.YtfhpecgknmfnnaaDoorW.PrintMore
def Tok.av (t : Tok) : AV := .agg [.d (.v (.int .u8 t.kind)), .d (.v (.int .i64 t.lo)), .d (.v (.int .i64 t.hi))]
end Go.Proofs.YtfhpecgknmfnnaaDoor.M
end
section
namespace Go.Proofs.YtfhpecgknmfnnaaDoor.M
open Go.R
def g3 {α β γ : Type} (a : AV → Option α) (b : AV → Option β) (c : AV → Option γ) (f : α → β → γ → AV) : List AV → Option AV
 | [x, y, z] => (a x).bind fun v => (b y).bind fun u => (c z).map (f v u)
 | _ => none
def g4 {α β γ δ : Type} (a : AV → Option α) (b : AV → Option β) (c : AV → Option γ) (d : AV → Option δ) (f : α → β → γ → δ → AV) : List AV → Option AV
 | [x, y, z, q] => (a x).bind fun v => (b y).bind fun u => (c z).bind fun t => (d q).map (f v u t)
 | _ => none
def g3p {α β γ : Type} (a : AV → Option α) (b : AV → Option β) (c : AV → Option γ) (p : α → β → γ → Prop) : List AV → Prop
 | [x, y, z] => oP (a x) fun v => oP (b y) fun u => oP (c z) fun t => p v u t
 | _ => True
def g4p {α β γ δ : Type} (a : AV → Option α) (b : AV → Option β) (c : AV → Option γ) (d : AV → Option δ) (p : α → β → γ → δ → Prop) : List AV → Prop
 | [x, y, z, q] => oP (a x) fun v => oP (b y) fun u => oP (c z) fun t => oP (d q) fun r => p v u t r
 | _ => True
section
variable {α β γ δ : Type} (a : AV → Option α) (b : AV → Option β) (c : AV → Option γ) (d : AV → Option δ)
@[go_sem] theorem g3_three (f : α → β → γ → AV) (x y z : AV) : g3 a b c f [x, y, z] = (a x).bind fun v => (b y).bind fun u => (c z).map (f v u) := rfl
@[go_sem] theorem g4_four (f : α → β → γ → δ → AV) (x y z q : AV) : g4 a b c d f [x, y, z, q] = (a x).bind fun v => (b y).bind fun u => (c z).bind fun t => (d q).map (f v u t) := rfl
@[go_sem] theorem g3p_three (p : α → β → γ → Prop) (x y z : AV) : g3p a b c p [x, y, z] = oP (a x) fun v => oP (b y) fun u => oP (c z) fun t => p v u t := rfl
@[go_sem] theorem g4p_four (p : α → β → γ → δ → Prop) (x y z q : AV) : g4p a b c d p [x, y, z, q] = oP (a x) fun v => oP (b y) fun u => oP (c z) fun t => oP (d q) fun r => p v u t r := rfl
end
def aToks (x : AV) : Option (List Tok) := match rowsOf 3 x with
 | some xs => dRows cTok xs
 | none => none
@[go_sem] theorem aToks_sl (l : List Tok) : aToks (.d (.sl 3 (l.map Tok.cells))) = some l := by simp only [aToks, rowsOf, if_true, dToks]
def wordB (T : List Tok) (s : ByteArray) (n : Nat) (c : Int) : ByteArray := match T[n]? with
 | some t => if t.kind == c then tokS s t else noStr
 | none => noStr
def numB (s : ByteArray) : Int := if !(readV s).2 || decide (0 < (readV s).1.sym.size) || decide ((readV s).1.num < 1) || decide (1099511627776 < (readV s).1.num) then 0 else (readV s).1.num
def toksP (s : ByteArray) (T : List Tok) (k : Int) : Prop := (s.size : Int) ≤ 9223372036854775807 ∧ TokOk s T ∧ 0 ≤ k ∧ k ≤ 1099511627776
end Go.Proofs.YtfhpecgknmfnnaaDoor.M
end
section
namespace Go.Proofs.YtfhpecgknmfnnaaDoor.M
open Go.R
structure Req where
 kind : Int
 label : ByteArray
 life : Int
 clause : Clause
 no : Int
 lit : Lit
def Req.z : Req := ⟨0, noStr, 0, Clause.z, 0, Lit.z⟩
def Req.cells (q : Req) : List DV := [.v (.int .u8 q.kind), .v (.string q.label), .v (.int .i64 q.life), .v (.int .u8 q.clause.head.kind), .v (.string q.clause.head.who.var), .v (.string q.clause.head.who.val.sym), .v (.int .i64 q.clause.head.who.val.num), .v (.string q.clause.head.pred), .sl 3 (q.clause.head.args.map Term.cells), .sl 6 (q.clause.body.map Lit.cells), .v (.int .i64 q.no), .v (.int .u8 q.lit.kind), .v (.string q.lit.who.var), .v (.string q.lit.who.val.sym), .v (.int .i64 q.lit.who.val.num), .v (.string q.lit.pred), .sl 3 (q.lit.args.map Term.cells)]
def Req.ds (q : Req) : List AV := [.d (.v (.int .u8 q.kind)), .d (.v (.string q.label)), .d (.v (.int .i64 q.life)), .d (.v (.int .u8 q.clause.head.kind)), .d (.v (.string q.clause.head.who.var)), .d (.v (.string q.clause.head.who.val.sym)), .d (.v (.int .i64 q.clause.head.who.val.num)), .d (.v (.string q.clause.head.pred)), .d (.sl 3 (q.clause.head.args.map Term.cells)), .d (.sl 6 (q.clause.body.map Lit.cells)), .d (.v (.int .i64 q.no)), .d (.v (.int .u8 q.lit.kind)), .d (.v (.string q.lit.who.var)), .d (.v (.string q.lit.who.val.sym)), .d (.v (.int .i64 q.lit.who.val.num)), .d (.v (.string q.lit.pred)), .d (.sl 3 (q.lit.args.map Term.cells))]
def Req.av (q : Req) : AV := .agg q.ds
def aReq : AV → Option Req
 | .agg [.d (.v (.int .u8 k)), .d (.v (.string l)), .d (.v (.int .i64 f)), .d (.v (.int .u8 ck)), .d (.v (.string ca)), .d (.v (.string cb)), .d (.v (.int .i64 cn)), .d (.v (.string cp)), x, y, .d (.v (.int .i64 m)), .d (.v (.int .u8 lk)), .d (.v (.string la)), .d (.v (.string lb)), .d (.v (.int .i64 ln)), .d (.v (.string lp)), z] =>
   (aTerms x).bind fun ts => (aLits y).bind fun ls => (aTerms z).map fun us => ⟨k, l, f, ⟨⟨ck, ⟨ca, ⟨cb, cn⟩⟩, cp, ts⟩, ls⟩, m, ⟨lk, ⟨la, ⟨lb, ln⟩⟩, lp, us⟩⟩
 | _ => none
@[go_sem] theorem aReq_of (k ck lk f cn m ln : Int) (l ca cb cp la lb lp : ByteArray) (x y z : AV) : aReq (.agg [.d (.v (.int .u8 k)), .d (.v (.string l)), .d (.v (.int .i64 f)), .d (.v (.int .u8 ck)), .d (.v (.string ca)), .d (.v (.string cb)), .d (.v (.int .i64 cn)), .d (.v (.string cp)), x, y, .d (.v (.int .i64 m)), .d (.v (.int .u8 lk)), .d (.v (.string la)), .d (.v (.string lb)), .d (.v (.int .i64 ln)), .d (.v (.string lp)), z]) =
   (aTerms x).bind fun ts => (aLits y).bind fun ls => (aTerms z).map fun us => ⟨k, l, f, ⟨⟨ck, ⟨ca, ⟨cb, cn⟩⟩, cp, ts⟩, ls⟩, m, ⟨lk, ⟨la, ⟨lb, ln⟩⟩, lp, us⟩⟩ := rfl
theorem aReq_le {x : AV} {q : Req} (h : aReq x = some q) : AV.le x q.av := by
 unfold aReq at h
 split at h
 · simp only [Option.bind_eq_some_iff, Option.map_eq_some_iff] at h
   obtain ⟨ts, hx, ls, hy, us, hz, rfl⟩ := h
   exact AV.le.agg ⟨AV.le.refl _, AV.le.refl _, AV.le.refl _, AV.le.refl _, AV.le.refl _, AV.le.refl _, AV.le.refl _, AV.le.refl _, aTerms_le hx, aLits_le hy, AV.le.refl _, AV.le.refl _, AV.le.refl _, AV.le.refl _, AV.le.refl _, AV.le.refl _, aTerms_le hz, trivial⟩
 · cases h
def smallR (q : Req) : Prop := smallC q.clause ∧ q.lit.args.length ≤ 4611686018427387904
def copyR (q : Req) : Prop := copyP q.clause ∧ q.lit.args.length ≤ 1099511627776
noncomputable abbrev rsameS : Fs := .pureIf (g2p aReq aReq fun a b => smallR a) (g2 aReq aReq fun a b => vB (eqB a b))
abbrev rcopyS : Fs := .pureIf (g1p aReq copyR) (g1 aReq fun q => q.av)
set_option maxRecDepth 20000 in
set_option maxHeartbeats 8000000 in
theorem rsame_ok : FsOk Tryd.prog 9 rsameS := by
 refine of_Y2 (E := EqT.no _) (F := (Ft.no.put 21 sameS).put 22 sameLitS) Req.av Req.av (fun _ _ => aReq_le) (fun _ _ => aReq_le) Tryd.func9 rfl (by kernel_rfl) [.tmp 4] rfl Tryd.ntmps9 (by decide) (((FtOk.no _).put same_ok).put sameLit_ok) ?_
 intro a b h n hp hok
 obtain ⟨hp1, hp2⟩ := hp
 repeat' (first | (with_reducible first | refine XG_split (fun hq => ?_) (fun hq => ?_) | refine MX1.of 4000 (by simp) ?_ | refine MX2.of 4000 (by simp) ?_ | refine And.intro ?_ ?_) | ((with_reducible first | refine Or.inl (And.intro (And.intro mixedP ?_) ?_) | refine Or.inl (And.intro mixedP ?_)); kernel_rfl) | simp only [go_sem,Nat.reduceEqDiff,Nat.reduceAdd,Nat.reduceMul,Nat.reduceLeDiff,Int.reduceBEq,Req.av,Req.ds,Clause.av,Lit.av])
 all_goals first | exact hp1 | exact hp2 | skip
 all_goals first | omega | (unfold maxLen; omega) | (right; omega) | (left; simp; done) | (simp only [wk3,wkL2,wk2,wkL,wk1_d,wk1_own,wk1_nil,and_self]; done) | (intro i hi; simp only [upd]; (repeat' split); all_goals first | rfl | omega) | skip
 all_goals try refine wk_v (congrArg Value.bool ?_)
 · rename_i h1 h2 h3 h4
   have e1 : a.kind = b.kind := by simpa using h1
   have e2 : a.label = b.label := toList_inj (by simpa using h2)
   have e3 : a.life = b.life := by simpa using h3
   have e4 : a.no = b.no := by simpa using h4
   have e5 : a.clause = b.clause := Classical.byContradiction fun e => by rw [eqB_false e] at hq; cases hq
   by_cases e6 : a.lit = b.lit
   · rw [eqB_true e6]
     refine (eqB_true ?_).symm
     obtain ⟨a1, a2, a3, a4, a5, a6⟩ := a
     obtain ⟨b1, b2, b3, b4, b5, b6⟩ := b
     simp only at e1 e2 e3 e4 e5 e6
     rw [e1, e2, e3, e4, e5, e6]
   · rw [eqB_false e6]
     exact (eqB_false fun e => e6 (by rw [e])).symm
 all_goals exact (eqB_false (by rintro rfl; first | (rw [eqB_true rfl] at hq; cases hq; done) | (simp at hq; done))).symm
set_option maxRecDepth 20000 in
set_option maxHeartbeats 8000000 in
theorem rcopy_ok : FsOk Tryd.prog 7 rcopyS := by
 refine of_Y1 (E := EqT.no _) (F := (Ft.no.put 15 copyS).put 16 copyLitS) Req.av (fun _ _ => aReq_le) Tryd.func7 rfl (by kernel_rfl) [.cell 2 33] rfl Tryd.ntmps7 (by decide) (((FtOk.no _).put copy_ok).put copyLit_ok) ?_
 intro q h n hp hok
 obtain ⟨hp1, hp2⟩ := hp
 repeat' (first | (with_reducible first | refine XG_split (fun hq => ?_) (fun hq => ?_) | refine MX1.of 4000 (by simp) ?_ | refine MX2.of 4000 (by simp) ?_ | refine And.intro ?_ ?_) | ((with_reducible first | refine Or.inl (And.intro (And.intro mixedP ?_) ?_) | refine Or.inl (And.intro mixedP ?_)); kernel_rfl) | simp only [go_sem,Nat.reduceEqDiff,Nat.reduceAdd,Nat.reduceMul,Nat.reduceLeDiff,Int.reduceBEq,Req.av,Req.ds,Clause.av,Lit.av])
 all_goals first | exact hp1 | exact hp2 | skip
 all_goals first | omega | (unfold maxLen; omega) | (right; omega) | (left; simp; done) | (simp only [wk3,wkL2,wk2,wkL,wk1_d,wk1_own,wk1_nil,and_self]; done) | (intro i hi; simp only [upd]; (repeat' split); all_goals first | rfl | omega) | skip
end Go.Proofs.YtfhpecgknmfnnaaDoor.M
end
section

end
section
namespace Go.Proofs.YtfhpecgknmfnnaaDoor.M
open Go.R Go.Proofs.YtfhpecgknmfnnaaDoorW.PrintWords Go.Proofs.YtfhpecgknmfnnaaDoorW.PrintMore
@[go_sem] theorem Rd.adv_mk (R : Rd) : Rd.mk R.s R.T (R.k + 1) R.e R.fr = R.adv := rfl
@[go_sem] theorem Rd.adv_s (R : Rd) : R.adv.s = R.s := rfl
@[go_sem] theorem Rd.adv_T (R : Rd) : R.adv.T = R.T := rfl
@[go_sem] theorem Rd.adv_k (R : Rd) : R.adv.k = R.k + 1 := rfl
@[go_sem] theorem Rd.adv_e (R : Rd) : R.adv.e = R.e := rfl
@[go_sem] theorem Rd.adv_fr (R : Rd) : R.adv.fr = R.fr := rfl
theorem Rd.fail_k (R : Rd) (x : Int) : (R.fail x).k = R.k := by unfold Rd.fail; split <;> rfl
theorem Rd.fail_T (R : Rd) (x : Int) : (R.fail x).T = R.T := by unfold Rd.fail; split <;> rfl
theorem Rd.fail_s (R : Rd) (x : Int) : (R.fail x).s = R.s := by unfold Rd.fail; split <;> rfl
theorem RdOk.fail {R : Rd} (h : RdOk R) (x : Int) : RdOk (R.fail x) := by
 unfold RdOk
 rw [Rd.fail_k, Rd.fail_T, Rd.fail_s]
 exact h
theorem RdOk.len {R : Rd} (h : RdOk R) : R.k ≤ 4096 ∧ R.T.length ≤ 4096 := ⟨Nat.le_trans h.2 h.1.1, h.1.1⟩
theorem txt_lt {R : Rd} {m : Nat} {x : ByteArray} (h : ((R.txt m).toList == x.toList) = true) (hx : 0 < x.size) : R.k + m < R.T.length := by
 unfold Rd.txt textT at h
 cases ht : R.T[R.k + m]? with
 | none =>
   rw [ht] at h
   simp only [beq_iff_eq] at h
   have := toList_injA h
   rw [← this] at hx
   simp [ByteArray.size] at hx
 | some t => exact (List.getElem?_eq_some_iff.1 ht).1
theorem RdOk.adv_of {R : Rd} (h : RdOk R) (hk : R.k < R.T.length) : RdOk R.adv := ⟨h.1, hk⟩
theorem RdOk.adv_txt {R : Rd} (h : RdOk R) {x : ByteArray} (hk : ((R.txt 0).toList == x.toList) = true) (hx : 0 < x.size) : RdOk R.adv := h.adv_of (txt_lt hk hx)
def Rd.is (R : Rd) (m : Nat) (x : ByteArray) : Bool := (R.txt m).toList == x.toList
theorem RdOk.need {R : Rd} (h : RdOk R) {x : ByteArray} (hx : 0 < x.size) : RdOk (R.need x) := by
 unfold Rd.need
 split
 · rename_i hq
   simp only [Bool.and_eq_true] at hq
   exact h.adv_txt hq.2 hx
 · exact h.fail 6
def Rd.term (R : Rd) : Term × Rd := if R.e == 0 && (R.kd == 1 || R.kd == 2 || R.kd == 3) then (if R.kd == 2 then ⟨R.txt 0, Val.z⟩ else ⟨noStr, (readV (R.txt 0)).1⟩, R.adv) else (Term.z, R.fail 6)
def Rd.argsL : Nat → List Term → Rd → Option (List Term) × Rd
 | 0, acc, R => if R.e == 0 && R.is 0 ⟨#[44]⟩ then (none, R.fail 2) else (some acc, R)
 | f + 1, acc, R => if R.e == 0 && R.is 0 ⟨#[44]⟩ then Rd.argsL f (acc ++ [R.adv.term.1]) R.adv.term.2 else (some acc, R)
def Rd.atom (R : Rd) : (ByteArray × List Term) × Rd :=
 if R.e == 0 && R.kd == 1 then
  if R.adv.is 0 ⟨#[40]⟩ then match (Rd.argsL 3 [R.adv.adv.term.1] R.adv.adv.term.2).1 with
   | none => ((noStr, []), (Rd.argsL 3 [R.adv.adv.term.1] R.adv.adv.term.2).2)
   | some l => ((R.txt 0, l), (Rd.argsL 3 [R.adv.adv.term.1] R.adv.adv.term.2).2.need ⟨#[41]⟩)
  else ((R.txt 0, []), R.adv)
 else ((noStr, []), R.fail 6)
def saysS : ByteArray := ⟨#[115, 97, 121, 115]⟩
def Rd.said (R : Rd) (kind : Int) : Lit × Rd :=
 if R.kd == 2 || (R.kd == 1 && R.is 1 saysS) then (⟨kind, R.term.1, (R.term.2.need saysS).atom.1.1, (R.term.2.need saysS).atom.1.2⟩, (R.term.2.need saysS).atom.2)
 else (⟨kind, Term.z, R.atom.1.1, R.atom.1.2⟩, R.atom.2)
def Rd.compare (R : Rd) : Bool := R.kd == 3 || (R.kd == 2 && !R.is 1 saysS) || (R.kd == 1 && (R.is 1 ⟨#[60]⟩ || R.is 1 ⟨#[33, 61]⟩))
def Rd.mid (R : Rd) : Int × Rd := if R.is 0 ⟨#[33, 61]⟩ then (4, R.adv) else (3, R.need ⟨#[60]⟩)
def Rd.literal (R : Rd) : Lit × Rd :=
 if R.is 0 ⟨#[110, 111, 116]⟩ then R.adv.said 2
 else if R.compare then (⟨R.term.2.mid.1, Term.z, noStr, [R.term.1, R.term.2.mid.2.term.1]⟩, R.term.2.mid.2.term.2)
 else R.said 1
def termF (R : Rd) : List AV → Option (AV × Rd)
 | [] => some (R.term.1.av, R.term.2)
 | _ => none
def atomF' (R : Rd) : List AV → Option (AV × Rd)
 | [] => some (.tup [vS R.atom.1.1, .d (.sl 3 (R.atom.1.2.map Term.cells))], R.atom.2)
 | _ => none
def saidF (R : Rd) : List AV → Option (AV × Rd)
 | [.d (.v (.int .u8 k))] => some ((R.said k).1.av, (R.said k).2)
 | _ => none
def literalF (R : Rd) : List AV → Option (AV × Rd)
 | [] => some (R.literal.1.av, R.literal.2)
 | _ => none
attribute [go_sem] termF atomF' saidF literalF
end Go.Proofs.YtfhpecgknmfnnaaDoor.M
end
section

end
section
namespace Go.Proofs.YtfhpecgknmfnnaaDoor.M
open Go.R Go.Proofs.YtfhpecgknmfnnaaDoorW.PrintWords Go.Proofs.YtfhpecgknmfnnaaDoorW.PrintMore
def rd0 (s : ByteArray) : Rd := ⟨s, (allT s).1, 0, 0, 0⟩
def Rd.bodyL : Nat → List Lit → Rd → List Lit × Rd
 | 0, acc, R => if R.e == 0 && R.is 0 ⟨#[44]⟩ then (acc, R.fail 2) else (acc, R)
 | f + 1, acc, R => if R.e == 0 && R.is 0 ⟨#[44]⟩ then Rd.bodyL f (acc ++ [R.adv.literal.1]) R.adv.literal.2 else (acc, R)
def Rd.body (R : Rd) : List Lit × Rd := if R.e == 0 && R.is 0 ⟨#[58, 45]⟩ then Rd.bodyL 5 [R.adv.literal.1] R.adv.literal.2 else ([], R)
def openRun : List AV → AH → Nat → Option (AV × AH × Nat)
 | [.d (.v (.string s))], h, n => some (.tup [.p n 0, vI (allT s).2.1, vI (allT s).2.2], upd h n (.box (obRd.bx (rd0 s))), n + 1)
 | _, _, _ => none
def openPre : List AV → AH → Nat → Prop
 | [.d (.v (.string s))], h, n => (s.size : Int) ≤ 9223372036854775807
 | _, _, _ => True
def openS : Fs := ⟨openRun, openPre, fun _ => []⟩
@[go_sem] theorem openS_run (s : ByteArray) (h : AH) (n : Nat) : openS.run [.d (.v (.string s))] h n = some (.tup [.p n 0, vI (allT s).2.1, vI (allT s).2.2], upd h n (.box (obRd.bx (rd0 s))), n + 1) := rfl
@[go_sem] theorem openS_pre (s : ByteArray) (h : AH) (n : Nat) : openS.pre [.d (.v (.string s))] h n = ((s.size : Int) ≤ 9223372036854775807) := rfl
@[go_sem] theorem openS_tch (l : List AV) : openS.tch l = [] := rfl
end Go.Proofs.YtfhpecgknmfnnaaDoor.M
end
section

end
section
namespace Go.Proofs.YtfhpecgknmfnnaaDoor.M
open Go.R
def Out {α β : Type} (p : PR α) (f : α → β) (b : β) (R R' : Rd) : Prop := match p with
 | .ok (a, m) => b = f a ∧ R' = { R with k := m }
 | .error (q, x) => R'.e = x ∧ R'.fr = q ∧ x ≠ 0
structure Sim {α β : Type} (R : Rd) (p : PR α) (f : α → β) (b : β) (R' : Rd) : Prop where
 s : R'.s = R.s
 T : R'.T = R.T
 go : R.e = 0 → Out p f b R R'
 st : R.e ≠ 0 → R'.e = R.e ∧ R'.fr = R.fr
def ansP {α β : Type} (z : β) (f : α → β) : Except (Int × Int) α → β × Int × Int
 | .ok a => (f a, 0, 0)
 | .error (p, x) => (z, p, x)
end Go.Proofs.YtfhpecgknmfnnaaDoor.M
end
section
namespace Go.R
open Go.RowKit
section
variable {c : Cx} {w w' : World} {h : AH} {n : Nat}
def Cx.hold (c : Cx) (w w' : World) : Cx := { c with L := fun b => if w.heap.size ≤ b ∧ b < w'.heap.size then none else c.L b }
theorem Wd.hold (hw : Wd c h n w) (hb : Below w.heap.size w w') : Wd (c.hold w w') h n w' ∧ Ext c h w (c.hold w w') h w' := by
 have old : ∀ b, b < w.heap.size → (c.hold w w').L b = c.L b := fun b hb => if_neg (fun q => absurd q.1 (Nat.not_le.2 hb))
 have q : Ext c h w (c.hold w w') h w' := ⟨hb.os, hb.tape, hb.output, hb.size, fun b off q => by
  unfold Cx.lo
  rw [old b (lo_lt hw q)]
  exact q, fun b off q => cell_of_block (hb.block b (lo_lt hw q)), fun b q => ⟨(old b (all_lt hw q)).trans q, hb.block b (all_lt hw q)⟩, fun _ cs q => ⟨rfl, cs, q⟩, fun _ n _ q => ⟨n, q, Nat.le_refl _, fun _ => rfl⟩⟩
 refine ⟨⟨fun i cs hi => ?_, hw.tokN, fun i m z a cap hi ha => ?_, hw.ne, fun b hb' => ?_, hw.new, hw.globs q⟩, q⟩
 · obtain ⟨h1, vals, ty, h2, h3, h4⟩ := hw.box i cs hi
   have hl := (Array.getElem?_eq_some_iff.1 h2).1
   exact ⟨(old _ hl).trans h1, vals, ty, (hb.block _ hl).trans h2, h3, fun j v x hj hx => (h4 j v x hj hx).to q⟩
 · obtain ⟨h1, h2, h3, vals, ty, h4, h5⟩ := hw.tokS i m z a cap hi ha
   have hl := (Array.getElem?_eq_some_iff.1 h4).1
   exact ⟨h1, h2, (old _ hl).trans h3, vals, ty, (hb.block _ hl).trans h4, h5⟩
 · have : (c.hold w w').L b = c.L b := if_neg (fun q => absurd q.2 (Nat.not_lt.2 hb'))
   rw [this]
   exact hw.fresh b (Nat.le_trans hb.size hb')
theorem rep_nil : ∀ (j : Nat) v x, ([] : List Value)[j]? = some v → ([] : List AV)[j]? = some x → ARep c h w v x := fun j v x hv _ => by simp at hv
theorem rep_cons {v : Value} {x : AV} {vs : List Value} {xs : List AV} (h0 : ARep c h w v x) (ht : ∀ (j : Nat) v x, vs[j]? = some v → xs[j]? = some x → ARep c h w v x) : ∀ (j : Nat) u y, (v :: vs)[j]? = some u → (x :: xs)[j]? = some y → ARep c h w u y := fun j u y hu hy => by
 cases j with
 | zero =>
   simp only [List.getElem?_cons_zero, Option.some.injEq] at hu hy
   subst hu; subst hy
   exact h0
 | succ j => exact ht j u y (by simpa using hu) (by simpa using hy)
theorem of_hold {P : Program} {f : FuncId} {fn : Func} {code : Code} {g : List AV → Option AV} {pre : List AV → Prop} (hf : P.funcs[f]? = some fn) (hbody : fn.body = some code) (hn : (fn.name == "runtime.NumGoroutine") = false)
 (H : ∀ (args : List AV) (r : AV) (c : Cx) (h : AH) (n : Nat) (w : World) (vals : List Value), pre args → g args = some r → Wd c h n w → vals.length = args.length → (∀ (j : Nat) v x, vals[j]? = some v → args[j]? = some x → ARep c h w v x) → Calls P f vals.toArray w fun e w' => ∃ v, e = .returned v ∧ Below w.heap.size w w' ∧ ARep (c.hold w w') h w' v r) : FsOk P f (.pureIf pre g) := by
 intro c h n w vals args K hw hl hr hS
 obtain ⟨hpre, hS⟩ := hS
 obtain ⟨q, hq, hK⟩ := onO_iff hS
 refine ⟨Entered.of hf hbody hn, ?_⟩
 simp only [Fs.pureIf] at hq hpre
 cases hg : g args with
 | none => simp [hg] at hq
 | some r =>
   simp only [hg, Option.map_some, Option.some.injEq] at hq
   subst hq
   refine (H args r c h n w vals hpre hg hw hl hr).mono fun e w' ⟨v, he, hb, hv⟩ => ?_
   obtain ⟨g1, g2⟩ := hw.hold hb
   exact ⟨v, r, c.hold w w', h, n, he, g1, g2, ⟨fun b hbl _ => hb.block b hbl, fun i b q _ => q⟩, hv, Nat.le_refl n, hK⟩
end
end Go.R
namespace Go.Proofs.YtfhpecgknmfnnaaDoor.M
open Go.R Go.RowKit
open Go.Proofs.YtfhpecgknmfnnaaDoorW.PrintWords Go.Proofs.YtfhpecgknmfnnaaDoorW.PrintMore
theorem kd_row {α : Type} {d : Kd α} {e : Nat} {ok : Nat → Prop} {v : Value} {xs : List α} {c : Cx} {w w' : World} (f : α → List DV) (hR : Kd.R d e w' w.heap.size ok v xs) (hf : ∀ x, (f x).length = d.sz)
 (hM : ∀ x cs ok, d.M w' w.heap.size ok x cs → ∀ (j : Nat) u y, cs[j]? = some u → (f x)[j]? = some y → DRep (c.hold w w') w' u y) : DRep (c.hold w w') w' v (.sl d.sz (xs.map f)) := by
 obtain ⟨h0, inner, ho, hr⟩ := hR
 have ho1 := ho
 obtain ⟨hlen, ho2⟩ := ho
 rcases ho2 with ⟨rfl, hn⟩ | ⟨g, cap, cur, rfl, hg, hh, hnc, hcm, hcs, htk⟩
 · obtain rfl := List.eq_nil_of_length_eq_zero hn
   exact .sl none 0 _ [] (fun _ _ => undef) (by simp) (by simp) (fun a h => by cases h) (fun _ => ⟨rfl, rfl⟩) (fun a h => by cases h) (fun i j row x hi => by simp at hi)
 · have hgl : g < w'.heap.size := (Array.getElem?_eq_some_iff.1 hh).1
   have key : ∀ (i j : Nat) row x, (xs.map f)[i]? = some row → row[j]? = some x → ∃ p u, xs[i]? = some p ∧ row = f p ∧ inner[i * d.sz + j]? = some u ∧ ((inner.drop (i * d.sz)).take d.sz)[j]? = some u := by
    intro i j row x hi hj
    rw [List.getElem?_map] at hi
    cases hp : xs[i]? with
    | none => simp [hp] at hi
    | some p =>
      simp only [hp, Option.map_some, Option.some.injEq] at hi
      subst hi
      have hjl : j < d.sz := by rw [← hf p]; exact (List.getElem?_eq_some_iff.1 hj).1
      have hil : i < xs.length := (List.getElem?_eq_some_iff.1 hp).1
      have hb : i * d.sz + j < inner.length := by
       rw [hlen]
       have : (i + 1) * d.sz ≤ xs.length * d.sz := Nat.mul_le_mul_right _ hil
       rw [Nat.succ_mul] at this
       omega
      refine ⟨p, inner[i * d.sz + j], rfl, rfl, List.getElem?_eq_getElem hb, ?_⟩
      rw [List.getElem?_take_of_lt hjl, List.getElem?_drop, List.getElem?_eq_getElem hb]
   have := DRep.sl (c := c.hold w w') (w := w') (some ⟨g, 0, none⟩) cap d.sz (xs.map f) (fun i j => (inner[i * d.sz + j]?).getD undef) (by rw [List.length_map]; exact hnc) (fun row hrow => by
    obtain ⟨x, _, rfl⟩ := List.mem_map.1 hrow
    exact hf x) (fun a ha => by cases ha; exact .inl rfl) (fun ha => by cases ha) (fun a ha i j row x hi hj => by
    cases ha
    obtain ⟨p, u, hp, rfl, hu, _⟩ := key i j row x hi hj
    refine ⟨?_, ?_⟩
    · have hc := ho1.cells (g := g) rfl _ u hu
      rw [hu]
      simpa [Go.Addr.add_mid, Nat.add_assoc] using hc
    · unfold Cx.lo
      have : (c.hold w w').L g = none := if_pos ⟨hg, hgl⟩
      simp only [this]) (fun i j row x hi hj => by
    obtain ⟨p, u, hp, rfl, hu, hu2⟩ := key i j row x hi hj
    rw [hu]
    exact hM p _ _ (hr.2 i p hp) j u x hu2 hj)
   rwa [List.length_map] at this
theorem term_row {ok : Nat → Prop} {v : Value} {xs : List Term} {c : Cx} {w w' : World} (hR : Kd.R kTerm 25 w' w.heap.size ok v xs) : DRep (c.hold w w') w' v (.sl 3 (xs.map Term.cells)) := by
 refine kd_row (d := kTerm) Term.cells hR (fun _ => rfl) fun t cs ok hM j u y hu hy => ?_
 obtain ⟨_, _, rfl, rfl, _, _, rfl, rfl, rfl⟩ := hM
 match j with
 | 0 => simp [Term.cells] at hu hy; subst hu; subst hy; exact .v _ rfl
 | 1 => simp [Term.cells] at hu hy; subst hu; subst hy; exact .v _ rfl
 | 2 => simp [Term.cells] at hu hy; subst hu; subst hy; exact .v _ rfl
 | j + 3 => simp [Term.cells] at hy
theorem lit_row {ok : Nat → Prop} {v : Value} {xs : List Lit} {c : Cx} {w w' : World} (hR : Kd.R kLit 28 w' w.heap.size ok v xs) : DRep (c.hold w w') w' v (.sl 6 (xs.map Lit.cells)) := by
 refine kd_row (d := kLit) Lit.cells hR (fun _ => rfl) fun l cs ok hM j u y hu hy => ?_
 obtain ⟨_, _, rfl, rfl, _, _, rfl, ⟨_, _, rfl, rfl, _, _, rfl, rfl, rfl⟩, _, _, rfl, rfl, av, rfl, hA⟩ := hM
 match j with
 | 0 => simp [Lit.cells] at hu hy; subst hu; subst hy; exact .v _ rfl
 | 1 => simp [Lit.cells] at hu hy; subst hu; subst hy; exact .v _ rfl
 | 2 => simp [Lit.cells] at hu hy; subst hu; subst hy; exact .v _ rfl
 | 3 => simp [Lit.cells] at hu hy; subst hu; subst hy; exact .v _ rfl
 | 4 => simp [Lit.cells] at hu hy; subst hu; subst hy; exact .v _ rfl
 | 5 => simp [Lit.cells] at hu hy; subst hu; subst hy; exact term_row hA
 | j + 6 => simp [Lit.cells] at hy
section
variable {c : Cx} {w : World} {h : AH}
theorem rep_v (v : Value) (hv : v.oneCell' = true) : ARep c h w v (.d (.v v)) := .d _ _ (.v _ hv)
theorem rep_nilsl (z : Nat) : ARep c h w (.slice none 0 0) (.d (.sl z [])) := .d _ _ (.sl none 0 _ [] (fun _ _ => undef) (by simp) (by simp) (fun a h => by cases h) (fun _ => ⟨rfl, rfl⟩) (fun a h => by cases h) (fun i j row x hi => by simp at hi))
theorem clause_rep {q : Clause} {av bv : Value} (ha : DRep c w av (.sl 3 (q.head.args.map Term.cells))) (hb : DRep c w bv (.sl 6 (q.body.map Lit.cells))) : ARep c h w (clauseV q av bv) q.av :=
 .agg _ _ rfl (rep_cons (rep_v _ rfl) (rep_cons (rep_v _ rfl) (rep_cons (rep_v _ rfl) (rep_cons (rep_v _ rfl) (rep_cons (rep_v _ rfl) (rep_cons (.d _ _ ha) (rep_cons (.d _ _ hb) rep_nil)))))))
theorem lit_rep {q : Lit} {av : Value} (ha : DRep c w av (.sl 3 (q.args.map Term.cells))) : ARep c h w (litV q av) q.av :=
 .agg _ _ rfl (rep_cons (rep_v _ rfl) (rep_cons (rep_v _ rfl) (rep_cons (rep_v _ rfl) (rep_cons (rep_v _ rfl) (rep_cons (rep_v _ rfl) (rep_cons (.d _ _ ha) rep_nil))))))
theorem tup3_rep {v : Value} {x : AV} (hv : ARep c h w v x) (p q : Int) : ARep c h w (.tuple #[v, .int .i64 p, .int .i64 q]) (.tup [x, vI p, vI q]) :=
 .tup [v, .int .i64 p, .int .i64 q] _ rfl (rep_cons hv (rep_cons (rep_v _ rfl) (rep_cons (rep_v _ rfl) rep_nil)))
end
def clauseA (s : ByteArray) : Clause × Int × Int := ansP Clause.z id (parseP s)
def litA (s : ByteArray) : Lit × Int × Int := ansP Lit.z litOf (parseLitP s)
abbrev pparseS : Fs := .pureIf (g1p aStr fun s => (s.size : Int) ≤ 9223372036854775807) (g1 aStr fun s => .tup [(clauseA s).1.av, vI (clauseA s).2.1, vI (clauseA s).2.2])
abbrev pparseLitS : Fs := .pureIf (g1p aStr fun s => (s.size : Int) ≤ 9223372036854775807) (g1 aStr fun s => .tup [(litA s).1.av, vI (litA s).2.1, vI (litA s).2.2])
theorem pparse_ok : FsOk Tryd.prog 39 pparseS := by
 refine of_hold Tryd.func39 rfl (by kernel_rfl) ?_
 intro args r c h n w vals hp hg hw hl hr
 obtain ⟨x, s, rfl, hx, rfl⟩ := g1_eq hg
 have hp := hp s hx
 obtain rfl := aStr_eq hx
 match vals, hl with
 | [v], _ =>
   have hv := hr 0 v _ rfl rfl
   obtain rfl := cval_rep hv rfl
   refine (parse_calls s w (by unfold maxLen; omega)).mono fun e w' hq => ?_
   unfold clauseA
   cases hE : parseP s with
   | error q =>
     obtain ⟨p, x⟩ := q
     rw [hE] at hq
     obtain ⟨rfl, hb⟩ := hq
     exact ⟨_, rfl, hb, tup3_rep (.agg _ _ rfl (rep_cons (rep_v _ rfl) (rep_cons (rep_v _ rfl) (rep_cons (rep_v _ rfl) (rep_cons (rep_v _ rfl) (rep_cons (rep_v _ rfl) (rep_cons (rep_nilsl 3) (rep_cons (rep_nilsl 6) rep_nil)))))))) _ _⟩
   | ok q =>
     rw [hE] at hq
     obtain ⟨⟨av, bv, rfl, ha, hb⟩, hbel⟩ := hq
     exact ⟨_, rfl, hbel, tup3_rep (clause_rep (term_row ha) (lit_row hb)) _ _⟩
theorem pparseLit_ok : FsOk Tryd.prog 53 pparseLitS := by
 refine of_hold Tryd.func53 rfl (by kernel_rfl) ?_
 intro args r c h n w vals hp hg hw hl hr
 obtain ⟨x, s, rfl, hx, rfl⟩ := g1_eq hg
 have hp := hp s hx
 obtain rfl := aStr_eq hx
 match vals, hl with
 | [v], _ =>
   have hv := hr 0 v _ rfl rfl
   obtain rfl := cval_rep hv rfl
   refine (parseLit_calls s w (by unfold maxLen; omega)).mono fun e w' hq => ?_
   unfold litA
   cases hE : parseLitP s with
   | error q =>
     obtain ⟨p, x⟩ := q
     rw [hE] at hq
     obtain ⟨rfl, hb⟩ := hq
     exact ⟨_, rfl, hb, tup3_rep (.agg _ _ rfl (rep_cons (rep_v _ rfl) (rep_cons (rep_v _ rfl) (rep_cons (rep_v _ rfl) (rep_cons (rep_v _ rfl) (rep_cons (rep_v _ rfl) (rep_cons (rep_nilsl 3) rep_nil))))))) _ _⟩
   | ok q =>
     rw [hE] at hq
     obtain ⟨⟨av, rfl, ha⟩, hbel⟩ := hq
     exact ⟨_, rfl, hbel, tup3_rep (lit_rep (q := litOf q) (term_row ha)) _ _⟩
end Go.Proofs.YtfhpecgknmfnnaaDoor.M
end
section
namespace Go.Proofs.YtfhpecgknmfnnaaDoor.M
open Go.RowKit Go.Proofs.YtfhpecgknmfnnaaDoorW.PrintWords
section
variable {β : Type} {ok : Int → Int → Prop}
def Tw (ok : Int → Int → Prop) : Except (Int × Int) β → Except (Int × Int) β → Prop
 | .error (p, e), .error (p', e') => e = e' ∧ ok p p'
 | .ok a, .ok b => a = b
 | _, _ => False
theorem Tw.or {r r' : Except (Int × Int) β} (h : Tw ok r r') : (∃ p p' e, r = .error (p, e) ∧ r' = .error (p', e) ∧ ok p p') ∨ ∃ b, r = .ok b ∧ r' = .ok b := by
 rcases r with ⟨p, e⟩ | b <;> rcases r' with ⟨p', e'⟩ | b'
 · obtain ⟨rfl, h⟩ := h
   exact .inl ⟨p, p', e, rfl, rfl, h⟩
 · exact h.elim
 · exact h.elim
 · have h : b = b' := h
   exact .inr ⟨b, rfl, by rw [h]⟩
theorem Tw.err {p p' e : Int} (h : ok p p') : Tw ok (.error (p, e) : Except (Int × Int) β) (.error (p', e)) := ⟨rfl, h⟩
theorem Tw.same (b : β) : Tw ok (.ok b) (.ok b) := rfl
end
structure Twin (ok : Int → Int → Prop) (T : List Tok) (s : ByteArray) (T' : List Tok) (s' : ByteArray) : Prop where
 k : ∀ n, kindT T' n = kindT T n
 x : ∀ n, textT T' s' n = textT T s n
 i : ∀ n y, isT T' s' n y = isT T s n y
 p : ∀ n, ok (posOf T s n) (posOf T' s' n)
section
variable {ok : Int → Int → Prop} {T T' : List Tok} {s s' : ByteArray} (h : Twin ok T s T' s')
include h
theorem take_tw (ks : List Int) (n : Nat) : Tw ok (takeP T s ks n) (takeP T' s' ks n) := by
 unfold takeP
 rw [h.k, h.x]
 split
 · exact Tw.same _
 · exact Tw.err (h.p n)
theorem need_tw (x : ByteArray) (n : Nat) : Tw ok (needP T s x n) (needP T' s' x n) := by
 unfold needP
 rw [h.i]
 split
 · exact Tw.same _
 · exact Tw.err (h.p n)
theorem term_tw (n : Nat) : Tw ok (termP T s n) (termP T' s' n) := by
 unfold termP
 rw [h.k]
 rcases (take_tw h [1, 2, 3] n).or with ⟨p, p', e, h1, h2, hq⟩ | ⟨⟨x, m⟩, h1, h2⟩ <;> rw [h1, h2]
 · exact Tw.err hq
 · exact Tw.same _
theorem tail_tw {α : Type} {one one' : Nat → PR α} (ho : ∀ n, Tw ok (one n) (one' n)) : ∀ r m : Nat, Tw ok (tailP T s one r m) (tailP T' s' one' r m)
 | 0, m => by
   unfold tailP
   rw [h.i]
   split
   · exact Tw.err (h.p m)
   · exact Tw.same _
 | r + 1, m => by
   unfold tailP
   rw [h.i]
   split
   · rcases (ho (m + 1)).or with ⟨p, p', e, h1, h2, hq⟩ | ⟨⟨x, k⟩, h1, h2⟩ <;> rw [h1, h2]
     · exact Tw.err hq
     · rcases (tail_tw ho r k).or with ⟨p, p', e, h3, h4, hq⟩ | ⟨⟨y, j⟩, h3, h4⟩ <;> simp only [h3, h4]
       · exact Tw.err hq
       · exact Tw.same _
   · exact Tw.same _
theorem list_tw {α : Type} {one one' : Nat → PR α} (ho : ∀ n, Tw ok (one n) (one' n)) (most n : Nat) : Tw ok (listP T s one most n) (listP T' s' one' most n) := by
 unfold listP
 rcases (ho n).or with ⟨p, p', e, h1, h2, hq⟩ | ⟨⟨x, k⟩, h1, h2⟩ <;> rw [h1, h2]
 · exact Tw.err hq
 · rcases (tail_tw h ho (most - 1) k).or with ⟨p, p', e, h3, h4, hq⟩ | ⟨⟨y, j⟩, h3, h4⟩ <;> simp only [h3, h4]
   · exact Tw.err hq
   · exact Tw.same _
theorem atom_tw (n : Nat) : Tw ok (atomP T s n) (atomP T' s' n) := by
 unfold atomP
 rcases (take_tw h [1] n).or with ⟨p, p', e, h1, h2, hq⟩ | ⟨⟨x, m⟩, h1, h2⟩ <;> rw [h1, h2]
 · exact Tw.err hq
 · simp only [h.i]
   split
   · rcases (list_tw h (term_tw h) 4 (m + 1)).or with ⟨p, p', e, h3, h4, hq⟩ | ⟨⟨y, j⟩, h3, h4⟩ <;> rw [h3, h4]
     · exact Tw.err hq
     · rcases (need_tw h closes j).or with ⟨p, p', e, h5, h6, hq⟩ | ⟨⟨u, i⟩, h5, h6⟩ <;> simp only [h5, h6]
       · exact Tw.err hq
       · exact Tw.same _
   · exact Tw.same _
theorem said_tw (n : Nat) : Tw ok (saidP T s n) (saidP T' s' n) := by
 unfold saidP
 rw [show speaks T' s' n = speaks T s n by unfold speaks; rw [h.k, h.i]]
 split
 · rcases (term_tw h n).or with ⟨p, p', e, h1, h2, hq⟩ | ⟨⟨x, m⟩, h1, h2⟩ <;> rw [h1, h2]
   · exact Tw.err hq
   · rcases (need_tw h says m).or with ⟨p, p', e, h3, h4, hq⟩ | ⟨⟨u, i⟩, h3, h4⟩ <;> simp only [h3, h4]
     · exact Tw.err hq
     · rcases (atom_tw h i).or with ⟨p, p', e, h5, h6, hq⟩ | ⟨⟨u, i⟩, h5, h6⟩ <;> simp only [h5, h6]
       · exact Tw.err hq
       · exact Tw.same _
 · rcases (atom_tw h n).or with ⟨p, p', e, h5, h6, hq⟩ | ⟨⟨u, i⟩, h5, h6⟩ <;> rw [h5, h6]
   · exact Tw.err hq
   · exact Tw.same _
theorem pair_tw (k : Int) (a : Term) (m : Nat) : Tw ok (pairP T s k a m) (pairP T' s' k a m) := by
 unfold pairP
 rcases (term_tw h (m + 1)).or with ⟨p, p', e, h1, h2, hq⟩ | ⟨⟨x, m⟩, h1, h2⟩ <;> rw [h1, h2]
 · exact Tw.err hq
 · exact Tw.same _
theorem saidL_tw (k : Int) (n : Nat) : Tw ok (saidL k (saidP T s n)) (saidL k (saidP T' s' n)) := by
 rcases (said_tw h n).or with ⟨p, p', e, h1, h2, hq⟩ | ⟨⟨⟨x, y, z⟩, m⟩, h1, h2⟩ <;> rw [h1, h2]
 · exact Tw.err hq
 · exact Tw.same _
theorem literal_tw (n : Nat) : Tw ok (literalP T s n) (literalP T' s' n) := by
 unfold literalP
 rw [h.i, show compares T' s' n = compares T s n by unfold compares; simp only [h.k, h.i]]
 split
 · exact saidL_tw h 2 _
 · split
   · rcases (term_tw h n).or with ⟨p, p', e, h1, h2, hq⟩ | ⟨⟨x, m⟩, h1, h2⟩ <;> rw [h1, h2]
     · exact Tw.err hq
     · simp only [h.i]
       split
       · exact pair_tw h _ _ _
       · split
         · exact pair_tw h _ _ _
         · exact Tw.err (h.p m)
   · exact saidL_tw h 1 _
theorem body_tw (n : Nat) : Tw ok (bodyP T s n) (bodyP T' s' n) := by
 unfold bodyP
 rw [h.i]
 split
 · exact list_tw h (literal_tw h) 6 _
 · exact Tw.same _
theorem clause_tw (n : Nat) : Tw ok (clauseP T s n) (clauseP T' s' n) := by
 unfold clauseP
 rcases (atom_tw h n).or with ⟨p, p', e, h1, h2, hq⟩ | ⟨⟨⟨x, ts⟩, m⟩, h1, h2⟩ <;> rw [h1, h2]
 · exact Tw.err hq
 · rcases (body_tw h m).or with ⟨p, p', e, h3, h4, hq⟩ | ⟨⟨y, j⟩, h3, h4⟩ <;> simp only [h3, h4]
   · exact Tw.err hq
   · rcases (need_tw h dot j).or with ⟨p, p', e, h5, h6, hq⟩ | ⟨⟨u, i⟩, h5, h6⟩ <;> simp only [h5, h6]
     · exact Tw.err hq
     · exact Tw.same _
end
theorem run_tw {α : Type} {ok : Int → Int → Prop} {s s' : ByteArray} {one one' : List Tok → Nat → PR α} (h : Twin ok (allT s).1 s (allT s').1 s') (hl : (allT s').1.length = (allT s).1.length) (he : (allT s').2.2 = (allT s).2.2)
 (hp : (allT s).2.2 ≠ 0 → ok (allT s).2.1 (allT s').2.1) (ho : Tw ok (one (allT s).1 0) (one' (allT s').1 0)) : Tw ok (runP s one) (runP s' one') := by
 unfold runP
 rw [he]
 split
 · rename_i hc
   exact Tw.err (hp (by simpa using hc))
 · rcases ho.or with ⟨p, p', e, h1, h2, hq⟩ | ⟨⟨x, m⟩, h1, h2⟩ <;> rw [h1, h2]
   · exact Tw.err hq
   · simp only [hl]
     split
     · exact Tw.err (h.p m)
     · exact Tw.same _
theorem parse_tw {ok : Int → Int → Prop} {s s' : ByteArray} (h : Twin ok (allT s).1 s (allT s').1 s') (hl : (allT s').1.length = (allT s).1.length) (he : (allT s').2.2 = (allT s).2.2)
 (hp : (allT s).2.2 ≠ 0 → ok (allT s).2.1 (allT s').2.1) : (ansP Clause.z id (parseP s')).1 = (ansP Clause.z id (parseP s)).1 ∧ (ansP Clause.z id (parseP s')).2.2 = (ansP Clause.z id (parseP s)).2.2 ∧
   ((ansP Clause.z id (parseP s)).2.2 ≠ 0 → ok (ansP Clause.z id (parseP s)).2.1 (ansP Clause.z id (parseP s')).2.1) := by
 have hr : Tw ok (parseP s) (parseP s') := run_tw h hl he hp (clause_tw h 0)
 rcases hr.or with ⟨p, p', e, h1, h2, hq⟩ | ⟨b, h1, h2⟩ <;> rw [h1, h2]
 · exact ⟨rfl, rfl, fun _ => hq⟩
 · exact ⟨rfl, rfl, fun hc => absurd rfl hc⟩
theorem bytesOf_append (a b : ByteArray) : bytesOf (a ++ b) = bytesOf a ++ bytesOf b := by
 unfold bytesOf
 rw [ByteArray.data_append, Array.toList_append, List.map_append]
theorem bt_list (s : ByteArray) (p : Nat) : bt s p = (bytesOf s).getD p 0 := by
 rw [← rd_bytesOf]
 rfl
theorem bt_right (a s : ByteArray) (p : Nat) : bt (a ++ s) ((p + a.size : Nat) : Int) = bt s p := by
 rw [bt_list, bt_list, bytesOf_append]
 rw [List.getD_eq_getElem?_getD, List.getD_eq_getElem?_getD, List.getElem?_append_right (by rw [bytesOf_length]; omega), bytesOf_length, Nat.add_sub_cancel]
theorem bt_left (s t : ByteArray) (p : Nat) (h : p < s.size) : bt (s ++ t) (p : Int) = bt s p := by
 rw [bt_list, bt_list, bytesOf_append]
 rw [List.getD_eq_getElem?_getD, List.getD_eq_getElem?_getD, List.getElem?_append_left (by rw [bytesOf_length]; exact h)]
theorem cut_right (a s : ByteArray) (p q : Nat) : (a ++ s).extract (p + a.size) (q + a.size) = s.extract p q := by
 rw [Nat.add_comm p, Nat.add_comm q]
 exact ByteArray.extract_append_size_add
theorem cut_left (s t : ByteArray) (p q : Nat) (h : q ≤ s.size) : (s ++ t).extract p q = s.extract p q := by
 rw [ByteArray.extract_append, show q - s.size = 0 by omega]
 apply ByteArray.ext
 simp
theorem runTo_right (a s : ByteArray) (p : Nat) : runTo (a ++ s) (p + a.size) = runTo s p + a.size := by
 unfold runTo
 rw [bytesOf_append, List.drop_append, bytesOf_length, Nat.add_sub_cancel, List.drop_eq_nil_of_le (by rw [bytesOf_length]; omega), List.nil_append]
 omega
def shT (k : Nat) (t : Tok) : Tok := ⟨t.kind, t.lo + k, t.hi + k⟩
def shR (k : Nat) (r : Tok × Int) : Tok × Int := if r.2 = 0 then (shT k r.1, 0) else (Tok.z, r.2)
theorem piece_right (a s : ByteArray) (p q : Nat) : pieceTok (a ++ s) (p + a.size) (q + a.size) = shR a.size (pieceTok s p q) := by
 unfold pieceTok
 rw [cut_right]
 by_cases h : sortK (s.extract p q) = 0
 · rw [if_pos h, if_pos h]
   rfl
 · rw [if_neg h, if_neg h]
   rw [show ((p + a.size : Nat) : Int) = (p : Int) + a.size by omega, show ((q + a.size : Nat) : Int) = (q : Int) + a.size by omega]
   rfl
theorem nxt_right (a s : ByteArray) (p : Nat) : nxt (a ++ s) (p + a.size) = nxt s p := by
 unfold nxt
 rw [ByteArray.size_append, show p + a.size + 1 = (p + 1) + a.size by omega, bt_right]
 by_cases h : p + 1 < s.size
 · rw [if_pos h, if_pos (by omega)]
 · rw [if_neg h, if_neg (by omega)]
theorem one_right (a s : ByteArray) (p : Nat) : oneT (a ++ s) (p + a.size) = shR a.size (oneT s p) := by
 unfold oneT
 by_cases hp : s.size ≤ p
 · rw [if_pos hp, if_pos (by rw [ByteArray.size_append]; omega)]
   rfl
 rw [if_neg hp, if_neg (by rw [ByteArray.size_append]; omega)]
 rw [nxt_right, bt_right, show p + a.size + 1 = (p + 1) + a.size by omega, runTo_right, piece_right]
 have e1 : ((p + a.size : Nat) : Int) = (p : Int) + a.size := by omega
 simp only [e1]
 generalize bt s p = c
 cases c1 : (c == 32 || c == 9)
 · cases c2 : c == 45
   · cases c3 : pieceB c
     · cases c4 : (c == 40 || c == 41 || c == 44 || c == 46 || c == 60)
       · cases c5 : ((c == 33 && nxt s p == 61) || (c == 58 && nxt s p == 45))
         · rfl
         · rw [show (p : Int) + a.size + 2 = (p : Int) + 2 + a.size by omega]
           rfl
       · rw [show (p : Int) + a.size + 1 = (p : Int) + 1 + a.size by omega]
         rfl
     · rfl
   · cases digB (nxt s p)
     · rfl
     · rfl
 · rfl
theorem all_right (a s : ByteArray) : ∀ (f p : Nat) (acc : List Tok), allGo (a ++ s) f (p + a.size) (acc.map (shT a.size)) =
 ((allGo s f p acc).1.map (shT a.size), if (allGo s f p acc).2.2 = 0 then 0 else (allGo s f p acc).2.1 + a.size, (allGo s f p acc).2.2)
 | 0, p, acc => rfl
 | f + 1, p, acc => by
   unfold allGo
   rw [one_right]
   by_cases hp : s.size ≤ p
   · rw [if_pos hp, if_pos (by rw [ByteArray.size_append]; omega)]
     rfl
   rw [if_neg hp, if_neg (by rw [ByteArray.size_append]; omega)]
   by_cases h0 : (oneT s p).2 = 0
   · have hk := oneT_ok s p h0
     have e1 : (shR a.size (oneT s p)).2 = 0 := by unfold shR; rw [if_pos h0]
     have e2 : (shR a.size (oneT s p)).1 = shT a.size (oneT s p).1 := by unfold shR; rw [if_pos h0]
     rw [e1, e2, h0, if_neg (by decide), if_pos rfl, if_neg (by decide), if_pos rfl]
     have := all_right a s f (oneT s p).1.hi.toNat (acc ++ [(oneT s p).1])
     rw [List.map_append] at this
     rw [show (shT a.size (oneT s p).1).hi.toNat = (oneT s p).1.hi.toNat + a.size by show ((oneT s p).1.hi + a.size).toNat = _; omega]
     exact this
   · have e1 : (shR a.size (oneT s p)).2 = (oneT s p).2 := by unfold shR; rw [if_neg h0]
     rw [e1]
     by_cases h4 : (oneT s p).2 = 4
     · rw [if_pos h4, if_pos h4, show p + a.size + 1 = (p + 1) + a.size by omega]
       exact all_right a s f (p + 1) acc
     · rw [if_neg h4, if_neg h4, if_neg h0, if_neg h0]
       simp only [h0, if_false, List.map_nil, Prod.mk.injEq, true_and, and_true]
       omega
theorem tok_ahead (a s : ByteArray) (t : Tok) (h0 : 0 ≤ t.lo) (h1 : 0 ≤ t.hi) : tokS (a ++ s) (shT a.size t) = tokS s t := by
 unfold tokS shT
 show (a ++ s).extract (t.lo + a.size).toNat (t.hi + a.size).toNat = _
 rw [show (t.lo + a.size).toNat = t.lo.toNat + a.size by omega, show (t.hi + a.size).toNat = t.hi.toNat + a.size by omega, cut_right]
theorem twin_ahead (a s : ByteArray) (T : List Tok) (hT : TokOk s T) : Twin (fun p p' => p' = p + a.size) T s (T.map (shT a.size)) (a ++ s) := by
 have hx : ∀ n t, T[n]? = some t → tokS (a ++ s) (shT a.size t) = tokS s t := fun n t h => by
  have := hT.2 t (List.mem_of_getElem? h)
  exact tok_ahead a s t (by omega) (by omega)
 refine ⟨fun n => ?_, fun n => ?_, fun n y => ?_, fun n => ?_⟩
 · unfold kindT
   rw [List.getElem?_map]
   cases h : T[n]? with
   | none => rfl
   | some t => rfl
 · unfold textT
   rw [List.getElem?_map]
   cases h : T[n]? with
   | none => rfl
   | some t => exact hx n t h
 · unfold isT
   rw [List.getElem?_map]
   cases h : T[n]? with
   | none => rfl
   | some t => show ((tokS (a ++ s) (shT a.size t)).toList == y.toList) = _; rw [hx n t h]
 · unfold posOf
   rw [List.getElem?_map]
   cases h : T[n]? with
   | none => show ((a ++ s).size : Int) = s.size + a.size; rw [ByteArray.size_append]; omega
   | some t => rfl
theorem pos_range {s : ByteArray} {T : List Tok} (hT : TokOk s T) (n : Nat) : 0 ≤ posOf T s n ∧ posOf T s n ≤ s.size := by
 unfold posOf
 cases h : T[n]? with
 | none => exact ⟨Int.natCast_nonneg _, Int.le_refl _⟩
 | some t =>
   have := hT.2 t (List.mem_of_getElem? h)
   show 0 ≤ t.lo ∧ t.lo ≤ s.size
   exact ⟨this.1, by omega⟩
theorem go_range (s : ByteArray) : ∀ (f p : Nat) (acc : List Tok), p ≤ s.size → 0 ≤ (allGo s f p acc).2.1 ∧ (allGo s f p acc).2.1 ≤ s.size
 | 0, p, acc, h => ⟨Int.le_refl 0, Int.natCast_nonneg _⟩
 | f + 1, p, acc, h => by
   unfold allGo
   split
   · exact ⟨Int.le_refl 0, Int.natCast_nonneg _⟩
   · split
     · exact go_range s f (p + 1) acc (by omega)
     · split
       · rename_i h0
         have := oneT_ok s p h0
         exact go_range s f _ _ (by omega)
       · exact ⟨Int.natCast_nonneg _, Int.ofNat_le.2 h⟩
theorem all_range (s : ByteArray) (_ : (allT s).2.2 ≠ 0) : 0 ≤ (allT s).2.1 ∧ (allT s).2.1 ≤ s.size := by
 unfold allT
 split
 · exact ⟨Int.le_refl 0, Int.natCast_nonneg _⟩
 · exact go_range s _ 0 [] (Nat.zero_le _)
theorem parseLit_tw {ok : Int → Int → Prop} {s s' : ByteArray} (h : Twin ok (allT s).1 s (allT s').1 s') (hl : (allT s').1.length = (allT s).1.length) (he : (allT s').2.2 = (allT s).2.2)
 (hp : (allT s).2.2 ≠ 0 → ok (allT s).2.1 (allT s').2.1) : (ansP Lit.z litOf (parseLitP s')).1 = (ansP Lit.z litOf (parseLitP s)).1 ∧ (ansP Lit.z litOf (parseLitP s')).2.2 = (ansP Lit.z litOf (parseLitP s)).2.2 ∧
   ((ansP Lit.z litOf (parseLitP s)).2.2 ≠ 0 → ok (ansP Lit.z litOf (parseLitP s)).2.1 (ansP Lit.z litOf (parseLitP s')).2.1) := by
 have hr : Tw ok (parseLitP s) (parseLitP s') := run_tw h hl he hp (said_tw h 0)
 rcases hr.or with ⟨p, p', e, h1, h2, hq⟩ | ⟨b, h1, h2⟩ <;> rw [h1, h2]
 · exact ⟨rfl, rfl, fun _ => hq⟩
 · exact ⟨rfl, rfl, fun hc => absurd rfl hc⟩
theorem twin_range (s : ByteArray) : Twin (fun p _ => 0 ≤ p ∧ p ≤ s.size) (allT s).1 s (allT s).1 s := ⟨fun _ => rfl, fun _ => rfl, fun _ _ => rfl, fun n => pos_range (allT_ok s) n⟩
end Go.Proofs.YtfhpecgknmfnnaaDoor.M
end
section
namespace Go.Proofs.YtfhpecgknmfnnaaDoor.M
open Go.R
abbrev wAssert : ByteArray := (⟨#[97, 115, 115, 101, 114, 116]⟩ : ByteArray)
abbrev wRevoke : ByteArray := (⟨#[114, 101, 118, 111, 107, 101]⟩ : ByteArray)
abbrev wQuery : ByteArray := (⟨#[113, 117, 101, 114, 121]⟩ : ByteArray)
abbrev wProve : ByteArray := (⟨#[112, 114, 111, 118, 101]⟩ : ByteArray)
abbrev wAudit : ByteArray := (⟨#[97, 117, 100, 105, 116]⟩ : ByteArray)
abbrev wFor : ByteArray := (⟨#[102, 111, 114]⟩ : ByteArray)
abbrev restS (s : ByteArray) (p : Int) : ByteArray := s.extract p.toNat s.size
def longB (T : List Tok) (s : ByteArray) : Bool := (wordB T s 2 1).toList == wFor.toList && decide (0 < (wordB T s 3 3).size)
def asAns (label : ByteArray) (life from_ : Int) (r : Clause × Int × Int) : Req × Int × Int := if (r.2.2 != 0) = true then (Req.z, from_ + r.2.1, r.2.2) else (⟨1, label, life, r.1, 0, Lit.z⟩, 0, 0)
def asT (T : List Tok) (s : ByteArray) : Req × Int × Int :=
 if ((wordB T s 1 1).size == 0) = true then (Req.z, posOf T s 1, 6)
 else if longB T s = true then (if (numB (wordB T s 3 3) == 0) = true then (Req.z, posOf T s 3, 6) else asAns (wordB T s 1 1) (numB (wordB T s 3 3)) (posOf T s 4) (clauseA (restS s (posOf T s 4))))
 else asAns (wordB T s 1 1) 0 (posOf T s 2) (clauseA (restS s (posOf T s 2)))
def reT (T : List Tok) (s : ByteArray) : Req × Int × Int :=
 if (numB (wordB T s 1 3) == 0) = true then (Req.z, posOf T s 1, 6) else if decide (2 < T.length) = true then (Req.z, posOf T s 2, 6) else (⟨2, noStr, 0, Clause.z, numB (wordB T s 1 3), Lit.z⟩, 0, 0)
def liT (k : Int) (T : List Tok) (s : ByteArray) : Req × Int × Int :=
 if ((litA (restS s (posOf T s 1))).2.2 != 0) = true then (Req.z, posOf T s 1 + (litA (restS s (posOf T s 1))).2.1, (litA (restS s (posOf T s 1))).2.2) else (⟨k, noStr, 0, Clause.z, 0, (litA (restS s (posOf T s 1))).1⟩, 0, 0)
def auT (T : List Tok) (s : ByteArray) : Req × Int × Int := if decide (1 < T.length) = true then (Req.z, posOf T s 1, 6) else (⟨5, noStr, 0, Clause.z, 0, Lit.z⟩, 0, 0)
def reqT (T : List Tok) (s : ByteArray) : Req × Int × Int :=
 if ((wordB T s 0 1).toList == wAssert.toList) = true then asT T s
 else if ((wordB T s 0 1).toList == wRevoke.toList) = true then reT T s
 else if ((wordB T s 0 1).toList == wQuery.toList) = true then liT 3 T s
 else if ((wordB T s 0 1).toList == wProve.toList) = true then liT 4 T s
 else if ((wordB T s 0 1).toList == wAudit.toList) = true then auT T s
 else (Req.z, posOf T s 0, 6)
def reqA (s : ByteArray) : Req × Int × Int := if ((allT s).2.2 != 0) = true then (Req.z, (allT s).2.1, (allT s).2.2) else reqT (allT s).1 s
theorem rest_size (s : ByteArray) (p : Int) : (restS s p).size ≤ s.size := by simp [restS]
theorem rest_le {s : ByteArray} {p : Int} (h : 0 ≤ p ∧ p ≤ s.size) : ((restS s p).size : Int) = s.size - p := by
 have : (restS s p).size = s.size - p.toNat := by simp [restS]
 omega
end Go.Proofs.YtfhpecgknmfnnaaDoor.M
end
section
namespace Go.Proofs.YtfhpecgknmfnnaaDoor.M
open Go.R Go.RowKit
open Go.Proofs.YtfhpecgknmfnnaaDoorW.PrintWords Go.Proofs.YtfhpecgknmfnnaaDoorW.PrintMore
theorem rep_val {c : Cx} {w : World} {h : AH} (s : ByteArray) (n : Int) : ARep c h w (.agg #[.string s, .int .i64 n]) (.agg [vS s, vI n]) := .agg _ _ rfl (rep_cons (rep_v _ rfl) (rep_cons (rep_v _ rfl) rep_nil))
theorem pread_ok : FsOk Tryd.prog 54 (.pureIf (fun _ => True) (g1 aStr fun s => .tup [Val.av (readV s).1, vB (readV s).2])) := by
 refine of_hold Tryd.func54 rfl (by kernel_rfl) ?_
 intro args r c h n w vals hp hg hw hl hr
 obtain ⟨x, s, rfl, hx, rfl⟩ := g1_eq hg
 obtain rfl := aStr_eq hx
 match vals, hl with
 | [v], _ =>
   have hv := hr 0 v _ rfl rfl
   obtain rfl := cval_rep hv rfl
   refine (read_calls s w).mono fun e w' hq => ?_
   obtain ⟨rfl, hb⟩ := hq
   exact ⟨_, rfl, hb, .tup _ _ rfl (rep_cons (rep_val _ _) (rep_cons (rep_v _ rfl) rep_nil))⟩
theorem tok_row {ok : Nat → Prop} {v : Value} {xs : List Tok} {c : Cx} {w w' : World} (hR : Kd.R kTok 72 w' w.heap.size ok v xs) : DRep (c.hold w w') w' v (.sl 3 (xs.map Tok.cells)) := by
 refine kd_row (d := kTok) Tok.cells hR (fun _ => rfl) fun t cs ok hM j u y hu hy => ?_
 obtain ⟨_, _, rfl, rfl, _, _, rfl, rfl, rfl⟩ := hM
 match j with
 | 0 => simp [Tok.cells] at hu hy; subst hu; subst hy; exact .v _ rfl
 | 1 => simp [Tok.cells] at hu hy; subst hu; subst hy; exact .v _ rfl
 | 2 => simp [Tok.cells] at hu hy; subst hu; subst hy; exact .v _ rfl
 | j + 3 => simp [Tok.cells] at hy
abbrev pallS : Fs := .pureIf (g1p aStr fun s => (s.size : Int) ≤ 9223372036854775807) (g1 aStr fun s => .tup [.d (.sl 3 ((allT s).1.map Tok.cells)), vI (allT s).2.1, vI (allT s).2.2])
theorem pall_ok : FsOk Tryd.prog 17 pallS := by
 refine of_hold Tryd.func17 rfl (by kernel_rfl) ?_
 intro args r c h n w vals hp hg hw hl hr
 obtain ⟨x, s, rfl, hx, rfl⟩ := g1_eq hg
 have hp := hp s hx
 obtain rfl := aStr_eq hx
 match vals, hl with
 | [v], _ =>
   have hv := hr 0 v _ rfl rfl
   obtain rfl := cval_rep hv rfl
   refine (all_calls s w (by unfold maxLen; omega)).mono fun e w' hq => ?_
   obtain ⟨⟨v, rfl, hk⟩, hb⟩ := hq
   exact ⟨_, rfl, hb, tup3_rep (.d _ _ (tok_row hk)) _ _⟩
structure Rq where
 s : ByteArray
 T : List Tok
def Rq.bx (R : Rq) : List AV := [vS R.s, .d (.sl 3 (R.T.map Tok.cells))]
def dRq : List AV → Option Rq
 | [.d (.v (.string s)), .d (.sl 3 xs)] => match dRows cTok xs with
   | some T => some ⟨s, T⟩
   | none => none
 | _ => none
theorem dRq_eq {cs : List AV} {R : Rq} (h : dRq cs = some R) : cs = R.bx := by
 unfold dRq at h
 split at h
 · rename_i xs
   cases hx : dRows cTok xs with
   | none => simp [hx] at h
   | some T =>
     simp only [hx] at h
     cases h
     obtain rfl := dRows_eq (fun c x => cTok_eq) hx
     rfl
 · cases h
def obRq : Ob Rq := ⟨Rq.bx, dRq, fun _ _ => dRq_eq, fun n R => by simp [Rq.bx, ltL, AV.lt]⟩
@[go_sem] theorem obRq_bx (R : Rq) : obRq.bx R = [vS R.s, .d (.sl 3 (R.T.map Tok.cells))] := rfl
@[go_sem] theorem obRq_dec (s : ByteArray) (T : List Tok) : obRq.dec [.d (.v (.string s)), .d (.sl 3 (T.map Tok.cells))] = some ⟨s, T⟩ := by
  simp only [obRq, dRq, dToks]
@[go_sem] theorem Rq.eta (R : Rq) : Rq.mk R.s R.T = R := rfl
def rqP (R : Rq) : List AV → Prop
 | .d (.v (.int .i64 k)) :: _ => toksP R.s R.T k
 | _ => True
def atG (R : Rq) : List AV → Option AV
 | [.d (.v (.int .i64 k))] => some (vI (posOf R.T R.s k.toNat))
 | _ => none
abbrev atS : Fs := obQ obRq rqP atG
def rtextG (R : Rq) : List AV → Option AV
 | [.d (.v (.int .i64 k)), .d (.v (.int .u8 c))] => some (vS (wordB R.T R.s k.toNat c))
 | _ => none
abbrev rtextS : Fs := obQ obRq rqP rtextG
def numG (R : Rq) : List AV → Option AV
 | [.d (.v (.int .i64 k))] => some (vI (numB (wordB R.T R.s k.toNat 3)))
 | _ => none
abbrev pnumS : Fs := obQ obRq rqP numG
def litAt (T : List Tok) (s : ByteArray) (k : Nat) : Lit × Int × Int := litA (restS s (posOf T s k))
def rsaidG (R : Rq) : List AV → Option AV
 | [.d (.v (.int .i64 k))] => some (.tup [(litAt R.T R.s k.toNat).1.av, vI (posOf R.T R.s k.toNat + (litAt R.T R.s k.toNat).2.1), vI (litAt R.T R.s k.toNat).2.2])
 | _ => none
abbrev rsaidS : Fs := obQ obRq rqP rsaidG
def endsT (R : Rq) (k : Nat) : Int × Int := if decide (k < R.T.length) = true then (posOf R.T R.s k, 6) else (0, 0)
def endsG (R : Rq) : List AV → Option AV
 | [.d (.v (.int .i64 k))] => some (.tup [vI (endsT R k.toNat).1, vI (endsT R k.toNat).2])
 | _ => none
abbrev endsS : Fs := obQ obRq rqP endsG
attribute [go_sem] rqP atG rtextG numG rsaidG endsG
theorem litA_rng (s : ByteArray) : 0 ≤ (litA s).2.1 ∧ (litA s).2.1 ≤ s.size := by
 have hr : Tw (fun p _ => 0 ≤ p ∧ p ≤ s.size) (parseLitP s) (parseLitP s) := run_tw (twin_range s) rfl rfl (fun hc => all_range s hc) (said_tw (twin_range s) 0)
 unfold litA
 rcases hr.or with ⟨p, p', e, h1, h2, hq⟩ | ⟨b, h1, h2⟩ <;> rw [h1]
 · exact hq
 · exact ⟨Int.le_refl 0, Int.natCast_nonneg _⟩
theorem clauseA_rng (s : ByteArray) : 0 ≤ (clauseA s).2.1 ∧ (clauseA s).2.1 ≤ s.size := by
 have hr : Tw (fun p _ => 0 ≤ p ∧ p ≤ s.size) (parseP s) (parseP s) := run_tw (twin_range s) rfl rfl (fun hc => all_range s hc) (clause_tw (twin_range s) 0)
 unfold clauseA
 rcases hr.or with ⟨p, p', e, h1, h2, hq⟩ | ⟨b, h1, h2⟩ <;> rw [h1]
 · exact hq
 · exact ⟨Int.le_refl 0, Int.natCast_nonneg _⟩
set_option maxRecDepth 20000 in
set_option maxHeartbeats 4000000 in
theorem at_ok : FsOk Tryd.prog 20 atS := by
 refine of_obQ (E := EqT.no _) (F := Ft.no) Tryd.func20 rfl (by kernel_rfl) [.tmp 4] rfl Tryd.ntmps20 (FtOk.no _) ?_
 intro R args r i h n hp hg hi hok
 unfold atG at hg
 split at hg
 · rename_i k0
   cases hg
   obtain ⟨hsz, hT, hk0, hk1⟩ := hp
   obtain ⟨k, rfl⟩ := Int.eq_ofNat_of_zero_le hk0
   have hkk : ((k : Nat) : Int).toNat = k := Int.toNat_natCast k
   refine ⟨[vI k], ⟨AV.le.refl _, trivial⟩, ⟨by decide, by simp⟩, ?_⟩
   have tk : toksP R.s R.T k := ⟨hsz, hT, hk0, hk1⟩
   rcases Nat.lt_or_ge k R.T.length with hkl | hkl
   · have hget : R.T[k]? = some R.T[k] := List.getElem?_eq_getElem hkl
     have hd : decide ((k : Int) < (R.T.length : Int)) = true := decide_eq_true (by omega)
     have hw : posOf R.T R.s k = R.T[k].lo := by unfold posOf; rw [hget]
     repeat' (first | (with_reducible first | refine XG_split (fun hq => ?_) (fun hq => ?_) | refine MX1.of 4000 (by simp) ?_ | refine MX2.of 4000 (by simp) ?_ | refine And.intro ?_ ?_) | ((with_reducible first | refine Or.inl (And.intro (And.intro mixedP ?_) ?_) | refine Or.inl (And.intro mixedP ?_)); kernel_rfl) | simp only [go_sem,Nat.reduceEqDiff,Nat.reduceAdd,Nat.reduceMul,Nat.reduceLeDiff,Int.reduceBEq,hkk,hd,hget,hw,Tok.cells,List.length_map,List.getElem?_map,Option.map_some])
     all_goals first | omega | (unfold maxLen; omega) | (right; omega) | (left; simp; done) | (simp only [wk3,wkL2,wk2,wkL,wk1_d,wk1_own,wk1_nil,and_self]; done) | (intro i hi; simp only [upd]; (repeat' split); all_goals first | rfl | omega) | skip
     all_goals first | (rw [hw]; exact wk3_eq rfl) | trace_state
   · have hd : decide ((k : Int) < (R.T.length : Int)) = false := decide_eq_false (by omega)
     have hw : posOf R.T R.s k = R.s.size := by unfold posOf; rw [List.getElem?_eq_none hkl]
     repeat' (first | (with_reducible first | refine XG_split (fun hq => ?_) (fun hq => ?_) | refine MX1.of 4000 (by simp) ?_ | refine MX2.of 4000 (by simp) ?_ | refine And.intro ?_ ?_) | ((with_reducible first | refine Or.inl (And.intro (And.intro mixedP ?_) ?_) | refine Or.inl (And.intro mixedP ?_)); kernel_rfl) | simp only [go_sem,Nat.reduceEqDiff,Nat.reduceAdd,Nat.reduceMul,Nat.reduceLeDiff,Int.reduceBEq,hkk,hd,hw,List.length_map])
     all_goals first | omega | (unfold maxLen; omega) | (right; omega) | (left; simp; done) | (simp only [wk3,wkL2,wk2,wkL,wk1_d,wk1_own,wk1_nil,and_self]; done) | (intro i hi; simp only [upd]; (repeat' split); all_goals first | rfl | omega) | skip
     all_goals first | (rw [hw]; exact wk3_eq rfl) | trace_state
 · cases hg
set_option maxRecDepth 20000 in
set_option maxHeartbeats 4000000 in
theorem rtext_ok : FsOk Tryd.prog 19 rtextS := by
 refine of_obQ (E := EqT.no _) (F := Ft.no) Tryd.func19 rfl (by kernel_rfl) [.tmp 6] rfl Tryd.ntmps19 (FtOk.no _) ?_
 intro R args r i h n hp hg hi hok
 unfold rtextG at hg
 split at hg
 · rename_i k0 c
   cases hg
   obtain ⟨hsz, hT, hk0, hk1⟩ := hp
   obtain ⟨k, rfl⟩ := Int.eq_ofNat_of_zero_le hk0
   have hkk : ((k : Nat) : Int).toNat = k := Int.toNat_natCast k
   refine ⟨[vI k, .d (.v (.int .u8 c))], ⟨AV.le.refl _, AV.le.refl _, trivial⟩, ⟨by decide, by simp⟩, ?_⟩
   have tk : toksP R.s R.T k := ⟨hsz, hT, hk0, hk1⟩
   rcases Nat.lt_or_ge k R.T.length with hkl | hkl
   · have hget : R.T[k]? = some R.T[k] := List.getElem?_eq_getElem hkl
     obtain ⟨h0, h1, h2⟩ := hT.2 R.T[k] (List.getElem_mem hkl)
     have hd : decide ((R.T.length : Int) ≤ k) = false := decide_eq_false (by omega)
     have hw : wordB R.T R.s k c = if R.T[k].kind == c then tokS R.s R.T[k] else noStr := by unfold wordB; rw [hget]
     cases hc : R.T[k].kind == c with
     | true =>
       rw [hc, if_pos rfl] at hw
       have hne : (R.T[k].kind != c) = false := by rw [bne, hc]; rfl
       repeat' (first | (with_reducible first | refine XG_split (fun hq => ?_) (fun hq => ?_) | refine MX1.of 4000 (by simp) ?_ | refine MX2.of 4000 (by simp) ?_ | refine And.intro ?_ ?_) | ((with_reducible first | refine Or.inl (And.intro (And.intro mixedP ?_) ?_) | refine Or.inl (And.intro mixedP ?_)); kernel_rfl) | simp only [go_sem,Nat.reduceEqDiff,Nat.reduceAdd,Nat.reduceMul,Nat.reduceLeDiff,Int.reduceBEq,hkk,hd,hget,hne,Tok.cells,List.length_map,List.getElem?_map,Option.map_some])
       all_goals first | omega | (unfold maxLen; omega) | (right; omega) | (left; simp; done) | (simp only [wk3,wkL2,wk2,wkL,wk1_d,wk1_own,wk1_nil,and_self]; done) | (intro i hi; simp only [upd]; (repeat' split); all_goals first | rfl | omega) | skip
       all_goals first | (rw [hw]; exact wk3_eq rfl) | (exfalso; simp_all; done) | trace_state
     | false =>
       rw [hc, if_neg (by decide)] at hw
       have hne : (R.T[k].kind != c) = true := by rw [bne, hc]; rfl
       repeat' (first | (with_reducible first | refine XG_split (fun hq => ?_) (fun hq => ?_) | refine MX1.of 4000 (by simp) ?_ | refine MX2.of 4000 (by simp) ?_ | refine And.intro ?_ ?_) | ((with_reducible first | refine Or.inl (And.intro (And.intro mixedP ?_) ?_) | refine Or.inl (And.intro mixedP ?_)); kernel_rfl) | simp only [go_sem,Nat.reduceEqDiff,Nat.reduceAdd,Nat.reduceMul,Nat.reduceLeDiff,Int.reduceBEq,hkk,hd,hget,hne,Tok.cells,List.length_map,List.getElem?_map,Option.map_some])
       all_goals first | omega | (unfold maxLen; omega) | (right; omega) | (left; simp; done) | (simp only [wk3,wkL2,wk2,wkL,wk1_d,wk1_own,wk1_nil,and_self]; done) | (intro i hi; simp only [upd]; (repeat' split); all_goals first | rfl | omega) | skip
       all_goals first | (rw [hw]; exact wk3_eq rfl) | (exfalso; simp_all; done) | trace_state
   · have hd : decide ((R.T.length : Int) ≤ k) = true := decide_eq_true (by omega)
     have hw : wordB R.T R.s k c = noStr := by unfold wordB; rw [List.getElem?_eq_none hkl]
     repeat' (first | (with_reducible first | refine XG_split (fun hq => ?_) (fun hq => ?_) | refine MX1.of 4000 (by simp) ?_ | refine MX2.of 4000 (by simp) ?_ | refine And.intro ?_ ?_) | ((with_reducible first | refine Or.inl (And.intro (And.intro mixedP ?_) ?_) | refine Or.inl (And.intro mixedP ?_)); kernel_rfl) | simp only [go_sem,Nat.reduceEqDiff,Nat.reduceAdd,Nat.reduceMul,Nat.reduceLeDiff,Int.reduceBEq,hkk,hd,hw,List.length_map])
     all_goals first | omega | (unfold maxLen; omega) | (right; omega) | (left; simp; done) | (simp only [wk3,wkL2,wk2,wkL,wk1_d,wk1_own,wk1_nil,and_self]; done) | (intro i hi; simp only [upd]; (repeat' split); all_goals first | rfl | omega) | skip
     all_goals first | (rw [hw]; exact wk3_eq rfl) | trace_state
 · cases hg
set_option maxRecDepth 20000 in
set_option maxHeartbeats 4000000 in
theorem pnum_ok : FsOk Tryd.prog 37 pnumS := by
 refine of_obQ (E := EqT.no _) (F := (Ft.no.put 19 rtextS).put 54 (.pureIf (fun _ => True) (g1 aStr fun s => .tup [Val.av (readV s).1, vB (readV s).2]))) Tryd.func37 rfl (by kernel_rfl) [.tmp 4] rfl Tryd.ntmps37 (((FtOk.no _).put rtext_ok).put pread_ok) ?_
 intro R args r i h n hp hg hi hok
 unfold numG at hg
 split at hg
 · rename_i k0
   cases hg
   obtain ⟨hsz, hT, hk0, hk1⟩ := hp
   obtain ⟨k, rfl⟩ := Int.eq_ofNat_of_zero_le hk0
   have hkk : ((k : Nat) : Int).toNat = k := Int.toNat_natCast k
   refine ⟨[vI k], ⟨AV.le.refl _, trivial⟩, ⟨by decide, by simp⟩, ?_⟩
   have tk : toksP R.s R.T k := ⟨hsz, hT, hk0, hk1⟩
   obtain ⟨v, q, hA⟩ : ∃ v q, readV (wordB R.T R.s k 3) = (v, q) := ⟨_, _, rfl⟩
   have hN : numB (wordB R.T R.s k 3) = if !q || decide (0 < v.sym.size) || decide (v.num < 1) || decide (1099511627776 < v.num) then 0 else v.num := by unfold numB; rw [hA]
   have hz : (v.sym.toList == noStr.toList) = !decide (0 < v.sym.size) := by
    rw [Bool.eq_iff_iff, beq_iff_eq]
    simp only [Bool.not_eq_true', decide_eq_false_iff_not]
    constructor
    · intro e
      rw [toList_inj e]
      decide
    · intro e
      exact congrArg ByteArray.toList (ByteArray.ext (Array.eq_empty_of_size_eq_zero (by have : v.sym.size = v.sym.data.size := rfl; omega)))
   cases q <;> cases h1 : decide (0 < v.sym.size) <;> cases h2 : decide (v.num < 1) <;> cases h3 : decide ((1099511627776 : Int) < v.num)
   all_goals
    rw [h1, h2, h3] at hN
    rw [h1] at hz
    repeat' (first | (with_reducible first | refine XG_split (fun hq => ?_) (fun hq => ?_) | refine MX1.of 4000 (by simp) ?_ | refine MX2.of 4000 (by simp) ?_ | refine And.intro ?_ ?_) | ((with_reducible first | refine Or.inl (And.intro (And.intro mixedP ?_) ?_) | refine Or.inl (And.intro mixedP ?_)); kernel_rfl) | simp only [go_sem,Nat.reduceEqDiff,Nat.reduceAdd,Nat.reduceMul,Nat.reduceLeDiff,Int.reduceBEq,hkk,Val.av,hA,hz,h2,h3])
    all_goals first | exact tk | skip
    all_goals first | omega | (unfold maxLen; omega) | (right; omega) | (left; simp; done) | (simp only [wk3,wkL2,wk2,wkL,wk1_d,wk1_own,wk1_nil,and_self]; done) | (intro i hi; simp only [upd]; (repeat' split); all_goals first | rfl | omega) | skip
    all_goals first | (rw [hN]; exact wk3_eq rfl) | trace_state
 · cases hg
set_option maxRecDepth 20000 in
set_option maxHeartbeats 4000000 in
theorem rsaid_ok : FsOk Tryd.prog 33 rsaidS := by
 refine of_obQ (E := EqT.no _) (F := (Ft.no.put 20 atS).put 53 pparseLitS) Tryd.func33 rfl (by kernel_rfl) [.cell 4 28, .tmp 5, .tmp 6] rfl Tryd.ntmps33 (((FtOk.no _).put at_ok).put pparseLit_ok) ?_
 intro R args r i h n hp hg hi hok
 unfold rsaidG at hg
 split at hg
 · rename_i k0
   cases hg
   obtain ⟨hsz, hT, hk0, hk1⟩ := hp
   obtain ⟨k, rfl⟩ := Int.eq_ofNat_of_zero_le hk0
   have hkk : ((k : Nat) : Int).toNat = k := Int.toNat_natCast k
   refine ⟨[vI k], ⟨AV.le.refl _, trivial⟩, ⟨by decide, by simp⟩, ?_⟩
   have tk : toksP R.s R.T k := ⟨hsz, hT, hk0, hk1⟩
   have hi0 : i ≠ n := by omega
   have hi1 : i ≠ n + 1 := by omega
   have hpos := pos_range hT k
   have hrs : ((restS R.s (posOf R.T R.s k)).size : Int) ≤ 9223372036854775807 := by have := rest_size R.s (posOf R.T R.s k); omega
   have hq := litA_rng (restS R.s (posOf R.T R.s k))
   have hrl := rest_le hpos
   obtain ⟨c, q, e, hC⟩ : ∃ c q e, litA (restS R.s (posOf R.T R.s k)) = (c, q, e) := ⟨_, _, _, rfl⟩
   have hC2 : litAt R.T R.s k = (c, q, e) := hC
   rw [hC] at hq
   have hq : 0 ≤ q ∧ q ≤ (restS R.s (posOf R.T R.s k)).size := hq
   repeat' (first | (with_reducible first | refine XG_split (fun hq => ?_) (fun hq => ?_) | refine MX1.of 4000 (by simp) ?_ | refine MX2.of 4000 (by simp) ?_ | refine And.intro ?_ ?_) | ((with_reducible first | refine Or.inl (And.intro (And.intro mixedP ?_) ?_) | refine Or.inl (And.intro mixedP ?_)); kernel_rfl) | simp only [go_sem,Nat.reduceEqDiff,Nat.reduceAdd,Nat.reduceMul,Nat.reduceLeDiff,Int.reduceBEq,upd_ne,hi0,hi1,hkk,hC,hC2,Lit.av,Lit.ds,Lit.cells,Lit.z,Term.z,Val.z,List.map_nil])
   all_goals first | exact tk | exact hrs | skip
   all_goals first | omega | (unfold maxLen; omega) | (right; omega) | (left; simp; done) | (simp only [wk3,wkL2,wk2,wkL,wk1_d,wk1_own,wk1_nil,and_self]; done) | (intro i hi; simp only [upd]; (repeat' split); all_goals first | rfl | omega) | skip
 · cases hg
set_option maxRecDepth 20000 in
set_option maxHeartbeats 4000000 in
theorem ends_ok : FsOk Tryd.prog 35 endsS := by
 refine of_obQ (E := EqT.no _) (F := Ft.no.put 20 atS) Tryd.func35 rfl (by kernel_rfl) [.tmp 4, .tmp 5] rfl Tryd.ntmps35 ((FtOk.no _).put at_ok) ?_
 intro R args r i h n hp hg hi hok
 unfold endsG at hg
 split at hg
 · rename_i k0
   cases hg
   obtain ⟨hsz, hT, hk0, hk1⟩ := hp
   obtain ⟨k, rfl⟩ := Int.eq_ofNat_of_zero_le hk0
   have hkk : ((k : Nat) : Int).toNat = k := Int.toNat_natCast k
   refine ⟨[vI k], ⟨AV.le.refl _, trivial⟩, ⟨by decide, by simp⟩, ?_⟩
   have tk : toksP R.s R.T k := ⟨hsz, hT, hk0, hk1⟩
   rcases Nat.lt_or_ge k R.T.length with hkl | hkl
   · have hd : decide ((k : Int) < (R.T.length : Int)) = true := decide_eq_true (by omega)
     have hw : endsT R k = (posOf R.T R.s k, 6) := by unfold endsT; rw [decide_eq_true hkl, if_pos rfl]
     repeat' (first | (with_reducible first | refine XG_split (fun hq => ?_) (fun hq => ?_) | refine MX1.of 4000 (by simp) ?_ | refine MX2.of 4000 (by simp) ?_ | refine And.intro ?_ ?_) | ((with_reducible first | refine Or.inl (And.intro (And.intro mixedP ?_) ?_) | refine Or.inl (And.intro mixedP ?_)); kernel_rfl) | simp only [go_sem,Nat.reduceEqDiff,Nat.reduceAdd,Nat.reduceMul,Nat.reduceLeDiff,Int.reduceBEq,hkk,hd,hw,List.length_map])
     all_goals first | exact tk | skip
     all_goals first | omega | (unfold maxLen; omega) | (right; omega) | (left; simp; done) | (simp only [wk3,wkL2,wk2,wkL,wk1_d,wk1_own,wk1_nil,and_self]; done) | (intro i hi; simp only [upd]; (repeat' split); all_goals first | rfl | omega) | skip
   · have hd : decide ((k : Int) < (R.T.length : Int)) = false := decide_eq_false (by omega)
     have hw : endsT R k = (0, 0) := by unfold endsT; rw [decide_eq_false (by omega), if_neg (by decide)]
     repeat' (first | (with_reducible first | refine XG_split (fun hq => ?_) (fun hq => ?_) | refine MX1.of 4000 (by simp) ?_ | refine MX2.of 4000 (by simp) ?_ | refine And.intro ?_ ?_) | ((with_reducible first | refine Or.inl (And.intro (And.intro mixedP ?_) ?_) | refine Or.inl (And.intro mixedP ?_)); kernel_rfl) | simp only [go_sem,Nat.reduceEqDiff,Nat.reduceAdd,Nat.reduceMul,Nat.reduceLeDiff,Int.reduceBEq,hkk,hd,hw,List.length_map])
     all_goals first | exact tk | skip
     all_goals first | omega | (unfold maxLen; omega) | (right; omega) | (left; simp; done) | (simp only [wk3,wkL2,wk2,wkL,wk1_d,wk1_own,wk1_nil,and_self]; done) | (intro i hi; simp only [upd]; (repeat' split); all_goals first | rfl | omega) | skip
 · cases hg
end Go.Proofs.YtfhpecgknmfnnaaDoor.M
end
section
namespace Go.R
structure Ow (σ : Type) where
 o : Ob σ
 z : List AV
 cap : List AV → Option Int
 pre : σ → Prop
 f : Int → σ → AV × List AV
 lt : ∀ n k R, ltL n (f k R).2
section
variable {σ : Type}
def owBx (o : Ob σ) : AO → Option σ
 | .box cs => o.dec cs
 | _ => none
def owGo (W : Ow σ) (k : Option Int) (R : Option σ) (j : Nat) (h : AH) (n : Nat) : Option (AV × AH × Nat) := match k, R with
 | some k, some R => some ((W.f k R).1, upd h j (.box (W.f k R).2), n)
 | _, _ => none
def owP (W : Ow σ) (R : Option σ) : Prop := match R with
 | some R => W.pre R
 | none => True
def owRun (W : Ow σ) : List AV → AH → Nat → Option (AV × AH × Nat)
 | .p i 0 :: .p j 0 :: rest, h, n => owGo W (W.cap rest) (owBx W.o (h i)) j h n
 | _, _, _ => none
def owPre (W : Ow σ) : List AV → AH → Nat → Prop
 | .p i 0 :: .p j 0 :: rest, h, n => i ≠ j ∧ h j = .box W.z ∧ owP W (owBx W.o (h i))
 | _, _, _ => True
def owTch : List AV → List Nat
 | _ :: .p j _ :: _ => [j]
 | _ => []
def owS (W : Ow σ) : Fs := ⟨owRun W, owPre W, owTch⟩
variable {W : Ow σ} {i j n : Nat} {h : AH} {rest : List AV} {cs : List AV}
@[go_sem] theorem owS_run : (owS W).run (.p i 0 :: .p j 0 :: rest) h n = owGo W (W.cap rest) (owBx W.o (h i)) j h n := rfl
@[go_sem] theorem owS_pre : (owS W).pre (.p i 0 :: .p j 0 :: rest) h n = (i ≠ j ∧ h j = .box W.z ∧ owP W (owBx W.o (h i))) := rfl
@[go_sem] theorem owS_tch {x : AV} {off : Nat} : (owS W).tch (x :: .p j off :: rest) = [j] := by cases x <;> rfl
@[go_sem] theorem owBx_box (o : Ob σ) : owBx o (.box cs) = o.dec cs := rfl
@[go_sem] theorem owGo_some {k : Int} {R : σ} : owGo W (some k) (some R) j h n = some ((W.f k R).1, upd h j (.box (W.f k R).2), n) := rfl
@[go_sem] theorem owP_some {R : σ} : owP W (some R) = W.pre R := rfl
end
def FinC (P : Program) (rs : List ResultVar) (n : Nat) (h : AH) (j : Nat) (cs : List AV) (r : AV) (e : Exit) (s : St) : Prop := (match e with
    | .normal => True
    | .ret => True
    | _ => False) ∧ resN P s.t s.h rs ∧ (match resO P s.t s.h rs with
    | some l => wk3 (packR l) r
    | none => False) ∧ agree n (upd h j (.box cs)) s.h ∧ AV.lt n r
theorem FinC.fin {P : Program} {rs : List ResultVar} {n : Nat} {h : AH} {j : Nat} {cs : List AV} {r : AV} {e : Exit} {s : St} (hj : j < n) (hok : HOk n h) (hlt : ltL n cs) (q : FinC P rs n h j cs r e s) :
 FinE P rs n h (upd h j (.box cs)) n r e s := by
 obtain ⟨q1, q2, q3, q4, q5⟩ := q
 refine ⟨q1, q2, q3, q4, q5, Nat.le_refl _, fun k hk => ?_, fun k xs hk hc => ?_⟩
 · rw [upd_ne _ _ (by omega)]
   exact hok.no k hk
 · by_cases e : k = j
   · subst e
     rw [upd_same] at hc
     cases hc
     exact .inr hlt
   · rw [upd_ne _ _ e] at hc
     exact .inl hc
attribute [go_sem] FinC
section
variable {P : Program} {E : EqT P} {F : Ft} {σ : Type}
theorem of_owS (W : Ow σ) {fi : FuncId} {fn : Func} {code : Code} (hf : P.funcs[fi]? = some fn) (hbody : fn.body = some code) (hn : (fn.name == "runtime.NumGoroutine") = false) (rs : List ResultVar) {nt : Nat} (hrs : fn.results = rs.toArray) (hnt : fn.ntmps = nt) (hF : FtOk P F)
 (H : ∀ R k rest i j h n, W.pre R → W.cap rest = some k → i < n → j < n → i ≠ j → HOk n h → h i = .box (W.o.bx R) → h j = .box W.z → (nt ≤ 900000 ∧ rest.length ≤ 40000) ∧
   X E F [j] (FinC P rs n h j (W.f k R).2 (W.f k R).1) 4000 (.code code) [] ⟨.p i 0 :: .p j 0 :: (rest ++ List.replicate (nt - (rest.length + 2)) .any), h, n, n⟩) : FsOk P fi (owS W) := by
 subst hnt
 refine SpOk.of_code hf hbody hn hF fun args h n K hS hno hbx => ?_
 have hok : HOk n h := ⟨hno, hbx⟩
 rw [hrs]
 obtain ⟨hpre, hrun⟩ := hS
 obtain ⟨⟨r, h', n'⟩, hr, hK⟩ := onO_iff hrun
 simp only [owS] at hr hpre ⊢
 unfold owRun at hr
 split at hr
 · rename_i i j rest
   simp only [owPre] at hpre
   obtain ⟨hij, hz, hp⟩ := hpre
   cases hc : h i with
   | no => rw [hc] at hr; unfold owGo owBx at hr; split at hr <;> simp_all
   | tok a b => rw [hc] at hr; unfold owGo owBx at hr; split at hr <;> simp_all
   | box cs =>
     rw [hc] at hr hp
     rw [owBx_box] at hr hp
     cases hd : W.o.dec cs with
     | none => rw [hd] at hr; unfold owGo at hr; split at hr <;> simp_all
     | some R =>
       rw [hd] at hr hp
       rw [owP_some] at hp
       cases hcap : W.cap rest with
       | none => rw [hcap] at hr; unfold owGo at hr; split at hr <;> simp_all
       | some k =>
         rw [hcap, owGo_some] at hr
         simp only [Option.some.injEq, Prod.mk.injEq] at hr
         obtain ⟨rfl, rfl, rfl⟩ := hr
         obtain rfl := W.o.ok cs R hd
         have hin : i < n := Nat.lt_of_not_le fun hle => by rw [hno i hle] at hc; cases hc
         have hjn : j < n := Nat.lt_of_not_le fun hle => by rw [hno j hle] at hz; cases hz
         obtain ⟨⟨hl1, hl2⟩, hX⟩ := H R k rest i j h n hp hcap hin hjn hij hok hc hz
         refine ⟨.p i 0 :: .p j 0 :: rest, fun c w vs hl hr => ⟨hl, hr⟩, ?_⟩
         refine (AW.of_X 4000 (by simp; omega) hX).mono fun e s' _ _ q => ?_
         obtain ⟨q1, q2, q3, q4, q5, q6, q7, q8⟩ := q.fin hjn hok (W.lt n k R)
         cases hres : resO P s'.t s'.h rs with
         | none => rw [hres] at q3; exact q3.elim
         | some l =>
           rw [hres] at q3
           exact ⟨q1, res_ares q2 hres ⟨n, _, _, q6, q4, q7, q8, q3, q5, hK⟩⟩
 · cases hr
end
end Go.R
namespace Go.Proofs.YtfhpecgknmfnnaaDoor.M
open Go.R
abbrev vN : AV := .d (.v (.slice none 0 0))
def zC : List AV := [.d (.v (.int .u8 0)), vS noStr, vS noStr, vI 0, vS noStr, vN, vN]
def zL : List AV := [.d (.v (.int .u8 0)), vS noStr, vS noStr, vI 0, vS noStr, vN]
def cC (c : Clause) : List AV := [.d (.v (.int .u8 c.head.kind)), vS c.head.who.var, vS c.head.who.val.sym, vI c.head.who.val.num, vS c.head.pred, .d (.sl 3 (c.head.args.map Term.cells)), .d (.sl 6 (c.body.map Lit.cells))]
def cL' (l : Lit) : List AV := [.d (.v (.int .u8 l.kind)), vS l.who.var, vS l.who.val.sym, vI l.who.val.num, vS l.pred, .d (.sl 3 (l.args.map Term.cells))]
def qBx (k : Int) (l : ByteArray) (f : Int) (c : List AV) (m : Int) (t : List AV) : List AV := .d (.v (.int .u8 k)) :: vS l :: vI f :: (c ++ vI m :: t)
def zQ : List AV := qBx 0 noStr 0 zC 0 zL
theorem ltL_app {n : Nat} : ∀ {a b : List AV}, ltL n a → ltL n b → ltL n (a ++ b)
 | [], b, _, h => h
 | x :: a, b, h, h' => ⟨h.1, ltL_app h.2 h'⟩
theorem qBx_lt (n : Nat) (k : Int) (l : ByteArray) (f : Int) {c : List AV} (m : Int) {t : List AV} (hc : ltL n c) (ht : ltL n t) : ltL n (qBx k l f c m t) := ⟨trivial, trivial, trivial, ltL_app hc ⟨trivial, ht⟩⟩
theorem zC_lt (n : Nat) : ltL n zC := ⟨trivial, trivial, trivial, trivial, trivial, trivial, trivial, trivial⟩
theorem zL_lt (n : Nat) : ltL n zL := ⟨trivial, trivial, trivial, trivial, trivial, trivial, trivial⟩
theorem cC_lt (n : Nat) (c : Clause) : ltL n (cC c) := ⟨trivial, trivial, trivial, trivial, trivial, trivial, trivial, trivial⟩
theorem cL_lt (n : Nat) (l : Lit) : ltL n (cL' l) := ⟨trivial, trivial, trivial, trivial, trivial, trivial, trivial⟩
def capN : List AV → Option Int
 | [] => some 0
 | _ => none
def capK : List AV → Option Int
 | [.e [.v (.int .u8 k)]] => some k
 | _ => none
theorem capN_eq {l : List AV} {k : Int} (h : capN l = some k) : l = [] := by
 unfold capN at h
 split at h
 · rfl
 · cases h
theorem capK_eq {l : List AV} {k : Int} (h : capK l = some k) : l = [.e [.v (.int .u8 k)]] := by
 unfold capK at h
 split at h
 · cases h; rfl
 · cases h
@[go_sem] theorem capN_nil : capN [] = some 0 := rfl
@[go_sem] theorem capK_one (k : Int) : capK [.e [.v (.int .u8 k)]] = some k := rfl
def rqOk (R : Rq) : Prop := (R.s.size : Int) ≤ 9223372036854775807 ∧ TokOk R.s R.T
def liF (k : Int) (R : Rq) : AV × List AV := (.tup [vI (posOf R.T R.s 1 + (litAt R.T R.s 1).2.1), vI (litAt R.T R.s 1).2.2], qBx k noStr 0 zC 0 (cL' (litAt R.T R.s 1).1))
def auF (R : Rq) : AV × List AV := (.tup [vI (endsT R 1).1, vI (endsT R 1).2], qBx 5 noStr 0 zC 0 zL)
def reF (R : Rq) : AV × List AV := if (numB (wordB R.T R.s 1 3) == 0) = true then (.tup [vI (posOf R.T R.s 1), vI 6], qBx 2 noStr 0 zC 0 zL) else (.tup [vI (endsT R 2).1, vI (endsT R 2).2], qBx 2 noStr 0 zC (numB (wordB R.T R.s 1 3)) zL)
def clauseAt (T : List Tok) (s : ByteArray) (k : Nat) : Clause × Int × Int := clauseA (restS s (posOf T s k))
def asF1 (R : Rq) (life : Int) (k : Nat) : AV × List AV := (.tup [vI (posOf R.T R.s k + (clauseAt R.T R.s k).2.1), vI (clauseAt R.T R.s k).2.2], qBx 1 (wordB R.T R.s 1 1) life (cC (clauseAt R.T R.s k).1) 0 zL)
def asF (R : Rq) : AV × List AV :=
 if ((wordB R.T R.s 1 1).size == 0) = true then (.tup [vI (posOf R.T R.s 1), vI 6], qBx 1 (wordB R.T R.s 1 1) 0 zC 0 zL)
 else if longB R.T R.s = true then (if (numB (wordB R.T R.s 3 3) == 0) = true then (.tup [vI (posOf R.T R.s 3), vI 6], qBx 1 (wordB R.T R.s 1 1) 0 zC 0 zL) else asF1 R (numB (wordB R.T R.s 3 3)) 4)
 else asF1 R 0 2
theorem asF1_lt (n : Nat) (R : Rq) (life : Int) (k : Nat) : ltL n (asF1 R life k).2 := qBx_lt n _ _ _ _ (cC_lt n _) (zL_lt n)
def liW : Ow Rq := ⟨obRq, zQ, capK, rqOk, liF, fun n k R => qBx_lt n _ _ _ _ (zC_lt n) (cL_lt n _)⟩
def auW : Ow Rq := ⟨obRq, zQ, capN, rqOk, fun _ => auF, fun n k R => qBx_lt n _ _ _ _ (zC_lt n) (zL_lt n)⟩
def reW : Ow Rq := ⟨obRq, zQ, capN, rqOk, fun _ => reF, fun n k R => by
 unfold reF
 split
 · exact qBx_lt n _ _ _ _ (zC_lt n) (zL_lt n)
 · exact qBx_lt n _ _ _ _ (zC_lt n) (zL_lt n)⟩
def asW : Ow Rq := ⟨obRq, zQ, capN, rqOk, fun _ => asF, fun n k R => by
 unfold asF
 split
 · exact qBx_lt n _ _ _ _ (zC_lt n) (zL_lt n)
 · split
   · split
     · exact qBx_lt n _ _ _ _ (zC_lt n) (zL_lt n)
     · exact asF1_lt n R _ _
   · exact asF1_lt n R _ _⟩
theorem rq_tk {R : Rq} (h : rqOk R) (k : Int) (h0 : 0 ≤ k) (h1 : k ≤ 10) : toksP R.s R.T k := ⟨h.1, h.2, h0, by omega⟩
@[go_sem] theorem toList_eq_beq_no (s : ByteArray) : (s.toList == (⟨#[]⟩ : ByteArray).toList) = (s.size == 0) := by
  rw [Bool.eq_iff_iff, beq_iff_eq, beq_iff_eq]
  constructor
  · intro e
    have := toList_inj (a := s) (b := ⟨#[]⟩) e
    rw [this]; rfl
  · intro e
    exact congrArg ByteArray.toList (ByteArray.ext (Array.eq_empty_of_size_eq_zero e))
set_option maxRecDepth 20000 in
set_option maxHeartbeats 8000000 in
theorem words1_ok : FsOk Tryd.prog 32 (owS liW) := by
 refine of_owS (E := EqT.no _) (F := Ft.no.put 33 rsaidS) liW Tryd.func32 rfl (by kernel_rfl) [.tmp 5, .tmp 6] rfl Tryd.ntmps32 ((FtOk.no _).put rsaid_ok) ?_
 intro R k rest i j h n hp hcap hi hj hij hok hI hJ
 obtain rfl := capK_eq hcap
 refine ⟨⟨by decide, by simp⟩, ?_⟩
 have hI : h i = .box [vS R.s, .d (.sl 3 (R.T.map Tok.cells))] := hI
 have hJ : h j = .box zQ := hJ
 have hji : j ≠ i := Ne.symm hij
 have hjn : j ≠ n := by omega
 have hin : i ≠ n := by omega
 have tk : ∀ k : Int, 0 ≤ k → k ≤ 10 → toksP R.s R.T k := fun k h0 h1 => rq_tk hp k h0 h1
 have hsz := hp.1
 have hpos := pos_range hp.2
 have hL : liW.f k R = liF k R := rfl
 rw [hL]
 unfold liF
 obtain ⟨l, q, e, hC⟩ : ∃ l q e, litAt R.T R.s 1 = (l, q, e) := ⟨_, _, _, rfl⟩
 repeat' (first | (with_reducible first | refine XG_split (fun hq => ?_) (fun hq => ?_) | refine MX1.of 4000 (by simp) ?_ | refine MX2.of 4000 (by simp) ?_ | refine And.intro ?_ ?_) | ((with_reducible first | refine Or.inl (And.intro (And.intro mixedP ?_) ?_) | refine Or.inl (And.intro mixedP ?_)); kernel_rfl) | simp only [go_sem,Nat.reduceEqDiff,Nat.reduceAdd,Nat.reduceMul,Nat.reduceLeDiff,Int.reduceBEq,hI,hJ,zQ,qBx,zC,zL,upd_ne,hij,hji,hjn,hin,ne_eq,not_false_eq_true,List.cons_append,List.nil_append,hC,cL',Lit.av,Lit.ds,Lit.cells,Lit.z,Term.z,Val.z,List.map_nil,show ((0 : Int)).toNat = 0 from rfl,show ((1 : Int)).toNat = 1 from rfl,show ((2 : Int)).toNat = 2 from rfl,show ((3 : Int)).toNat = 3 from rfl,show ((4 : Int)).toNat = 4 from rfl])
 all_goals first | exact tk _ (by decide) (by decide) | exact tk _ (by omega) (by omega) | skip
 all_goals first | omega | (unfold maxLen; omega) | (right; omega) | (left; simp; done) | (simp only [wk3,wkL2,wk2,wkL,wk1_d,wk1_own,wk1_nil,and_self]; done) | (intro i hi; simp only [upd]; (repeat' split); all_goals first | rfl | omega) | skip
set_option maxRecDepth 20000 in
set_option maxHeartbeats 8000000 in
theorem words2_ok : FsOk Tryd.prog 34 (owS auW) := by
 refine of_owS (E := EqT.no _) (F := Ft.no.put 35 endsS) auW Tryd.func34 rfl (by kernel_rfl) [.tmp 4, .tmp 5] rfl Tryd.ntmps34 ((FtOk.no _).put ends_ok) ?_
 intro R k rest i j h n hp hcap hi hj hij hok hI hJ
 obtain rfl := capN_eq hcap
 refine ⟨⟨by decide, by simp⟩, ?_⟩
 have hI : h i = .box [vS R.s, .d (.sl 3 (R.T.map Tok.cells))] := hI
 have hJ : h j = .box zQ := hJ
 have hji : j ≠ i := Ne.symm hij
 have hjn : j ≠ n := by omega
 have hin : i ≠ n := by omega
 have tk : ∀ k : Int, 0 ≤ k → k ≤ 10 → toksP R.s R.T k := fun k h0 h1 => rq_tk hp k h0 h1
 have hsz := hp.1
 have hpos := pos_range hp.2
 have hL : auW.f k R = auF R := rfl
 rw [hL]
 unfold auF
 obtain ⟨q, e, hC⟩ : ∃ q e, endsT R 1 = (q, e) := ⟨_, _, rfl⟩
 repeat' (first | (with_reducible first | refine XG_split (fun hq => ?_) (fun hq => ?_) | refine MX1.of 4000 (by simp) ?_ | refine MX2.of 4000 (by simp) ?_ | refine And.intro ?_ ?_) | ((with_reducible first | refine Or.inl (And.intro (And.intro mixedP ?_) ?_) | refine Or.inl (And.intro mixedP ?_)); kernel_rfl) | simp only [go_sem,Nat.reduceEqDiff,Nat.reduceAdd,Nat.reduceMul,Nat.reduceLeDiff,Int.reduceBEq,hI,hJ,zQ,qBx,zC,zL,upd_ne,hij,hji,hjn,hin,ne_eq,not_false_eq_true,List.cons_append,List.nil_append,hC,show ((0 : Int)).toNat = 0 from rfl,show ((1 : Int)).toNat = 1 from rfl,show ((2 : Int)).toNat = 2 from rfl,show ((3 : Int)).toNat = 3 from rfl,show ((4 : Int)).toNat = 4 from rfl])
 all_goals first | exact tk _ (by decide) (by decide) | exact tk _ (by omega) (by omega) | skip
 all_goals first | omega | (unfold maxLen; omega) | (right; omega) | (left; simp; done) | (simp only [wk3,wkL2,wk2,wkL,wk1_d,wk1_own,wk1_nil,and_self]; done) | (intro i hi; simp only [upd]; (repeat' split); all_goals first | rfl | omega) | skip
set_option maxRecDepth 20000 in
set_option maxHeartbeats 8000000 in
theorem words3_ok : FsOk Tryd.prog 36 (owS reW) := by
 refine of_owS (E := EqT.no _) (F := ((Ft.no.put 37 pnumS).put 20 atS).put 35 endsS) reW Tryd.func36 rfl (by kernel_rfl) [.tmp 4, .tmp 5] rfl Tryd.ntmps36 ((((FtOk.no _).put pnum_ok).put at_ok).put ends_ok) ?_
 intro R k rest i j h n hp hcap hi hj hij hok hI hJ
 obtain rfl := capN_eq hcap
 refine ⟨⟨by decide, by simp⟩, ?_⟩
 have hI : h i = .box [vS R.s, .d (.sl 3 (R.T.map Tok.cells))] := hI
 have hJ : h j = .box zQ := hJ
 have hji : j ≠ i := Ne.symm hij
 have hjn : j ≠ n := by omega
 have hin : i ≠ n := by omega
 have tk : ∀ k : Int, 0 ≤ k → k ≤ 10 → toksP R.s R.T k := fun k h0 h1 => rq_tk hp k h0 h1
 have hsz := hp.1
 have hpos := pos_range hp.2
 have hL : reW.f k R = reF R := rfl
 rw [hL]
 obtain ⟨m, hm⟩ : ∃ m, numB (wordB R.T R.s 1 3) = m := ⟨_, rfl⟩
 obtain ⟨q, e, hC⟩ : ∃ q e, endsT R 2 = (q, e) := ⟨_, _, rfl⟩
 cases hn : m == 0 with
 | true =>
   have hF : reF R = (.tup [vI (posOf R.T R.s 1), vI 6], qBx 2 noStr 0 zC 0 zL) := by unfold reF; rw [hm, hn, if_pos rfl]
   have hm0 : m = 0 := by simpa using hn
   subst hm0
   rw [hF]
   repeat' (first | (with_reducible first | refine XG_split (fun hq => ?_) (fun hq => ?_) | refine MX1.of 4000 (by simp) ?_ | refine MX2.of 4000 (by simp) ?_ | refine And.intro ?_ ?_) | ((with_reducible first | refine Or.inl (And.intro (And.intro mixedP ?_) ?_) | refine Or.inl (And.intro mixedP ?_)); kernel_rfl) | simp only [go_sem,Nat.reduceEqDiff,Nat.reduceAdd,Nat.reduceMul,Nat.reduceLeDiff,Int.reduceBEq,hI,hJ,zQ,qBx,zC,zL,upd_ne,hij,hji,hjn,hin,ne_eq,not_false_eq_true,List.cons_append,List.nil_append,hC,hm,hn,show ((0 : Int)).toNat = 0 from rfl,show ((1 : Int)).toNat = 1 from rfl,show ((2 : Int)).toNat = 2 from rfl,show ((3 : Int)).toNat = 3 from rfl,show ((4 : Int)).toNat = 4 from rfl])
   all_goals first | exact tk _ (by decide) (by decide) | exact tk _ (by omega) (by omega) | skip
   all_goals first | omega | (unfold maxLen; omega) | (right; omega) | (left; simp; done) | (simp only [wk3,wkL2,wk2,wkL,wk1_d,wk1_own,wk1_nil,and_self]; done) | (intro i hi; simp only [upd]; (repeat' split); all_goals first | rfl | omega) | skip
 | false =>
   have hF : reF R = (.tup [vI q, vI e], qBx 2 noStr 0 zC m zL) := by unfold reF; rw [hm, hn, if_neg (by decide), hC]
   rw [hF]
   repeat' (first | (with_reducible first | refine XG_split (fun hq => ?_) (fun hq => ?_) | refine MX1.of 4000 (by simp) ?_ | refine MX2.of 4000 (by simp) ?_ | refine And.intro ?_ ?_) | ((with_reducible first | refine Or.inl (And.intro (And.intro mixedP ?_) ?_) | refine Or.inl (And.intro mixedP ?_)); kernel_rfl) | simp only [go_sem,Nat.reduceEqDiff,Nat.reduceAdd,Nat.reduceMul,Nat.reduceLeDiff,Int.reduceBEq,hI,hJ,zQ,qBx,zC,zL,upd_ne,hij,hji,hjn,hin,ne_eq,not_false_eq_true,List.cons_append,List.nil_append,hC,hm,hn,show ((0 : Int)).toNat = 0 from rfl,show ((1 : Int)).toNat = 1 from rfl,show ((2 : Int)).toNat = 2 from rfl,show ((3 : Int)).toNat = 3 from rfl,show ((4 : Int)).toNat = 4 from rfl])
   all_goals first | exact tk _ (by decide) (by decide) | exact tk _ (by omega) (by omega) | skip
   all_goals first | omega | (unfold maxLen; omega) | (right; omega) | (left; simp; done) | (simp only [wk3,wkL2,wk2,wkL,wk1_d,wk1_own,wk1_nil,and_self]; done) | (intro i hi; simp only [upd]; (repeat' split); all_goals first | rfl | omega) | skip
set_option maxRecDepth 20000 in
set_option maxHeartbeats 8000000 in
theorem words4_ok : FsOk Tryd.prog 38 (owS asW) := by
 refine of_owS (E := EqT.no _) (F := (((Ft.no.put 19 rtextS).put 37 pnumS).put 20 atS).put 39 pparseS) asW Tryd.func38 rfl (by kernel_rfl) [.tmp 4, .tmp 5] rfl Tryd.ntmps38 (((((FtOk.no _).put rtext_ok).put pnum_ok).put at_ok).put pparse_ok) ?_
 intro R k rest i j h n hp hcap hi hj hij hok hI hJ
 obtain rfl := capN_eq hcap
 refine ⟨⟨by decide, by simp⟩, ?_⟩
 have hI : h i = .box [vS R.s, .d (.sl 3 (R.T.map Tok.cells))] := hI
 have hJ : h j = .box zQ := hJ
 have hji : j ≠ i := Ne.symm hij
 have hjn : j ≠ n := by omega
 have hin : i ≠ n := by omega
 have tk : ∀ k : Int, 0 ≤ k → k ≤ 10 → toksP R.s R.T k := fun k h0 h1 => rq_tk hp k h0 h1
 have hsz := hp.1
 have hpos := pos_range hp.2
 have hL : asW.f k R = asF R := rfl
 rw [hL]
 have hrs : ∀ p, ((restS R.s p).size : Int) ≤ 9223372036854775807 := fun p => by have := rest_size R.s p; omega
 have hp2 := hpos 2
 have hp4 := hpos 4
 have hq2 := clauseA_rng (restS R.s (posOf R.T R.s 2))
 have hq4 := clauseA_rng (restS R.s (posOf R.T R.s 4))
 have hr2 := rest_le hp2
 have hr4 := rest_le hp4
 obtain ⟨c2, q2, e2, hC2⟩ : ∃ c q e, clauseA (restS R.s (posOf R.T R.s 2)) = (c, q, e) := ⟨_, _, _, rfl⟩
 obtain ⟨c4, q4, e4, hC4⟩ : ∃ c q e, clauseA (restS R.s (posOf R.T R.s 4)) = (c, q, e) := ⟨_, _, _, rfl⟩
 have hA2 : clauseAt R.T R.s 2 = (c2, q2, e2) := hC2
 have hA4 : clauseAt R.T R.s 4 = (c4, q4, e4) := hC4
 rw [hC2] at hq2
 rw [hC4] at hq4
 have hq2 : 0 ≤ q2 ∧ q2 ≤ (restS R.s (posOf R.T R.s 2)).size := hq2
 have hq4 : 0 ≤ q4 ∧ q4 ≤ (restS R.s (posOf R.T R.s 4)).size := hq4
 obtain ⟨w, hw⟩ : ∃ w, wordB R.T R.s 1 1 = w := ⟨_, rfl⟩
 obtain ⟨m, hm⟩ : ∃ m, numB (wordB R.T R.s 3 3) = m := ⟨_, rfl⟩
 have hfl : ((wordB R.T R.s 2 1).toList == (⟨#[102, 111, 114]⟩ : ByteArray).toList) = ((wordB R.T R.s 2 1).toList == wFor.toList) := rfl
 cases hz : w.size == 0 with
 | true =>
   have hF : asF R = (.tup [vI (posOf R.T R.s 1), vI 6], qBx 1 w 0 zC 0 zL) := by unfold asF; rw [hw, hz, if_pos rfl]
   rw [hF]
   repeat' (first | (with_reducible first | refine XG_split (fun hq => ?_) (fun hq => ?_) | refine MX1.of 4000 (by simp) ?_ | refine MX2.of 4000 (by simp) ?_ | refine And.intro ?_ ?_) | ((with_reducible first | refine Or.inl (And.intro (And.intro mixedP ?_) ?_) | refine Or.inl (And.intro mixedP ?_)); kernel_rfl) | simp only [go_sem,Nat.reduceEqDiff,Nat.reduceAdd,Nat.reduceMul,Nat.reduceLeDiff,Int.reduceBEq,hI,hJ,zQ,qBx,zC,zL,upd_ne,hij,hji,hjn,hin,ne_eq,not_false_eq_true,List.cons_append,List.nil_append,cC,Clause.av,Clause.ds,show ((0 : Int)).toNat = 0 from rfl,show ((1 : Int)).toNat = 1 from rfl,show ((2 : Int)).toNat = 2 from rfl,show ((3 : Int)).toNat = 3 from rfl,show ((4 : Int)).toNat = 4 from rfl,hw,hz])
   all_goals first | exact tk _ (by decide) (by decide) | exact tk _ (by omega) (by omega) | exact hrs _ | skip
   all_goals first | omega | (unfold maxLen; omega) | (right; omega) | (left; simp; done) | (simp only [wk3,wkL2,wk2,wkL,wk1_d,wk1_own,wk1_nil,and_self]; done) | (intro i hi; simp only [upd]; (repeat' split); all_goals first | rfl | omega) | skip
 | false =>
   cases h1 : (wordB R.T R.s 2 1).toList == wFor.toList with
   | false =>
     have hlong : longB R.T R.s = false := by unfold longB; rw [h1]; rfl
     have hF : asF R = (.tup [vI (posOf R.T R.s 2 + q2), vI e2], qBx 1 w 0 (cC c2) 0 zL) := by unfold asF asF1; rw [hw, hz, hlong, hA2]; rfl
     rw [hF]
     repeat' (first | (with_reducible first | refine XG_split (fun hq => ?_) (fun hq => ?_) | refine MX1.of 4000 (by simp) ?_ | refine MX2.of 4000 (by simp) ?_ | refine And.intro ?_ ?_) | ((with_reducible first | refine Or.inl (And.intro (And.intro mixedP ?_) ?_) | refine Or.inl (And.intro mixedP ?_)); kernel_rfl) | simp only [go_sem,Nat.reduceEqDiff,Nat.reduceAdd,Nat.reduceMul,Nat.reduceLeDiff,Int.reduceBEq,hI,hJ,zQ,qBx,zC,zL,upd_ne,hij,hji,hjn,hin,ne_eq,not_false_eq_true,List.cons_append,List.nil_append,cC,Clause.av,Clause.ds,show ((0 : Int)).toNat = 0 from rfl,show ((1 : Int)).toNat = 1 from rfl,show ((2 : Int)).toNat = 2 from rfl,show ((3 : Int)).toNat = 3 from rfl,show ((4 : Int)).toNat = 4 from rfl,hw,hz,h1,hC2])
     all_goals first | exact tk _ (by decide) (by decide) | exact tk _ (by omega) (by omega) | exact hrs _ | skip
     all_goals first | omega | (unfold maxLen; omega) | (right; omega) | (left; simp; done) | (simp only [wk3,wkL2,wk2,wkL,wk1_d,wk1_own,wk1_nil,and_self]; done) | (intro i hi; simp only [upd]; (repeat' split); all_goals first | rfl | omega) | skip
   | true =>
     cases h2 : decide (0 < (wordB R.T R.s 3 3).size) with
     | false =>
       have hlong : longB R.T R.s = false := by unfold longB; rw [h1, h2]; rfl
       have hF : asF R = (.tup [vI (posOf R.T R.s 2 + q2), vI e2], qBx 1 w 0 (cC c2) 0 zL) := by unfold asF asF1; rw [hw, hz, hlong, hA2]; rfl
       have h3 : ((wordB R.T R.s 3 3).size == 0) = true := by simpa using h2
       rw [hF]
       repeat' (first | (with_reducible first | refine XG_split (fun hq => ?_) (fun hq => ?_) | refine MX1.of 4000 (by simp) ?_ | refine MX2.of 4000 (by simp) ?_ | refine And.intro ?_ ?_) | ((with_reducible first | refine Or.inl (And.intro (And.intro mixedP ?_) ?_) | refine Or.inl (And.intro mixedP ?_)); kernel_rfl) | simp only [go_sem,Nat.reduceEqDiff,Nat.reduceAdd,Nat.reduceMul,Nat.reduceLeDiff,Int.reduceBEq,hI,hJ,zQ,qBx,zC,zL,upd_ne,hij,hji,hjn,hin,ne_eq,not_false_eq_true,List.cons_append,List.nil_append,cC,Clause.av,Clause.ds,show ((0 : Int)).toNat = 0 from rfl,show ((1 : Int)).toNat = 1 from rfl,show ((2 : Int)).toNat = 2 from rfl,show ((3 : Int)).toNat = 3 from rfl,show ((4 : Int)).toNat = 4 from rfl,hw,hz,h1,h3,bne,hC2])
       all_goals first | exact tk _ (by decide) (by decide) | exact tk _ (by omega) (by omega) | exact hrs _ | skip
       all_goals first | omega | (unfold maxLen; omega) | (right; omega) | (left; simp; done) | (simp only [wk3,wkL2,wk2,wkL,wk1_d,wk1_own,wk1_nil,and_self]; done) | (intro i hi; simp only [upd]; (repeat' split); all_goals first | rfl | omega) | skip
     | true =>
       have hlong : longB R.T R.s = true := by unfold longB; rw [h1, h2]; rfl
       have h3 : ((wordB R.T R.s 3 3).size == 0) = false := by rw [decide_eq_true_eq] at h2; simpa using Nat.pos_iff_ne_zero.1 h2
       cases hn : m == 0 with
       | true =>
         have hF : asF R = (.tup [vI (posOf R.T R.s 3), vI 6], qBx 1 w 0 zC 0 zL) := by unfold asF; rw [hw, hz, hlong, hm, hn]; rfl
         have hm0 : m = 0 := by simpa using hn
         subst hm0
         rw [hF]
         repeat' (first | (with_reducible first | refine XG_split (fun hq => ?_) (fun hq => ?_) | refine MX1.of 4000 (by simp) ?_ | refine MX2.of 4000 (by simp) ?_ | refine And.intro ?_ ?_) | ((with_reducible first | refine Or.inl (And.intro (And.intro mixedP ?_) ?_) | refine Or.inl (And.intro mixedP ?_)); kernel_rfl) | simp only [go_sem,Nat.reduceEqDiff,Nat.reduceAdd,Nat.reduceMul,Nat.reduceLeDiff,Int.reduceBEq,hI,hJ,zQ,qBx,zC,zL,upd_ne,hij,hji,hjn,hin,ne_eq,not_false_eq_true,List.cons_append,List.nil_append,cC,Clause.av,Clause.ds,show ((0 : Int)).toNat = 0 from rfl,show ((1 : Int)).toNat = 1 from rfl,show ((2 : Int)).toNat = 2 from rfl,show ((3 : Int)).toNat = 3 from rfl,show ((4 : Int)).toNat = 4 from rfl,hw,hz,h1,h3,bne,hm,hn])
         all_goals first | exact tk _ (by decide) (by decide) | exact tk _ (by omega) (by omega) | exact hrs _ | skip
         all_goals first | omega | (unfold maxLen; omega) | (right; omega) | (left; simp; done) | (simp only [wk3,wkL2,wk2,wkL,wk1_d,wk1_own,wk1_nil,and_self]; done) | (intro i hi; simp only [upd]; (repeat' split); all_goals first | rfl | omega) | skip
       | false =>
         have hF : asF R = (.tup [vI (posOf R.T R.s 4 + q4), vI e4], qBx 1 w m (cC c4) 0 zL) := by unfold asF asF1; rw [hw, hz, hlong, hm, hn, hA4]; rfl
         rw [hF]
         repeat' (first | (with_reducible first | refine XG_split (fun hq => ?_) (fun hq => ?_) | refine MX1.of 4000 (by simp) ?_ | refine MX2.of 4000 (by simp) ?_ | refine And.intro ?_ ?_) | ((with_reducible first | refine Or.inl (And.intro (And.intro mixedP ?_) ?_) | refine Or.inl (And.intro mixedP ?_)); kernel_rfl) | simp only [go_sem,Nat.reduceEqDiff,Nat.reduceAdd,Nat.reduceMul,Nat.reduceLeDiff,Int.reduceBEq,hI,hJ,zQ,qBx,zC,zL,upd_ne,hij,hji,hjn,hin,ne_eq,not_false_eq_true,List.cons_append,List.nil_append,cC,Clause.av,Clause.ds,show ((0 : Int)).toNat = 0 from rfl,show ((1 : Int)).toNat = 1 from rfl,show ((2 : Int)).toNat = 2 from rfl,show ((3 : Int)).toNat = 3 from rfl,show ((4 : Int)).toNat = 4 from rfl,hw,hz,h1,h3,bne,hm,hn,hC4])
         all_goals first | exact tk _ (by decide) (by decide) | exact tk _ (by omega) (by omega) | exact hrs _ | skip
         all_goals first | omega | (unfold maxLen; omega) | (right; omega) | (left; simp; done) | (simp only [wk3,wkL2,wk2,wkL,wk1_d,wk1_own,wk1_nil,and_self]; done) | (intro i hi; simp only [upd]; (repeat' split); all_goals first | rfl | omega) | skip
end Go.Proofs.YtfhpecgknmfnnaaDoor.M
end
section
namespace Go.R
open Go.RowKit
def putM (w : World) (b : Nat) (es : Array MapEntry) (clock : Nat) (s : ByteArray) (v : Value) : World := { w with heap := w.heap.setIfInBounds b (.map (es.push ⟨.string s, v, clock⟩) (clock + 1)) }
theorem run_putM {P : Program} {ty k e : TypeId} {w : World} {b : Nat} {es : Array MapEntry} {clock : Nat} {s : ByteArray} {v : Value} (ht : P.underlying ty = some (.map k e)) (hk : P.underlying k = some .string) (hb : w.heap[b]? = some (.map es clock))
 (hf : Instr.findNow .string (.string s) es.toList 0 = some none) : (Instr.mapUpdate ty (.map (some b)) (.string s) v).run P w = .ok () (putM w b es clock s v) := by
 have hkey : MapKept.IsKey .string (.string s) := trivial
 simp [Instr.mapUpdate, run_underlying ht, MapKept.run_getObj_map hb, MapKept.run_checkKey hk hkey, MapKept.run_findKey hk hf, MapKept.run_setObj_map _ hb, Result.andThen, putM]
theorem putM_at {w : World} {b : Nat} {es : Array MapEntry} {clock : Nat} {s : ByteArray} {v : Value} (hb : w.heap[b]? = some (.map es clock)) : (putM w b es clock s v).heap[b]? = some (.map (es.push ⟨.string s, v, clock⟩) (clock + 1)) := (MapKept.heap_set hb).1
theorem putM_ne {w : World} {b r : Nat} {es : Array MapEntry} {clock : Nat} {s : ByteArray} {v : Value} (h : r ≠ b) : (putM w b es clock s v).heap[r]? = w.heap[r]? := by
 simp [putM, Ne.symm h]
theorem putM_size (w : World) (b : Nat) (es : Array MapEntry) (clock : Nat) (s : ByteArray) (v : Value) : (putM w b es clock s v).heap.size = w.heap.size := by simp [putM]
end Go.R
namespace Go.Proofs.YtfhpecgknmfnnaaDoor.M
open Go.R Go.RowKit
open Go.Proofs.YtfhpecgknmfnnaaDoorW.PrintWords Go.Proofs.YtfhpecgknmfnnaaDoorW.PrintMore
abbrev kindO (k : Int) : Obj := .cells #[.int .u8 k] 5
theorem words1_calls (k : Int) (w : World) : Calls Tryd.prog 31 #[.int .u8 k] w fun e w' => e = .returned (.func (.func 32) #[] #[.pointer (some ⟨w.heap.size, 0, none⟩)]) ∧ w' = w.alloc (kindO k) := by
 have hmf := @hmf
 go_enter Tryd.func31, Tryd.ntmps31
 go_wp2
 exact bodyPost_ret (v := .func (.func 32) #[] #[.pointer (some ⟨w.heap.size, 0, none⟩)]) (by simp [results, Tryd.results31, go_sem]) rfl ⟨rfl, rfl⟩
abbrev ptrV (b : Nat) : Value := .pointer (some ⟨b, 0, none⟩)
abbrev litF (b : Nat) : Value := .func (.func 32) #[] #[ptrV b]
abbrev clF (f : Nat) : Value := .func (.func f) #[] #[]
def wE1 (B : Nat) : Array MapEntry := (#[]).push ⟨.string wQuery, litF (B + 1), 0⟩
def wE2 (B : Nat) : Array MapEntry := ((wE1 B)).push ⟨.string wProve, litF (B + 2), 1⟩
def wE3 (B : Nat) : Array MapEntry := ((wE2 B)).push ⟨.string wAudit, clF 34, 2⟩
def wE4 (B : Nat) : Array MapEntry := ((wE3 B)).push ⟨.string wRevoke, clF 36, 3⟩
def wE5 (B : Nat) : Array MapEntry := ((wE4 B)).push ⟨.string wAssert, clF 38, 4⟩
def wordsPost (w w' : World) : Prop := w'.heap[w.heap.size]? = some (.map (wE5 w.heap.size) 5) ∧ w'.heap[w.heap.size + 1]? = some (kindO 3) ∧ w'.heap[w.heap.size + 2]? = some (kindO 4) ∧ Below w.heap.size w w'
theorem putM_below {B : Nat} {w0 w : World} {b : Nat} {es : Array MapEntry} {clock : Nat} {s : ByteArray} {v : Value} (h : Below B w0 w) (hb : B ≤ b) : Below B w0 (putM w b es clock s v) :=
 ⟨h.os, h.tape, h.output, by rw [putM_size]; exact h.size, fun k hk => (putM_ne (by omega)).trans (h.block k hk)⟩
set_option maxHeartbeats 4000000 in
set_option maxRecDepth 100000 in
theorem words_calls (w : World) : Calls Tryd.prog 18 #[] w fun e w' => e = .returned (.map (some w.heap.size)) ∧ wordsPost w w' := by
 have hmm := @run_makeMap Tryd.prog
 have hty : ∀ (b : Nat) (s : ByteArray) (v : Value) (es : Array MapEntry) (clock : Nat) (w : World), w.heap[b]? = some (.map es clock) → Instr.findNow .string (.string s) es.toList 0 = some none → (Instr.mapUpdate 58 (.map (some b)) (.string s) v).run Tryd.prog w = .ok () (putM w b es clock s v) :=
  fun b s v es clock w h1 h2 => run_putM (k := 9) (e := 57) (by kernel_rfl) (by kernel_rfl) h1 h2
 have e1 : (w.alloc (Obj.map #[] 0)).heap.size = w.heap.size + 1 := by simp
 obtain ⟨w2, hw2⟩ : ∃ w2, w2 = (w.alloc (Obj.map #[] 0)).alloc (kindO 3) := ⟨_, rfl⟩
 have s2 : w2.heap.size = w.heap.size + 2 := by rw [hw2]; simp
 have m2 : w2.heap[w.heap.size]? = some (.map #[] 0) := by rw [hw2]; exact blk_alloc (heap_alloc_new w _) _
 have k2 : w2.heap[w.heap.size + 1]? = some (kindO 3) := by rw [hw2, ← e1]; exact heap_alloc_new _ _
 have b2 : Below w.heap.size w w2 := by rw [hw2]; exact ((Below.refl _ _).alloc (Nat.le_refl _) _).alloc (by rw [e1]; omega) _
 have hU1 := hty w.heap.size wQuery (litF (w.heap.size + 1)) #[] 0 w2 m2 rfl
 have m3 := putM_at (s := wQuery) (v := litF (w.heap.size + 1)) m2
 have b3 := putM_below (s := wQuery) (v := litF (w.heap.size + 1)) (es := #[]) (clock := 0) b2 (Nat.le_refl _)
 have s3 : (putM w2 w.heap.size #[] 0 wQuery (litF (w.heap.size + 1))).heap.size = w.heap.size + 2 := by rw [putM_size, s2]
 have k3 : (putM w2 w.heap.size #[] 0 wQuery (litF (w.heap.size + 1))).heap[w.heap.size + 1]? = some (kindO 3) := by rw [putM_ne (by omega), k2]
 obtain ⟨w3, hw3⟩ : ∃ w3, w3 = putM w2 w.heap.size #[] 0 wQuery (litF (w.heap.size + 1)) := ⟨_, rfl⟩
 rw [← hw3] at hU1 m3 b3 s3 k3
 obtain ⟨w4, hw4⟩ : ∃ w4, w4 = w3.alloc (kindO 4) := ⟨_, rfl⟩
 have m4 : w4.heap[w.heap.size]? = some (.map (wE1 w.heap.size) 1) := by rw [hw4]; exact blk_alloc m3 _
 have k4 : w4.heap[w.heap.size + 1]? = some (kindO 3) := by rw [hw4]; exact blk_alloc k3 _
 have j4 : w4.heap[w.heap.size + 2]? = some (kindO 4) := by rw [hw4, ← s3]; exact heap_alloc_new _ _
 have b4 : Below w.heap.size w w4 := by rw [hw4]; exact b3.alloc (by rw [s3]; omega) _
 have hU2 := hty w.heap.size wProve (litF (w.heap.size + 2)) (wE1 w.heap.size) 1 w4 m4 rfl
 have m5 : (putM w4 w.heap.size (wE1 w.heap.size) 1 wProve (litF (w.heap.size + 2))).heap[w.heap.size]? = some (.map (wE2 w.heap.size) 2) := putM_at m4
 have b5 : Below w.heap.size w (putM w4 w.heap.size (wE1 w.heap.size) 1 wProve (litF (w.heap.size + 2))) := putM_below b4 (Nat.le_refl _)
 have k5 : (putM w4 w.heap.size (wE1 w.heap.size) 1 wProve (litF (w.heap.size + 2))).heap[w.heap.size + 1]? = some (kindO 3) := by rw [putM_ne (by omega), k4]
 have j5 : (putM w4 w.heap.size (wE1 w.heap.size) 1 wProve (litF (w.heap.size + 2))).heap[w.heap.size + 2]? = some (kindO 4) := by rw [putM_ne (by omega), j4]
 obtain ⟨w5, hw5⟩ : ∃ w5, w5 = putM w4 w.heap.size (wE1 w.heap.size) 1 wProve (litF (w.heap.size + 2)) := ⟨_, rfl⟩
 rw [← hw5] at hU2 m5 b5 k5 j5
 have hU3 := hty w.heap.size wAudit (clF 34) (wE2 w.heap.size) 2 w5 m5 rfl
 have m6 : (putM w5 w.heap.size (wE2 w.heap.size) 2 wAudit (clF 34)).heap[w.heap.size]? = some (.map (wE3 w.heap.size) 3) := putM_at m5
 have b6 : Below w.heap.size w (putM w5 w.heap.size (wE2 w.heap.size) 2 wAudit (clF 34)) := putM_below b5 (Nat.le_refl _)
 have k6 : (putM w5 w.heap.size (wE2 w.heap.size) 2 wAudit (clF 34)).heap[w.heap.size + 1]? = some (kindO 3) := by rw [putM_ne (by omega), k5]
 have j6 : (putM w5 w.heap.size (wE2 w.heap.size) 2 wAudit (clF 34)).heap[w.heap.size + 2]? = some (kindO 4) := by rw [putM_ne (by omega), j5]
 obtain ⟨w6, hw6⟩ : ∃ w6, w6 = putM w5 w.heap.size (wE2 w.heap.size) 2 wAudit (clF 34) := ⟨_, rfl⟩
 rw [← hw6] at hU3 m6 b6 k6 j6
 have hU4 := hty w.heap.size wRevoke (clF 36) (wE3 w.heap.size) 3 w6 m6 rfl
 have m7 : (putM w6 w.heap.size (wE3 w.heap.size) 3 wRevoke (clF 36)).heap[w.heap.size]? = some (.map (wE4 w.heap.size) 4) := putM_at m6
 have b7 : Below w.heap.size w (putM w6 w.heap.size (wE3 w.heap.size) 3 wRevoke (clF 36)) := putM_below b6 (Nat.le_refl _)
 have k7 : (putM w6 w.heap.size (wE3 w.heap.size) 3 wRevoke (clF 36)).heap[w.heap.size + 1]? = some (kindO 3) := by rw [putM_ne (by omega), k6]
 have j7 : (putM w6 w.heap.size (wE3 w.heap.size) 3 wRevoke (clF 36)).heap[w.heap.size + 2]? = some (kindO 4) := by rw [putM_ne (by omega), j6]
 obtain ⟨w7, hw7⟩ : ∃ w7, w7 = putM w6 w.heap.size (wE3 w.heap.size) 3 wRevoke (clF 36) := ⟨_, rfl⟩
 rw [← hw7] at hU4 m7 b7 k7 j7
 have hU5 := hty w.heap.size wAssert (clF 38) (wE4 w.heap.size) 4 w7 m7 rfl
 have m8 : (putM w7 w.heap.size (wE4 w.heap.size) 4 wAssert (clF 38)).heap[w.heap.size]? = some (.map (wE5 w.heap.size) 5) := putM_at m7
 have b8 : Below w.heap.size w (putM w7 w.heap.size (wE4 w.heap.size) 4 wAssert (clF 38)) := putM_below b7 (Nat.le_refl _)
 have k8 : (putM w7 w.heap.size (wE4 w.heap.size) 4 wAssert (clF 38)).heap[w.heap.size + 1]? = some (kindO 3) := by rw [putM_ne (by omega), k7]
 have j8 : (putM w7 w.heap.size (wE4 w.heap.size) 4 wAssert (clF 38)).heap[w.heap.size + 2]? = some (kindO 4) := by rw [putM_ne (by omega), j7]
 obtain ⟨w8, hw8⟩ : ∃ w8, w8 = putM w7 w.heap.size (wE4 w.heap.size) 4 wAssert (clF 38) := ⟨_, rfl⟩
 rw [← hw8] at hU5 m8 b8 k8 j8
 have hE : wordsPost w w8 := ⟨m8, k8, j8, b8⟩
 clear m8 k8 j8 b8 hw8 m7 k7 j7 b7 hw7 m6 k6 j6 b6 hw6 m5 k5 j5 b5 hw5 m4 k4 j4 b4 m3 b3 k3 hw3 m2 k2 b2 s2 hty
 replace hw2 := Aside0.mk hw2
 replace hw4 := Aside0.mk hw4
 replace e1 := Aside0.mk e1
 replace s3 := Aside0.mk s3
 replace hE := Aside0.mk hE
 go_enter Tryd.func18, Tryd.ntmps18
 go_wp2_with fail
 refine (words1_calls 3 _).mono ?_
 rintro e w2' ⟨rfl, rfl⟩
 rw [e1.out, ← hw2.out]
 go_wp2_with fail
 refine (words1_calls 4 _).mono ?_
 rintro e w2' ⟨rfl, rfl⟩
 rw [s3.out, ← hw4.out]
 go_wp2_with fail
 exact bodyPost_ret (v := .map (some w.heap.size)) (by simp [results, Tryd.results18, go_sem]) rfl ⟨rfl, hE.out⟩
abbrev wKs : List ByteArray := [wQuery, wProve, wAudit, wRevoke, wAssert]
abbrev fnA (k : Int) : AV := .fn (.func 32) [] [.e [.v (.int .u8 k)]]
abbrev fnB (f : Nat) : AV := .fn (.func f) [] []
abbrev wVs : List AV := [fnA 3, fnA 4, fnB 34, fnB 36, fnB 38]
def g0 (r : AV) : List AV → Option AV
 | [] => some r
 | _ => none
@[go_sem] theorem g0_nil (r : AV) : g0 r [] = some r := rfl
abbrev wordsS : Fs := .pureIf (fun _ => True) (g0 (.mp wKs wVs))
theorem repK {c : Cx} {h : AH} {w w' : World} {b : Nat} {k : Int} (hl : w.heap.size ≤ b) (hb : w'.heap[b]? = some (kindO k)) : ARep (c.hold w w') h w' (litF b) (fnA k) := by
 have hlt := (Array.getElem?_eq_some_iff.1 hb).1
 refine .fn _ [] [ptrV b] [] _ rfl rep_nil rfl (rep_cons (.e b 0 _ (fun _ => .int .u8 k) (fun j x hx => ?_) fun j x hx => ?_) rep_nil)
 · match j with
   | 0 => exact ⟨(blk_cell hb 0).trans rfl, by unfold Cx.lo Cx.hold; simp only; rw [if_pos ⟨hl, hlt⟩]; trivial⟩
   | j + 1 => simp at hx
 · match j with
   | 0 => simp at hx; subst hx; exact .v _ rfl
   | j + 1 => simp at hx
theorem repF {c : Cx} {h : AH} {w : World} (f : Nat) : ARep c h w (clF f) (fnB f) := .fn _ [] [] [] [] rfl rep_nil rfl rep_nil
theorem words_ok : FsOk Tryd.prog 18 wordsS := by
 refine of_hold Tryd.func18 rfl (by kernel_rfl) ?_
 intro args r c h n w vals hp hg hw hl hr
 unfold g0 at hg
 split at hg
 · cases hg
   match vals, hl with
   | [], _ =>
     refine (words_calls w).mono fun e w' hq => ?_
     obtain ⟨rfl, h1, h2, h3, hb⟩ := hq
     have l1 := (Array.getElem?_eq_some_iff.1 h1).1
     refine ⟨_, rfl, hb, .mp _ _ _ wKs wVs ?_ h1 rfl rfl ?_⟩
     · show (if w.heap.size ≤ w.heap.size ∧ w.heap.size < w'.heap.size then none else _) = none
       rw [if_pos ⟨Nat.le_refl _, l1⟩]
     · exact rep_cons (repK (by omega) h2) (rep_cons (repK (by omega) h3) (rep_cons (repF _) (rep_cons (repF _) (rep_cons (repF _) rep_nil))))
 · cases hg
end Go.Proofs.YtfhpecgknmfnnaaDoor.M
end
section
namespace Go.Proofs.YtfhpecgknmfnnaaDoor.M
open Go.R
theorem li_out (k : Int) (T : List Tok) (s : ByteArray) : (∃ a e cs, liF k ⟨s, T⟩ = (.tup [vI a, vI e], cs) ∧ (e != 0) = true ∧ liT k T s = (Req.z, a, e)) ∨
 (∃ a l, liF k ⟨s, T⟩ = (.tup [vI a, vI 0], qBx k noStr 0 zC 0 (cL' l)) ∧ liT k T s = (⟨k, noStr, 0, Clause.z, 0, l⟩, 0, 0)) := by
 obtain ⟨l, q, e, hC⟩ : ∃ l q e, litAt T s 1 = (l, q, e) := ⟨_, _, _, rfl⟩
 have hC2 : litA (restS s (posOf T s 1)) = (l, q, e) := hC
 have hf : liF k ⟨s, T⟩ = (.tup [vI (posOf T s 1 + q), vI e], qBx k noStr 0 zC 0 (cL' l)) := by unfold liF; simp only [hC]
 cases he : e != 0 with
 | true => exact .inl ⟨_, _, _, hf, he, by unfold liT; simp only [hC2, he, if_true]⟩
 | false =>
   obtain rfl : e = 0 := by simpa using he
   exact .inr ⟨_, l, hf, by unfold liT; simp only [hC2, he, Bool.false_eq_true, if_false]⟩
theorem au_out (T : List Tok) (s : ByteArray) : (∃ a e cs, auF ⟨s, T⟩ = (.tup [vI a, vI e], cs) ∧ (e != 0) = true ∧ auT T s = (Req.z, a, e)) ∨
 (∃ a, auF ⟨s, T⟩ = (.tup [vI a, vI 0], qBx 5 noStr 0 zC 0 zL) ∧ auT T s = (⟨5, noStr, 0, Clause.z, 0, Lit.z⟩, 0, 0)) := by
 unfold auF auT endsT
 cases h : decide (1 < T.length) with
 | true => exact .inl ⟨_, _, _, by simp only [h, if_true]; rfl, rfl, rfl⟩
 | false => exact .inr ⟨0, by simp only [h, Bool.false_eq_true, if_false], rfl⟩
theorem re_out (T : List Tok) (s : ByteArray) : (∃ a e cs, reF ⟨s, T⟩ = (.tup [vI a, vI e], cs) ∧ (e != 0) = true ∧ reT T s = (Req.z, a, e)) ∨
 (∃ a m, reF ⟨s, T⟩ = (.tup [vI a, vI 0], qBx 2 noStr 0 zC m zL) ∧ reT T s = (⟨2, noStr, 0, Clause.z, m, Lit.z⟩, 0, 0)) := by
 unfold reF reT endsT
 cases hn : numB (wordB T s 1 3) == 0 with
 | true => exact .inl ⟨_, _, _, by simp only [hn, if_true]; rfl, rfl, rfl⟩
 | false =>
   cases h : decide (2 < T.length) with
   | true => exact .inl ⟨_, _, _, by simp only [hn, h, Bool.false_eq_true, if_false, if_true]; rfl, rfl, rfl⟩
   | false => exact .inr ⟨0, _, by simp only [hn, h, Bool.false_eq_true, if_false], rfl⟩
theorem as1_out (T : List Tok) (s : ByteArray) (life : Int) (k : Nat) : (∃ a e cs, asF1 ⟨s, T⟩ life k = (.tup [vI a, vI e], cs) ∧ (e != 0) = true ∧ asAns (wordB T s 1 1) life (posOf T s k) (clauseA (restS s (posOf T s k))) = (Req.z, a, e)) ∨
 (∃ a w f c, asF1 ⟨s, T⟩ life k = (.tup [vI a, vI 0], qBx 1 w f (cC c) 0 zL) ∧ asAns (wordB T s 1 1) life (posOf T s k) (clauseA (restS s (posOf T s k))) = (⟨1, w, f, c, 0, Lit.z⟩, 0, 0)) := by
 obtain ⟨c, q, e, hC⟩ : ∃ c q e, clauseAt T s k = (c, q, e) := ⟨_, _, _, rfl⟩
 have hC2 : clauseA (restS s (posOf T s k)) = (c, q, e) := hC
 have hf : asF1 ⟨s, T⟩ life k = (.tup [vI (posOf T s k + q), vI e], qBx 1 (wordB T s 1 1) life (cC c) 0 zL) := by unfold asF1; simp only [hC]
 rw [hC2]
 cases he : e != 0 with
 | true => exact .inl ⟨_, _, _, hf, he, by unfold asAns; simp only [he, if_true]⟩
 | false =>
   obtain rfl : e = 0 := by simpa using he
   exact .inr ⟨_, _, _, c, hf, by unfold asAns; simp only [he, Bool.false_eq_true, if_false]⟩
theorem as_out (T : List Tok) (s : ByteArray) : (∃ a e cs, asF ⟨s, T⟩ = (.tup [vI a, vI e], cs) ∧ (e != 0) = true ∧ asT T s = (Req.z, a, e)) ∨
 (∃ a w f c, asF ⟨s, T⟩ = (.tup [vI a, vI 0], qBx 1 w f (cC c) 0 zL) ∧ asT T s = (⟨1, w, f, c, 0, Lit.z⟩, 0, 0)) := by
 unfold asF asT
 cases hz : (wordB T s 1 1).size == 0 with
 | true => exact .inl ⟨_, _, _, by simp only [hz, if_true]; rfl, rfl, rfl⟩
 | false =>
   cases hl : longB T s with
   | true =>
     cases hn : numB (wordB T s 3 3) == 0 with
     | true => exact .inl ⟨_, _, _, by simp only [hz, hl, hn, Bool.false_eq_true, if_false, if_true]; rfl, rfl, rfl⟩
     | false =>
       simp only [hz, hl, hn, Bool.false_eq_true, if_false, if_true]
       exact as1_out T s _ 4
   | false =>
     simp only [hz, hl, Bool.false_eq_true, if_false]
     exact as1_out T s 0 2
theorem ba_beq (a b : ByteArray) : ((a == b) = true) = (a = b) := by
 obtain ⟨a⟩ := a
 obtain ⟨b⟩ := b
 have h : ((⟨a⟩ : ByteArray) == ⟨b⟩) = (a == b) := rfl
 rw [h, beq_iff_eq, ByteArray.mk.injEq]
theorem find_word (w : ByteArray) : (w = wQuery ∧ mpFind w wKs wVs = fnA 3) ∨ (w = wProve ∧ mpFind w wKs wVs = fnA 4) ∨ (w = wAudit ∧ mpFind w wKs wVs = fnB 34) ∨ (w = wRevoke ∧ mpFind w wKs wVs = fnB 36) ∨
 (w = wAssert ∧ mpFind w wKs wVs = fnB 38) ∨ ((w ≠ wQuery ∧ w ≠ wProve ∧ w ≠ wAudit ∧ w ≠ wRevoke ∧ w ≠ wAssert) ∧ mpFind w wKs wVs = .d (.v .nilFunc)) := by
 simp only [wKs, wVs, mpFind, ba_beq]
 by_cases h1 : w = wQuery
 · exact .inl ⟨h1, by rw [if_pos h1]⟩
 by_cases h2 : w = wProve
 · exact .inr (.inl ⟨h2, by rw [if_neg h1, if_pos h2]⟩)
 by_cases h3 : w = wAudit
 · exact .inr (.inr (.inl ⟨h3, by rw [if_neg h1, if_neg h2, if_pos h3]⟩))
 by_cases h4 : w = wRevoke
 · exact .inr (.inr (.inr (.inl ⟨h4, by rw [if_neg h1, if_neg h2, if_neg h3, if_pos h4]⟩)))
 by_cases h5 : w = wAssert
 · exact .inr (.inr (.inr (.inr (.inl ⟨h5, by rw [if_neg h1, if_neg h2, if_neg h3, if_neg h4, if_pos h5]⟩))))
 · exact .inr (.inr (.inr (.inr (.inr ⟨⟨h1, h2, h3, h4, h5⟩, by rw [if_neg h1, if_neg h2, if_neg h3, if_neg h4, if_neg h5]⟩))))
theorem beq_no {w x : ByteArray} (h : w ≠ x) : ¬ ((w.toList == x.toList) = true) := by
 rw [beq_iff_eq]
 exact fun e => h (toList_inj e)
theorem beq_diff {a b : ByteArray} (h : (a.data == b.data) = false) : ¬ ((a.toList == b.toList) = true) := beq_no fun e => by rw [e] at h; simp at h
theorem req_query {T : List Tok} {s : ByteArray} (h : wordB T s 0 1 = wQuery) : reqT T s = liT 3 T s := by
 unfold reqT
 rw [h, if_neg (beq_diff rfl), if_neg (beq_diff rfl), if_pos (by simp)]
theorem req_prove {T : List Tok} {s : ByteArray} (h : wordB T s 0 1 = wProve) : reqT T s = liT 4 T s := by
 unfold reqT
 rw [h, if_neg (beq_diff rfl), if_neg (beq_diff rfl), if_neg (beq_diff rfl), if_pos (by simp)]
theorem req_audit {T : List Tok} {s : ByteArray} (h : wordB T s 0 1 = wAudit) : reqT T s = auT T s := by
 unfold reqT
 rw [h, if_neg (beq_diff rfl), if_neg (beq_diff rfl), if_neg (beq_diff rfl), if_neg (beq_diff rfl), if_pos (by simp)]
theorem req_revoke {T : List Tok} {s : ByteArray} (h : wordB T s 0 1 = wRevoke) : reqT T s = reT T s := by
 unfold reqT
 rw [h, if_neg (beq_diff rfl), if_pos (by simp)]
theorem req_assert {T : List Tok} {s : ByteArray} (h : wordB T s 0 1 = wAssert) : reqT T s = asT T s := by
 unfold reqT
 rw [h, if_pos (by simp)]
theorem req_none {T : List Tok} {s w : ByteArray} (hw : wordB T s 0 1 = w) (h : w ≠ wQuery ∧ w ≠ wProve ∧ w ≠ wAudit ∧ w ≠ wRevoke ∧ w ≠ wAssert) : reqT T s = (Req.z, posOf T s 0, 6) := by
 obtain ⟨h1, h2, h3, h4, h5⟩ := h
 unfold reqT
 rw [hw, if_neg (beq_no h5), if_neg (beq_no h4), if_neg (beq_no h1), if_neg (beq_no h2), if_neg (beq_no h3)]
@[go_sem] theorem liW_o : liW.o = obRq := rfl
@[go_sem] theorem liW_cap : liW.cap = capK := rfl
@[go_sem] theorem liW_pre : liW.pre = rqOk := rfl
@[go_sem] theorem auW_o : auW.o = obRq := rfl
@[go_sem] theorem auW_cap : auW.cap = capN := rfl
@[go_sem] theorem auW_pre : auW.pre = rqOk := rfl
@[go_sem] theorem reW_o : reW.o = obRq := rfl
@[go_sem] theorem reW_cap : reW.cap = capN := rfl
@[go_sem] theorem reW_pre : reW.pre = rqOk := rfl
@[go_sem] theorem asW_o : asW.o = obRq := rfl
@[go_sem] theorem asW_cap : asW.cap = capN := rfl
@[go_sem] theorem asW_pre : asW.pre = rqOk := rfl
abbrev preqS : Fs := .pureIf (g1p aStr fun s => (s.size : Int) ≤ 9223372036854775807) (g1 aStr fun s => .tup [(reqA s).1.av, vI (reqA s).2.1, vI (reqA s).2.2])
set_option maxRecDepth 20000 in
set_option maxHeartbeats 8000000 in
theorem preq_ok : FsOk Tryd.prog 8 preqS := by
 refine of_Y1 (E := EqT.no _) (F := (((((((Ft.no.put 17 pallS).put 18 wordsS).put 19 rtextS).put 20 atS).put 32 (owS liW)).put 34 (owS auW)).put 36 (owS reW)).put 38 (owS asW)) vS (fun _ _ => aStr_le) Tryd.func8 rfl (by kernel_rfl) [.cell 2 33, .tmp 3, .tmp 4] rfl Tryd.ntmps8 (by decide) (((((((((FtOk.no _).put pall_ok).put words_ok).put rtext_ok).put at_ok).put words1_ok).put words2_ok).put words3_ok).put words4_ok) ?_
 intro s h n hp hok
 have hTok := allT_ok s
 obtain ⟨T, p0, e0, hA⟩ : ∃ T p0 e0, allT s = (T, p0, e0) := ⟨_, _, _, rfl⟩
 rw [hA] at hTok
 have hTok : TokOk s T := hTok
 have tk : ∀ k : Int, 0 ≤ k → k ≤ 10 → toksP s T k := fun k h0 h1 => ⟨hp, hTok, h0, by omega⟩
 have hrq : rqOk ⟨s, T⟩ := ⟨hp, hTok⟩
 have hR : reqA s = if (e0 != 0) = true then (Req.z, p0, e0) else reqT T s := by unfold reqA; rw [hA]
 have n12 : n + 1 ≠ n + 2 := by omega
 cases he : e0 != 0 with
 | true =>
   rw [he, if_pos rfl] at hR
   repeat' (first | (with_reducible first | refine XG_split (fun hq => ?_) (fun hq => ?_) | refine MX1.of 4000 (by simp) ?_ | refine MX2.of 4000 (by simp) ?_ | refine And.intro ?_ ?_) | ((with_reducible first | refine Or.inl (And.intro (And.intro mixedP ?_) ?_) | refine Or.inl (And.intro mixedP ?_)); kernel_rfl) | simp only [go_sem,Nat.reduceEqDiff,Nat.reduceAdd,Nat.reduceMul,Nat.reduceLeDiff,Int.reduceBEq,Req.av,Req.ds,Req.z,Clause.z,Lit.z,Term.z,Val.z,List.map_nil,hA,he,fnA,fnB,qBx,zC,zL,cC,cL',List.cons_append,List.nil_append,show ((0 : Int)).toNat = 0 from rfl,show ((0 : Int) != 0) = false from rfl,hR])
   all_goals first | exact hp | exact tk _ (by decide) (by decide) | exact hrq | rfl | omega | skip
   all_goals first | omega | (unfold maxLen; omega) | (right; omega) | (left; simp; done) | (simp only [wk3,wkL2,wk2,wkL,wk1_d,wk1_own,wk1_nil,and_self]; done) | (intro i hi; simp only [upd]; (repeat' split); all_goals first | rfl | omega) | skip
 | false =>
   rw [he, if_neg (by decide)] at hR
   obtain ⟨w, hw⟩ : ∃ w, wordB T s 0 1 = w := ⟨_, rfl⟩
   rcases find_word w with ⟨h1, hF⟩ | ⟨h1, hF⟩ | ⟨h1, hF⟩ | ⟨h1, hF⟩ | ⟨h1, hF⟩ | ⟨h1, hF⟩
   · rw [req_query (hw.trans h1)] at hR
     have hU : liW.f 3 ⟨s, T⟩ = liF 3 ⟨s, T⟩ := rfl
     rcases li_out 3 T s with ⟨a, e, cs, hf, he2, hL⟩ | ⟨a, l, hf, hL⟩
     · rw [hL] at hR
       rw [hf] at hU
       repeat' (first | (with_reducible first | refine XG_split (fun hq => ?_) (fun hq => ?_) | refine MX1.of 4000 (by simp) ?_ | refine MX2.of 4000 (by simp) ?_ | refine And.intro ?_ ?_) | ((with_reducible first | refine Or.inl (And.intro (And.intro mixedP ?_) ?_) | refine Or.inl (And.intro mixedP ?_)); kernel_rfl) | simp only [go_sem,Nat.reduceEqDiff,Nat.reduceAdd,Nat.reduceMul,Nat.reduceLeDiff,Int.reduceBEq,Req.av,Req.ds,Req.z,Clause.z,Lit.z,Term.z,Val.z,List.map_nil,hA,he,fnA,fnB,qBx,zC,zL,cC,cL',List.cons_append,List.nil_append,show ((0 : Int)).toNat = 0 from rfl,show ((0 : Int) != 0) = false from rfl,hR,hw,hF,hU,he2])
       all_goals first | exact hp | exact tk _ (by decide) (by decide) | exact hrq | rfl | omega | skip
       all_goals first | omega | (unfold maxLen; omega) | (right; omega) | (left; simp; done) | (simp only [wk3,wkL2,wk2,wkL,wk1_d,wk1_own,wk1_nil,and_self]; done) | (intro i hi; simp only [upd]; (repeat' split); all_goals first | rfl | omega) | skip
     · rw [hL] at hR
       rw [hf] at hU
       repeat' (first | (with_reducible first | refine XG_split (fun hq => ?_) (fun hq => ?_) | refine MX1.of 4000 (by simp) ?_ | refine MX2.of 4000 (by simp) ?_ | refine And.intro ?_ ?_) | ((with_reducible first | refine Or.inl (And.intro (And.intro mixedP ?_) ?_) | refine Or.inl (And.intro mixedP ?_)); kernel_rfl) | simp only [go_sem,Nat.reduceEqDiff,Nat.reduceAdd,Nat.reduceMul,Nat.reduceLeDiff,Int.reduceBEq,Req.av,Req.ds,Req.z,Clause.z,Lit.z,Term.z,Val.z,List.map_nil,hA,he,fnA,fnB,qBx,zC,zL,cC,cL',List.cons_append,List.nil_append,show ((0 : Int)).toNat = 0 from rfl,show ((0 : Int) != 0) = false from rfl,hR,hw,hF,hU])
       all_goals first | exact hp | exact tk _ (by decide) (by decide) | exact hrq | rfl | omega | skip
       all_goals first | omega | (unfold maxLen; omega) | (right; omega) | (left; simp; done) | (simp only [wk3,wkL2,wk2,wkL,wk1_d,wk1_own,wk1_nil,and_self]; done) | (intro i hi; simp only [upd]; (repeat' split); all_goals first | rfl | omega) | skip
   · rw [req_prove (hw.trans h1)] at hR
     have hU : liW.f 4 ⟨s, T⟩ = liF 4 ⟨s, T⟩ := rfl
     rcases li_out 4 T s with ⟨a, e, cs, hf, he2, hL⟩ | ⟨a, l, hf, hL⟩
     · rw [hL] at hR
       rw [hf] at hU
       repeat' (first | (with_reducible first | refine XG_split (fun hq => ?_) (fun hq => ?_) | refine MX1.of 4000 (by simp) ?_ | refine MX2.of 4000 (by simp) ?_ | refine And.intro ?_ ?_) | ((with_reducible first | refine Or.inl (And.intro (And.intro mixedP ?_) ?_) | refine Or.inl (And.intro mixedP ?_)); kernel_rfl) | simp only [go_sem,Nat.reduceEqDiff,Nat.reduceAdd,Nat.reduceMul,Nat.reduceLeDiff,Int.reduceBEq,Req.av,Req.ds,Req.z,Clause.z,Lit.z,Term.z,Val.z,List.map_nil,hA,he,fnA,fnB,qBx,zC,zL,cC,cL',List.cons_append,List.nil_append,show ((0 : Int)).toNat = 0 from rfl,show ((0 : Int) != 0) = false from rfl,hR,hw,hF,hU,he2])
       all_goals first | exact hp | exact tk _ (by decide) (by decide) | exact hrq | rfl | omega | skip
       all_goals first | omega | (unfold maxLen; omega) | (right; omega) | (left; simp; done) | (simp only [wk3,wkL2,wk2,wkL,wk1_d,wk1_own,wk1_nil,and_self]; done) | (intro i hi; simp only [upd]; (repeat' split); all_goals first | rfl | omega) | skip
     · rw [hL] at hR
       rw [hf] at hU
       repeat' (first | (with_reducible first | refine XG_split (fun hq => ?_) (fun hq => ?_) | refine MX1.of 4000 (by simp) ?_ | refine MX2.of 4000 (by simp) ?_ | refine And.intro ?_ ?_) | ((with_reducible first | refine Or.inl (And.intro (And.intro mixedP ?_) ?_) | refine Or.inl (And.intro mixedP ?_)); kernel_rfl) | simp only [go_sem,Nat.reduceEqDiff,Nat.reduceAdd,Nat.reduceMul,Nat.reduceLeDiff,Int.reduceBEq,Req.av,Req.ds,Req.z,Clause.z,Lit.z,Term.z,Val.z,List.map_nil,hA,he,fnA,fnB,qBx,zC,zL,cC,cL',List.cons_append,List.nil_append,show ((0 : Int)).toNat = 0 from rfl,show ((0 : Int) != 0) = false from rfl,hR,hw,hF,hU])
       all_goals first | exact hp | exact tk _ (by decide) (by decide) | exact hrq | rfl | omega | skip
       all_goals first | omega | (unfold maxLen; omega) | (right; omega) | (left; simp; done) | (simp only [wk3,wkL2,wk2,wkL,wk1_d,wk1_own,wk1_nil,and_self]; done) | (intro i hi; simp only [upd]; (repeat' split); all_goals first | rfl | omega) | skip
   · rw [req_audit (hw.trans h1)] at hR
     have hU : auW.f 0 ⟨s, T⟩ = auF ⟨s, T⟩ := rfl
     rcases au_out T s with ⟨a, e, cs, hf, he2, hL⟩ | ⟨a, hf, hL⟩
     · rw [hL] at hR
       rw [hf] at hU
       repeat' (first | (with_reducible first | refine XG_split (fun hq => ?_) (fun hq => ?_) | refine MX1.of 4000 (by simp) ?_ | refine MX2.of 4000 (by simp) ?_ | refine And.intro ?_ ?_) | ((with_reducible first | refine Or.inl (And.intro (And.intro mixedP ?_) ?_) | refine Or.inl (And.intro mixedP ?_)); kernel_rfl) | simp only [go_sem,Nat.reduceEqDiff,Nat.reduceAdd,Nat.reduceMul,Nat.reduceLeDiff,Int.reduceBEq,Req.av,Req.ds,Req.z,Clause.z,Lit.z,Term.z,Val.z,List.map_nil,hA,he,fnA,fnB,qBx,zC,zL,cC,cL',List.cons_append,List.nil_append,show ((0 : Int)).toNat = 0 from rfl,show ((0 : Int) != 0) = false from rfl,hR,hw,hF,hU,he2])
       all_goals first | exact hp | exact tk _ (by decide) (by decide) | exact hrq | rfl | omega | skip
       all_goals first | omega | (unfold maxLen; omega) | (right; omega) | (left; simp; done) | (simp only [wk3,wkL2,wk2,wkL,wk1_d,wk1_own,wk1_nil,and_self]; done) | (intro i hi; simp only [upd]; (repeat' split); all_goals first | rfl | omega) | skip
     · rw [hL] at hR
       rw [hf] at hU
       repeat' (first | (with_reducible first | refine XG_split (fun hq => ?_) (fun hq => ?_) | refine MX1.of 4000 (by simp) ?_ | refine MX2.of 4000 (by simp) ?_ | refine And.intro ?_ ?_) | ((with_reducible first | refine Or.inl (And.intro (And.intro mixedP ?_) ?_) | refine Or.inl (And.intro mixedP ?_)); kernel_rfl) | simp only [go_sem,Nat.reduceEqDiff,Nat.reduceAdd,Nat.reduceMul,Nat.reduceLeDiff,Int.reduceBEq,Req.av,Req.ds,Req.z,Clause.z,Lit.z,Term.z,Val.z,List.map_nil,hA,he,fnA,fnB,qBx,zC,zL,cC,cL',List.cons_append,List.nil_append,show ((0 : Int)).toNat = 0 from rfl,show ((0 : Int) != 0) = false from rfl,hR,hw,hF,hU])
       all_goals first | exact hp | exact tk _ (by decide) (by decide) | exact hrq | rfl | omega | skip
       all_goals first | omega | (unfold maxLen; omega) | (right; omega) | (left; simp; done) | (simp only [wk3,wkL2,wk2,wkL,wk1_d,wk1_own,wk1_nil,and_self]; done) | (intro i hi; simp only [upd]; (repeat' split); all_goals first | rfl | omega) | skip
   · rw [req_revoke (hw.trans h1)] at hR
     have hU : reW.f 0 ⟨s, T⟩ = reF ⟨s, T⟩ := rfl
     rcases re_out T s with ⟨a, e, cs, hf, he2, hL⟩ | ⟨a, m, hf, hL⟩
     · rw [hL] at hR
       rw [hf] at hU
       repeat' (first | (with_reducible first | refine XG_split (fun hq => ?_) (fun hq => ?_) | refine MX1.of 4000 (by simp) ?_ | refine MX2.of 4000 (by simp) ?_ | refine And.intro ?_ ?_) | ((with_reducible first | refine Or.inl (And.intro (And.intro mixedP ?_) ?_) | refine Or.inl (And.intro mixedP ?_)); kernel_rfl) | simp only [go_sem,Nat.reduceEqDiff,Nat.reduceAdd,Nat.reduceMul,Nat.reduceLeDiff,Int.reduceBEq,Req.av,Req.ds,Req.z,Clause.z,Lit.z,Term.z,Val.z,List.map_nil,hA,he,fnA,fnB,qBx,zC,zL,cC,cL',List.cons_append,List.nil_append,show ((0 : Int)).toNat = 0 from rfl,show ((0 : Int) != 0) = false from rfl,hR,hw,hF,hU,he2])
       all_goals first | exact hp | exact tk _ (by decide) (by decide) | exact hrq | rfl | omega | skip
       all_goals first | omega | (unfold maxLen; omega) | (right; omega) | (left; simp; done) | (simp only [wk3,wkL2,wk2,wkL,wk1_d,wk1_own,wk1_nil,and_self]; done) | (intro i hi; simp only [upd]; (repeat' split); all_goals first | rfl | omega) | skip
     · rw [hL] at hR
       rw [hf] at hU
       repeat' (first | (with_reducible first | refine XG_split (fun hq => ?_) (fun hq => ?_) | refine MX1.of 4000 (by simp) ?_ | refine MX2.of 4000 (by simp) ?_ | refine And.intro ?_ ?_) | ((with_reducible first | refine Or.inl (And.intro (And.intro mixedP ?_) ?_) | refine Or.inl (And.intro mixedP ?_)); kernel_rfl) | simp only [go_sem,Nat.reduceEqDiff,Nat.reduceAdd,Nat.reduceMul,Nat.reduceLeDiff,Int.reduceBEq,Req.av,Req.ds,Req.z,Clause.z,Lit.z,Term.z,Val.z,List.map_nil,hA,he,fnA,fnB,qBx,zC,zL,cC,cL',List.cons_append,List.nil_append,show ((0 : Int)).toNat = 0 from rfl,show ((0 : Int) != 0) = false from rfl,hR,hw,hF,hU])
       all_goals first | exact hp | exact tk _ (by decide) (by decide) | exact hrq | rfl | omega | skip
       all_goals first | omega | (unfold maxLen; omega) | (right; omega) | (left; simp; done) | (simp only [wk3,wkL2,wk2,wkL,wk1_d,wk1_own,wk1_nil,and_self]; done) | (intro i hi; simp only [upd]; (repeat' split); all_goals first | rfl | omega) | skip
   · rw [req_assert (hw.trans h1)] at hR
     have hU : asW.f 0 ⟨s, T⟩ = asF ⟨s, T⟩ := rfl
     rcases as_out T s with ⟨a, e, cs, hf, he2, hL⟩ | ⟨a, w2, f, c, hf, hL⟩
     · rw [hL] at hR
       rw [hf] at hU
       repeat' (first | (with_reducible first | refine XG_split (fun hq => ?_) (fun hq => ?_) | refine MX1.of 4000 (by simp) ?_ | refine MX2.of 4000 (by simp) ?_ | refine And.intro ?_ ?_) | ((with_reducible first | refine Or.inl (And.intro (And.intro mixedP ?_) ?_) | refine Or.inl (And.intro mixedP ?_)); kernel_rfl) | simp only [go_sem,Nat.reduceEqDiff,Nat.reduceAdd,Nat.reduceMul,Nat.reduceLeDiff,Int.reduceBEq,Req.av,Req.ds,Req.z,Clause.z,Lit.z,Term.z,Val.z,List.map_nil,hA,he,fnA,fnB,qBx,zC,zL,cC,cL',List.cons_append,List.nil_append,show ((0 : Int)).toNat = 0 from rfl,show ((0 : Int) != 0) = false from rfl,hR,hw,hF,hU,he2])
       all_goals first | exact hp | exact tk _ (by decide) (by decide) | exact hrq | rfl | omega | skip
       all_goals first | omega | (unfold maxLen; omega) | (right; omega) | (left; simp; done) | (simp only [wk3,wkL2,wk2,wkL,wk1_d,wk1_own,wk1_nil,and_self]; done) | (intro i hi; simp only [upd]; (repeat' split); all_goals first | rfl | omega) | skip
     · rw [hL] at hR
       rw [hf] at hU
       repeat' (first | (with_reducible first | refine XG_split (fun hq => ?_) (fun hq => ?_) | refine MX1.of 4000 (by simp) ?_ | refine MX2.of 4000 (by simp) ?_ | refine And.intro ?_ ?_) | ((with_reducible first | refine Or.inl (And.intro (And.intro mixedP ?_) ?_) | refine Or.inl (And.intro mixedP ?_)); kernel_rfl) | simp only [go_sem,Nat.reduceEqDiff,Nat.reduceAdd,Nat.reduceMul,Nat.reduceLeDiff,Int.reduceBEq,Req.av,Req.ds,Req.z,Clause.z,Lit.z,Term.z,Val.z,List.map_nil,hA,he,fnA,fnB,qBx,zC,zL,cC,cL',List.cons_append,List.nil_append,show ((0 : Int)).toNat = 0 from rfl,show ((0 : Int) != 0) = false from rfl,hR,hw,hF,hU])
       all_goals first | exact hp | exact tk _ (by decide) (by decide) | exact hrq | rfl | omega | skip
       all_goals first | omega | (unfold maxLen; omega) | (right; omega) | (left; simp; done) | (simp only [wk3,wkL2,wk2,wkL,wk1_d,wk1_own,wk1_nil,and_self]; done) | (intro i hi; simp only [upd]; (repeat' split); all_goals first | rfl | omega) | skip
   · rw [req_none hw h1] at hR
     repeat' (first | (with_reducible first | refine XG_split (fun hq => ?_) (fun hq => ?_) | refine MX1.of 4000 (by simp) ?_ | refine MX2.of 4000 (by simp) ?_ | refine And.intro ?_ ?_) | ((with_reducible first | refine Or.inl (And.intro (And.intro mixedP ?_) ?_) | refine Or.inl (And.intro mixedP ?_)); kernel_rfl) | simp only [go_sem,Nat.reduceEqDiff,Nat.reduceAdd,Nat.reduceMul,Nat.reduceLeDiff,Int.reduceBEq,Req.av,Req.ds,Req.z,Clause.z,Lit.z,Term.z,Val.z,List.map_nil,hA,he,fnA,fnB,qBx,zC,zL,cC,cL',List.cons_append,List.nil_append,show ((0 : Int)).toNat = 0 from rfl,show ((0 : Int) != 0) = false from rfl,hR,hw,hF])
     all_goals first | exact hp | exact tk _ (by decide) (by decide) | exact hrq | rfl | omega | skip
     all_goals first | omega | (unfold maxLen; omega) | (right; omega) | (left; simp; done) | (simp only [wk3,wkL2,wk2,wkL,wk1_d,wk1_own,wk1_nil,and_self]; done) | (intro i hi; simp only [upd]; (repeat' split); all_goals first | rfl | omega) | skip
end Go.Proofs.YtfhpecgknmfnnaaDoor.M
end
section
namespace Go.Proofs.YtfhpecgknmfnnaaDoor.M
open Go.R
theorem empty_str (s : ByteArray) : (s.toList == (⟨#[]⟩ : ByteArray).toList) = (s.size == 0) := by
 rw [Bool.eq_iff_iff, beq_iff_eq, beq_iff_eq]
 constructor
 · intro h; rw [toList_inj h]; rfl
 · intro h
   have : s = ⟨#[]⟩ := by
    obtain ⟨⟨l⟩⟩ := s
    cases l with
    | nil => rfl
    | cons a l => simp [ByteArray.size] at h
   rw [this]
abbrev nameS : Fs := .pureIf (fun _ => True) (g1 aStr fun s => vB (nameB s))
theorem name_ok : FsOk Tryd.prog 24 nameS := by
 refine FsOk.of_calls Tryd.func24 rfl (by kernel_rfl) ?_
 intro args r _ h
 obtain ⟨x, s, rfl, hx, rfl⟩ := g1_eq h
 obtain rfl := aStr_eq hx
 exact ⟨[.string s], _, rfl, fun _ _ _ => .d _ _ (.v _ rfl), fun w => (name_calls s w).mono fun e w' ⟨h1, h2⟩ => ⟨h1, by subst h2; exact Go.RowKit.Below.refl _ _⟩⟩
abbrev goodS : Fs := .pure (g1 aVal fun v => vB (goodV v))
theorem good_ok : FsOk Tryd.prog 86 goodS := by
 refine of_X1 (E := EqT.no _) (F := Ft.no.put 24 nameS) Val.av (fun _ _ => aVal_le) Tryd.func86 rfl (by kernel_rfl) [.tmp 2] rfl Tryd.ntmps86 (by decide) ((FtOk.no _).put name_ok) ?_
 intro v h n hok
 repeat' (first | (with_reducible refine XG_split (fun hq => ?_) (fun hq => ?_)) | (with_reducible refine Or.inl (And.intro (And.intro mixedP ?_) ?_); kernel_rfl) | (with_reducible refine MX1.of 4000 (by simp) ?_) | (with_reducible refine MX2.of 4000 (by simp) ?_) | (with_reducible refine And.intro ?_ ?_) | simp only [go_sem,Nat.reduceEqDiff,Nat.reduceAdd,Nat.reduceMul,Nat.reduceLeDiff,Val.av,empty_str])
 all_goals (refine wk_v (congrArg Value.bool ?_); simp [goodV, *])
end Go.Proofs.YtfhpecgknmfnnaaDoor.M
end
section
namespace Go.Proofs.YtfhpecgknmfnnaaDoor.M
open Go.R Go.Proofs.YtfhpecgknmfnnaaDoorW.PrintWords Go.Proofs.YtfhpecgknmfnnaaDoorW.PrintMore
theorem bytesOf_all (s : ByteArray) (p : Int → Bool) : (List.range s.size).all (fun i => p (byteAt s i)) = (bytesOf s).all p := by
 have key : ∀ k : Nat, k ≤ s.size → ((bytesOf s).drop (s.size - k)).all p = (List.range k).all fun i => p (byteAt s ((s.size - k + i : Nat) : Int)) := by
  intro k
  induction k with
  | zero => intro _; rw [Nat.sub_zero, List.drop_eq_nil_iff.2 (by rw [bytesOf_length]; exact Nat.le_refl _)]; rfl
  | succ k ih =>
    intro hk
    have h1 : s.size - (k + 1) < s.size := by omega
    rw [bytesOf_drop s _ h1, List.all_cons, show s.size - (k + 1) + 1 = s.size - k by omega, ih (by omega), List.range_succ_eq_map, List.all_cons, List.all_map, Nat.add_zero, byteAt_bt]
    congr 1
    congr 1
    funext i
    simp only [Function.comp]
    rw [show s.size - k + i = s.size - (k + 1) + (i + 1) by omega]
 have := key s.size (Nat.le_refl _)
 rw [Nat.sub_self, List.drop_zero] at this
 rw [this]
 simp only [Nat.zero_add]
theorem tw_len (p : Int → Bool) : ∀ l : List Int, (l.takeWhile p).length = l.length ↔ l.all p = true
 | [] => by simp
 | c :: l => by
   rw [List.takeWhile_cons, List.all_cons]
   cases hc : p c with
   | true =>
     rw [if_pos rfl, List.length_cons, List.length_cons, Bool.true_and, ← tw_len p l]
     omega
   | false => simp
theorem runTo_all {s : ByteArray} (h : 0 < s.size) (hc : pieceB (bt s 0) = true) : (runTo s 1 = s.size ↔ (bytesOf s).all pieceB = true) := by
 have hd := bytesOf_drop s 0 h
 rw [List.drop_zero] at hd
 have hl : ((bytesOf s).drop 1).length = s.size - 1 := by rw [List.length_drop, bytesOf_length]
 rw [hd, List.all_cons, show (bt s ((0 : Nat) : Int)) = bt s 0 from rfl, hc, Bool.true_and]
 unfold runTo
 rw [← tw_len, Nat.zero_add]
 have := (List.takeWhile_prefix pieceB (l := (bytesOf s).drop 1)).length_le
 omega
theorem upp_facts {c : Int} (h : uppB c = true) : 65 ≤ c ∧ c ≤ 90 ∧ pieceB c = true ∧ lowB c = false := by
 unfold uppB at h
 simp only [Bool.and_eq_true, decide_eq_true_eq] at h
 refine ⟨h.1, h.2, ?_, ?_⟩
 · unfold pieceB uppB
   simp [h.1, h.2]
 · unfold lowB
   have : ¬ 97 ≤ c := by omega
   simp [this]
theorem nameB_upp {s : ByteArray} (h : 0 < s.size) (hu : uppB (bt s 0) = true) : nameB s = false := by
 have hd := bytesOf_drop s 0 h
 rw [List.drop_zero] at hd
 unfold nameB
 rw [hd]
 have := (upp_facts hu).2.2.2
 rw [show bt s ((0 : Nat) : Int) = bt s 0 from rfl]
 simp [nameGo, this]
theorem word_upp {s : ByteArray} (h : 0 < s.size) (hu : uppB (bt s 0) = true) : (s.toList == [110, 111, 116] || s.toList == [115, 97, 121, 115]) = false := by
 have key : ∀ (c : UInt8) (t : List UInt8), s.toList = c :: t → bt s 0 = (c.toNat : Int) := by
  intro c t e
  rw [toList_eq] at e
  have hb : bytesOf s = (c.toNat : Int) :: t.map fun b => (b.toNat : Int) := by
   unfold bytesOf
   rw [e]
   rfl
  have := bytesOf_head s h
  rw [hb] at this
  simpa using this.symm
 rw [Bool.or_eq_false_iff]
 constructor
 · rw [beq_eq_false_iff_ne]
   intro e
   rw [key _ _ e] at hu
   cases hu
 · rw [beq_eq_false_iff_ne]
   intro e
   rw [key _ _ e] at hu
   cases hu
theorem sortK_upp {s : ByteArray} (h : 0 < s.size) (hu : uppB (bt s 0) = true) : (sortK s == 2) = decide (s.size ≤ 16) := by
 unfold sortK
 rw [word_upp h hu, nameB_upp h hu, hu, decide_eq_true h]
 by_cases h16 : s.size ≤ 16
 · have : decide ((s.size : Int) ≤ 16) = true := decide_eq_true (by omega)
   simp [this, h16]
 · have : decide ((s.size : Int) ≤ 16) = false := decide_eq_false (by omega)
   simp [this, h16]
   split <;> decide
theorem sortK_two {p : ByteArray} (h : sortK p = 2) : uppB (bt p 0) = true ∧ 0 < p.size := by
 unfold sortK at h
 split at h
 · cases h
 · split at h
   · cases h
   · split at h
     · rename_i hq
       simp only [Bool.and_eq_true, decide_eq_true_eq] at hq
       exact ⟨hq.1.2, hq.1.1⟩
     · split at h <;> cases h
theorem bt_extract {s : ByteArray} {q : Nat} (h : 0 < q) (hq : q ≤ s.size) : bt (s.extract 0 q) 0 = bt s 0 := by
 have h1 : 0 < (s.extract 0 q).size := by simp; omega
 have e1 := bytesOf_head _ h1
 have e2 := bytesOf_head s (by omega)
 rw [bytesOf_extract, List.drop_zero] at e1
 have hd := bytesOf_drop s 0 (by omega)
 rw [List.drop_zero] at hd
 obtain ⟨m, rfl⟩ : ∃ m, q = m + 1 := ⟨q - 1, by omega⟩
 rw [hd, List.take_succ_cons, List.head?_cons] at e1
 simpa using e1.symm
theorem extract_all (s : ByteArray) : s.extract 0 s.size = s := by
 refine bytesOf_inj ?_
 rw [bytesOf_extract, List.drop_zero, List.take_of_length_le (by rw [bytesOf_length]; exact Nat.le_refl _)]
theorem pieceTok_kind {s : ByteArray} {q : Nat} (h : 0 < q) (hq : q ≤ s.size) (hu : uppB (bt s 0) = false) : ((pieceTok s 0 q).1.kind == 2) = false := by
 unfold pieceTok
 split
 · rfl
 · rw [beq_eq_false_iff_ne]
   intro e
   have := (sortK_two e).1
   rw [bt_extract h hq, hu] at this
   cases this
theorem var_law (s : ByteArray) : ((oneT s 0).2 == 0 && (oneT s 0).1.kind == 2 && (oneT s 0).1.hi == (s.size : Int)) = varB s := by
 rcases Nat.eq_zero_or_pos s.size with h0 | h0
 · have : oneT s 0 = (Tok.z, 1) := by unfold oneT; rw [if_pos (by omega)]
   rw [this]
   unfold varB
   rw [h0]
   rfl
 have hv : varB s = (decide (s.size ≤ 16) && uppB (bt s 0) && (bytesOf s).all pieceB) := by
  unfold varB
  rw [decide_eq_true h0, Bool.true_and, bytesOf_all, byteAt_bt]
 rw [hv]
 have hb0 : bt s ((0 : Nat) : Int) = bt s 0 := rfl
 cases hu : uppB (bt s 0) with
 | true =>
   obtain ⟨u1, u2, u3, _⟩ := upp_facts hu
   have ho : oneT s 0 = pieceTok s 0 (runTo s (0 + 1)) := by
    unfold oneT
    rw [if_neg (by omega)]
    have e1 : (bt s 0 == 32 || bt s 0 == 9) = false := by
     rw [Bool.or_eq_false_iff, beq_eq_false_iff_ne, beq_eq_false_iff_ne]; omega
    have e2 : (bt s 0 == 45) = false := by rw [beq_eq_false_iff_ne]; omega
    simp only [hb0, e1, e2, u3, Bool.false_eq_true, if_false, if_true]
   rw [ho]
   have hq1 := runTo_ge s (0 + 1)
   have hq2 := runTo_le s (0 + 1) (by omega)
   have ha := runTo_all h0 u3
   cases hall : (bytesOf s).all pieceB with
   | true =>
     have hr : runTo s (0 + 1) = s.size := ha.2 hall
     rw [hr]
     unfold pieceTok
     rw [extract_all]
     have hk := sortK_upp h0 hu
     by_cases hk0 : sortK s = 0
     · rw [if_pos hk0]
       rw [hk0] at hk
       rw [← hk]
       rfl
     · rw [if_neg hk0]
       simp only [hk]
       simp
   | false =>
     have hr : runTo s (0 + 1) ≠ s.size := fun e => by rw [ha.1 e] at hall; cases hall
     simp only [Bool.and_false]
     unfold pieceTok
     split
     · rfl
     · simp only
       have : (((runTo s (0 + 1) : Nat) : Int) == (s.size : Int)) = false := by rw [beq_eq_false_iff_ne]; omega
       rw [this, Bool.and_false]
 | false =>
   simp only [Bool.and_false, Bool.false_and]
   have hk : ((oneT s 0).1.kind == 2) = false := by
    unfold oneT
    rw [if_neg (by omega)]
    simp only [hb0]
    have hq1 := runTo_ge s (0 + 1)
    have hq2 := runTo_le s (0 + 1) (by omega)
    repeat' split
    all_goals first | rfl | exact pieceTok_kind (by omega) hq2 hu
   rw [hk, Bool.and_false, Bool.false_and]
end Go.Proofs.YtfhpecgknmfnnaaDoor.M
end
section
namespace Go.R
open Go.RowKit
inductive Tr where
 | fin
 | q (k : Nat) (r : Tr)
 | one (k : Nat) (r : Tr)
 | two (k1 : Nat) (r1 : Tr) (k2 : Nat) (r2 : Tr)
def Tr.len : Tr → Nat
 | .fin => 0
 | .q _ r => r.len + 1
 | .one _ r => r.len + 1
 | .two _ r1 _ _ => r1.len + 1
section
variable {P : Program} {ops : Array Oper} {Q : Exit → Act → World → Prop}
def qB (ops : Array Oper) (k : Nat) : Bool := match ops[k]? with
 | some o => o.guard.isNone && noCall o
 | none => false
def oB (ops : Array Oper) (k : Nat) : Bool := (ops[k]?).isSome
def trB (ops : Array Oper) : Tr → Array Bool → Bool
 | .fin, listed => (Region.ready .any ops listed).isEmpty
 | .q k r, listed => qB ops k && (Region.ready .any ops listed).contains k && Region.free .any ops listed k && trB ops r (listed.setIfInBounds k true)
 | .one k r, listed => oB ops k && (Region.ready .any ops listed == [k]) && trB ops r (listed.setIfInBounds k true)
 | .two k1 r1 k2 r2, listed => oB ops k1 && oB ops k2 && (Region.ready .any ops listed == [k1, k2]) && (r1.len == r2.len) && trB ops r1 (listed.setIfInBounds k1 true) && trB ops r2 (listed.setIfInBounds k2 true)
def wpTr (P : Program) (ops : Array Oper) (C : World → Prop) (Q : Exit → Act → World → Prop) : Tr → Array Bool → Act → World → Prop
 | .fin, listed, a, w => C w ∧ Q .normal a w
 | .q k r, listed, a, w => ∃ o v, ops[k]? = some o ∧ QY P ops C o v a ∧ wpTr P ops C Q r (listed.setIfInBounds k true) (a.put o.dst v) w
 | .one k r, listed, a, w => C w ∧ wpOp P ops Q k (wpTr P ops C Q r (listed.setIfInBounds k true)) a w
 | .two k1 r1 k2 r2, listed, a, w => C w ∧ wpOp P ops Q k1 (wpTr P ops C Q r1 (listed.setIfInBounds k1 true)) a w ∧ wpOp P ops Q k2 (wpTr P ops C Q r2 (listed.setIfInBounds k2 true)) a w
theorem closed_set {listed : Array Bool} {k : Nat} (hcl : ∀ k o, ops[k]? = some o → listed.getD k true = true → ∀ e ∈ o.after, Region.binds .any e = true → listed.getD e.on false = true) (hr : k ∈ Region.ready .any ops listed) :
 ∀ k' o', ops[k']? = some o' → (listed.setIfInBounds k true).getD k' true = true → ∀ e ∈ o'.after, Region.binds .any e = true → (listed.setIfInBounds k true).getD e.on false = true := by
 intro k' o' ho' hl e he hb
 by_cases hk : k = k'
 · subst hk
   obtain ⟨_, o2, h2, hall⟩ := mem_ready.1 hr
   rw [ho'] at h2
   cases h2
   exact getD_set_true (hall e he hb)
 · rw [getD_set_ne true hk] at hl
   exact getD_set_true (hcl k' o' ho' hl e he hb)
theorem wpM_of_tr {C : World → Prop} (hsel : Region.noSelect ops = true) : ∀ (t : Tr) (listed : Array Bool) (a : Act) (w : World),
 trB ops t listed = true → (∀ k o, ops[k]? = some o → listed.getD k true = true → ∀ e ∈ o.after, Region.binds .any e = true → listed.getD e.on false = true) → listed.size = ops.size →
 wpTr P ops C (NoPanic Q) t listed a w → wpM P .any ops (fun _ w => C w) (NoPanic Q) t.len listed a w
 | .fin, listed, a, w, hB, _, _, h => ⟨h.1, by simpa [trB] using hB, h.2⟩
 | .q k r, listed, a, w, hB, hcl, hsz, h => by
   simp only [trB, Bool.and_eq_true] at hB
   obtain ⟨⟨⟨hq, hr⟩, hfree⟩, hB'⟩ := hB
   obtain ⟨o, v, ho, hy, hK⟩ := h
   have hkr : k ∈ Region.ready .any ops listed := by simpa using hr
   have hrest := wpM_of_tr hsel r _ _ w hB' (closed_set hcl hkr) (by simp [hsz]) hK
   have hheld : Held .any ops k listed := held_of_closed hcl hsz (mem_ready.1 hkr).1
   exact wpM_first ho (Region.noSelect_spec hsel) (fun l w hh hg => ⟨hg, hg⟩) r.len listed a w (fun j oj hj hne hun hno => Region.free_spec ho hfree j oj hj hne hun hno) hkr hheld hy hrest
 | .one k r, listed, a, w, hB, hcl, hsz, h => by
   simp only [trB, Bool.and_eq_true] at hB
   obtain ⟨⟨hq, hr⟩, hB'⟩ := hB
   have hr : Region.ready .any ops listed = [k] := by simpa using hr
   have hkr : k ∈ Region.ready .any ops listed := by rw [hr]; simp
   exact wpM_only hr h.1 (wpOp_mono (fun a' w' h' => wpM_of_tr hsel r _ a' w' hB' (closed_set hcl hkr) (by simp [hsz]) h') h.2)
 | .two k1 r1 k2 r2, listed, a, w, hB, hcl, hsz, h => by
   simp only [trB, Bool.and_eq_true] at hB
   obtain ⟨⟨⟨⟨⟨q1, q2⟩, hr⟩, hlen⟩, hB1⟩, hB2⟩ := hB
   have hr : Region.ready .any ops listed = [k1, k2] := by simpa using hr
   have hlen : r1.len = r2.len := by simpa using hlen
   have hk1 : k1 ∈ Region.ready .any ops listed := by rw [hr]; simp
   have hk2 : k2 ∈ Region.ready .any ops listed := by rw [hr]; simp
   refine ⟨h.1, fun h0 => (by rw [h0] at hk1; cases hk1), fun i hi => ?_⟩
   rw [hr] at hi
   simp only [List.mem_cons, List.not_mem_nil, or_false] at hi
   rcases hi with rfl | rfl
   · exact wpOp_mono (fun a' w' h' => wpM_of_tr hsel r1 _ a' w' hB1 (closed_set hcl hk1) (by simp [hsz]) h') h.2.1
   · have := wpOp_mono (fun a' w' h' => wpM_of_tr (C := C) hsel r2 _ a' w' hB2 (closed_set hcl hk2) (by simp [hsz]) h') h.2.2
     rw [← hlen] at this
     exact this
theorem wp_region_tr {id : Nat} {C : World → Prop} {t : Tr} {a : Act} {w : World} (hm : P.follows .mixedOrders = true) (hsel : Region.noSelect ops = true) (hlen : t.len = ops.size)
 (hB : trB ops t (Array.replicate ops.size false) = true) (h : wpTr P ops C (NoPanic Q) t (Array.replicate ops.size false) a { w with drawn := w.drawn + 1 }) : (Code.region id ops true).wp P Q a w := by
 have H := wpM_of_tr hsel t _ a _ hB (fun k o ho hl => by
  have hk := (Array.getElem?_eq_some_iff.1 ho).1
  simp [hk] at hl) (by simp) h
 rw [hlen] at H
 exact wp_region_noPanic (wp_region_any hm (wpAny_of_M (G := fun _ w => C w) _ _ _ _ H))
end
section
variable {P : Program} {E : EqT P} {F : Ft} {T T1 : List Nat} {ops : Array Oper}
def MT (E : EqT P) (F : Ft) (T T1 : List Nat) (ops : Array Oper) : Tr → Nat → (Exit → St → Prop) → St → Prop
 | .fin, b, Q, s => Q .normal ⟨s.t, s.h, b, s.n⟩
 | .q k r, b, Q, s => False
 | .one k r, b, Q, s => xops P F.tb T1 ops (opsAt ops [k]) s fun s' => s'.t.length ≤ 1000000 → MT E F T T1 ops r b Q s'
 | .two k1 r1 k2 r2, b, Q, s => (xops P F.tb T1 ops (opsAt ops [k1]) s fun s' => s'.t.length ≤ 1000000 → MT E F T T1 ops r1 b Q s') ∧ xops P F.tb T1 ops (opsAt ops [k2]) s fun s' => s'.t.length ≤ 1000000 → MT E F T T1 ops r2 b Q s'
def MTq (E : EqT P) (F : Ft) (T T1 : List Nat) (ops : Array Oper) (qs : List Nat) (r : Tr) (b : Nat) (Q : Exit → St → Prop) (s : St) : Prop :=
 xopsW P F.tb T1 ops qs s fun s1 => s1.t.length ≤ 1000000 → MT E F T T1 ops r b Q ⟨s1.t, s1.h, s1.n, s1.n⟩
variable {b : Nat} {Q : Exit → St → Prop} {s : St} {k k1 k2 : Nat} {r r1 r2 : Tr} {qs : List Nat}
theorem MTq.nil (h : MT E F T T1 ops r b Q ⟨s.t, s.h, s.n, s.n⟩) : MTq E F T T1 ops [] r b Q s := fun _ => h
theorem MTq.of (f : Nat) (hl : s.t.length ≤ 1000000) (hL : ldK T1 ops k s.t) (h : X E F T (fun _ s' => MTq E F T T1 ops qs r b Q s') f (.opsQ ops (opsAt ops [k])) [] s) : MTq E F T T1 ops (k :: qs) r b Q s := by
 refine ⟨hL, ?_⟩
 rw [X_eq] at h
 exact (Xi_sound f).2.2.2.1 ops _ [] s hl h
theorem MT.fin (h : Q .normal ⟨s.t, s.h, b, s.n⟩) : MT E F T T1 ops .fin b Q s := h
theorem MT.one (f : Nat) (hl : s.t.length ≤ 1000000) (h : X E F T1 (fun _ s' => MT E F T T1 ops r b Q s') f (.ops ops (opsAt ops [k])) [] s) : MT E F T T1 ops (.one k r) b Q s := by
 rw [X_eq] at h
 exact (Xi_sound f).2.2.1 ops _ [] s hl h
theorem MT.two (f : Nat) (hl : s.t.length ≤ 1000000) (h1 : X E F T1 (fun _ s' => MT E F T T1 ops r1 b Q s') f (.ops ops (opsAt ops [k1])) [] s) (h2 : X E F T1 (fun _ s' => MT E F T T1 ops r2 b Q s') f (.ops ops (opsAt ops [k2])) [] s) : MT E F T T1 ops (.two k1 r1 k2 r2) b Q s := by
 rw [X_eq] at h1 h2
 exact ⟨(Xi_sound f).2.2.1 ops _ [] s hl h1, (Xi_sound f).2.2.1 ops _ [] s hl h2⟩
end
section
variable {P : Program} {C : Tb} {E : EqT P} {F : Ft} {c c0 c' : Cx} {s s1 s2 : St} {a : Act} {w w0 w' : World} {h h0 h1 h' : AH} {n n' : Nat} {T T1 : List Nat} {ops : Array Oper} {Q : Exit → Act → World → Prop} {Cl : World → Prop}
theorem oB_some {k : Nat} (h : oB ops k = true) : ∃ o, ops[k]? = some o ∧ opsAt ops [k] = [o] := by
 unfold oB at h
 cases ho : ops[k]? with
 | none => simp [ho] at h
 | some o => exact ⟨o, rfl, by simp [opsAt, ho]⟩
theorem tr_one (hC : TbOk P C) {k : Nat} {K : St → Prop} {N : Act → World → Prop} (I : SI T c0 h0 w0 c s a w) (hl : s.t.length ≤ 1000000) (hk : oB ops k = true) (hx : xops P C T ops (opsAt ops [k]) s fun s' => s'.t.length ≤ 1000000 → K s')
 (hn : ∀ c' s' a' w', SI T c0 h0 w0 c' s' a' w' → s'.b = s.b → s'.t.length = s.t.length → K s' → N a' w') : wpOp P ops Q k N a w := by
 obtain ⟨o, ho, hat⟩ := oB_some hk
 rw [hat] at hx
 simp only [xops] at hx
 unfold wpOp
 simp only [ho]
 cases hg : o.guard with
 | none =>
   simp only [hg] at hx
   rw [if_pos (by simp [Region.wanted, hg])]
   exact .inl (aop_wp hC I (xop_aop hx) fun c' v r h' n' w' hr I' => hn _ _ _ _ I' rfl (putT_length _ _ _) (hr (by rw [putT_length]; exact hl)))
 | some jw =>
   obtain ⟨j, want⟩ := jw
   simp only [hg] at hx
   obtain ⟨d, hd, hx⟩ := onO_iff hx
   rcases onG_iff hx with ⟨q, hq, hx⟩ | ⟨hq, hx⟩
   case inr =>
    have hv := I.undef hq
    have hy : Region.wanted o (yielded ops a.tmps) = false := by
     simp only [Region.wanted, hg, yielded, hd, Option.bind_some, hv]
     rfl
    rw [if_neg (by rw [hy]; simp)]
    exact hn _ _ _ _ (I.next (d := o.dst) (v := undef) (r := .tup []) I.srep.wd (Ext.refl _ _ _) (Fr.refl _ _ _ _) undef_rep (Nat.le_refl _)) rfl (by rw [putT_length]) (hx (by rw [putT_length]; exact hl))
   have hv := I.bool hq
   have hy : Region.wanted o (yielded ops a.tmps) = (q == want) := by
    simp only [Region.wanted, hg, yielded, hd, Option.bind_some, hv]
    cases q <;> cases want <;> rfl
   have I1 : SI T c0 h0 w0 c { s with t := s.t.set d (.d (.v (.bool q))) } a w := I.setT fun v hv' => by rw [hv] at hv'; cases hv'; exact .d _ _ (.v _ rfl)
   have hll : ∀ r : AV, (putT (s.t.set d (.d (.v (.bool q)))) o.dst r).length = s.t.length := fun r => by rw [putT_length]; simp
   have skip : (K ⟨putT (s.t.set d (.d (.v (.bool q)))) o.dst (.tup []), s.h, s.b, s.n⟩) → N (a.put o.dst undef) w := fun hK =>
    hn _ _ _ _ (I1.next (d := o.dst) (v := undef) (r := .tup []) I1.srep.wd (Ext.refl _ _ _) (Fr.refl _ _ _ _) undef_rep (Nat.le_refl _)) rfl (hll _) hK
   cases want <;> cases q
   · rw [if_pos (by rw [hy]; rfl)]
     exact .inl (aop_wp hC I1 (xop_aop (hx.2 rfl)) fun c' v r h' n' w' hr I' => hn _ _ _ _ I' rfl (hll _) (hr (by show (putT _ _ _).length ≤ _; rw [hll]; exact hl)))
   · rw [if_neg (by rw [hy]; simp)]
     exact skip (hx.1 rfl (by show (putT _ _ _).length ≤ _; rw [hll]; exact hl))
   · rw [if_neg (by rw [hy]; simp)]
     exact skip (hx.2 rfl (by show (putT _ _ _).length ≤ _; rw [hll]; exact hl))
   · rw [if_pos (by rw [hy]; rfl)]
     exact .inl (aop_wp hC I1 (xop_aop (hx.1 rfl)) fun c' v r h' n' w' hr I' => hn _ _ _ _ I' rfl (hll _) (hr (by show (putT _ _ _).length ≤ _; rw [hll]; exact hl)))
theorem tr_walk (hC : TbOk P F.tb) {Qs : Exit → St → Prop} {b n0 L : Nat} (hL : L ≤ 1000000)
 (fin : ∀ c3 s3 a3 w3, SI T1 c h1 w c3 s3 a3 w3 → s3.b = n0 → s3.t.length = L → Qs .normal ⟨s3.t, s3.h, b, s3.n⟩ → Q .normal a3 w3) :
 ∀ (t : Tr) (c2 : Cx) (s2 : St) (a2 : Act) (w2 : World) (listed : Array Bool), SI T1 c h1 w c2 s2 a2 w2 → s2.b = n0 → s2.t.length = L → trB ops t listed = true → MT E F T T1 ops t b Qs s2 → wpTr P ops (SameBut T1 c h1 w) Q t listed a2 w2
 | .fin, c2, s2, a2, w2, listed, J, hb, hl, hB, hM => ⟨fun b hb hne => J.fr.far b hb hne, fin c2 s2 a2 w2 J hb hl hM⟩
 | .q k r, c2, s2, a2, w2, listed, J, hb, hl, hB, hM => hM.elim
 | .one k r, c2, s2, a2, w2, listed, J, hb, hl, hB, hM => by
   simp only [trB, Bool.and_eq_true] at hB
   obtain ⟨⟨hk, _⟩, hB'⟩ := hB
   exact ⟨fun b hb hne => J.fr.far b hb hne, tr_one hC J (by omega) hk hM fun c' s' a' w' J' e1 e2 hK => tr_walk hC hL fin r c' s' a' w' _ J' (e1.trans hb) (e2.trans hl) hB' hK⟩
 | .two k1 r1 k2 r2, c2, s2, a2, w2, listed, J, hb, hl, hB, hM => by
   simp only [trB, Bool.and_eq_true] at hB
   obtain ⟨⟨⟨⟨⟨hk1, hk2⟩, _⟩, _⟩, hB1⟩, hB2⟩ := hB
   exact ⟨fun b hb hne => J.fr.far b hb hne, tr_one hC J (by omega) hk1 hM.1 fun c' s' a' w' J' e1 e2 hK => tr_walk hC hL fin r1 c' s' a' w' _ J' (e1.trans hb) (e2.trans hl) hB1 hK,
    tr_one hC J (by omega) hk2 hM.2 fun c' s' a' w' J' e1 e2 hK => tr_walk hC hL fin r2 c' s' a' w' _ J' (e1.trans hb) (e2.trans hl) hB2 hK⟩
theorem tr_qs {K : St → Prop} {r : Tr} : ∀ (qs : List Nat) (s : St) (a : Act) (listed : Array Bool), SI T c0 h0 w0 c s a w → s.t.length ≤ 1000000 → trB ops (qs.foldr Tr.q r) listed = true → xopsW P C T1 ops qs s K →
 (∀ s' a' l', SI T c0 h0 w0 c s' a' w → s'.b = s.b → s'.h = s.h → s'.n = s.n → s'.t.length = s.t.length → trB ops r l' = true → K s' → wpTr P ops (SameBut T1 c s.h w) Q r l' a' w) → wpTr P ops (SameBut T1 c s.h w) Q (qs.foldr Tr.q r) listed a w
 | [], s, a, listed, I, _, hB, hK, hn => hn s a listed I rfl rfl rfl rfl hB hK
 | k :: qs, s, a, listed, I, hsl, hB, hK, hn => by
   simp only [List.foldr_cons, trB, Bool.and_eq_true] at hB
   obtain ⟨⟨⟨hq, _⟩, _⟩, hB'⟩ := hB
   obtain ⟨o, ho, hg, hat⟩ : ∃ o, ops[k]? = some o ∧ o.guard = none ∧ opsAt ops [k] = [o] := by
    unfold qB at hq
    cases ho : ops[k]? with
    | none => simp [ho] at hq
    | some o => exact ⟨o, rfl, by simp [ho] at hq; exact hq.1, by simp [opsAt, ho]⟩
   obtain ⟨hL, hK⟩ := hK
   simp only [ho] at hL
   rw [hat] at hK
   simp only [xopsQ, hg] at hK
   obtain ⟨v, rr, h1, h2, h3⟩ := quiet_QYW (ops := ops) I hg hL (xopQ_aopQ hK)
   refine ⟨o, v, ho, ?_, ?_⟩
   · rcases h1 with ⟨g1, g2⟩ | g
     · exact .inl ⟨g1, fun w' hw' => g2 w' (.inr hw')⟩
     · exact .inr g
   · refine tr_qs qs { s with t := putT s.t o.dst rr } _ _ (I.next (d := o.dst) (v := v) I.srep.wd (Ext.refl _ _ _) (Fr.refl _ _ _ _) h2 (Nat.le_refl _)) (by simp only [putT_length]; exact hsl) hB' (h3 (by simp only [putT_length]; exact hsl)) fun s' a' l' I' e1 e2 e3 e4 hB2 hK' => ?_
     exact hn s' a' l' I' e1 e2 e3 (e4.trans (putT_length _ _ _)) hB2 hK'
theorem AW.treeX {id : Nat} {Qs : Exit → St → Prop} (T1 qs : List Nat) (r : Tr) (hm : P.follows .mixedOrders = true) (hB : (Region.noSelect ops && ((qs.foldr Tr.q r).len == ops.size) && trB ops (qs.foldr Tr.q r) (Array.replicate ops.size false)) = true)
 (hl : s.t.length ≤ 1000000) (hT1 : ∀ i, i ∈ T1 → i ∈ T ∨ s.b ≤ i) (h : MTq E F T T1 ops qs r s.b Qs s) : AW P F.tb T (.region id ops true) Qs s := by
 simp only [Bool.and_eq_true, beq_iff_eq] at hB
 obtain ⟨⟨hsel, hlen⟩, hB⟩ := hB
 intro c0 h0 w0 c a w hC I
 have I1 := I.drew
 refine wp_region_tr (C := SameBut T1 c s.h { w with drawn := w.drawn + 1 }) (t := qs.foldr Tr.q r) hm hsel hlen hB ?_
 refine tr_qs qs s a _ I1 hl hB h fun s1 a1 l1 J1 e1 e2 e3 e4 hB2 hK => ?_
 have base : SI T1 c s.h { w with drawn := w.drawn + 1 } c ⟨s1.t, s1.h, s1.n, s1.n⟩ a1 { w with drawn := w.drawn + 1 } :=
  ⟨⟨J1.srep.size, J1.srep.tmp, J1.srep.defers, J1.srep.wd⟩, by rw [e2]; exact Ext.refl _ _ _, by rw [e2]; exact Fr.refl _ _ _ _, fun i hi => by rw [← e2]; exact J1.srep.wd.new i hi, Nat.le_refl _⟩
 refine tr_walk (n0 := s1.n) (L := s.t.length) hC hl (fun c3 s3 a3 w3 J f1 f2 hQ => ?_) r c ⟨s1.t, s1.h, s1.n, s1.n⟩ a1 _ l1 base rfl e4 hB2 (hK (by rw [e4]; exact hl))
 refine ⟨c3, ⟨s3.t, s3.h, s.b, s3.n⟩, ⟨⟨J.srep.size, J.srep.tmp, J.srep.defers, J.srep.wd⟩, ?_, ?_, I.new0, ?_⟩, rfl, f2, hQ⟩
 · have g := J1.ext
   rw [e2] at g
   exact g.trans J.ext
 · have g := J1.fr
   have g2 := J1.ext
   rw [e2] at g g2
   refine ⟨fun b hb hne => (J.fr.far b (Nat.lt_of_lt_of_le hb g2.size) (fun i hi e => ?_)).trans (g.far b hb hne), fun i b e hb => g.old i b (J.fr.old i b e (Nat.lt_of_lt_of_le hb g2.size)) hb⟩
   have := g.old i b e hb
   rcases hT1 i hi with hi | hi
   · exact hne i hi this
   · rw [I.new0 i hi] at this; cases this
 · have g1 := J.le
   have g2 := I.le
   simp only at g1 f1 ⊢
   omega
end
section
variable {P : Program} {c c0 c' : Cx} {s s1 s2 : St} {a : Act} {w w0 w' : World} {h h0 h' : AH} {n n' : Nat} {T : List Nat}
theorem nil_own (c : Cx) (h : AH) (w : World) (n z : Nat) : ARep { c with τ := upd c.τ n (none, 0) } (upd h n (.tok 0 z)) w (.slice none 0 0) (.own n z []) := by
 have hd : DRep { c with τ := upd c.τ n (none, 0) } w (.slice none ([] : List (List DV)).length 0) (.sl z []) := .sl none 0 z [] (fun _ _ => .bool false) (Nat.le_refl _) (by simp) (fun a ha => by cases ha) (fun _ => ⟨rfl, rfl⟩) (fun a ha => by cases ha) (fun i j row x hi => by simp at hi)
 exact .own none 0 n z [] 0 hd (upd_same _ _ _) (Nat.le_refl _) (fun _ => upd_same _ _ _)
theorem Wk.nil {t : List AV} {b j : Nat} (z : Nat) (hj : t[j]? = some (.d (.v (.slice none 0 0)))) : Wk T ⟨t, h, b, n⟩ ⟨t.set j (.own n z []), upd h n (.tok 0 z), b, n + 1⟩ := by
 refine ⟨rfl, by simp, fun c0 h0 w0 c a w I => ⟨{ c with τ := upd c.τ n (none, 0) }, ?_⟩⟩
 obtain ⟨g1, g2⟩ := I.srep.wd.newNil z
 have hfr := newNil_fr (T := may T b) I.srep.wd z
 have I2 := I.next (d := none) (v := .bool false) (r := .any) g1 g2 hfr (.any _) (Nat.le_succ _)
 refine I2.setT (d := j) (r := .own n z []) fun v hv => ?_
 have hv' : a.tmps[j]? = some v := hv
 have := I.srep.tmp j v _ hv' hj
 obtain rfl := cval_rep this rfl
 exact nil_own c h w n z
end
end Go.R
end
