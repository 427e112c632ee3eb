import Derived.Test.YtdhocmakbapfpaaS7
import Derived.Test.YtdhocmakbapfpaaProg
import Derived.KernelRfl
import Derived.Test.YtdhocmakbapfpaaS2
import Derived.Laws.StructEq
import Derived.Laws.BitsLemmas
import Derived.Test.YtdhocmakbapfpaaS3
set_option linter.unusedVariables false
set_option linter.unusedSimpArgs false
attribute [go_sem] Bool.not_true Bool.not_false
section
namespace Go.Proofs.Ytdhocmakbapfpaa.M
open Go.R
@[go_sem] theorem ty_bs113_9 : bsP Try.prog 113 9 = true := by kernel_rfl
@[go_sem] theorem ty_sz2 : sizeP Try.prog 2 = 1 := by kernel_rfl
@[go_sem] theorem ty_in2 : infoP Try.prog 2 = true := by kernel_rfl
@[go_sem] theorem ty_ag2 : aggP Try.prog 2 = false := by kernel_rfl
@[go_sem] theorem ty_ik2 : intKP Try.prog 2 = some .i64 := by kernel_rfl
@[go_sem] theorem ty_us2 : (Try.prog.underlying 2).isSome = true := by kernel_rfl
@[go_sem] theorem ty_ze2 : zeroA Try.prog 2 = some [.d (.v (.int .i64 0))] := by kernel_rfl
@[go_sem] theorem ty_by2 : bytesP Try.prog 2 = 8 := by kernel_rfl
@[go_sem] theorem ty_sz3 : sizeP Try.prog 3 = 1 := by kernel_rfl
@[go_sem] theorem ty_in3 : infoP Try.prog 3 = true := by kernel_rfl
@[go_sem] theorem ty_ag3 : aggP Try.prog 3 = false := by kernel_rfl
@[go_sem] theorem ty_ik3 : intKP Try.prog 3 = some .i64 := by kernel_rfl
@[go_sem] theorem ty_us3 : (Try.prog.underlying 3).isSome = true := by kernel_rfl
@[go_sem] theorem ty_ze3 : zeroA Try.prog 3 = some [.d (.v (.int .i64 0))] := by kernel_rfl
@[go_sem] theorem ty_by3 : bytesP Try.prog 3 = 8 := by kernel_rfl
@[go_sem] theorem ty_sz5 : sizeP Try.prog 5 = 1 := by kernel_rfl
@[go_sem] theorem ty_in5 : infoP Try.prog 5 = true := by kernel_rfl
@[go_sem] theorem ty_ag5 : aggP Try.prog 5 = false := by kernel_rfl
@[go_sem] theorem ty_ik5 : intKP Try.prog 5 = some .u8 := by kernel_rfl
@[go_sem] theorem ty_us5 : (Try.prog.underlying 5).isSome = true := by kernel_rfl
@[go_sem] theorem ty_ze5 : zeroA Try.prog 5 = some [.d (.v (.int .u8 0))] := by kernel_rfl
@[go_sem] theorem ty_by5 : bytesP Try.prog 5 = 1 := by kernel_rfl
@[go_sem] theorem ty_sz9 : sizeP Try.prog 9 = 1 := by kernel_rfl
@[go_sem] theorem ty_in9 : infoP Try.prog 9 = true := by kernel_rfl
@[go_sem] theorem ty_ag9 : aggP Try.prog 9 = false := by kernel_rfl
@[go_sem] theorem ty_sl9 : sliceP Try.prog 9 = none := by kernel_rfl
@[go_sem] theorem ty_st9 : strP Try.prog 9 = true := by kernel_rfl
@[go_sem] theorem ty_ze9 : zeroA Try.prog 9 = some [.d (.v (.string (⟨#[]⟩ : ByteArray)))] := by kernel_rfl
@[go_sem] theorem ty_by9 : bytesP Try.prog 9 = 16 := by kernel_rfl
@[go_sem] theorem ty_sz23 : sizeP Try.prog 23 = 2 := by kernel_rfl
@[go_sem] theorem ty_in23 : infoP Try.prog 23 = true := by kernel_rfl
@[go_sem] theorem ty_ag23 : aggP Try.prog 23 = true := by kernel_rfl
@[go_sem] theorem ty_fl23_0 : fieldP Try.prog 23 0 = some (0, 9) := by kernel_rfl
@[go_sem] theorem ty_fl23_1 : fieldP Try.prog 23 1 = some (1, 2) := by kernel_rfl
@[go_sem] theorem ty_fo23 : fieldsOk Try.prog 23 = true := by kernel_rfl
@[go_sem] theorem ty_ze23 : zeroA Try.prog 23 = some [.d (.v (.string (⟨#[]⟩ : ByteArray))), .d (.v (.int .i64 0))] := by kernel_rfl
@[go_sem] theorem ty_by23 : bytesP Try.prog 23 = 24 := by kernel_rfl
@[go_sem] theorem ty_sz25 : sizeP Try.prog 25 = 3 := by kernel_rfl
@[go_sem] theorem ty_in25 : infoP Try.prog 25 = true := by kernel_rfl
@[go_sem] theorem ty_ag25 : aggP Try.prog 25 = true := by kernel_rfl
@[go_sem] theorem ty_fl25_0 : fieldP Try.prog 25 0 = some (0, 9) := by kernel_rfl
@[go_sem] theorem ty_fl25_1 : fieldP Try.prog 25 1 = some (1, 23) := by kernel_rfl
@[go_sem] theorem ty_fo25 : fieldsOk Try.prog 25 = true := by kernel_rfl
@[go_sem] theorem ty_ze25 : zeroA Try.prog 25 = some [.d (.v (.string (⟨#[]⟩ : ByteArray))), .d (.v (.string (⟨#[]⟩ : ByteArray))), .d (.v (.int .i64 0))] := by kernel_rfl
@[go_sem] theorem ty_by25 : bytesP Try.prog 25 = 40 := by kernel_rfl
@[go_sem] theorem ty_sz26 : sizeP Try.prog 26 = 1 := by kernel_rfl
@[go_sem] theorem ty_in26 : infoP Try.prog 26 = true := by kernel_rfl
@[go_sem] theorem ty_ag26 : aggP Try.prog 26 = false := by kernel_rfl
@[go_sem] theorem ty_sl26 : sliceP Try.prog 26 = some 25 := by kernel_rfl
@[go_sem] theorem ty_ze26 : zeroA Try.prog 26 = some [.d (.v (.slice none 0 0))] := by kernel_rfl
@[go_sem] theorem ty_by26 : bytesP Try.prog 26 = 24 := by kernel_rfl
@[go_sem] theorem ty_sz28 : sizeP Try.prog 28 = 6 := by kernel_rfl
@[go_sem] theorem ty_in28 : infoP Try.prog 28 = true := by kernel_rfl
@[go_sem] theorem ty_ag28 : aggP Try.prog 28 = true := by kernel_rfl
@[go_sem] theorem ty_fl28_0 : fieldP Try.prog 28 0 = some (0, 5) := by kernel_rfl
@[go_sem] theorem ty_fl28_1 : fieldP Try.prog 28 1 = some (1, 25) := by kernel_rfl
@[go_sem] theorem ty_fl28_2 : fieldP Try.prog 28 2 = some (4, 9) := by kernel_rfl
@[go_sem] theorem ty_fl28_3 : fieldP Try.prog 28 3 = some (5, 26) := by kernel_rfl
@[go_sem] theorem ty_fo28 : fieldsOk Try.prog 28 = true := by kernel_rfl
@[go_sem] theorem ty_ze28 : zeroA Try.prog 28 = some [.d (.v (.int .u8 0)), .d (.v (.string (⟨#[]⟩ : ByteArray))), .d (.v (.string (⟨#[]⟩ : ByteArray))), .d (.v (.int .i64 0)), .d (.v (.string (⟨#[]⟩ : ByteArray))), .d (.v (.slice none 0 0))] := by kernel_rfl
@[go_sem] theorem ty_by28 : bytesP Try.prog 28 = 88 := by kernel_rfl
@[go_sem] theorem ty_sz29 : sizeP Try.prog 29 = 1 := by kernel_rfl
@[go_sem] theorem ty_in29 : infoP Try.prog 29 = true := by kernel_rfl
@[go_sem] theorem ty_ag29 : aggP Try.prog 29 = false := by kernel_rfl
@[go_sem] theorem ty_sl29 : sliceP Try.prog 29 = some 28 := by kernel_rfl
@[go_sem] theorem ty_ze29 : zeroA Try.prog 29 = some [.d (.v (.slice none 0 0))] := by kernel_rfl
@[go_sem] theorem ty_by29 : bytesP Try.prog 29 = 24 := by kernel_rfl
@[go_sem] theorem ty_sz31 : sizeP Try.prog 31 = 7 := by kernel_rfl
@[go_sem] theorem ty_in31 : infoP Try.prog 31 = true := by kernel_rfl
@[go_sem] theorem ty_ag31 : aggP Try.prog 31 = true := by kernel_rfl
@[go_sem] theorem ty_fl31_0 : fieldP Try.prog 31 0 = some (0, 28) := by kernel_rfl
@[go_sem] theorem ty_fl31_1 : fieldP Try.prog 31 1 = some (6, 29) := by kernel_rfl
@[go_sem] theorem ty_fo31 : fieldsOk Try.prog 31 = true := by kernel_rfl
@[go_sem] theorem ty_ze31 : zeroA Try.prog 31 = some [.d (.v (.int .u8 0)), .d (.v (.string (⟨#[]⟩ : ByteArray))), .d (.v (.string (⟨#[]⟩ : ByteArray))), .d (.v (.int .i64 0)), .d (.v (.string (⟨#[]⟩ : ByteArray))), .d (.v (.slice none 0 0)), .d (.v (.slice none 0 0))] := by kernel_rfl
@[go_sem] theorem ty_by31 : bytesP Try.prog 31 = 112 := by kernel_rfl
@[go_sem] theorem ty_sz32 : sizeP Try.prog 32 = 1 := by kernel_rfl
@[go_sem] theorem ty_in32 : infoP Try.prog 32 = true := by kernel_rfl
@[go_sem] theorem ty_ag32 : aggP Try.prog 32 = false := by kernel_rfl
@[go_sem] theorem ty_ik32 : intKP Try.prog 32 = some .i64 := by kernel_rfl
@[go_sem] theorem ty_us32 : (Try.prog.underlying 32).isSome = true := by kernel_rfl
@[go_sem] theorem ty_ze32 : zeroA Try.prog 32 = some [.d (.v (.int .i64 0))] := by kernel_rfl
@[go_sem] theorem ty_by32 : bytesP Try.prog 32 = 8 := by kernel_rfl
@[go_sem] theorem ty_sz56 : sizeP Try.prog 56 = 1 := by kernel_rfl
@[go_sem] theorem ty_in56 : infoP Try.prog 56 = true := by kernel_rfl
@[go_sem] theorem ty_ag56 : aggP Try.prog 56 = false := by kernel_rfl
@[go_sem] theorem ty_sl56 : sliceP Try.prog 56 = some 9 := by kernel_rfl
@[go_sem] theorem ty_ze56 : zeroA Try.prog 56 = some [.d (.v (.slice none 0 0))] := by kernel_rfl
@[go_sem] theorem ty_by56 : bytesP Try.prog 56 = 24 := by kernel_rfl
@[go_sem] theorem ty_sz63 : sizeP Try.prog 63 = 1 := by kernel_rfl
@[go_sem] theorem ty_in63 : infoP Try.prog 63 = true := by kernel_rfl
@[go_sem] theorem ty_ag63 : aggP Try.prog 63 = false := by kernel_rfl
@[go_sem] theorem ty_ze63 : zeroA Try.prog 63 = some [.d (.v (.pointer none))] := by kernel_rfl
@[go_sem] theorem ty_by63 : bytesP Try.prog 63 = 8 := by kernel_rfl
@[go_sem] theorem ty_sz65 : sizeP Try.prog 65 = 1 := by kernel_rfl
@[go_sem] theorem ty_in65 : infoP Try.prog 65 = true := by kernel_rfl
@[go_sem] theorem ty_ag65 : aggP Try.prog 65 = false := by kernel_rfl
@[go_sem] theorem ty_ze65 : zeroA Try.prog 65 = some [.d (.v (.pointer none))] := by kernel_rfl
@[go_sem] theorem ty_by65 : bytesP Try.prog 65 = 8 := by kernel_rfl
@[go_sem] theorem ty_sz67 : sizeP Try.prog 67 = 1 := by kernel_rfl
@[go_sem] theorem ty_in67 : infoP Try.prog 67 = true := by kernel_rfl
@[go_sem] theorem ty_ag67 : aggP Try.prog 67 = false := by kernel_rfl
@[go_sem] theorem ty_sl67 : sliceP Try.prog 67 = some 100 := by kernel_rfl
@[go_sem] theorem ty_ze67 : zeroA Try.prog 67 = some [.d (.v (.slice none 0 0))] := by kernel_rfl
@[go_sem] theorem ty_by67 : bytesP Try.prog 67 = 24 := by kernel_rfl
@[go_sem] theorem ty_sz69 : sizeP Try.prog 69 = 3 := by kernel_rfl
@[go_sem] theorem ty_in69 : infoP Try.prog 69 = true := by kernel_rfl
@[go_sem] theorem ty_ag69 : aggP Try.prog 69 = true := by kernel_rfl
@[go_sem] theorem ty_fl69_0 : fieldP Try.prog 69 0 = some (0, 9) := by kernel_rfl
@[go_sem] theorem ty_fl69_1 : fieldP Try.prog 69 1 = some (1, 67) := by kernel_rfl
@[go_sem] theorem ty_fl69_2 : fieldP Try.prog 69 2 = some (2, 3) := by kernel_rfl
@[go_sem] theorem ty_fo69 : fieldsOk Try.prog 69 = true := by kernel_rfl
@[go_sem] theorem ty_ze69 : zeroA Try.prog 69 = some [.d (.v (.string (⟨#[]⟩ : ByteArray))), .d (.v (.slice none 0 0)), .d (.v (.int .i64 0))] := by kernel_rfl
@[go_sem] theorem ty_by69 : bytesP Try.prog 69 = 48 := by kernel_rfl
@[go_sem] theorem ty_sz74 : sizeP Try.prog 74 = 1 := by kernel_rfl
@[go_sem] theorem ty_in74 : infoP Try.prog 74 = true := by kernel_rfl
@[go_sem] theorem ty_ag74 : aggP Try.prog 74 = false := by kernel_rfl
@[go_sem] theorem ty_ze74 : zeroA Try.prog 74 = some [.d (.v (.pointer none))] := by kernel_rfl
@[go_sem] theorem ty_by74 : bytesP Try.prog 74 = 8 := by kernel_rfl
@[go_sem] theorem ty_sz80 : sizeP Try.prog 80 = 5 := by kernel_rfl
@[go_sem] theorem ty_in80 : infoP Try.prog 80 = true := by kernel_rfl
@[go_sem] theorem ty_ag80 : aggP Try.prog 80 = true := by kernel_rfl
@[go_sem] theorem ty_fl80_0 : fieldP Try.prog 80 0 = some (0, 9) := by kernel_rfl
@[go_sem] theorem ty_fl80_1 : fieldP Try.prog 80 1 = some (1, 67) := by kernel_rfl
@[go_sem] theorem ty_fl80_2 : fieldP Try.prog 80 2 = some (2, 3) := by kernel_rfl
@[go_sem] theorem ty_fl80_3 : fieldP Try.prog 80 3 = some (3, 3) := by kernel_rfl
@[go_sem] theorem ty_fl80_4 : fieldP Try.prog 80 4 = some (4, 3) := by kernel_rfl
@[go_sem] theorem ty_fo80 : fieldsOk Try.prog 80 = true := by kernel_rfl
@[go_sem] theorem ty_ze80 : zeroA Try.prog 80 = some [.d (.v (.string (⟨#[]⟩ : ByteArray))), .d (.v (.slice none 0 0)), .d (.v (.int .i64 0)), .d (.v (.int .i64 0)), .d (.v (.int .i64 0))] := by kernel_rfl
@[go_sem] theorem ty_by80 : bytesP Try.prog 80 = 64 := by kernel_rfl
@[go_sem] theorem ty_sz94 : sizeP Try.prog 94 = 2 := by kernel_rfl
@[go_sem] theorem ty_in94 : infoP Try.prog 94 = true := by kernel_rfl
@[go_sem] theorem ty_ag94 : aggP Try.prog 94 = true := by kernel_rfl
@[go_sem] theorem ty_fl94_0 : fieldP Try.prog 94 0 = some (0, 3) := by kernel_rfl
@[go_sem] theorem ty_fl94_1 : fieldP Try.prog 94 1 = some (1, 32) := by kernel_rfl
@[go_sem] theorem ty_fo94 : fieldsOk Try.prog 94 = true := by kernel_rfl
@[go_sem] theorem ty_ze94 : zeroA Try.prog 94 = some [.d (.v (.int .i64 0)), .d (.v (.int .i64 0))] := by kernel_rfl
@[go_sem] theorem ty_by94 : bytesP Try.prog 94 = 16 := by kernel_rfl
@[go_sem] theorem ty_sz100 : sizeP Try.prog 100 = 3 := by kernel_rfl
@[go_sem] theorem ty_in100 : infoP Try.prog 100 = true := by kernel_rfl
@[go_sem] theorem ty_ag100 : aggP Try.prog 100 = true := by kernel_rfl
@[go_sem] theorem ty_fl100_0 : fieldP Try.prog 100 0 = some (0, 5) := by kernel_rfl
@[go_sem] theorem ty_fl100_1 : fieldP Try.prog 100 1 = some (1, 3) := by kernel_rfl
@[go_sem] theorem ty_fl100_2 : fieldP Try.prog 100 2 = some (2, 3) := by kernel_rfl
@[go_sem] theorem ty_fo100 : fieldsOk Try.prog 100 = true := by kernel_rfl
@[go_sem] theorem ty_ze100 : zeroA Try.prog 100 = some [.d (.v (.int .u8 0)), .d (.v (.int .i64 0)), .d (.v (.int .i64 0))] := by kernel_rfl
@[go_sem] theorem ty_by100 : bytesP Try.prog 100 = 24 := by kernel_rfl
@[go_sem] theorem ty_sz113 : sizeP Try.prog 113 = 1 := by kernel_rfl
@[go_sem] theorem ty_in113 : infoP Try.prog 113 = true := by kernel_rfl
@[go_sem] theorem ty_ag113 : aggP Try.prog 113 = false := by kernel_rfl
@[go_sem] theorem ty_sl113 : sliceP Try.prog 113 = some 5 := by kernel_rfl
@[go_sem] theorem ty_ze113 : zeroA Try.prog 113 = some [.d (.v (.slice none 0 0))] := by kernel_rfl
@[go_sem] theorem ty_by113 : bytesP Try.prog 113 = 24 := by kernel_rfl
@[go_sem] theorem ty_sz121 : sizeP Try.prog 121 = 1 := by kernel_rfl
@[go_sem] theorem ty_in121 : infoP Try.prog 121 = true := by kernel_rfl
@[go_sem] theorem ty_ag121 : aggP Try.prog 121 = false := by kernel_rfl
@[go_sem] theorem ty_ze121 : zeroA Try.prog 121 = some [.d (.v (.pointer none))] := by kernel_rfl
@[go_sem] theorem ty_by121 : bytesP Try.prog 121 = 8 := by kernel_rfl
@[go_sem] theorem ty_sz123 : sizeP Try.prog 123 = 2 := by kernel_rfl
@[go_sem] theorem ty_in123 : infoP Try.prog 123 = true := by kernel_rfl
@[go_sem] theorem ty_ag123 : aggP Try.prog 123 = true := by kernel_rfl
@[go_sem] theorem ty_fl123_0 : fieldP Try.prog 123 0 = some (0, 121) := by kernel_rfl
@[go_sem] theorem ty_fl123_1 : fieldP Try.prog 123 1 = some (1, 113) := by kernel_rfl
@[go_sem] theorem ty_fo123 : fieldsOk Try.prog 123 = true := by kernel_rfl
@[go_sem] theorem ty_ze123 : zeroA Try.prog 123 = some [.d (.v (.pointer none)), .d (.v (.slice none 0 0))] := by kernel_rfl
@[go_sem] theorem ty_by123 : bytesP Try.prog 123 = 32 := by kernel_rfl
@[go_sem] theorem ty_sz135 : sizeP Try.prog 135 = 1 := by kernel_rfl
@[go_sem] theorem ty_in135 : infoP Try.prog 135 = true := by kernel_rfl
@[go_sem] theorem ty_ag135 : aggP Try.prog 135 = false := by kernel_rfl
@[go_sem] theorem ty_ik135 : intKP Try.prog 135 = some .u64 := by kernel_rfl
@[go_sem] theorem ty_us135 : (Try.prog.underlying 135).isSome = true := by kernel_rfl
@[go_sem] theorem ty_ze135 : zeroA Try.prog 135 = some [.d (.v (.int .u64 0))] := by kernel_rfl
@[go_sem] theorem ty_by135 : bytesP Try.prog 135 = 8 := by kernel_rfl
@[go_sem] theorem ty_sz137 : sizeP Try.prog 137 = 1 := by kernel_rfl
@[go_sem] theorem ty_in137 : infoP Try.prog 137 = true := by kernel_rfl
@[go_sem] theorem ty_ag137 : aggP Try.prog 137 = false := by kernel_rfl
@[go_sem] theorem ty_ze137 : zeroA Try.prog 137 = some [.d (.v (.pointer none))] := by kernel_rfl
@[go_sem] theorem ty_by137 : bytesP Try.prog 137 = 8 := by kernel_rfl
@[go_sem] theorem ty_sz139 : sizeP Try.prog 139 = 1 := by kernel_rfl
@[go_sem] theorem ty_in139 : infoP Try.prog 139 = true := by kernel_rfl
@[go_sem] theorem ty_ag139 : aggP Try.prog 139 = false := by kernel_rfl
@[go_sem] theorem ty_ze139 : zeroA Try.prog 139 = some [.d (.v (.pointer none))] := by kernel_rfl
@[go_sem] theorem ty_by139 : bytesP Try.prog 139 = 8 := by kernel_rfl
theorem mixedP : Try.prog.follows .mixedOrders = true := by kernel_rfl
end Go.Proofs.Ytdhocmakbapfpaa.M
end
section
namespace Go.Proofs.Ytdhocmakbapfpaa.M
open Go.R
def Val.cells (v : Val) : List DV := [.v (.string v.sym), .v (.int .i64 v.num)]
def Term.cells (t : Term) : List DV := [.v (.string t.var), .v (.string t.val.sym), .v (.int .i64 t.val.num)]
def Lit.cells (l : Lit) : List DV := [.v (.int .u8 l.kind), .v (.string l.who.var), .v (.string l.who.val.sym), .v (.int .i64 l.who.val.num), .v (.string l.pred), .sl 3 (l.args.map Term.cells)]
def Clause.cells (c : Clause) : List DV := [.v (.int .u8 c.head.kind), .v (.string c.head.who.var), .v (.string c.head.who.val.sym), .v (.int .i64 c.head.who.val.num), .v (.string c.head.pred), .sl 3 (c.head.args.map Term.cells), .sl 6 (c.body.map Lit.cells)]
def Val.av (v : Val) : AV := .agg [.d (.v (.string v.sym)), .d (.v (.int .i64 v.num))]
def Term.av (t : Term) : AV := .agg [.d (.v (.string t.var)), .d (.v (.string t.val.sym)), .d (.v (.int .i64 t.val.num))]
def Lit.av (l : Lit) : AV := .agg [.d (.v (.int .u8 l.kind)), .d (.v (.string l.who.var)), .d (.v (.string l.who.val.sym)), .d (.v (.int .i64 l.who.val.num)), .d (.v (.string l.pred)), .d (.sl 3 (l.args.map Term.cells))]
def Clause.av (c : Clause) : AV := .agg [.d (.v (.int .u8 c.head.kind)), .d (.v (.string c.head.who.var)), .d (.v (.string c.head.who.val.sym)), .d (.v (.int .i64 c.head.who.val.num)), .d (.v (.string c.head.pred)), .d (.sl 3 (c.head.args.map Term.cells)), .d (.sl 6 (c.body.map Lit.cells))]
def dRows {α : Type} (d : List DV → Option α) : List (List DV) → Option (List α)
 | [] => some []
 | x :: r => match d x with
   | some a => match dRows d r with
     | some l => some (a :: l)
     | none => none
   | none => none
theorem dRows_map {α : Type} {d : List DV → Option α} {f : α → List DV} (h : ∀ x, d (f x) = some x) : ∀ l : List α, dRows d (l.map f) = some l
 | [] => rfl
 | x :: l => by simp [dRows, h, dRows_map h l]
theorem dRows_eq {α : Type} {d : List DV → Option α} {f : α → List DV} (h : ∀ c x, d c = some x → c = f x) : ∀ {xs : List (List DV)} {l : List α}, dRows d xs = some l → xs = l.map f
 | [], l, e => by simp [dRows] at e; subst e; rfl
 | x :: r, l, e => by
   simp only [dRows] at e
   cases h1 : d x with
   | none => simp [h1] at e
   | some a =>
     cases h2 : dRows d r with
     | none => simp [h1, h2] at e
     | some l' =>
       simp [h1, h2] at e
       subst e
       rw [h x a h1, dRows_eq h h2]
       rfl
def cTerm : List DV → Option Term
 | [.v (.string a), .v (.string b), .v (.int .i64 n)] => some ⟨a, ⟨b, n⟩⟩
 | _ => none
@[go_sem] theorem cTerm_cells (t : Term) : cTerm t.cells = some t := rfl
theorem cTerm_eq {c : List DV} {t : Term} (h : cTerm c = some t) : c = t.cells := by
 unfold cTerm at h
 split at h
 · cases h; rfl
 · cases h
def cLit : List DV → Option Lit
 | [.v (.int .u8 k), .v (.string a), .v (.string b), .v (.int .i64 n), .v (.string p), .sl 3 xs] => match dRows cTerm xs with
   | some l => some ⟨k, ⟨a, ⟨b, n⟩⟩, p, l⟩
   | none => none
 | _ => none
@[go_sem] theorem dTerms (l : List Term) : dRows cTerm (l.map Term.cells) = some l := dRows_map cTerm_cells l
@[go_sem] theorem cLit_cells (l : Lit) : cLit l.cells = some l := by simp [cLit, Lit.cells, dTerms]
theorem cLit_eq {c : List DV} {l : Lit} (h : cLit c = some l) : c = l.cells := by
 unfold cLit at h
 split at h
 · rename_i xs
   cases hx : dRows cTerm xs with
   | none => simp [hx] at h
   | some ts =>
     simp only [hx, Option.some.injEq] at h
     subst h
     rw [dRows_eq (fun c x => cTerm_eq) hx]
     rfl
 · cases h
@[go_sem] theorem dLits (l : List Lit) : dRows cLit (l.map Lit.cells) = some l := dRows_map cLit_cells l
def aVal : AV → Option Val
 | .agg [.d (.v (.string b)), .d (.v (.int .i64 n))] => some ⟨b, n⟩
 | _ => none
def aTerm : AV → Option Term
 | .agg [.d (.v (.string a)), .d (.v (.string b)), .d (.v (.int .i64 n))] => some ⟨a, ⟨b, n⟩⟩
 | _ => none
def aTerms (x : AV) : Option (List Term) := match rowsOf 3 x with
 | some xs => dRows cTerm xs
 | none => none
def aLits (x : AV) : Option (List Lit) := match rowsOf 6 x with
 | some xs => dRows cLit xs
 | none => none
def aLit : AV → Option Lit
 | .agg [.d (.v (.int .u8 k)), .d (.v (.string a)), .d (.v (.string b)), .d (.v (.int .i64 n)), .d (.v (.string p)), x] => match aTerms x with
   | some l => some ⟨k, ⟨a, ⟨b, n⟩⟩, p, l⟩
   | none => none
 | _ => none
def aClause : AV → Option Clause
 | .agg [.d (.v (.int .u8 k)), .d (.v (.string a)), .d (.v (.string b)), .d (.v (.int .i64 n)), .d (.v (.string p)), x, y] => match aTerms x with
   | some l => match aLits y with
     | some b' => some ⟨⟨k, ⟨a, ⟨b, n⟩⟩, p, l⟩, b'⟩
     | none => none
   | none => none
 | _ => none
def aStr : AV → Option ByteArray
 | .d (.v (.string s)) => some s
 | _ => none
theorem aVal_le {x : AV} {t : Val} (h : aVal x = some t) : AV.le x t.av := by
 unfold aVal at h
 split at h
 · cases h; exact AV.le.refl _
 · cases h
theorem aTerm_le {x : AV} {t : Term} (h : aTerm x = some t) : AV.le x t.av := by
 unfold aTerm at h
 split at h
 · cases h; exact AV.le.refl _
 · cases h
theorem aTerms_le {x : AV} {l : List Term} (h : aTerms x = some l) : AV.le x (.d (.sl 3 (l.map Term.cells))) := by
 unfold aTerms at h
 cases hr : rowsOf 3 x with
 | none => simp [hr] at h
 | some xs =>
   simp only [hr] at h
   rw [← dRows_eq (fun c x => cTerm_eq) h]
   exact AV.le.rows hr
theorem aLits_le {x : AV} {l : List Lit} (h : aLits x = some l) : AV.le x (.d (.sl 6 (l.map Lit.cells))) := by
 unfold aLits at h
 cases hr : rowsOf 6 x with
 | none => simp [hr] at h
 | some xs =>
   simp only [hr] at h
   rw [← dRows_eq (fun c x => cLit_eq) h]
   exact AV.le.rows hr
theorem aLit_le {x : AV} {l : Lit} (h : aLit x = some l) : AV.le x l.av := by
 unfold aLit at h
 split at h
 · rename_i y
   cases hy : aTerms y with
   | none => simp [hy] at h
   | some ts =>
     simp only [hy, Option.some.injEq] at h
     subst h
     exact AV.le.agg ⟨AV.le.refl _, AV.le.refl _, AV.le.refl _, AV.le.refl _, AV.le.refl _, aTerms_le hy, trivial⟩
 · cases h
theorem aClause_le {x : AV} {l : Clause} (h : aClause x = some l) : AV.le x l.av := by
 unfold aClause at h
 split at h
 · rename_i y z
   cases hy : aTerms y with
   | none => simp [hy] at h
   | some ts =>
     cases hz : aLits z with
     | none => simp [hy, hz] at h
     | some bs =>
       simp only [hy, hz, Option.some.injEq] at h
       subst h
       exact AV.le.agg ⟨AV.le.refl _, AV.le.refl _, AV.le.refl _, AV.le.refl _, AV.le.refl _, aTerms_le hy, aLits_le hz, trivial⟩
 · cases h
theorem aStr_eq {x : AV} {s : ByteArray} (h : aStr x = some s) : x = .d (.v (.string s)) := by
 unfold aStr at h
 split at h
 · cases h; rfl
 · cases h
@[go_sem] theorem Val.eta (v : Val) : Val.mk v.sym v.num = v := rfl
@[go_sem] theorem Term.eta (t : Term) : Term.mk t.var t.val = t := rfl
@[go_sem] theorem Lit.eta (l : Lit) : Lit.mk l.kind l.who l.pred l.args = l := rfl
@[go_sem] theorem Clause.eta (c : Clause) : Clause.mk c.head c.body = c := rfl
@[go_sem] theorem Term.len (t : Term) : t.cells.length = 3 := rfl
@[go_sem] theorem Lit.len (l : Lit) : l.cells.length = 6 := rfl
theorem Term.ds (t : Term) : t.cells.map AV.d = [.d (.v (.string t.var)), .d (.v (.string t.val.sym)), .d (.v (.int .i64 t.val.num))] := rfl
theorem Lit.ds (l : Lit) : l.cells.map AV.d = [.d (.v (.int .u8 l.kind)), .d (.v (.string l.who.var)), .d (.v (.string l.who.val.sym)), .d (.v (.int .i64 l.who.val.num)), .d (.v (.string l.pred)), .d (.sl 3 (l.args.map Term.cells))] := rfl
attribute [go_sem] aVal aTerm aTerms aLits aLit aClause aStr rowAt_map Int.toNat_natCast Option.map_some Term.ds Lit.ds List.drop_nil List.map_drop List.length_map placeP tokIs upd_same
def g1 {α : Type} (a : AV → Option α) (f : α → AV) : List AV → Option AV
 | [x] => match a x with
   | some v => some (f v)
   | none => none
 | _ => none
def g2 {α β : Type} (a : AV → Option α) (b : AV → Option β) (f : α → β → AV) : List AV → Option AV
 | [x, y] => match a x with
   | some v => match b y with
     | some u => some (f v u)
     | none => none
   | none => none
 | _ => none
theorem g1_eq {α : Type} {a : AV → Option α} {f : α → AV} {l : List AV} {r : AV} (h : g1 a f l = some r) : ∃ x v, l = [x] ∧ a x = some v ∧ f v = r := by
 unfold g1 at h
 split at h
 · rename_i x
   cases hx : a x with
   | none => simp [hx] at h
   | some v => simp [hx] at h; exact ⟨x, v, rfl, hx, h⟩
 · cases h
theorem g2_eq {α β : Type} {a : AV → Option α} {b : AV → Option β} {f : α → β → AV} {l : List AV} {r : AV} (h : g2 a b f l = some r) : ∃ x y v u, l = [x, y] ∧ a x = some v ∧ b y = some u ∧ f v u = r := by
 unfold g2 at h
 split at h
 · rename_i x y
   cases hx : a x with
   | none => simp [hx] at h
   | some v =>
     cases hy : b y with
     | none => simp [hx, hy] at h
     | some u => simp [hx, hy] at h; exact ⟨x, y, v, u, rfl, hx, hy, h⟩
 · cases h
@[go_sem] theorem g1_one {α : Type} (a : AV → Option α) (f : α → AV) (x : AV) : g1 a f [x] = (a x).map f := by
  cases h : a x <;> simp [g1, h]
@[go_sem] theorem g2_two {α β : Type} (a : AV → Option α) (b : AV → Option β) (f : α → β → AV) (x y : AV) : g2 a b f [x, y] = (a x).bind fun v => (b y).map (f v) := by
  cases h : a x <;> cases h' : b y <;> simp [g2, h, h']
@[go_sem] theorem pure_run (g : List AV → Option AV) (x : List AV) (h : AH) (n : Nat) : (Fs.pure g).run x h n = (g x).map fun r => (r, h, n) := rfl
@[go_sem] theorem pure_pre (g : List AV → Option AV) (x : List AV) (h : AH) (n : Nat) : (Fs.pure g).pre x h n = True := rfl
@[go_sem] theorem pure_tch (g : List AV → Option AV) (x : List AV) : (Fs.pure g).tch x = [] := rfl
@[go_sem] theorem pureIf_run (p : List AV → Prop) (g : List AV → Option AV) (x : List AV) (h : AH) (n : Nat) : (Fs.pureIf p g).run x h n = (g x).map fun r => (r, h, n) := rfl
@[go_sem] theorem pureIf_pre (p : List AV → Prop) (g : List AV → Option AV) (x : List AV) (h : AH) (n : Nat) : (Fs.pureIf p g).pre x h n = p x := rfl
@[go_sem] theorem pureIf_tch (p : List AV → Prop) (g : List AV → Option AV) (x : List AV) : (Fs.pureIf p g).tch x = [] := rfl
@[go_sem] theorem put_app (F : Ft) (f g : FuncId) (S : Fs) : Ft.put F f S g = if g = f then S else F g := rfl
section
variable {P : Program} {E : EqT P} {F : Ft}
theorem of_X1 {α : Type} {a : AV → Option α} (av : α → AV) {g : α → AV} (hle : ∀ x v, a x = some v → AV.le x (av v)) {f : FuncId} {fn : Func} {code : Code} (hf : P.funcs[f]? = some fn) (hbody : fn.body = some code) (hn : (fn.name == "runtime.NumGoroutine") = false)
 (rs : List ResultVar) {nt : Nat} (hrs : fn.results = rs.toArray) (hnt : fn.ntmps = nt) (hl : nt ≤ 900000) (hF : FtOk P F)
 (H : ∀ v h n, HOk n h → X E F [] (FinP P rs n h (g v)) 4000 (.code code) [] ⟨av v :: List.replicate (nt - 1) .any, h, n, n⟩) : FsOk P f (.pure (g1 a g)) := by
 refine FsOk.of_XP (E := E) _ hf hbody hn hrs hnt hF (fun _ _ _ => rfl) ?_
 intro args h n r _ hS hok
 obtain ⟨x, v, rfl, hx, rfl⟩ := g1_eq hS
 exact ⟨[av v], ⟨hle x v hx, trivial⟩, ⟨hl, by simp⟩, H v h n hok⟩
end
def oP {α : Type} (x : Option α) (p : α → Prop) : Prop := ∀ v, x = some v → p v
@[go_sem] theorem oP_some {α : Type} (v : α) (p : α → Prop) : oP (some v) p = p v := propext ⟨fun h => h v rfl, fun h u e => by cases e; exact h⟩
def g1p {α : Type} (a : AV → Option α) (p : α → Prop) : List AV → Prop
 | [x] => oP (a x) p
 | _ => True
@[go_sem] theorem g1p_one {α : Type} (a : AV → Option α) (p : α → Prop) (x : AV) : g1p a p [x] = oP (a x) p := rfl
section
variable {P : Program} {E : EqT P} {F : Ft}
theorem of_Y1 {α : Type} {a : AV → Option α} (av : α → AV) {p : α → Prop} {g : α → AV} (hle : ∀ x v, a x = some v → AV.le x (av v)) {f : FuncId} {fn : Func} {code : Code} (hf : P.funcs[f]? = some fn) (hbody : fn.body = some code) (hn : (fn.name == "runtime.NumGoroutine") = false)
 (rs : List ResultVar) {nt : Nat} (hrs : fn.results = rs.toArray) (hnt : fn.ntmps = nt) (hl : nt ≤ 900000) (hF : FtOk P F)
 (H : ∀ v h n, p v → HOk n h → X E F [] (FinP P rs n h (g v)) 4000 (.code code) [] ⟨av v :: List.replicate (nt - 1) .any, h, n, n⟩) : FsOk P f (.pureIf (g1p a p) (g1 a g)) := by
 refine FsOk.of_XP (E := E) _ hf hbody hn hrs hnt hF (fun _ _ _ => rfl) ?_
 intro args h n r hp hS hok
 obtain ⟨x, v, rfl, hx, rfl⟩ := g1_eq hS
 exact ⟨[av v], ⟨hle x v hx, trivial⟩, ⟨hl, by simp⟩, H v h n (hp v hx) hok⟩
end
def g2p {α β : Type} (a : AV → Option α) (b : AV → Option β) (p : α → β → Prop) : List AV → Prop
 | [x, y] => oP (a x) fun v => oP (b y) fun u => p v u
 | _ => True
@[go_sem] theorem g2p_two {α β : Type} (a : AV → Option α) (b : AV → Option β) (p : α → β → Prop) (x y : AV) : g2p a b p [x, y] = oP (a x) fun v => oP (b y) fun u => p v u := rfl
section
variable {P : Program} {E : EqT P} {F : Ft}
theorem of_Y2 {α β : Type} {a : AV → Option α} {b : AV → Option β} (av : α → AV) (bv : β → AV) {p : α → β → Prop} {g : α → β → AV} (hle : ∀ x v, a x = some v → AV.le x (av v)) (hle' : ∀ x v, b x = some v → AV.le x (bv v)) {f : FuncId} {fn : Func} {code : Code}
 (hf : P.funcs[f]? = some fn) (hbody : fn.body = some code) (hn : (fn.name == "runtime.NumGoroutine") = false) (rs : List ResultVar) {nt : Nat} (hrs : fn.results = rs.toArray) (hnt : fn.ntmps = nt) (hl : nt ≤ 900000) (hF : FtOk P F)
 (H : ∀ v u h n, p v u → HOk n h → X E F [] (FinP P rs n h (g v u)) 4000 (.code code) [] ⟨av v :: bv u :: List.replicate (nt - 2) .any, h, n, n⟩) : FsOk P f (.pureIf (g2p a b p) (g2 a b g)) := by
 refine FsOk.of_XP (E := E) _ hf hbody hn hrs hnt hF (fun _ _ _ => rfl) ?_
 intro args h n r hp hS hok
 obtain ⟨x, y, v, u, rfl, hx, hy, rfl⟩ := g2_eq hS
 exact ⟨[av v, bv u], ⟨hle x v hx, hle' y u hy, trivial⟩, ⟨hl, by simp⟩, H v u h n (hp v hx u hy) hok⟩
end
theorem aStr_le {x : AV} {s : ByteArray} (h : aStr x = some s) : AV.le x (.d (.v (.string s))) := by rw [aStr_eq h]; exact AV.le.refl _
def aU8 : AV → Option Int
 | .d (.v (.int .u8 c)) => some c
 | _ => none
theorem aU8_eq {x : AV} {c : Int} (h : aU8 x = some c) : x = .d (.v (.int .u8 c)) := by
 unfold aU8 at h
 split at h
 · cases h; rfl
 · cases h
abbrev vB (b : Bool) : AV := .d (.v (.bool b))
abbrev vS (s : ByteArray) : AV := .d (.v (.string s))
abbrev vI (n : Int) : AV := .d (.v (.int .i64 n))
attribute [go_sem] aU8
end Go.Proofs.Ytdhocmakbapfpaa.M
end
section
namespace Go.Proofs.Ytdhocmakbapfpaa.M
open Go.R
def goodV (v : Val) : Bool := v.sym.size == 0 || (nameB v.sym && v.num == 0)
def ownT (t : Term) : Bool := t.var.size == 0 && t.val.sym.size == 0 && t.val.num == 0
abbrev refNameS : Fs := .pureIf (fun _ => True) (g1 aStr fun s => vB (nameB s))
abbrev ownS : Fs := .pure (g1 aTerm fun t => vB (ownT t))
abbrev refGoodS : Fs := .pure (g1 aVal fun v => vB (goodV v))
theorem refName_ok : FsOk Try.prog 94 refNameS := by
 refine FsOk.of_calls Try.func94 rfl (by kernel_rfl) ?_
 intro args r _ h
 obtain ⟨x, s, rfl, hx, rfl⟩ := g1_eq h
 obtain rfl := aStr_eq hx
 exact ⟨[.string s], _, rfl, fun _ _ _ => .d _ _ (.v _ rfl), fun w => (refName_calls s w).mono fun e w' ⟨h1, h2⟩ => ⟨h1, by subst h2; exact Go.RowKit.Below.refl _ _⟩⟩
theorem own_ok : FsOk Try.prog 59 ownS := by
 refine of_X1 (E := EqT.no _) (F := Ft.no) Term.av (fun _ _ => aTerm_le) Try.func59 rfl (by kernel_rfl) [.tmp 2] rfl Try.ntmps59 (by decide) (FtOk.no _) ?_
 intro t h n hok
 repeat' (first | (with_reducible refine XG_split (fun hq => ?_) (fun hq => ?_)) | simp only [go_sem,Term.av])
 all_goals (refine wk_v (congrArg Value.bool ?_); simp [ownT, *])
theorem refGood_ok : FsOk Try.prog 108 refGoodS := by
 refine of_X1 (E := EqT.no _) (F := Ft.no.put 94 refNameS) Val.av (fun _ _ => aVal_le) Try.func108 rfl (by kernel_rfl) [.tmp 2] rfl Try.ntmps108 (by decide) ((FtOk.no _).put refName_ok) ?_
 intro t h n hok
 repeat' (first | (with_reducible refine XG_split (fun hq => ?_) (fun hq => ?_)) | simp only [go_sem,Val.av])
 all_goals (refine wk_v (congrArg Value.bool ?_); simp [goodV, *])
def varB (s : ByteArray) : Bool := decide (0 < s.size) && decide (s.size ≤ 16) && uppB (byteAt s 0) && (List.range s.size).all fun i => pieceB (byteAt s i)
abbrev inS : Fs := .pureIf (fun _ => True) (g1 aU8 fun c => vB (pieceB c))
theorem in_ok : FsOk Try.prog 102 inS := by
 refine FsOk.of_calls Try.func102 rfl (by kernel_rfl) ?_
 intro args r _ h
 obtain ⟨x, c, rfl, hx, rfl⟩ := g1_eq h
 obtain rfl := aU8_eq hx
 exact ⟨[.int .u8 c], _, rfl, fun _ _ _ => .d _ _ (.v _ rfl), fun w => (in_calls c w).mono fun e w' ⟨h1, h2⟩ => ⟨h1, by subst h2; exact Go.RowKit.Below.refl _ _⟩⟩
abbrev varS : Fs := .pure (g1 aStr fun s => vB (varB s))
theorem all_range_succ {p : Nat → Bool} {n k : Nat} (hk : k < n) (h : (List.range k).all p = true) (hp : p k = true) : (List.range (k + 1)).all p = true := by
 rw [List.range_succ, List.all_append, h]
 simp [hp]
theorem all_range_not {p : Nat → Bool} {n k : Nat} (hk : k < n) (hp : p k = false) : (List.range n).all p = false := by
 rw [List.all_eq_false]
 exact ⟨k, List.mem_range.2 hk, by simp [hp]⟩
set_option maxHeartbeats 1000000 in
theorem var_ok : FsOk Try.prog 109 varS := by
 refine of_X1 (E := EqT.no _) (F := Ft.no.put 102 inS) vS (fun _ _ => aStr_le) Try.func109 rfl (by kernel_rfl) [.tmp 2] rfl Try.ntmps109 (by decide) ((FtOk.no _).put in_ok) ?_
 intro s h n hok
 repeat' (first | (with_reducible refine XG_split (fun hq => ?_) (fun hq => ?_)) | (with_reducible refine And.intro ?_ ?_) | simp only [go_sem])
 all_goals try (refine wk_v (congrArg Value.bool ?_))
 all_goals simp only [decide_eq_true_eq, decide_eq_false_iff_not] at *
 all_goals first | omega | (simp [varB,uppB, *]; done) | (simp [varB,uppB]; omega) | skip
 have hs : 0 < s.size ∧ s.size ≤ 16 ∧ uppB (byteAt s 0) = true := by simp [uppB]; omega
 refine AW.loopJ (E := EqT.no _) (S := fun k : Nat => ⟨fr [(0, vS s), (3, vI k)] (List.replicate 33 .any), h, n, n⟩) (I := fun k => k ≤ s.size ∧ (List.range k).all (fun i => pieceB (byteAt s i)) = true) (μ := fun k => s.size - k) 0 ⟨Nat.zero_le _, rfl⟩ ?_ 4000 (fun _ => by simp only [fr_len, List.length_replicate]; decide) ?_
 · exact Wk.same (by simp only [go_sem]) hok (Nat.le_refl _) (by simp only [go_sem])
 · rintro k ⟨hk, hA⟩
   repeat' (first | (with_reducible refine XG_split (fun hq => ?_) (fun hq => ?_)) | (with_reducible refine And.intro ?_ ?_) | simp only [go_sem])
   all_goals simp only [decide_eq_true_eq, decide_eq_false_iff_not, Bool.not_eq_true', Bool.not_eq_false'] at *
   all_goals first | omega | skip
   · refine wk_v (congrArg Value.bool ?_)
     simp [varB, all_range_not (p := fun i => pieceB (byteAt s i)) ‹_› ‹_›]
   · refine ⟨k + 1, ⟨by omega, all_range_succ ‹_› hA ‹_›⟩, Wk.same (by simp only [go_sem]) hok (Nat.le_refl _) (by simp only [go_sem]), by omega⟩
   · refine wk_v (congrArg Value.bool ?_)
     obtain rfl : k = s.size := by omega
     simp [varB, hs, hA]
end Go.Proofs.Ytdhocmakbapfpaa.M
end
section
namespace Go.Proofs.Ytdhocmakbapfpaa.M
open Go.R
def termB (t : Term) : Bool := if 0 < t.var.size then varB t.var && (t.val.sym.size == 0 && t.val.num == 0) else goodV t.val
def termsB (l : List Term) : Bool := l.all termB
abbrev termS : Fs := .pure (g1 aTerm fun t => vB (termB t))
abbrev termsS : Fs := .pureIf (g1p aTerms fun l => l.length ≤ 4611686018427387904) (g1 aTerms fun l => vB (termsB l))
theorem term_ok : FsOk Try.prog 93 termS := by
 refine of_X1 (E := EqT.no _) (F := (Ft.no.put 109 varS).put 108 refGoodS) Term.av (fun _ _ => aTerm_le) Try.func93 rfl (by kernel_rfl) [.tmp 2] rfl Try.ntmps93 (by decide) (((FtOk.no _).put var_ok).put refGood_ok) ?_
 intro t h n hok
 repeat' (first | (with_reducible refine XG_split (fun hq => ?_) (fun hq => ?_)) | (with_reducible refine And.intro ?_ ?_) | simp only [go_sem,Nat.reduceEqDiff,Term.av])
 all_goals refine wk_v (congrArg Value.bool ?_)
 all_goals try simp only [decide_eq_true_eq, decide_eq_false_iff_not] at *
 all_goals simp [termB, *]
theorem all_take_succ {α : Type} {p : α → Bool} {l : List α} {k : Nat} (hk : k < l.length) (h : (l.take k).all p = true) (hp : p l[k] = true) : (l.take (k + 1)).all p = true := by
 rw [List.take_succ_eq_append_getElem hk, List.all_append, h]
 simp [hp]
theorem all_not {α : Type} {p : α → Bool} {l : List α} {k : Nat} (hk : k < l.length) (hp : p l[k] = false) : l.all p = false := by
 rw [List.all_eq_false]
 exact ⟨l[k], List.getElem_mem hk, by simp [hp]⟩
theorem terms_ok : FsOk Try.prog 81 termsS := by
 refine of_Y1 (E := EqT.no _) (F := Ft.no.put 93 termS) (fun l => .d (.sl 3 (l.map Term.cells))) (fun _ _ => aTerms_le) Try.func81 rfl (by kernel_rfl) [.tmp 2] rfl Try.ntmps81 (by decide) ((FtOk.no _).put term_ok) ?_
 intro l h n hl hok
 repeat' (first | (with_reducible refine XG_split (fun hq => ?_) (fun hq => ?_)) | (with_reducible refine And.intro ?_ ?_) | simp only [go_sem])
 refine AW.loopJ (E := EqT.no _) (S := fun k : Nat => ⟨fr [(0, .d (.sl 3 (l.map Term.cells))), (3, vI k)] (List.replicate 16 .any), h, n, n⟩) (I := fun k => k ≤ l.length ∧ (l.take k).all termB = true) (μ := fun k => l.length - k) 0 ⟨Nat.zero_le _, rfl⟩ ?_ 4000 (fun _ => by simp only [fr_len, List.length_replicate]; decide) ?_
 · exact Wk.same (by simp only [go_sem]) hok (Nat.le_refl _) (by simp only [go_sem])
 · rintro k ⟨hk, hA⟩
   rcases Nat.lt_or_ge k l.length with hkl | hkl
   · repeat' (first | (with_reducible refine XG_split (fun hq => ?_) (fun hq => ?_)) | (with_reducible refine And.intro ?_ ?_) | simp only [go_sem,Nat.reduceEqDiff,decide_eq_true hkl,List.getElem?_eq_getElem hkl])
     all_goals try simp only [decide_eq_true_eq, decide_eq_false_iff_not, Bool.not_eq_true', Bool.not_eq_false'] at *
     all_goals first | omega | skip
     · refine wk_v (congrArg Value.bool ?_)
       simp [termsB, all_not hkl ‹_›]
     · refine ⟨k + 1, ⟨by omega, all_take_succ ‹_› hA ‹_›⟩, Wk.same (by simp only [go_sem]) hok (Nat.le_refl _) (by simp only [go_sem]), by omega⟩
   · obtain rfl : k = l.length := by omega
     repeat' (first | (with_reducible refine XG_split (fun hq => ?_) (fun hq => ?_)) | (with_reducible refine And.intro ?_ ?_) | simp only [go_sem,Nat.lt_irrefl,decide_false])
     refine wk_v (congrArg Value.bool ?_)
     simpa [termsB] using hA
end Go.Proofs.Ytdhocmakbapfpaa.M
end
section
namespace Go.Proofs.Ytdhocmakbapfpaa.M
open Go.R
def saidB (l : Lit) : Bool := (ownT l.who || termB l.who && (decide (0 < l.who.var.size) || decide (0 < l.who.val.sym.size))) && nameB l.pred && decide (l.args.length ≤ 4) && termsB l.args
def checkLitB (l : Lit) : Bool := l.kind == 1 && saidB l
def literalB (l : Lit) : Bool := if l.kind == 1 || l.kind == 2 then saidB l else (l.kind == 3 || l.kind == 4) && l.pred.size == 0 && ownT l.who && l.args.length == 2 && termsB l.args
def checkB (c : Clause) : Bool := checkLitB c.head && ownT c.head.who && decide (c.body.length ≤ 6) && c.body.all literalB
def Clause.ds (c : Clause) : List AV := [.d (.v (.int .u8 c.head.kind)), .d (.v (.string c.head.who.var)), .d (.v (.string c.head.who.val.sym)), .d (.v (.int .i64 c.head.who.val.num)), .d (.v (.string c.head.pred)), .d (.sl 3 (c.head.args.map Term.cells)), .d (.sl 6 (c.body.map Lit.cells))]
abbrev saidS : Fs := .pure (g1 aLit fun l => vB (saidB l))
abbrev checkLitS : Fs := .pure (g1 aLit fun l => vB (checkLitB l))
abbrev literalS : Fs := .pure (g1 aLit fun l => vB (literalB l))
abbrev checkS : Fs := .pure (g1 aClause fun c => vB (checkB c))
theorem said_ok : FsOk Try.prog 74 saidS := by
 refine of_X1 (E := EqT.no _) (F := (((Ft.no.put 59 ownS).put 93 termS).put 94 refNameS).put 81 termsS) Lit.av (fun _ _ => aLit_le) Try.func74 rfl (by kernel_rfl) [.tmp 2] rfl Try.ntmps74 (by decide) (((((FtOk.no _).put own_ok).put term_ok).put refName_ok).put terms_ok) ?_
 intro l h n hok
 repeat' (first | (with_reducible refine XG_split (fun hq => ?_) (fun hq => ?_)) | (with_reducible refine Or.inl (And.intro (And.intro mixedP ?_) ?_); kernel_rfl) | (with_reducible refine MX1.of 4000 (by simp) ?_) | (with_reducible refine MX2.of 4000 (by simp) ?_) | (with_reducible refine And.intro ?_ ?_) | simp only [go_sem,Nat.reduceEqDiff,Nat.reduceAdd,Nat.reduceMul,Nat.reduceLeDiff,Lit.av])
 all_goals first | (refine wk_v (congrArg Value.bool ?_)) | skip
 all_goals try simp only [decide_eq_true_eq, decide_eq_false_iff_not] at *
 all_goals first | omega | (simp [saidB, *]; done) | skip
theorem checkLit_ok : FsOk Try.prog 50 checkLitS := by
 refine of_X1 (E := EqT.no _) (F := Ft.no.put 74 saidS) Lit.av (fun _ _ => aLit_le) Try.func50 rfl (by kernel_rfl) [.tmp 2] rfl Try.ntmps50 (by decide) ((FtOk.no _).put said_ok) ?_
 intro l h n hok
 repeat' (first | (with_reducible refine XG_split (fun hq => ?_) (fun hq => ?_)) | (with_reducible refine Or.inl (And.intro (And.intro mixedP ?_) ?_); kernel_rfl) | (with_reducible refine MX1.of 4000 (by simp) ?_) | (with_reducible refine MX2.of 4000 (by simp) ?_) | (with_reducible refine And.intro ?_ ?_) | simp only [go_sem,Nat.reduceEqDiff,Nat.reduceAdd,Nat.reduceMul,Nat.reduceLeDiff,Lit.av])
 all_goals first | (refine wk_v (congrArg Value.bool ?_)) | skip
 all_goals try simp only [decide_eq_true_eq, decide_eq_false_iff_not] at *
 all_goals first | omega | (simp [checkLitB, *]; done) | skip
theorem literal_ok : FsOk Try.prog 60 literalS := by
 refine of_X1 (E := EqT.no _) (F := ((Ft.no.put 59 ownS).put 74 saidS).put 81 termsS) Lit.av (fun _ _ => aLit_le) Try.func60 rfl (by kernel_rfl) [.tmp 2] rfl Try.ntmps60 (by decide) ((((FtOk.no _).put own_ok).put said_ok).put terms_ok) ?_
 intro l h n hok
 repeat' (first | (with_reducible refine XG_split (fun hq => ?_) (fun hq => ?_)) | (with_reducible refine Or.inl (And.intro (And.intro mixedP ?_) ?_); kernel_rfl) | (with_reducible refine MX1.of 4000 (by simp) ?_) | (with_reducible refine MX2.of 4000 (by simp) ?_) | (with_reducible refine And.intro ?_ ?_) | simp only [go_sem,Nat.reduceEqDiff,Nat.reduceAdd,Nat.reduceMul,Nat.reduceLeDiff,Lit.av])
 all_goals first | (refine wk_v (congrArg Value.bool ?_)) | skip
 all_goals try simp only [decide_eq_true_eq, decide_eq_false_iff_not, beq_iff_eq] at *
 all_goals first | omega | (simp [literalB, *]; done) | skip
theorem check_ok : FsOk Try.prog 29 checkS := by
 refine of_X1 (E := EqT.no _) (F := ((Ft.no.put 59 ownS).put 50 checkLitS).put 60 literalS) Clause.av (fun _ _ => aClause_le) Try.func29 rfl (by kernel_rfl) [.tmp 2] rfl Try.ntmps29 (by decide) ((((FtOk.no _).put own_ok).put checkLit_ok).put literal_ok) ?_
 intro c h n hok
 repeat' (first | (with_reducible refine XG_split (fun hq => ?_) (fun hq => ?_)) | (with_reducible refine Or.inl (And.intro (And.intro mixedP ?_) ?_); kernel_rfl) | (with_reducible refine MX1.of 4000 (by simp) ?_) | (with_reducible refine MX2.of 4000 (by simp) ?_) | (with_reducible refine And.intro ?_ ?_) | simp only [go_sem,Nat.reduceEqDiff,Nat.reduceAdd,Nat.reduceMul,Nat.reduceLeDiff,Clause.av])
 all_goals first | (refine wk_v (congrArg Value.bool ?_)) | skip
 all_goals try simp only [decide_eq_true_eq, decide_eq_false_iff_not, beq_iff_eq, Bool.not_eq_true', Bool.not_eq_false'] at *
 all_goals first | omega | (simp [checkB, *]; done) | skip
 · simp [checkB]; omega
 have hok' : HOk (n + 1) (upd h n (.box c.ds)) := (hok.mono (Nat.le_succ n)).upd_box (Nat.lt_succ_self n) (by simp only [go_sem, Clause.ds])
 refine AW.loopJ (E := EqT.no _) (S := fun k : Nat => ⟨fr [(1, .p n 0), (3, vI k)] (List.replicate 35 .any), upd h n (.box c.ds), n, n + 1⟩) (I := fun k => k ≤ c.body.length ∧ (c.body.take k).all literalB = true) (μ := fun k => c.body.length - k) 0 ⟨Nat.zero_le _, rfl⟩ ?_ 4000 (fun _ => by simp only [fr_len, List.length_replicate]; decide) ?_
 · exact Wk.same (by simp only [go_sem]) hok' (Nat.le_succ n) (by simp only [go_sem]; omega)
 · rintro k ⟨hk, hA⟩
   rcases Nat.lt_or_ge k c.body.length with hkl | hkl
   · repeat' (first | (with_reducible refine XG_split (fun hq => ?_) (fun hq => ?_)) | (with_reducible refine Or.inl (And.intro (And.intro mixedP ?_) ?_); kernel_rfl) | (with_reducible refine MX1.of 4000 (by simp) ?_) | (with_reducible refine MX2.of 4000 (by simp) ?_) | (with_reducible refine And.intro ?_ ?_) | simp only [go_sem,Nat.reduceEqDiff,Nat.reduceAdd,Nat.reduceMul,Nat.reduceLeDiff,Clause.ds,decide_eq_true hkl,List.getElem?_eq_getElem hkl])
     all_goals try simp only [decide_eq_true_eq, decide_eq_false_iff_not, Bool.not_eq_true', Bool.not_eq_false'] at *
     all_goals first | omega | skip
     · refine wk_v (congrArg Value.bool ?_)
       simp [checkB, all_not hkl ‹_›]
     · refine ⟨k + 1, ⟨by omega, all_take_succ ‹_› hA ‹_›⟩, Wk.same (by simp only [go_sem]) hok' (Nat.le_succ n) (by simp only [go_sem]; omega), by omega⟩
   · obtain rfl : k = c.body.length := by omega
     repeat' (first | (with_reducible refine XG_split (fun hq => ?_) (fun hq => ?_)) | (with_reducible refine Or.inl (And.intro (And.intro mixedP ?_) ?_); kernel_rfl) | (with_reducible refine MX1.of 4000 (by simp) ?_) | (with_reducible refine MX2.of 4000 (by simp) ?_) | (with_reducible refine And.intro ?_ ?_) | simp only [go_sem,Nat.reduceEqDiff,Nat.reduceAdd,Nat.reduceMul,Nat.reduceLeDiff,Clause.ds,Nat.lt_irrefl,decide_false])
     refine wk_v (congrArg Value.bool ?_)
     simp [checkB, *] at hA ⊢
     exact ⟨by omega, hA⟩
end Go.Proofs.Ytdhocmakbapfpaa.M
end
section
namespace Go.Proofs.Ytdhocmakbapfpaa.M
open Go.R
theorem noGuardT : Try.prog.eqGuardType Try.prog.depth 25 = false := by kernel_rfl
theorem undT : Try.prog.underlying 25 = some (.struct (Try.prog.fieldsOf 25)) := by kernel_rfl
theorem undV : Try.prog.underlying 23 = some (.struct (Try.prog.fieldsOf 23)) := by kernel_rfl
theorem heldT : Try.prog.stoodInHeld 25 = false := by kernel_rfl
theorem heldV : Try.prog.stoodInHeld 23 = false := by kernel_rfl
def eqTermF (t : TypeId) (us vs : List Value) : Option Bool := if t = 25 then match us, vs with
 | [.string a, .string b, .int .i64 n], [.string a', .string b', .int .i64 n'] => some (a.toList == a'.toList && (b.toList == b'.toList && n == n'))
 | _, _ => none
 else none
def eqF3 (d : Nat) (xs ys : Array Value) : List (String × TypeId × Nat) → Sem Bool
 | [] => pure true
 | f :: fs =>
   if f.1 ≠ "_" then do
    let a ← part f.2.1 xs f.2.2
    let b ← part f.2.1 ys f.2.2
    let r ← Op.equalIn d f.2.1 a b
    if (!r) = true then pure false else eqF3 d xs ys fs
   else eqF3 d xs ys fs
theorem eqFields_map (d : Nat) (xs ys : Array Value) : ∀ fs : List Field, Op.eqFields d xs ys fs = eqF3 d xs ys (fs.map fun f => (f.name, f.type, f.offset))
 | [] => rfl
 | f :: fs => by simp only [Op.eqFields, List.map_cons, eqF3, eqFields_map d xs ys fs]
theorem e1 : (Try.prog.fieldsOf 25).toList.map (fun f => (f.name, f.type, f.offset)) = [("Var", 9, 0), ("Val", 23, 1)] := by kernel_rfl
theorem e2 : (Try.prog.fieldsOf 23).toList.map (fun f => (f.name, f.type, f.offset)) = [("Sym", 9, 0), ("Num", 2, 1)] := by kernel_rfl
theorem und_s : Try.prog.underlying 9 = some .string := by kernel_rfl
theorem und_i : Try.prog.underlying 2 = some (.int .i64) := by kernel_rfl
theorem equalIn_term (a b a' b' : ByteArray) (n n' : Int) (w : World) : (Op.equalIn 10000 25 (.agg #[.string a, .string b, .int .i64 n]) (.agg #[.string a', .string b', .int .i64 n'])).run Try.prog w = .ok (a.toList == a'.toList && (b.toList == b'.toList && n == n')) w := by
 rw [run_equalIn_agg w 9999 _ _ _ undT heldT, eqFields_map, e1]
 simp [go_sem, eqF3, und_s, und_i]
 by_cases h1 : a.toList = a'.toList <;> by_cases h2 : b.toList = b'.toList <;> by_cases h3 : n = n' <;> simp [*]
def eqT : EqT Try.prog := ⟨eqTermF, fun t us vs b h op x y w => by
 unfold eqTermF at h
 split at h
 · rename_i e
   subst e
   split at h
   · cases h
     refine ⟨?_, ?_⟩ <;> (rintro rfl; simp only [Sem.run_bind, run_eqGuard_agg _ _ _ _ _ _ _ noGuardT, Result.andThen_ok, run_eql_struct, run_neq_struct, equalIn_term])
   · cases h
 · cases h⟩
@[go_sem] theorem eqT_term (a b a' b' : ByteArray) (n n' : Int) : eqT.eq 25 [.string a, .string b, .int .i64 n] [.string a', .string b', .int .i64 n'] = some (a.toList == a'.toList && (b.toList == b'.toList && n == n')) := rfl
end Go.Proofs.Ytdhocmakbapfpaa.M
end
section
namespace Go.Proofs.Ytdhocmakbapfpaa.M
open Go.R
noncomputable def eqB {α : Type} (a b : α) : Bool := @decide (a = b) (Classical.propDecidable _)
theorem eqB_true {α : Type} {a b : α} (h : a = b) : eqB a b = true := by simp [eqB, h]
theorem eqB_false {α : Type} {a b : α} (h : ¬a = b) : eqB a b = false := by simp [eqB, h]
theorem toList_inj {a b : ByteArray} (h : a.toList = b.toList) : a = b := by
 rw [toList_eq, toList_eq] at h
 obtain ⟨⟨x⟩⟩ := a
 obtain ⟨⟨y⟩⟩ := b
 simp only at h
 rw [h]
theorem Term.eq_of {a b : Term} (h : (a.var.toList == b.var.toList && (a.val.sym.toList == b.val.sym.toList && a.val.num == b.val.num)) = true) : a = b := by
 simp only [Bool.and_eq_true, beq_iff_eq] at h
 obtain ⟨h1, h2, h3⟩ := h
 obtain ⟨a1, a2, a3⟩ := a
 obtain ⟨b1, b2, b3⟩ := b
 have e1 := toList_inj h1
 have e2 := toList_inj h2
 simp only at e1 e2 h3
 rw [e1, e2, h3]
theorem Term.ne_of {a b : Term} (h : (a.var.toList == b.var.toList && (a.val.sym.toList == b.val.sym.toList && a.val.num == b.val.num)) = false) : ¬a = b := by
 rintro rfl
 simp at h
def Lit.bx (l : Lit) : List AV := [.d (.v (.int .u8 l.kind)), .d (.v (.string l.who.var)), .d (.v (.string l.who.val.sym)), .d (.v (.int .i64 l.who.val.num)), .d (.v (.string l.pred)), .d (.sl 3 (l.args.map Term.cells))]
noncomputable abbrev sameLitS : Fs := .pureIf (g2p aLit aLit fun a b => a.args.length ≤ 4611686018427387904) (g2 aLit aLit fun a b => vB (eqB a b))
def smallC (c : Clause) : Prop := c.body.length ≤ 4611686018427387904 ∧ c.head.args.length ≤ 4611686018427387904 ∧ ∀ l ∈ c.body, l.args.length ≤ 4611686018427387904
noncomputable abbrev sameS : Fs := .pureIf (g2p aClause aClause fun a b => smallC a) (g2 aClause aClause fun a b => vB (eqB a b))
set_option maxHeartbeats 1000000 in
theorem sameLit_ok : FsOk Try.prog 17 sameLitS := by
 refine of_Y2 (E := eqT) (F := Ft.no) Lit.av Lit.av (fun _ _ => aLit_le) (fun _ _ => aLit_le) Try.func17 rfl (by kernel_rfl) [.tmp 4] rfl Try.ntmps17 (by decide) (FtOk.no _) ?_
 intro l l' h n hp hok
 repeat' (first | (with_reducible refine XG_split (fun hq => ?_) (fun hq => ?_)) | (with_reducible refine Or.inl (And.intro (And.intro mixedP ?_) ?_); kernel_rfl) | (with_reducible refine MX1.of 4000 (by simp) ?_) | (with_reducible refine MX2.of 4000 (by simp) ?_) | (with_reducible refine And.intro ?_ ?_) | simp only [go_sem,Nat.reduceEqDiff,Nat.reduceAdd,Nat.reduceMul,Nat.reduceLeDiff,Lit.av,cvals,cval])
 all_goals first | (refine wk_v (congrArg Value.bool ?_)) | skip
 · exact (eqB_false (by rintro rfl; simp at hq)).symm
 · exact (eqB_false (by rintro rfl; simp at hq)).symm
 · exact (eqB_false (by rintro rfl; simp at hq)).symm
 · exact (eqB_false (by rintro rfl; simp at hq)).symm
 rename_i h1 h2 h3
 have e1 : l.kind = l'.kind := by simpa using h1
 have e2 : l.who = l'.who := Term.eq_of (by simpa using h2)
 have e3 : l.pred = l'.pred := toList_inj (by simpa using h3)
 have e4 : l.args.length = l'.args.length := by simp at hq; omega
 have hok' : HOk (n + 1) (upd h n (.box l.bx)) := (hok.mono (Nat.le_succ n)).upd_box (Nat.lt_succ_self n) (by simp only [go_sem, Lit.bx])
 have hok2 : HOk (n + 1 + 1) (upd (upd h n (.box l.bx)) (n + 1) (.box l'.bx)) := (hok'.mono (Nat.le_succ _)).upd_box (Nat.lt_succ_self _) (by simp only [go_sem, Lit.bx])
 refine AW.loopJ (E := eqT) (S := fun k : Nat => ⟨fr [(2, .p n 0), (3, .p (n + 1) 0), (5, vI k)] (List.replicate 52 .any), upd (upd h n (.box l.bx)) (n + 1) (.box l'.bx), n, n + 1 + 1⟩) (I := fun k => k ≤ l.args.length ∧ ∀ i, i < k → l.args[i]? = l'.args[i]?) (μ := fun k => l.args.length - k) 0 ⟨Nat.zero_le _, fun i hi => absurd hi (Nat.not_lt_zero i)⟩ ?_ 4000 (fun _ => by simp only [fr_len, List.length_replicate]; decide) ?_
 · exact Wk.same (by simp only [go_sem]) hok2 (by omega) (by simp only [go_sem]; omega)
 · rintro k ⟨hk, hA⟩
   rcases Nat.lt_or_ge k l.args.length with hkl | hkl
   · have hkl' : k < l'.args.length := by omega
     repeat' (first | (with_reducible refine XG_split (fun hq => ?_) (fun hq => ?_)) | (with_reducible refine Or.inl (And.intro (And.intro mixedP ?_) ?_); kernel_rfl) | (with_reducible refine MX1.of 4000 (by simp) ?_) | (with_reducible refine MX2.of 4000 (by simp) ?_) | (with_reducible refine And.intro ?_ ?_) | simp only [go_sem,Nat.reduceEqDiff,Nat.reduceAdd,Nat.reduceMul,Nat.reduceLeDiff,Lit.bx,cvals,cval,decide_eq_true hkl,List.getElem?_eq_getElem hkl,List.getElem?_eq_getElem hkl'])
     all_goals try (first | omega | done)
     · refine wk_v (congrArg Value.bool ?_)
       refine (eqB_false ?_).symm
       intro e
       have : l.args[k] = l'.args[k] := by simp only [e]
       exact Term.ne_of (by simpa only [Bool.not_eq_true'] using hq) this
     · refine ⟨k + 1, ⟨by omega, fun i hi => ?_⟩, Wk.same (by simp only [go_sem]) hok2 (by omega) (by simp only [go_sem]; omega), by omega⟩
       rcases Nat.lt_or_ge i k with h | h
       · exact hA i h
       · obtain rfl : i = k := by omega
         rw [List.getElem?_eq_getElem hkl, List.getElem?_eq_getElem hkl', Term.eq_of (a := l.args[i]) (b := l'.args[i]) (by simpa only [Bool.not_eq_false'] using hq)]
   · obtain rfl : k = l.args.length := by omega
     repeat' (first | (with_reducible refine XG_split (fun hq => ?_) (fun hq => ?_)) | (with_reducible refine Or.inl (And.intro (And.intro mixedP ?_) ?_); kernel_rfl) | (with_reducible refine MX1.of 4000 (by simp) ?_) | (with_reducible refine MX2.of 4000 (by simp) ?_) | (with_reducible refine And.intro ?_ ?_) | simp only [go_sem,Nat.reduceEqDiff,Nat.reduceAdd,Nat.reduceMul,Nat.reduceLeDiff,Lit.bx,Nat.lt_irrefl,decide_false])
     refine wk_v (congrArg Value.bool ?_)
     refine (eqB_true ?_).symm
     have e5 : l.args = l'.args := List.ext_getElem? fun i => by
      rcases Nat.lt_or_ge i l.args.length with h | h
      · exact hA i h
      · rw [List.getElem?_eq_none h, List.getElem?_eq_none (by omega)]
     obtain ⟨a1, a2, a3, a4⟩ := l
     obtain ⟨b1, b2, b3, b4⟩ := l'
     simp only at e1 e2 e3 e5
     rw [e1, e2, e3, e5]
set_option maxHeartbeats 1000000 in
theorem same_ok : FsOk Try.prog 14 sameS := by
 refine of_Y2 (E := EqT.no _) (F := Ft.no.put 17 sameLitS) Clause.av Clause.av (fun _ _ => aClause_le) (fun _ _ => aClause_le) Try.func14 rfl (by kernel_rfl) [.tmp 4] rfl Try.ntmps14 (by decide) ((FtOk.no _).put sameLit_ok) ?_
 intro l l' h n hp hok
 obtain ⟨hp1, hp2, hp3⟩ := hp
 repeat' (first | (with_reducible refine XG_split (fun hq => ?_) (fun hq => ?_)) | (with_reducible refine Or.inl (And.intro (And.intro mixedP ?_) ?_); kernel_rfl) | (with_reducible refine MX1.of 4000 (by simp) ?_) | (with_reducible refine MX2.of 4000 (by simp) ?_) | (with_reducible refine And.intro ?_ ?_) | simp only [go_sem,Nat.reduceEqDiff,Nat.reduceAdd,Nat.reduceMul,Nat.reduceLeDiff,Clause.av])
 all_goals first | (exact hp2) | (refine wk_v (congrArg Value.bool ?_)) | skip
 · refine (eqB_false ?_).symm
   rintro rfl
   rw [eqB_true rfl] at hq
   cases hq
 · refine (eqB_false ?_).symm
   rintro rfl
   simp at hq
 rename_i h1
 have e1 : l.head = l'.head := by
  refine Classical.byContradiction fun e => ?_
  rw [eqB_false e] at h1
  cases h1
 have e4 : l.body.length = l'.body.length := by simp at hq; omega
 have hok' : HOk (n + 1) (upd h n (.box l.ds)) := (hok.mono (Nat.le_succ n)).upd_box (Nat.lt_succ_self n) (by simp only [go_sem, Clause.ds])
 have hok2 : HOk (n + 1 + 1) (upd (upd h n (.box l.ds)) (n + 1) (.box l'.ds)) := (hok'.mono (Nat.le_succ _)).upd_box (Nat.lt_succ_self _) (by simp only [go_sem, Clause.ds])
 refine AW.loopJ (E := EqT.no _) (S := fun k : Nat => ⟨fr [(2, .p n 0), (3, .p (n + 1) 0), (5, vI k)] (List.replicate 40 .any), upd (upd h n (.box l.ds)) (n + 1) (.box l'.ds), n, n + 1 + 1⟩) (I := fun k => k ≤ l.body.length ∧ ∀ i, i < k → l.body[i]? = l'.body[i]?) (μ := fun k => l.body.length - k) 0 ⟨Nat.zero_le _, fun i hi => absurd hi (Nat.not_lt_zero i)⟩ ?_ 4000 (fun _ => by simp only [fr_len, List.length_replicate]; decide) ?_
 · exact Wk.same (by simp only [go_sem]) hok2 (by omega) (by simp only [go_sem]; omega)
 · rintro k ⟨hk, hA⟩
   rcases Nat.lt_or_ge k l.body.length with hkl | hkl
   · have hkl' : k < l'.body.length := by omega
     repeat' (first | (with_reducible refine XG_split (fun hq => ?_) (fun hq => ?_)) | (with_reducible refine Or.inl (And.intro (And.intro mixedP ?_) ?_); kernel_rfl) | (with_reducible refine MX1.of 4000 (by simp) ?_) | (with_reducible refine MX2.of 4000 (by simp) ?_) | (with_reducible refine And.intro ?_ ?_) | simp only [go_sem,Nat.reduceEqDiff,Nat.reduceAdd,Nat.reduceMul,Nat.reduceLeDiff,Clause.ds,decide_eq_true hkl,List.getElem?_eq_getElem hkl,List.getElem?_eq_getElem hkl'])
     all_goals try (first | omega | done)
     · exact hp3 _ (List.getElem_mem hkl)
     · refine wk_v (congrArg Value.bool ?_)
       refine (eqB_false ?_).symm
       intro e
       rw [eqB_true (by simp only [e])] at hq
       cases hq
     · refine ⟨k + 1, ⟨by omega, fun i hi => ?_⟩, Wk.same (by simp only [go_sem]) hok2 (by omega) (by simp only [go_sem]; omega), by omega⟩
       rcases Nat.lt_or_ge i k with h | h
       · exact hA i h
       · obtain rfl : i = k := by omega
         rw [List.getElem?_eq_getElem hkl, List.getElem?_eq_getElem hkl']
         refine congrArg some (Classical.byContradiction fun e => ?_)
         rw [eqB_false e] at hq
         cases hq
   · obtain rfl : k = l.body.length := by omega
     repeat' (first | (with_reducible refine XG_split (fun hq => ?_) (fun hq => ?_)) | (with_reducible refine Or.inl (And.intro (And.intro mixedP ?_) ?_); kernel_rfl) | (with_reducible refine MX1.of 4000 (by simp) ?_) | (with_reducible refine MX2.of 4000 (by simp) ?_) | (with_reducible refine And.intro ?_ ?_) | simp only [go_sem,Nat.reduceEqDiff,Nat.reduceAdd,Nat.reduceMul,Nat.reduceLeDiff,Clause.ds,Nat.lt_irrefl,decide_false])
     refine wk_v (congrArg Value.bool ?_)
     refine (eqB_true ?_).symm
     have e5 : l.body = l'.body := List.ext_getElem? fun i => by
      rcases Nat.lt_or_ge i l.body.length with h | h
      · exact hA i h
      · rw [List.getElem?_eq_none h, List.getElem?_eq_none (by omega)]
     obtain ⟨a1, a2⟩ := l
     obtain ⟨b1, b2⟩ := l'
     simp only at e1 e5
     rw [e1, e5]
end Go.Proofs.Ytdhocmakbapfpaa.M
end
section
namespace Go.R
open Go.RowKit
section
variable {P : Program} {C : Tb} {c c0 c' : Cx} {s s1 s2 : St} {a : Act} {w w0 w' : World} {h h0 h' : AH} {n n' : Nat} {T T1 : List Nat} {ops : Array Oper} {Q : Exit → Act → World → Prop} {Cl : World → Prop} {D : Option Nat}
def SameBut (T1 : List Nat) (c : Cx) (h : AH) (w w' : World) : Prop := ∀ b, b < w.heap.size → (∀ i, i ∈ T1 → (h i).blk c i ≠ some b) → w'.heap[b]? = w.heap[b]?
theorem cells_readC {cs : List AV} {ty : TypeId} {K : AV → Prop} {h : AH} {b o : Nat} (hi : infoP P ty = true) (vals : List Value) (hl : cs.length ≤ vals.length)
 (hcl : ∀ w', Cl w' → w'.heap[b]? = w.heap[b]?)
 (hcell : ∀ (j : Nat) v, vals[j]? = some v → w.cell? ⟨b, o + j, none⟩ = some v) (hr : ∀ (j : Nat) v x, vals[j]? = some v → cs[j]? = some x → ARep c h w v x)
 (hK : pack P ty cs K) : ∃ v r, (∀ w', Cl w' → (do pure (Next.value (← loadVar ty ⟨b, o, none⟩)) : Sem Next).run P w' = .ok (.value v) w') ∧ ARep c h w v r ∧ K r := by
 have hcell' : ∀ w', Cl w' → ∀ (j : Nat) v, vals[j]? = some v → w'.cell? ⟨b, o + j, none⟩ = some v := fun w' q j v hj => (cell_of_block (hcl w' q)).trans (hcell j v hj)
 obtain ⟨d, hd⟩ := Option.isSome_iff_exists.1 (und_of_info hi)
 have hagg : ∀ w', (isAgg ty).run P w' = .ok (aggP P ty) w' := by
  intro w'
  unfold isAgg aggP
  rw [Sem.run_bind, run_underlying hd w']
  cases d <;> simp [hd, Result.andThen_ok]
 unfold pack at hK
 cases hg : aggP P ty with
 | true =>
   rw [if_pos hg] at hK
   obtain ⟨hsz, hK⟩ := hK
   refine ⟨.agg (vals.take (sizeP P ty)).toArray, _, fun w' q => ?_, .agg _ _ (by simp; omega) (fun j v x hj hx => ?_), hK⟩
   · refine run_next _ _ _ ?_
     have hload := run_loadCells_list (P := P) w' ⟨b, o, none⟩ (vals.take (sizeP P ty)) (fun j v hj => by
      have h1 : j < sizeP P ty := by have := (List.getElem?_eq_some_iff.1 hj).1; simp at this; omega
      rw [List.getElem?_take_of_lt h1] at hj
      have hadd : (⟨b, o, none⟩ : Addr).add j = ⟨b, o + j, none⟩ := by unfold Addr.add; split <;> simp_all
      rw [hadd]; exact hcell' w' q j v hj)
     rw [List.length_take, Nat.min_eq_left (by omega)] at hload
     simp only [loadVar, Sem.run_bind, hagg w', hg, Result.andThen_ok, run_sizeP hi w', hload, if_true]
     rfl
   · have h1 : j < sizeP P ty := by have := (List.getElem?_eq_some_iff.1 hj).1; simp at this; omega
     rw [List.getElem?_take_of_lt h1] at hj hx
     exact hr j v x hj hx
 | false =>
   rw [if_neg (by simp [hg])] at hK
   cases cs with
   | nil => exact hK.elim
   | cons x cs =>
     cases vals with
     | nil => simp at hl
     | cons v vals =>
       refine ⟨v, x, fun w' q => run_next _ _ _ ?_, hr 0 v x rfl rfl, hK⟩
       have := hcell' w' q 0 v rfl
       simp only [loadVar, Sem.run_bind, hagg w', hg, Result.andThen_ok, if_false, Bool.false_eq_true, Nat.add_zero] at this ⊢
       simp [run_load, this]
theorem aload_readsC (hw : Wd c h n w) {i off : Nat} {v : Value} {ty : TypeId} {K : AV → Prop} (r : ARep c h w v (.p i off)) (hi : infoP P ty = true) (hT : i ∉ T1) (hK : aload P ty h (.p i off) K) :
 ∃ u r, (∀ w', SameBut T1 c h w w' → (do pure (Next.value (← Instr.loadAt ty v)) : Sem Next).run P w' = .ok (.value u) w') ∧ ARep c h w u r ∧ K r := by
 cases r with
 | p i off cs hbox =>
   simp only [aload, hbox] at hK
   obtain ⟨_, vals, tyb, hb, hsz, hr⟩ := hw.box i cs hbox
   have hcell : ∀ (j : Nat) v, (vals.toList.drop off)[j]? = some v → w.cell? ⟨c.β i, off + j, none⟩ = some v := fun j v hj => by
    simp only [World.cell?, hb]
    rw [List.getElem?_drop] at hj
    simpa using hj
   have := cells_readC (P := P) (Cl := SameBut T1 c h w) (c := c) (h := h) (w := w) (cs := cs.drop off) (b := c.β i) (o := off) hi (vals.toList.drop off) (by simp [hsz])
    (fun w' q => q _ (Array.getElem?_eq_some_iff.1 hb).1 (fun j hj e => hw.ne i j (c.β i) (fun e => hT (e ▸ hj)) (by rw [hbox]; rfl) e)) hcell (fun j v x hj hx => by
    rw [List.getElem?_drop] at hj hx
    exact hr (off + j) v x (by simpa using hj) hx) hK
   simpa [Instr.loadAt, Instr.sureAddr] using this
def ldW (T1 : List Nat) (op : Op) (t : List AV) : Prop := match op with
 | .load _ x => (match ev t x with
   | .p j _ => j ∉ T1
   | _ => False)
 | .nilCheck _ => True
 | .binOp _ _ _ _ _ => True
 | .call cl => (match cl.callee with
   | .builtin _ => True
   | _ => False)
 | op => blindK op = true
def Blind (P : Program) (c : Cx) (h : AH) (w : World) (sm : World → Result Next) (K : AV → Prop) : Prop := ∃ v r, (∀ w', sm w' = .ok (.value v) w') ∧ ARep c h w v r ∧ K r
theorem abi_blind (hs : SRep c s a w) {b : Builtin} {cl : Call} {ty : TypeId} {K : AV → Prop} (hK : abi P b cl ty (cl.args.toList.map (ev s.t)) K) :
 Blind P c s.h w (fun w' => (builtin b cl.argTypes ty (cl.args.map aconst) (cl.args.map a.eval)).run P w') K := by
 have hargs : cl.args.map a.eval = (cl.args.toList.map a.eval).toArray := map_arr _ _
 have gen : ∀ vs, svals (cl.args.toList.map (ev s.t)) = some vs → abuiltin P b cl.argTypes ty (cl.args.map aconst) vs K → Blind P c s.h w (fun w' => (builtin b cl.argTypes ty (cl.args.map aconst) (cl.args.map a.eval)).run P w') K := by
  intro vs hvs hK
  have := svals_rep (by simp) (args_rep hs cl.args.toList) hvs
  rw [hargs, this]
  obtain ⟨v, hv, hK⟩ := hK
  exact ⟨v, _, hv, lift_rep v, hK⟩
 have gen2 : (match svals (cl.args.toList.map (ev s.t)) with
  | some vs => abuiltin P b cl.argTypes ty (cl.args.map aconst) vs K
  | none => False) → Blind P c s.h w (fun w' => (builtin b cl.argTypes ty (cl.args.map aconst) (cl.args.map a.eval)).run P w') K := by
  intro hK
  cases hq : svals (cl.args.toList.map (ev s.t)) with
  | none => simp only [hq] at hK
  | some vs => simp only [hq] at hK; exact gen vs hq hK
 unfold abi at hK
 split at hK
 · rename_i x hx
   cases hl : alen x with
   | none =>
     simp only [hl] at hK
     exact gen2 hK
   | some m =>
     simp only [hl] at hK
     obtain ⟨hb, ht, hK⟩ := hK
     have hb : b = .len := by cases b <;> simp [isLen] at hb; rfl
     subst hb
     obtain ⟨q, hq, rfl⟩ : ∃ q, cl.args.toList = [q] ∧ ev s.t q = x := by
      cases hl : cl.args.toList with
      | nil => simp [hl] at hx
      | cons q r =>
        cases r with
        | nil => simp [hl] at hx; exact ⟨q, rfl, hx⟩
        | cons _ _ => simp [hl] at hx
     obtain ⟨A, cap, hv⟩ := alen_rep (ev_rep hs q) hl
     cases h0 : cl.argTypes[0]? with
     | none => simp only [h0] at ht
     | some t =>
       simp only [h0] at ht
       obtain ⟨e, he⟩ := Option.isSome_iff_exists.1 ht
       refine ⟨.int .i64 m, _, fun w' => ?_, .d _ _ (.v _ rfl), hK⟩
       rw [hargs, hq]
       simp [builtin, Builtin.len_, h0, hv, run_underlying (und_of_slice he), goInt]
 · exact gen2 hK
theorem bin_blind (hs : SRep c s a w) {o : Oper} {op : BinOp} {ty ty' : TypeId} {x y : Operand} {K : AV → Prop} (hop : o.op = .binOp op ty x y ty') (hK : ard P o s.t s.h K) : ∃ v r, (∀ w', (execOp a.eval o).run P w' = .ok (.value v) w') ∧ ARep c s.h w v r ∧ K r := by
 have hr := ev_rep hs
 simp only [ard, hop] at hK
 simp only [execOp, hop]
 cases h1 : sval (ev s.t x) with
 | none => simp only [h1] at hK
 | some u =>
   cases h2 : sval (ev s.t y) with
   | none => simp only [h1, h2] at hK
   | some v =>
     simp only [h1, h2] at hK
     rw [sval_rep (hr x) h1, sval_rep (hr y) h2]
     obtain ⟨v, hv, hK⟩ := hK
     exact ⟨v, _, fun w' => run_next _ _ _ (hv w'), lift_rep v, hK⟩
theorem nil_blind (hs : SRep c s a w) {o : Oper} {x : Operand} {K : AV → Prop} (hop : o.op = .nilCheck x) (hK : ard P o s.t s.h K) : ∃ v r, (∀ w', (execOp a.eval o).run P w' = .ok (.value v) w') ∧ ARep c s.h w v r ∧ K r := by
 have hr := ev_rep hs
 simp only [ard, hop] at hK
 simp only [execOp, hop]
 have hx := hr x
 split at hK
 · rename_i i off hq
   rw [hq] at hx
   generalize a.eval x = v at hx
   cases hx with
   | p i off cs hi => exact ⟨_, _, fun _ => rfl, .p i off cs hi, hK⟩
 · rename_i cs hq
   rw [hq] at hx
   generalize a.eval x = v at hx
   cases hx with
   | e b o cs f h1 h2 => exact ⟨_, _, fun _ => rfl, .e b o cs f h1 h2, hK⟩
 · rename_i f af ac hq
   rw [hq] at hx
   generalize a.eval x = v at hx
   cases hx with
   | fn f vf vc af ac h1 h2 h3 h4 => exact ⟨_, _, fun _ => rfl, .fn _ vf vc af ac h1 h2 h3 h4, hK⟩
 · exact hK.elim
theorem quiet_QYW (I : SI T c0 h0 w0 c s a w) {o : Oper} {K : AV → Prop} (hg : o.guard = none) (hl : ldW T1 o.op s.t) (hK : aopQ P C o s.t s.h s.n K) :
 ∃ v r, QY P ops (fun w' => blindK o.op = true ∨ SameBut T1 c s.h w w') o v a ∧ ARep c s.h w v r ∧ K r := by
 have hw : Region.wanted o (yielded ops a.tmps) = true := by simp [Region.wanted, hg]
 have hK : ard P o s.t s.h K := by
  unfold aopQ at hK
  unfold ldW at hl
  cases hop : o.op with
  | call cl =>
    simp only [hop] at hK hl
    cases hc : cl.callee with
    | builtin b => simp only [hc] at hK; exact hK
    | value f => simp only [hc] at hl
    | invoke r m => simp only [hc] at hl
  | _ => simp only [hop] at hK; exact hK
 unfold ldW at hl
 split at hl
 · rename_i ty x hop
   have hr := ev_rep I.srep x
   split at hl
   · rename_i j off hx
     rw [hx] at hr
     simp only [ard, hop, hx] at hK
     obtain ⟨v, r, h1, h2, h3⟩ := aload_readsC I.srep.wd hr hK.1 hl hK.2
     refine ⟨v, r, .inl ⟨hw, fun w' q => ?_⟩, h2, h3⟩
     rcases q with q | q
     · simp [blindK, hop] at q
     · have := h1 w' q
       simpa [execOp, hop] using this
   · exact hl.elim
 · rename_i x hop
   obtain ⟨v, r, h1, h2, h3⟩ := nil_blind I.srep hop hK
   exact ⟨v, r, .inl ⟨hw, fun w' _ => h1 w'⟩, h2, h3⟩
 · rename_i op ty x y ty' hop
   obtain ⟨v, r, h1, h2, h3⟩ := bin_blind I.srep hop hK
   exact ⟨v, r, .inl ⟨hw, fun w' _ => h1 w'⟩, h2, h3⟩
 · rename_i cl hop
   cases hc : cl.callee with
   | builtin b =>
     simp only [ard, hop, hc] at hK
     obtain ⟨v, r, h1, h2, h3⟩ := abi_blind I.srep hK
     refine ⟨v, r, .inl ⟨hw, fun w' _ => ?_⟩, h2, h3⟩
     have h1 := h1 w'
     simp only [execOp, hop, resolve, hc, Sem.run_bind, Sem.run_pure, Result.andThen_ok, invoke]
     exact h1
   | value f => simp only [hc] at hl
   | invoke r m => simp only [hc] at hl
 · obtain ⟨v, r, h1, h2, h3⟩ := ard_blind I.srep hl hK
   exact ⟨v, r, .inl ⟨hw, fun w' _ => h1 w'⟩, h2, h3⟩
def xopsW (P : Program) (C : Tb) (T1 : List Nat) (ops : Array Oper) : List Nat → St → (St → Prop) → Prop
 | [], s, K => K s
 | k :: ks, s, K => (match ops[k]? with
   | some o => ldW T1 o.op s.t
   | none => False) ∧ xopsQ P C ops (opsAt ops [k]) s fun s' => s'.t.length ≤ 1000000 → xopsW P C T1 ops ks s' K
end
section
variable {P : Program} {E : EqT P} {F : Ft} {T : List Nat} {Q : Exit → St → Prop} {s s1 s2 : St} {ops : Array Oper} {T1 cs1 cs2 qs : List Nat} {k b : Nat}
def ldK (T1 : List Nat) (ops : Array Oper) (k : Nat) (t : List AV) : Prop := match ops[k]? with
 | some o => ldW T1 o.op t
 | none => False
end
end Go.R
end
section
namespace Go.R
structure Ob (σ : Type) where
 bx : σ → List AV
 dec : List AV → Option σ
 ok : ∀ cs R, dec cs = some R → cs = bx R
 lt : ∀ n R, ltL n (bx R)
section
variable {σ : Type}
def obAt (o : Ob σ) (f : σ → List AV → Option (AV × σ)) (i : Nat) (args : List AV) (h : AH) (n : Nat) : AO → Option (AV × AH × Nat)
 | .box cs => match o.dec cs with
   | some R => match f R args with
     | some q => some (q.1, upd h i (.box (o.bx q.2)), n)
     | none => none
   | none => none
 | _ => none
def obRun (o : Ob σ) (f : σ → List AV → Option (AV × σ)) : List AV → AH → Nat → Option (AV × AH × Nat)
 | .p i 0 :: args, h, n => obAt o f i args h n (h i)
 | _, _, _ => none
def obPreAt (o : Ob σ) (p : σ → List AV → Prop) (args : List AV) : AO → Prop
 | .box cs => match o.dec cs with
   | some R => p R args
   | none => True
 | _ => True
def obPre (o : Ob σ) (p : σ → List AV → Prop) : List AV → AH → Nat → Prop
 | .p i 0 :: args, h, n => obPreAt o p args (h i)
 | _, _, _ => True
def obTch : List AV → List Nat
 | .p i _ :: _ => [i]
 | _ => []
def obS (o : Ob σ) (p : σ → List AV → Prop) (f : σ → List AV → Option (AV × σ)) : Fs := ⟨obRun o f, obPre o p, obTch⟩
def obqAt (o : Ob σ) (f : σ → List AV → Option AV) (args : List AV) (h : AH) (n : Nat) : AO → Option (AV × AH × Nat)
 | .box cs => match o.dec cs with
   | some R => match f R args with
     | some r => some (r, h, n)
     | none => none
   | none => none
 | _ => none
def obqRun (o : Ob σ) (f : σ → List AV → Option AV) : List AV → AH → Nat → Option (AV × AH × Nat)
 | .p i 0 :: args, h, n => obqAt o f args h n (h i)
 | _, _, _ => none
def obQ (o : Ob σ) (p : σ → List AV → Prop) (f : σ → List AV → Option AV) : Fs := ⟨obqRun o f, obPre o p, fun _ => []⟩
variable {o : Ob σ} {p : σ → List AV → Prop} {f : σ → List AV → Option (AV × σ)} {g : σ → List AV → Option AV} {i n : Nat} {h : AH} {args : List AV} {cs : List AV}
@[go_sem] theorem obS_run : (obS o p f).run (.p i 0 :: args) h n = obAt o f i args h n (h i) := rfl
@[go_sem] theorem obS_pre : (obS o p f).pre (.p i 0 :: args) h n = obPreAt o p args (h i) := rfl
@[go_sem] theorem obS_tch : (obS o p f).tch (.p i 0 :: args) = [i] := rfl
@[go_sem] theorem obQ_run : (obQ o p g).run (.p i 0 :: args) h n = obqAt o g args h n (h i) := rfl
@[go_sem] theorem obQ_pre : (obQ o p g).pre (.p i 0 :: args) h n = obPreAt o p args (h i) := rfl
@[go_sem] theorem obQ_tch : (obQ o p g).tch args = [] := rfl
def obD (R : Option σ) (p : σ → Prop) : Prop := match R with
 | some R => p R
 | none => True
def obE (o : Ob σ) (f : σ → List AV → Option (AV × σ)) (args : List AV) (R : Option σ) (i : Nat) (h : AH) (n : Nat) : Option (AV × AH × Nat) := match R with
 | some R => match f R args with
   | some q => some (q.1, upd h i (.box (o.bx q.2)), n)
   | none => none
 | none => none
def obF (g : σ → List AV → Option AV) (args : List AV) (R : Option σ) (h : AH) (n : Nat) : Option (AV × AH × Nat) := match R with
 | some R => match g R args with
   | some r => some (r, h, n)
   | none => none
 | none => none
@[go_sem] theorem obAt_box : obAt o f i args h n (.box cs) = obE o f args (o.dec cs) i h n := rfl
@[go_sem] theorem obqAt_box : obqAt o g args h n (.box cs) = obF g args (o.dec cs) h n := rfl
@[go_sem] theorem obPreAt_box : obPreAt o p args (.box cs) = obD (o.dec cs) fun R => p R args := by
  unfold obPreAt obD
  simp only
@[go_sem] theorem obD_some (R : σ) (p : σ → Prop) : obD (some R) p = p R := rfl
@[go_sem] theorem obE_some (R : σ) : obE o f args (some R) i h n = match f R args with
   | some q => some (q.1, upd h i (.box (o.bx q.2)), n)
   | none => none := rfl
@[go_sem] theorem obF_some (R : σ) : obF g args (some R) h n = match g R args with
   | some r => some (r, h, n)
   | none => none := rfl
end
def FinO {σ : Type} (o : Ob σ) (P : Program) (rs : List ResultVar) (n : Nat) (h : AH) (i : Nat) (R' : σ) (r : AV) (e : Exit) (s : St) : Prop := (match e with
    | .normal => True
    | .ret => True
    | _ => False) ∧ resN P s.t s.h rs ∧ (match resO P s.t s.h rs with
    | some l => wk3 (packR l) r
    | none => False) ∧ agree n (upd h i (.box (o.bx R'))) s.h ∧ AV.lt n r
theorem FinO.fin {σ : Type} {o : Ob σ} {P : Program} {rs : List ResultVar} {n : Nat} {h : AH} {i : Nat} {R' : σ} {r : AV} {e : Exit} {s : St} (hi : i < n) (hok : HOk n h) (q : FinO o P rs n h i R' r e s) :
 FinE P rs n h (upd h i (.box (o.bx R'))) n r e s := by
 obtain ⟨q1, q2, q3, q4, q5⟩ := q
 refine ⟨q1, q2, q3, q4, q5, Nat.le_refl _, fun j hj => ?_, fun j cs hj hc => ?_⟩
 · rw [upd_ne _ _ (by omega)]
   exact hok.no j hj
 · by_cases e : j = i
   · subst e
     rw [upd_same] at hc
     cases hc
     exact .inr (o.lt n R')
   · rw [upd_ne _ _ e] at hc
     exact .inl hc
attribute [go_sem] FinO Int.toNat_zero Int.toNat_one
end Go.R
end
section
namespace Go.Proofs.Ytdhocmakbapfpaa.M
open Go.R
def Tok.cells (t : Tok) : List DV := [.v (.int .u8 t.kind), .v (.int .i64 t.lo), .v (.int .i64 t.hi)]
@[go_sem] theorem Tok.ds (t : Tok) : t.cells.map AV.d = [.d (.v (.int .u8 t.kind)), .d (.v (.int .i64 t.lo)), .d (.v (.int .i64 t.hi))] := rfl
@[go_sem] theorem Tok.len (t : Tok) : t.cells.length = 3 := rfl
def cTok : List DV → Option Tok
 | [.v (.int .u8 k), .v (.int .i64 a), .v (.int .i64 b)] => some ⟨k, a, b⟩
 | _ => none
theorem cTok_cells (t : Tok) : cTok t.cells = some t := rfl
theorem cTok_eq {c : List DV} {t : Tok} (h : cTok c = some t) : c = t.cells := by
 unfold cTok at h
 split at h
 · cases h; rfl
 · cases h
@[go_sem] theorem dToks (l : List Tok) : dRows cTok (l.map Tok.cells) = some l := dRows_map cTok_cells l
structure Rd where
 s : ByteArray
 T : List Tok
 k : Nat
 e : Int
 fr : Int
def Rd.bx (R : Rd) : List AV := [vS R.s, .d (.sl 3 (R.T.map Tok.cells)), vI R.k, vI R.e, vI R.fr]
def dRd : List AV → Option Rd
 | [.d (.v (.string s)), .d (.sl 3 xs), .d (.v (.int .i64 k)), .d (.v (.int .i64 e)), .d (.v (.int .i64 f))] => match dRows cTok xs with
   | some T => if 0 ≤ k then some ⟨s, T, k.toNat, e, f⟩ else none
   | none => none
 | _ => none
theorem dRd_eq {cs : List AV} {R : Rd} (h : dRd cs = some R) : cs = R.bx := by
 unfold dRd at h
 split at h
 · rename_i xs k e f
   cases hx : dRows cTok xs with
   | none => simp [hx] at h
   | some T =>
     simp only [hx] at h
     split at h
     · rename_i hk
       cases h
       obtain rfl := dRows_eq (fun c x => cTok_eq) hx
       have : ((k.toNat : Nat) : Int) = k := by omega
       simp only [Rd.bx, this]
     · cases h
 · cases h
def obRd : Ob Rd := ⟨Rd.bx, dRd, fun _ _ => dRd_eq, fun n R => by simp [Rd.bx, ltL, AV.lt]⟩
@[go_sem] theorem obRd_bx (R : Rd) : obRd.bx R = [vS R.s, .d (.sl 3 (R.T.map Tok.cells)), vI R.k, vI R.e, vI R.fr] := rfl
@[go_sem] theorem obRd_dec (s : ByteArray) (T : List Tok) (k : Nat) (e f : Int) : obRd.dec [.d (.v (.string s)), .d (.sl 3 (T.map Tok.cells)), .d (.v (.int .i64 k)), .d (.v (.int .i64 e)), .d (.v (.int .i64 f))] = some ⟨s, T, k, e, f⟩ := by
  simp only [obRd]
  simp [dRd, dToks]
@[go_sem] theorem obRd_dec1 (s : ByteArray) (T : List Tok) (k : Nat) (e f : Int) : obRd.dec [.d (.v (.string s)), .d (.sl 3 (T.map Tok.cells)), .d (.v (.int .i64 ((k : Int) + 1))), .d (.v (.int .i64 e)), .d (.v (.int .i64 f))] = some ⟨s, T, k + 1, e, f⟩ := obRd_dec s T (k + 1) e f
@[go_sem] theorem obRd_dec2 (s : ByteArray) (T : List Tok) (k : Nat) (e f : Int) : obRd.dec [.d (.v (.string s)), .d (.sl 3 (T.map Tok.cells)), .d (.v (.int .i64 ((k : Int) + 1 + 1))), .d (.v (.int .i64 e)), .d (.v (.int .i64 f))] = some ⟨s, T, k + 1 + 1, e, f⟩ := obRd_dec s T (k + 1 + 1) e f
@[go_sem] theorem Rd.eta (R : Rd) : Rd.mk R.s R.T R.k R.e R.fr = R := rfl
def RdOk (R : Rd) : Prop := TokOk R.s R.T ∧ R.k ≤ R.T.length
def Rd.txt (R : Rd) (m : Nat) : ByteArray := textT R.T R.s (R.k + m)
def Rd.kd (R : Rd) : Int := kindT R.T R.k
def Rd.fail (R : Rd) (e : Int) : Rd := if R.e == 0 then { R with e := e, fr := posOf R.T R.s R.k } else R
def Rd.adv (R : Rd) : Rd := { R with k := R.k + 1 }
def Rd.need (R : Rd) (x : ByteArray) : Rd := if R.e == 0 && (R.txt 0).toList == x.toList then R.adv else R.fail 6
def textP (R : Rd) : List AV → Prop
 | [.d (.v (.int .i64 m))] => RdOk R ∧ 0 ≤ m ∧ m ≤ 10
 | _ => RdOk R
def textG (R : Rd) : List AV → Option AV
 | [.d (.v (.int .i64 m))] => some (vS (R.txt m.toNat))
 | _ => none
def kindG (R : Rd) : List AV → Option AV
 | [] => some (.d (.v (.int .u8 R.kd)))
 | _ => none
def failF (R : Rd) : List AV → Option (AV × Rd)
 | [.d (.v (.int .i64 e))] => some (.tup [], R.fail e)
 | _ => none
def needF (R : Rd) : List AV → Option (AV × Rd)
 | [.d (.v (.string x))] => some (.tup [], R.need x)
 | _ => none
def endedF (R : Rd) : List AV → Option (AV × Rd)
 | [] => some (.tup [], if R.e == 0 && decide (R.k < R.T.length) then R.fail 6 else R)
 | _ => none
attribute [go_sem] textP textG kindG failF needF endedF
@[go_sem] theorem txt_mk (s : ByteArray) (T : List Tok) (k : Nat) (e f : Int) (m : Nat) : (Rd.mk s T k e f).txt m = textT T s (k + m) := rfl
end Go.Proofs.Ytdhocmakbapfpaa.M
end
section
namespace Go.Proofs.Ytdhocmakbapfpaa.M
open Go.R
def decL (n : Nat) : List Int := if h : n < 10 then [48 + (n : Int)] else decL (n / 10) ++ [48 + ((n % 10 : Nat) : Int)]
termination_by n
decreasing_by omega
theorem decL_len : ∀ (k n : Nat), n < 10 ^ (k + 1) → (decL n).length ≤ k + 1
 | 0, n, h => by
   rw [decL, dif_pos (by simpa using h)]
   simp
 | k + 1, n, h => by
   rw [decL]
   split
   · simp
   · rw [List.length_append]
     have : n / 10 < 10 ^ (k + 1) := by rw [Nat.pow_succ] at h; omega
     have := decL_len k _ this
     simp only [List.length_singleton]
     omega
theorem strOf_append (a b : List Int) : strOf (a ++ b) = strOf a ++ strOf b := by
 have key : ∀ (l : List Int) (x y : ByteArray), l.foldl (fun r n => r.push (UInt8.ofNat n.toNat)) (x ++ y) = x ++ l.foldl (fun r n => r.push (UInt8.ofNat n.toNat)) y := by
  intro l
  induction l with
  | nil => intro x y; rfl
  | cons c l ih =>
    intro x y
    rw [List.foldl_cons, List.foldl_cons, ← ih]
    congr 1
    apply ByteArray.ext
    simp
 unfold strOf
 rw [List.foldl_append]
 have := key b (a.foldl (fun r n => r.push (UInt8.ofNat n.toNat)) ByteArray.empty) ByteArray.empty
 rw [← this]
 congr 1
 apply ByteArray.ext
 simp
theorem strOf_size (a : List Int) : (strOf a).size = a.length := by
 have key : ∀ (l : List Int) (x : ByteArray), (l.foldl (fun r n => r.push (UInt8.ofNat n.toNat)) x).size = x.size + l.length := by
  intro l
  induction l with
  | nil => intro x; rfl
  | cons c l ih =>
    intro x
    rw [List.foldl_cons, ih, ByteArray.size_push, List.length_cons]
    omega
 have := key a ByteArray.empty
 unfold strOf
 rw [this]
 simp
def numText (n : Int) : ByteArray := if n < 0 then strOf (45 :: decL (-n).toNat) else strOf (decL n.toNat)
theorem decL_step (m : Nat) (h : 0 < m / 10) : decL m = decL (m / 10) ++ [48 + ((m % 10 : Nat) : Int)] := by
 rw [decL, dif_neg (by omega)]
theorem decL_last (m : Nat) (h : m / 10 = 0) : decL m = [48 + ((m % 10 : Nat) : Int)] := by
 have : m % 10 = m := Nat.mod_eq_of_lt (by omega)
 rw [decL, dif_pos (by omega), this]
theorem div_i64 (m : Nat) (h : (m : Int) ≤ 9223372036854775807) : IntKind.wrap .i64 ((m / 10 : Nat) : Int) = ((m / 10 : Nat) : Int) := by
 rw [IntKind.wrap_i64]
 omega
theorem dig_u8 (m : Nat) : IntKind.wrap .u8 (48 + ((m % 10 : Nat) : Int)) = 48 + ((m % 10 : Nat) : Int) := by
 rw [IntKind.wrap_u8]
 omega
def aI64 : AV → Option Int
 | .d (.v (.int .i64 c)) => some c
 | _ => none
theorem aI64_le {x : AV} {c : Int} (h : aI64 x = some c) : AV.le x (vI c) := by
 unfold aI64 at h
 split at h
 · cases h; exact AV.le.refl _
 · cases h
attribute [go_sem] aI64
abbrev numPosS : Fs := .pureIf (g1p aI64 fun n => 0 ≤ n ∧ n ≤ 9223372036854775807) (g1 aI64 fun n => vS (numText n))
abbrev numS : Fs := .pureIf (g1p aI64 fun n => -9223372036854775808 ≤ n ∧ n ≤ 9223372036854775807) (g1 aI64 fun n => vS (numText n))
set_option maxHeartbeats 1000000 in
theorem numPos_ok : FsOk Try.prog 104 numPosS := by
 refine of_Y1 (E := EqT.no _) (F := Ft.no) vI (fun _ _ => aI64_le) Try.func104 rfl (by kernel_rfl) [.tmp 2] rfl Try.ntmps104 (by decide) (FtOk.no _) ?_
 intro n0 h n hp hok
 obtain ⟨hp1, hp2⟩ := hp
 obtain ⟨m0, rfl⟩ := Int.eq_ofNat_of_zero_le hp1
 have hA : ((m0 : Int) == -9223372036854775808) = false := by rw [beq_eq_false_iff_ne]; omega
 have hlen : (decL m0).length ≤ 20 := decL_len 19 m0 (by omega)
 have htxt : numText (m0 : Int) = strOf (decL m0) := by unfold numText; rw [if_neg (by omega)]; rfl
 repeat' (first | (with_reducible refine XG_split (fun hq => ?_) (fun hq => ?_)) | (with_reducible refine Or.inl (And.intro (And.intro mixedP ?_) ?_); kernel_rfl) | (with_reducible refine MX1.of 4000 (by simp) ?_) | (with_reducible refine MX2.of 4000 (by simp) ?_) | (with_reducible refine And.intro ?_ ?_) | simp only [go_sem,Nat.reduceEqDiff,Nat.reduceAdd,Nat.reduceMul,Nat.reduceLeDiff,hA,Nat.not_lt_zero,decide_false])
 refine AW.loopJ (E := EqT.no _) (S := fun x : Nat × ByteArray × Bool => ⟨fr [(0, vI x.1), (3, vS x.2.1), (4, vB x.2.2)] (List.replicate 27 .any), h, n, n⟩)
  (I := fun x => x.1 ≤ m0 ∧ match x.2.2 with | true => strOf (decL x.1) ++ x.2.1 = strOf (decL m0) | false => x.2.1 = strOf (decL m0)) (μ := fun x => match x.2.2 with | true => x.1 + 1 | false => 0) (m0, ⟨#[]⟩, true) ⟨Nat.le_refl _, ByteArray.append_empty⟩ ?_ 4000 (fun _ => by simp only [fr_len, List.length_replicate]; decide) ?_
 · exact Wk.same (by simp only [go_sem]) hok (Nat.le_refl _) (by simp only [go_sem])
 · rintro ⟨m, s, q⟩ ⟨hm, hI⟩
   cases q with
   | true =>
     have hI : strOf (decL m) ++ s = strOf (decL m0) := hI
     have hsz : (strOf (decL m)).size + s.size ≤ 20 := by rw [← ByteArray.size_append, hI, strOf_size]; exact hlen
     have hpos : 0 < (decL m).length := by rw [decL]; split <;> simp
     repeat' (first | (with_reducible refine XG_split (fun hq => ?_) (fun hq => ?_)) | (with_reducible refine Or.inl (And.intro (And.intro mixedP ?_) ?_); kernel_rfl) | (with_reducible refine MX1.of 4000 (by simp) ?_) | (with_reducible refine MX2.of 4000 (by simp) ?_) | (with_reducible refine And.intro ?_ ?_) | simp only [go_sem,Nat.reduceEqDiff,Nat.reduceAdd,Nat.reduceMul,Nat.reduceLeDiff,dig_u8,div_i64 m (by omega)])
     all_goals try omega
     · rw [strOf_size, List.length_singleton]; omega
     · refine ⟨(m / 10, strOf [48 + ((m % 10 : Nat) : Int)] ++ s, decide (0 < m / 10)), ⟨by show m / 10 ≤ m0; have : m ≤ m0 := hm; omega, ?_⟩, Wk.same (by simp only [go_sem]) hok (Nat.le_refl _) (by simp only [go_sem]), ?_⟩
       · by_cases h0 : 0 < m / 10
         · simp only [decide_eq_true h0]
           rw [← hI, decL_step m h0, strOf_append, ByteArray.append_assoc]
         · simp only [decide_eq_false h0]
           rw [← hI, decL_last m (by omega)]
       · by_cases h0 : 0 < m / 10
         · simp only [decide_eq_true h0]; omega
         · simp only [decide_eq_false h0]; omega
   | false =>
     have hI : s = strOf (decL m0) := hI
     repeat' (first | (with_reducible refine XG_split (fun hq => ?_) (fun hq => ?_)) | (with_reducible refine Or.inl (And.intro (And.intro mixedP ?_) ?_); kernel_rfl) | (with_reducible refine MX1.of 4000 (by simp) ?_) | (with_reducible refine MX2.of 4000 (by simp) ?_) | (with_reducible refine And.intro ?_ ?_) | simp only [go_sem,Nat.reduceEqDiff,Nat.reduceAdd,Nat.reduceMul,Nat.reduceLeDiff])
     exact wk_v (congrArg Value.string (by rw [htxt, hI]))
theorem FsOk.either {P : Program} {f : FuncId} {p p1 p2 : List AV → Prop} {g : List AV → Option AV} (h1 : FsOk P f (.pureIf p1 g)) (h2 : FsOk P f (.pureIf p2 g)) (hp : ∀ l r, g l = some r → p l → p1 l ∨ p2 l) : FsOk P f (.pureIf p g) := by
 intro c h n w vals args K hw hr hT hS
 obtain ⟨hpre, hrun⟩ := hS
 cases hg : g args with
 | none => simp [Fs.pureIf, hg, onO] at hrun
 | some r =>
   rcases hp args r hg hpre with q | q
   · exact h1 c h n w vals args K hw hr hT ⟨q, hrun⟩
   · exact h2 c h n w vals args K hw hr hT ⟨q, hrun⟩
abbrev numNegS : Fs := .pureIf (g1p aI64 fun n => -9223372036854775808 ≤ n ∧ n < 0) (g1 aI64 fun n => vS (numText n))
theorem numNeg_ok : FsOk Try.prog 104 numNegS := by
 refine of_Y1 (E := EqT.no _) (F := Ft.no.put 104 numPosS) vI (fun _ _ => aI64_le) Try.func104 rfl (by kernel_rfl) [.tmp 2] rfl Try.ntmps104 (by decide) ((FtOk.no _).put numPos_ok) ?_
 intro m h n hp hok
 obtain ⟨hp1, hp2⟩ := hp
 by_cases hm : m = -9223372036854775808
 · subst hm
   repeat' (first | (with_reducible refine XG_split (fun hq => ?_) (fun hq => ?_)) | (with_reducible refine Or.inl (And.intro (And.intro mixedP ?_) ?_); kernel_rfl) | (with_reducible refine MX1.of 4000 (by simp) ?_) | (with_reducible refine MX2.of 4000 (by simp) ?_) | (with_reducible refine And.intro ?_ ?_) | simp only [go_sem,Nat.reduceEqDiff,Nat.reduceAdd,Nat.reduceMul,Nat.reduceLeDiff,beq_self_eq_true])
   exact wk_v (congrArg Value.string (by kernel_rfl))
 · have hA : (m == -9223372036854775808) = false := by rw [beq_eq_false_iff_ne]; exact hm
   have hB : decide (m < 0) = true := decide_eq_true hp2
   have h1 : (numText (0 - m)).size ≤ 20 := by
    unfold numText
    rw [if_neg (by omega), strOf_size]
    exact decL_len 19 _ (by omega)
   have h2 : #[(45 : UInt8)].size = 1 := rfl
   repeat' (first | (with_reducible refine XG_split (fun hq => ?_) (fun hq => ?_)) | (with_reducible refine Or.inl (And.intro (And.intro mixedP ?_) ?_); kernel_rfl) | (with_reducible refine MX1.of 4000 (by simp) ?_) | (with_reducible refine MX2.of 4000 (by simp) ?_) | (with_reducible refine And.intro ?_ ?_) | simp only [go_sem,Nat.reduceEqDiff,Nat.reduceAdd,Nat.reduceMul,Nat.reduceLeDiff,hA,hB])
   all_goals try omega
   refine wk_v (congrArg Value.string ?_)
   unfold numText
   rw [if_neg (by omega), if_pos hp2]
   have : strOf (45 :: decL (-m).toNat) = strOf [45] ++ strOf (decL (-m).toNat) := by rw [← strOf_append]; rfl
   rw [this, Int.zero_sub]
   rfl
theorem num_ok : FsOk Try.prog 104 numS := by
 refine FsOk.either numPos_ok numNeg_ok ?_
 intro l r hg hp
 obtain ⟨x, v, rfl, hx, rfl⟩ := g1_eq hg
 have := hp v hx
 rcases Int.lt_or_le v 0 with q | q
 · exact .inr (fun u hu => by rw [hx] at hu; cases hu; exact ⟨this.1, q⟩)
 · exact .inl (fun u hu => by rw [hx] at hu; cases hu; exact ⟨q, this.2⟩)
end Go.Proofs.Ytdhocmakbapfpaa.M
end
section
namespace Go.Proofs.Ytdhocmakbapfpaa.M
open Go.R
theorem wk3_eq {x y : AV} (h : x = y) : wk3 x y := by rw [h, wk3_refl]; trivial
def i64 (n : Int) : Prop := -9223372036854775808 ≤ n ∧ n ≤ 9223372036854775807
def textB (v : Val) : ByteArray := if goodV v then (if 0 < v.sym.size then v.sym else numText v.num) else ⟨#[]⟩
def termText (t : Term) : ByteArray := if 0 < t.var.size then t.var else textB t.val
abbrev refTextS : Fs := .pureIf (g1p aVal fun v => i64 v.num) (g1 aVal fun v => .tup [vS (textB v), vB (goodV v)])
abbrev termTextS : Fs := .pureIf (g1p aTerm fun t => i64 t.val.num) (g1 aTerm fun t => vS (termText t))
theorem refText_ok : FsOk Try.prog 92 refTextS := by
 refine of_Y1 (E := EqT.no _) (F := (Ft.no.put 108 refGoodS).put 104 numS) Val.av (fun _ _ => aVal_le) Try.func92 rfl (by kernel_rfl) [.tmp 2, .tmp 3] rfl Try.ntmps92 (by decide) (((FtOk.no _).put refGood_ok).put num_ok) ?_
 intro v h n hp hok
 obtain ⟨hp1, hp2⟩ := hp
 repeat' (first | (with_reducible refine XG_split (fun hq => ?_) (fun hq => ?_)) | (with_reducible refine Or.inl (And.intro (And.intro mixedP ?_) ?_); kernel_rfl) | (with_reducible refine MX1.of 4000 (by simp) ?_) | (with_reducible refine MX2.of 4000 (by simp) ?_) | (with_reducible refine And.intro ?_ ?_) | simp only [go_sem,Nat.reduceEqDiff,Nat.reduceAdd,Nat.reduceMul,Nat.reduceLeDiff,Val.av])
 all_goals first | assumption | skip
 all_goals try simp only [decide_eq_true_eq, decide_eq_false_iff_not, Bool.not_eq_true', Bool.not_eq_false'] at *
 all_goals first | (refine wk3_eq ?_; simp [textB, *]; done) | skip
theorem termText_ok : FsOk Try.prog 73 termTextS := by
 refine of_Y1 (E := EqT.no _) (F := Ft.no.put 92 refTextS) Term.av (fun _ _ => aTerm_le) Try.func73 rfl (by kernel_rfl) [.tmp 2] rfl Try.ntmps73 (by decide) ((FtOk.no _).put refText_ok) ?_
 intro v h n hp hok
 repeat' (first | (with_reducible refine XG_split (fun hq => ?_) (fun hq => ?_)) | (with_reducible refine Or.inl (And.intro (And.intro mixedP ?_) ?_); kernel_rfl) | (with_reducible refine MX1.of 4000 (by simp) ?_) | (with_reducible refine MX2.of 4000 (by simp) ?_) | (with_reducible refine And.intro ?_ ?_) | simp only [go_sem,Nat.reduceEqDiff,Nat.reduceAdd,Nat.reduceMul,Nat.reduceLeDiff,Term.av])
 all_goals first | assumption | skip
 all_goals try simp only [decide_eq_true_eq, decide_eq_false_iff_not, Bool.not_eq_true', Bool.not_eq_false'] at *
 all_goals first | (refine wk_v (congrArg Value.string ?_); simp [termText, *]; done) | skip
end Go.Proofs.Ytdhocmakbapfpaa.M
end
section
namespace Go.Proofs.Ytdhocmakbapfpaa.M
open Go.R Go.Proofs.YtdhocmakbapfpaaW.PrintWords Go.Proofs.YtdhocmakbapfpaaW.PrintMore
theorem byteAt_bt (s : ByteArray) (i : Int) : byteAt s i = bt s i := by
 unfold byteAt bt
 by_cases h : i.toNat < s.size
 · rw [dif_pos h, getElem?_pos s i.toNat h]
 · rw [dif_neg h, getElem?_neg s i.toNat h]
theorem digs_append : ∀ (l r : List Int) (u : Int), digs u (l ++ r) = (digs u l).bind fun v => digs v r
 | [], r, u => rfl
 | c :: l, r, u => by
   simp only [List.cons_append, digs]
   split
   · exact digs_append l r _
   · rfl
theorem digB_iff (c : Int) : digB c = true ↔ 48 ≤ c ∧ c ≤ 57 := by
 unfold digB
 simp
theorem digs_ge : ∀ (l : List Int) (u v : Int), 0 ≤ u → digs u l = some v → u ≤ v
 | [], u, v, _, h => by simp [digs] at h; omega
 | c :: l, u, v, hu, h => by
   simp only [digs] at h
   split at h
   · rename_i hc
     rw [digB_iff] at hc
     have := digs_ge l (10 * u + (c - 48)) v (by omega) h
     omega
   · cases h
theorem digs_dig : ∀ (l : List Int) (u v : Int), digs u l = some v → ∀ c ∈ l, digB c = true
 | [], u, v, _, c, hc => by simp at hc
 | c :: l, u, v, h, x, hx => by
   simp only [digs] at h
   split at h
   · rename_i hc
     rcases List.mem_cons.1 hx with rfl | hx
     · exact hc
     · exact digs_dig l _ v h x hx
   · cases h
theorem decL_head (n : Nat) (h : 0 < n) : ∃ c t, decL n = c :: t ∧ c ≠ 48 := by
 rw [decL]
 split
 · exact ⟨_, _, rfl, by omega⟩
 · obtain ⟨c, t, e, hc⟩ := decL_head (n / 10) (by omega)
   rw [e]
   exact ⟨c, _, rfl, hc⟩
termination_by n
decreasing_by omega
theorem canon_l (v : Int) (hv : 0 ≤ v) : digs 0 (decL v.toNat) = some v ∧ (decL v.toNat = [48] ∨ (decL v.toNat).head? ≠ some 48) := by
 constructor
 · have key : ∀ n : Nat, digs 0 (decL n) = some (n : Int) := by
    intro n
    induction n using Nat.strongRecOn with
    | ind n ih =>
      rw [decL]
      split
      · have : digB (48 + (n : Int)) = true := by rw [digB_iff]; omega
        simp only [digs, this, if_true, Option.some.injEq]
        omega
      · rw [digs_append, ih (n / 10) (by omega)]
        have : digB (48 + ((n % 10 : Nat) : Int)) = true := by rw [digB_iff]; omega
        simp only [Option.bind_some, digs, this, if_true, Option.some.injEq]
        omega
   have := key v.toNat
   rw [this]
   congr 1
   omega
 · rcases Nat.eq_zero_or_pos v.toNat with h | h
   · left
     rw [h, decL]
     simp
   · right
     obtain ⟨c, t, e, hc⟩ := decL_head v.toNat h
     rw [e]
     simpa using hc
theorem bytesOf_strOf (l : List Int) (h : ∀ c ∈ l, 0 ≤ c ∧ c < 256) : bytesOf (strOf l) = l := by
 have key : ∀ (l : List Int) (r : ByteArray), (∀ c ∈ l, 0 ≤ c ∧ c < 256) → bytesOf (l.foldl (fun r n => r.push (UInt8.ofNat n.toNat)) r) = bytesOf r ++ l := by
  intro l
  induction l with
  | nil => intro r _; simp
  | cons c l ih =>
    intro r hl
    rw [List.foldl_cons, ih _ (fun x hx => hl x (List.mem_cons_of_mem _ hx))]
    have hc := hl c (List.mem_cons_self ..)
    have : bytesOf (r.push (UInt8.ofNat c.toNat)) = bytesOf r ++ [c] := by
     unfold bytesOf
     simp only [ByteArray.data_push, Array.toList_push, List.map_append, List.map_cons, List.map_nil, UInt8.toNat_ofNat']
     congr 2
     omega
    rw [this]
    simp
 have := key l ByteArray.empty h
 unfold strOf
 rw [this]
 rfl
theorem bytesOf_inj {a b : ByteArray} (h : bytesOf a = bytesOf b) : a = b := by
 unfold bytesOf at h
 have : a.data.toList = b.data.toList := by
  refine List.map_inj_right (f := fun b : UInt8 => ((b.toNat : Nat) : Int)) (fun x y e => ?_) |>.1 h
  have : x.toNat = y.toNat := Int.ofNat_inj.1 e
  exact UInt8.toNat_inj.1 this
 obtain ⟨⟨x⟩⟩ := a
 obtain ⟨⟨y⟩⟩ := b
 simp only at this
 rw [this]
theorem dec_range (n : Nat) : ∀ c ∈ decL n, 0 ≤ c ∧ c < 256 := by
 intro c hc
 have h := (canon_l (n : Int) (by omega)).1
 have := digs_dig _ _ _ h c (by simpa using hc)
 rw [digB_iff] at this
 omega
theorem bytesOf_head (s : ByteArray) (h : 0 < s.size) : (bytesOf s).head? = some (bt s 0) := by
 have := bytesOf_drop s 0 h
 rw [List.drop_zero] at this
 rw [this]
 rfl
theorem bytesOf_extract (s : ByteArray) (a b : Nat) : bytesOf (s.extract a b) = ((bytesOf s).take b).drop a := by
 unfold bytesOf
 have : (s.extract a b).data.toList = (s.data.toList.take b).drop a := by
  rw [ByteArray.data_extract, Array.toList_extract, List.extract_eq_take_drop, List.drop_take]
 rw [this, List.map_drop, List.map_take]
theorem toList_injA {a b : ByteArray} (h : a.toList = b.toList) : a = b := by
 rw [toList_eq, toList_eq] at h
 obtain ⟨⟨x⟩⟩ := a
 obtain ⟨⟨y⟩⟩ := b
 simp only at h
 rw [h]
end Go.Proofs.Ytdhocmakbapfpaa.M
end
section

end
section
namespace Go.Proofs.Ytdhocmakbapfpaa.M
open Go.R
abbrev copyLitS : Fs := .pureIf (g1p aLit fun l => l.args.length ≤ 1099511627776) (g1 aLit fun l => l.av)
def copyP (c : Clause) : Prop := c.body.length ≤ 1099511627776 ∧ c.head.args.length ≤ 1099511627776 ∧ ∀ l ∈ c.body, l.args.length ≤ 1099511627776
def Clause.bxs (c : Clause) (x : AV) : List AV := [.d (.v (.int .u8 c.head.kind)), .d (.v (.string c.head.who.var)), .d (.v (.string c.head.who.val.sym)), .d (.v (.int .i64 c.head.who.val.num)), .d (.v (.string c.head.pred)), .d (.sl 3 (c.head.args.map Term.cells)), x]
def zeroCA : List AV := [.d (.v (.int .u8 0)), .d (.v (.string ⟨#[]⟩)), .d (.v (.string ⟨#[]⟩)), .d (.v (.int .i64 0)), .d (.v (.string ⟨#[]⟩)), .d (.v (.slice none 0 0)), .d (.v (.slice none 0 0))]
def copyH (c : Clause) (n : Nat) (h : AH) (x : AV) : AH := upd (upd (upd h n (.box (c.bxs (.d (.sl 6 (c.body.map Lit.cells)))))) (n + 1) (.box zeroCA)) (n + 1 + 1) (.box (c.bxs x))
theorem dnat1 {a b : Nat} (h : a + 1 < b) : decide (((a : Int) + 1) < (b : Int)) = true := decide_eq_true (by omega)
theorem dnat0 {a b : Nat} (h : b ≤ a + 1) : decide (((a : Int) + 1) < (b : Int)) = false := decide_eq_false (by omega)
theorem toNat1 (a : Nat) : ((a : Int) + 1).toNat = a + 1 := by omega
theorem copyH_ok {c : Clause} {n m : Nat} {h : AH} {x : AV} (hok : HOk n h) (hm : n + 3 ≤ m) (hx : ltL m [x]) : HOk m (copyH c n h x) := by
 have hx : AV.lt m x := hx.1
 refine (((hok.mono (by omega)).upd_box (by omega) ?_).upd_box (by omega) ?_).upd_box (by omega) ?_
 · simp only [go_sem, Clause.bxs]
 · simp only [go_sem, zeroCA]
 · simp only [go_sem, Clause.bxs, hx]
abbrev copyS : Fs := .pureIf (g1p aClause copyP) (g1 aClause fun c => c.av)
set_option maxHeartbeats 1000000 in
theorem copyLit_ok : FsOk Try.prog 22 copyLitS := by
 refine of_Y1 (E := EqT.no _) (F := Ft.no) Lit.av (fun _ _ => aLit_le) Try.func22 rfl (by kernel_rfl) [.cell 2 28] rfl Try.ntmps22 (by decide) (FtOk.no _) ?_
 intro l h n hp hok
 repeat' (first | (with_reducible refine XG_split (fun hq => ?_) (fun hq => ?_)) | (with_reducible refine Or.inl (And.intro (And.intro mixedP ?_) ?_); kernel_rfl) | (with_reducible refine MX1.of 4000 (by simp) ?_) | (with_reducible refine MX2.of 4000 (by simp) ?_) | (with_reducible refine And.intro ?_ ?_) | simp only [go_sem,Nat.reduceEqDiff,Nat.reduceAdd,Nat.reduceMul,Nat.reduceLeDiff,Lit.av])
 all_goals first | omega | (unfold maxLen; omega) | (exact .inr (by omega)) | (simp (disch := omega) only [agree_upd_eq,agree_refl_eq]; done) | skip
 simp only [wk3, wk2, wkL, wk1_own, wk1_refl, and_self]
set_option maxHeartbeats 1000000 in
theorem copy_ok : FsOk Try.prog 19 copyS := by
 refine of_Y1 (E := EqT.no _) (F := Ft.no.put 22 copyLitS) Clause.av (fun _ _ => aClause_le) Try.func19 rfl (by kernel_rfl) [.cell 2 31] rfl Try.ntmps19 (by decide) ((FtOk.no _).put copyLit_ok) ?_
 intro l h n hp hok
 obtain ⟨hp1, hp2, hp3⟩ := hp
 repeat' (first | (with_reducible refine XG_split (fun hq => ?_) (fun hq => ?_)) | (with_reducible refine Or.inl (And.intro (And.intro mixedP ?_) ?_); kernel_rfl) | (with_reducible refine MX1.of 4000 (by simp) ?_) | (with_reducible refine MX2.of 4000 (by simp) ?_) | (with_reducible refine And.intro ?_ ?_) | simp only [go_sem,Nat.reduceEqDiff,Nat.reduceAdd,Nat.reduceMul,Nat.reduceLeDiff,Clause.av,Lit.av])
 all_goals first | exact hp2 | omega | (unfold maxLen; omega) | (exact .inr (by omega)) | (simp (disch := omega) only [agree_upd_eq, agree_refl_eq]; done) | skip
 refine AW.loopJ (E := EqT.no _) (S := fun k : Nat => match k with
  | 0 => ⟨fr [(1, .p n 0), (2, .p (n + 1) 0), (3, .p (n + 1 + 1) 0), (4, vI 0)] (List.replicate 28 .any), copyH l n h (.d (.v (.slice none 0 0))), n, n + 1 + 1 + 1⟩
  | k + 1 => ⟨fr [(1, .p n 0), (2, .p (n + 1) 0), (3, .p (n + 1 + 1) 0), (4, vI (k + 1))] (List.replicate 28 .any), upd (copyH l n h (.own (n + 1 + 1 + 1) 6 ((l.body.take (k + 1)).map Lit.cells))) (n + 1 + 1 + 1) (.tok (k + 1) 6), n, n + 1 + 1 + 1 + 1⟩)
  (I := fun k => k ≤ l.body.length) (μ := fun k => l.body.length - k) 0 (Nat.zero_le _) ?_ 4000 (fun k => by cases k <;> simp only [fr_len, List.length_replicate] <;> decide) ?_
 · refine Wk.of (by simp only [go_sem]) ?_ (copyH_ok hok (Nat.le_refl _) (by simp only [go_sem])) (Nat.le_refl _) (by omega) (by simp only [go_sem]; omega)
   intro i hi
   simp only [copyH, upd, Clause.bxs, zeroCA]
   repeat' split
   all_goals first | rfl | omega
 · intro k hk
   cases k with
   | zero =>
     rcases Nat.lt_or_ge 0 l.body.length with hkl | hkl
     · repeat' (first | (with_reducible refine Or.inr (AW.mixX (E := EqT.no _) [0,1,2,3,4,5,6] [7,8] [9,10,11] 4000 mixedP ?_ ?_ ?_); kernel_rfl; (simp only [List.length_cons,List.length_nil]; decide)) | (with_reducible refine (AW.mixX (E := EqT.no _) [0,1,2,3,4,5,6] [7,8] [9,10,11] 4000 mixedP ?_ ?_ ?_); kernel_rfl; (simp only [List.length_cons,List.length_nil]; decide)) | (with_reducible refine XG_split (fun hq => ?_) (fun hq => ?_)) | (with_reducible refine Or.inl (And.intro (And.intro mixedP ?_) ?_); kernel_rfl) | (with_reducible refine MX1.of 4000 (by simp) ?_) | (with_reducible refine MX2.of 4000 (by simp) ?_) | (with_reducible refine And.intro ?_ ?_) | simp only [go_sem,Nat.reduceEqDiff,Nat.reduceAdd,Nat.reduceMul,Nat.reduceLeDiff,copyH,Clause.bxs,zeroCA,Lit.av,decide_eq_true hkl,List.getElem?_eq_getElem hkl])
       all_goals first | omega | exact hp3 _ (List.getElem_mem hkl) | (unfold maxLen; omega) | (exact .inr (by omega)) | skip
       refine ⟨1, hkl, ?_, by omega⟩
       refine Wk.of ?_ ?_ ?_ (Nat.le_refl _) (by omega) ?_
       · simp only [go_sem, Int.zero_add]
       · have hrow : (List.take (0 + 1) l.body).map Lit.cells = [l.body[0].cells] := by
          rw [List.take_succ_eq_append_getElem hkl]
          rfl
         intro i hi
         simp only [hrow, upd]
         repeat' split
         all_goals first | rfl | omega
       · exact (copyH_ok hok (Nat.le_succ _) (by simp only [go_sem]; omega)).upd_tok (Nat.lt_succ_self _)
       · simp only [go_sem]; omega
     · have hb : l.body = [] := List.eq_nil_of_length_eq_zero (by omega)
       repeat' (first | (with_reducible refine XG_split (fun hq => ?_) (fun hq => ?_)) | (with_reducible refine Or.inl (And.intro (And.intro mixedP ?_) ?_); kernel_rfl) | (with_reducible refine MX1.of 4000 (by simp) ?_) | (with_reducible refine MX2.of 4000 (by simp) ?_) | (with_reducible refine And.intro ?_ ?_) | simp only [go_sem,Nat.reduceEqDiff,Nat.reduceAdd,Nat.reduceMul,Nat.reduceLeDiff,copyH,Clause.bxs,zeroCA,Lit.av,decide_eq_false (Nat.not_lt.2 hkl)])
       all_goals first | omega | (exact .inr (by omega)) | (simp (disch := omega) only [agree_upd_eq,agree_refl_eq]; done) | skip
       simp only [wk3, wk2, wkL, wk1_own, wk1_refl, wk1_nil, and_self, hb, List.map_nil]
   | succ k =>
     rcases Nat.lt_or_ge (k + 1) l.body.length with hkl | hkl
     · repeat' (first | (with_reducible refine Or.inr (AW.mixX (E := EqT.no _) [0,1,2,3,4,5,6] [7,8] [9,10,11] 4000 mixedP ?_ ?_ ?_); kernel_rfl; (simp only [List.length_cons,List.length_nil]; decide)) | (with_reducible refine (AW.mixX (E := EqT.no _) [0,1,2,3,4,5,6] [7,8] [9,10,11] 4000 mixedP ?_ ?_ ?_); kernel_rfl; (simp only [List.length_cons,List.length_nil]; decide)) | (with_reducible refine XG_split (fun hq => ?_) (fun hq => ?_)) | (with_reducible refine Or.inl (And.intro (And.intro mixedP ?_) ?_); kernel_rfl) | (with_reducible refine MX1.of 4000 (by simp) ?_) | (with_reducible refine MX2.of 4000 (by simp) ?_) | (with_reducible refine And.intro ?_ ?_) | simp only [go_sem,Nat.reduceEqDiff,Nat.reduceAdd,Nat.reduceMul,Nat.reduceLeDiff,copyH,Clause.bxs,zeroCA,Lit.av,dnat1 hkl,toNat1,List.getElem?_eq_getElem hkl,List.length_take,Nat.min_eq_left hk])
       all_goals first | omega | exact hp3 _ (List.getElem_mem hkl) | (unfold maxLen; omega) | (exact .inr (by omega)) | skip
       all_goals try (refine ⟨k + 1 + 1, hkl, ?_, by omega⟩)
       all_goals try (refine Wk.of ?_ ?_ ?_ (Nat.le_refl _) (by omega) ?_)
       · simp only [go_sem]
       · have hrow : (List.take (k + 1 + 1) l.body).map Lit.cells = (List.take (k + 1) l.body).map Lit.cells ++ [l.body[k + 1].cells] := by
          rw [List.take_succ_eq_append_getElem hkl, List.map_append]
          rfl
         intro i hi
         simp only [hrow, upd]
         repeat' split
         all_goals first | rfl | omega
       · exact (copyH_ok hok (Nat.le_succ _) (by simp only [go_sem]; omega)).upd_tok (Nat.lt_succ_self _)
       · simp only [go_sem]; omega
     · repeat' (first | (with_reducible refine XG_split (fun hq => ?_) (fun hq => ?_)) | (with_reducible refine Or.inl (And.intro (And.intro mixedP ?_) ?_); kernel_rfl) | (with_reducible refine MX1.of 4000 (by simp) ?_) | (with_reducible refine MX2.of 4000 (by simp) ?_) | (with_reducible refine And.intro ?_ ?_) | simp only [go_sem,Nat.reduceEqDiff,Nat.reduceAdd,Nat.reduceMul,Nat.reduceLeDiff,copyH,Clause.bxs,zeroCA,Lit.av,dnat0 hkl,List.length_take,Nat.min_eq_left hk])
       all_goals first | omega | (exact .inr (by omega)) | (simp (disch := omega) only [agree_upd_eq,agree_refl_eq]; done) | skip
       simp only [wk3, wk2, wkL, wk1_own, wk1_refl, wk1_nil, and_self, List.take_of_length_le hkl]
end Go.Proofs.Ytdhocmakbapfpaa.M
end
section
namespace Go.Proofs.Ytdhocmakbapfpaa.M
open Go.R
def strRow (s : ByteArray) : List DV := [.v (.string s)]
def cStr : List DV → Option ByteArray
 | [.v (.string s)] => some s
 | _ => none
theorem cStr_row (s : ByteArray) : cStr (strRow s) = some s := rfl
theorem cStr_eq {c : List DV} {s : ByteArray} (h : cStr c = some s) : c = strRow s := by
 unfold cStr at h
 split at h
 · cases h; rfl
 · cases h
@[go_sem] theorem dStrs (l : List ByteArray) : dRows cStr (l.map strRow) = some l := dRows_map cStr_row l
def putL (l : List ByteArray) (s : ByteArray) : List ByteArray := if l.any (fun x => x.toList == s.toList) then l else l ++ [s]
def putRun : List AV → AH → Nat → Option (AV × AH × Nat)
 | [.d (.v (.slice none 0 0)), .d (.v (.string s))], h, n => some (.own n 1 [strRow s], upd h n (.tok 1 1), n + 1)
 | [.own k 1 xs, .d (.v (.string s))], h, n => match dRows cStr xs with
   | some l => if l.any (fun x => x.toList == s.toList) then some (.own k 1 xs, h, n) else some (.own k 1 (xs ++ [strRow s]), upd h k (.tok (xs.length + 1) 1), n)
   | none => none
 | _, _, _ => none
def putPre : List AV → AH → Nat → Prop
 | [.own k 1 xs, .d (.v (.string s))], h, n => h k = .tok xs.length 1 ∧ k < n ∧ xs.length ≤ 1099511627776
 | _, _, _ => True
def putTch : List AV → List Nat
 | [.own k _ _, _] => [k]
 | _ => []
def putS : Fs := ⟨putRun, putPre, putTch⟩
set_option maxHeartbeats 1000000 in
theorem put_ok : FsOk Try.prog 58 putS := by
 refine FsOk.of_X (E := EqT.no _) (F := Ft.no) Try.func58 rfl (by kernel_rfl) (rs := [.tmp 4]) rfl Try.ntmps58 (FtOk.no _) ?_
 intro args h n r h' n' hp hr hok
 simp only [putS] at hp hr ⊢
 unfold putRun at hr
 split at hr
 · rename_i s
   cases hr
   refine ⟨[.d (.v (.slice none 0 0)), vS s], ⟨AV.le.refl _, AV.le.refl _, trivial⟩, ⟨by decide, by simp⟩, ?_⟩
   repeat' (first | (with_reducible refine XG_split (fun hq => ?_) (fun hq => ?_)) | (with_reducible refine Or.inl (And.intro (And.intro mixedP ?_) ?_); kernel_rfl) | (with_reducible refine MX1.of 4000 (by simp) ?_) | (with_reducible refine MX2.of 4000 (by simp) ?_) | (with_reducible refine And.intro ?_ ?_) | simp only [go_sem,Nat.reduceEqDiff,Nat.reduceAdd,Nat.reduceMul,Nat.reduceLeDiff,FinE,putTch])
   refine AW.loopJ (E := EqT.no _) (S := fun _ : Unit => ⟨fr [(0, .d (.v (.slice none 0 0))), (1, vS s), (5, vI 0)] (List.replicate 23 .any), h, n, n⟩) (I := fun _ => True) (μ := fun _ => 0) () trivial ?_ 4000 (fun _ => by simp only [fr_len, List.length_replicate]; decide) ?_
   · exact Wk.same (by simp only [go_sem]) hok (Nat.le_refl _) (by simp only [go_sem])
   · intro _ _
     repeat' (first | (with_reducible refine XG_split (fun hq => ?_) (fun hq => ?_)) | (with_reducible refine Or.inl (And.intro (And.intro mixedP ?_) ?_); kernel_rfl) | (with_reducible refine MX1.of 4000 (by simp) ?_) | (with_reducible refine MX2.of 4000 (by simp) ?_) | (with_reducible refine And.intro ?_ ?_) | simp only [go_sem,Nat.reduceEqDiff,Nat.reduceAdd,Nat.reduceMul,Nat.reduceLeDiff,FinE,putTch,Int.lt_irrefl,Nat.lt_irrefl,decide_false])
     all_goals first | omega | (unfold maxLen; omega) | (exact .inr (by omega)) | (rw [strRow,wk3_refl]; trivial) | (intro i hi; simp only [upd]; rw [if_neg (by omega)]; exact hok.no i (by omega)) | (intro i cs hi e; simp only [upd] at e; split at e; (cases e); (exact .inl e)) | (intro i hi; simp only [upd]; repeat' split; all_goals first | rfl | omega)
 · rename_i k xs s
   cases hd : dRows cStr xs with
   | none => simp [hd] at hr
   | some l =>
     obtain rfl := dRows_eq (fun c x => cStr_eq) hd
     obtain ⟨hp1, hp2, hp3⟩ := hp
     simp only [List.length_map] at hp1 hp3
     simp only [hd] at hr
     refine ⟨[.own k 1 (l.map strRow), vS s], ⟨AV.le.refl _, AV.le.refl _, trivial⟩, ⟨by decide, by simp⟩, ?_⟩
     repeat' (first | (with_reducible refine XG_split (fun hq => ?_) (fun hq => ?_)) | (with_reducible refine Or.inl (And.intro (And.intro mixedP ?_) ?_); kernel_rfl) | (with_reducible refine MX1.of 4000 (by simp) ?_) | (with_reducible refine MX2.of 4000 (by simp) ?_) | (with_reducible refine And.intro ?_ ?_) | simp only [go_sem,Nat.reduceEqDiff,Nat.reduceAdd,Nat.reduceMul,Nat.reduceLeDiff,FinE,putTch])
     refine AW.loopJ (E := EqT.no _) (S := fun j : Nat => ⟨fr [(0, .own k 1 (l.map strRow)), (1, vS s), (5, vI j)] (List.replicate 23 .any), h, n, n⟩) (I := fun j => j ≤ l.length ∧ (l.take j).any (fun x => x.toList == s.toList) = false) (μ := fun j => l.length - j) 0 ⟨Nat.zero_le _, rfl⟩ ?_ 4000 (fun _ => by simp only [fr_len, List.length_replicate]; decide) ?_
     · exact Wk.same (by simp only [go_sem]) hok (Nat.le_refl _) (by simp only [go_sem]; omega)
     · rintro j ⟨hj, hA⟩
       rcases Nat.lt_or_ge j l.length with hjl | hjl
       · cases hf : l[j].toList == s.toList with
         | true =>
           have hany : l.any (fun x => x.toList == s.toList) = true := List.any_eq_true.2 ⟨l[j], List.getElem_mem hjl, hf⟩
           rw [if_pos hany] at hr
           cases hr
           repeat' (first | (with_reducible refine XG_split (fun hq => ?_) (fun hq => ?_)) | (with_reducible refine Or.inl (And.intro (And.intro mixedP ?_) ?_); kernel_rfl) | (with_reducible refine MX1.of 4000 (by simp) ?_) | (with_reducible refine MX2.of 4000 (by simp) ?_) | (with_reducible refine And.intro ?_ ?_) | simp only [go_sem,Nat.reduceEqDiff,Nat.reduceAdd,Nat.reduceMul,Nat.reduceLeDiff,FinE,putTch,strRow,hf,decide_eq_true hjl,List.getElem?_eq_getElem hjl])
           all_goals first | omega | (rw [wk3_refl]; trivial) | exact agree.refl _ _ | exact hok.no | (intro i cs _ e; exact .inl e)
         | false =>
           repeat' (first | (with_reducible refine XG_split (fun hq => ?_) (fun hq => ?_)) | (with_reducible refine Or.inl (And.intro (And.intro mixedP ?_) ?_); kernel_rfl) | (with_reducible refine MX1.of 4000 (by simp) ?_) | (with_reducible refine MX2.of 4000 (by simp) ?_) | (with_reducible refine And.intro ?_ ?_) | simp only [go_sem,Nat.reduceEqDiff,Nat.reduceAdd,Nat.reduceMul,Nat.reduceLeDiff,FinE,putTch,strRow,hf,decide_eq_true hjl,List.getElem?_eq_getElem hjl])
           all_goals try omega
           refine ⟨j + 1, ⟨hjl, ?_⟩, Wk.same (by simp only [go_sem]) hok (Nat.le_refl _) (by simp only [go_sem]; omega), by omega⟩
           rw [List.take_succ_eq_append_getElem hjl, List.any_append, hA]
           simp [hf]
       · have hany : l.any (fun x => x.toList == s.toList) = false := by
          rw [List.take_of_length_le hjl] at hA
          exact hA
         rw [if_neg (by rw [hany]; simp)] at hr
         cases hr
         repeat' (first | (with_reducible refine XG_split (fun hq => ?_) (fun hq => ?_)) | (with_reducible refine Or.inl (And.intro (And.intro mixedP ?_) ?_); kernel_rfl) | (with_reducible refine MX1.of 4000 (by simp) ?_) | (with_reducible refine MX2.of 4000 (by simp) ?_) | (with_reducible refine And.intro ?_ ?_) | simp only [go_sem,Nat.reduceEqDiff,Nat.reduceAdd,Nat.reduceMul,Nat.reduceLeDiff,FinE,putTch,strRow,hp1,decide_eq_false (Nat.not_lt.2 hjl)])
         all_goals first | omega | (unfold maxLen; omega) | (exact .inl (by simp)) | (rw [wk3_refl]; trivial) | (intro i hi; rw [upd_ne _ _ (by omega)]; exact hok.no i hi) | (intro i cs hi e; by_cases hik : i = k; (subst hik; rw [upd_same] at e; cases e); (rw [upd_ne _ _ hik] at e; exact .inl e))
 · cases hr
end Go.Proofs.Ytdhocmakbapfpaa.M
end
section
namespace Go.Proofs.Ytdhocmakbapfpaa.M
open Go.R Go.Proofs.YtdhocmakbapfpaaW.PrintWords Go.Proofs.YtdhocmakbapfpaaW.PrintMore
theorem tl_eq (a b : ByteArray) : (a.toList == b.toList) = decide (bytesOf a = bytesOf b) := by
 rw [Bool.eq_iff_iff, beq_iff_eq, decide_eq_true_eq]
 exact ⟨fun h => by rw [toList_injA h], fun h => by rw [bytesOf_inj h]⟩
theorem bytesOf_cut (s : ByteArray) (p n : Nat) : bytesOf (s.extract p (p + n)) = ((bytesOf s).drop p).take n := by
 rw [bytesOf_extract, List.drop_take]
 congr 1
 omega
def smatch (s : ByteArray) (p : Nat) (x : ByteArray) : Bool := decide ((x.size : Int) ≤ (s.size : Int) - (p : Int)) && (s.extract p (p + x.size)).toList == x.toList
def sgn : List ByteArray := [⟨#[58, 45]⟩, ⟨#[33, 61]⟩, ⟨#[40]⟩, ⟨#[41]⟩, ⟨#[44]⟩, ⟨#[46]⟩, ⟨#[60]⟩]
theorem smatch1 {s : ByteArray} {p : Nat} (hp : p < s.size) (b : UInt8) : smatch s p ⟨#[b]⟩ = (bt s p == (b.toNat : Int)) := by
 unfold smatch
 have e1 : (⟨#[b]⟩ : ByteArray).size = 1 := rfl
 have e2 : bytesOf (⟨#[b]⟩ : ByteArray) = [(b.toNat : Int)] := rfl
 rw [tl_eq, e1, bytesOf_cut, bytesOf_drop s p hp, e2, List.take_succ_cons, List.take_zero]
 have : decide (((1 : Nat) : Int) ≤ (s.size : Int) - (p : Int)) = true := decide_eq_true (by omega)
 rw [this, Bool.eq_iff_iff]
 simp
theorem smatch2 {s : ByteArray} {p : Nat} (hp : p < s.size) (b c : UInt8) : smatch s p ⟨#[b, c]⟩ = (bt s p == (b.toNat : Int) && nxt s p == (c.toNat : Int)) := by
 unfold smatch nxt
 have e1 : (⟨#[b, c]⟩ : ByteArray).size = 2 := rfl
 have e2 : bytesOf (⟨#[b, c]⟩ : ByteArray) = [(b.toNat : Int), (c.toNat : Int)] := rfl
 rw [tl_eq, e1, bytesOf_cut, bytesOf_drop s p hp, e2]
 by_cases h : p + 1 < s.size
 · have : decide (((2 : Nat) : Int) ≤ (s.size : Int) - (p : Int)) = true := decide_eq_true (by omega)
   rw [this, if_pos h, bytesOf_drop s (p + 1) h, List.take_succ_cons, List.take_succ_cons, List.take_zero, Bool.eq_iff_iff]
   simp
 · have : decide (((2 : Nat) : Int) ≤ (s.size : Int) - (p : Int)) = false := decide_eq_false (by omega)
   have hc : (0 : Int) ≤ (c.toNat : Int) := by omega
   rw [this, if_neg h, Bool.eq_iff_iff]
   simp
theorem nblank {s : ByteArray} {p : Nat} (hp : p < s.size) : ¬ s.size ≤ p := Nat.not_le.2 hp
theorem sgn_hit {s : ByteArray} {p : Nat} (hp : p < s.size) {x : ByteArray} (hx : x ∈ sgn) (hm : smatch s p x = true) : oneT s p = (⟨4, p, p + (x.size : Int)⟩, 0) := by
 unfold oneT
 rw [if_neg (nblank hp)]
 unfold sgn at hx
 have one : ∀ b : UInt8, x = ⟨#[b]⟩ → bt s p = (b.toNat : Int) := fun b e => by
  rw [e, smatch1 hp] at hm
  simpa using hm
 have two : ∀ b c : UInt8, x = ⟨#[b, c]⟩ → bt s p = (b.toNat : Int) ∧ nxt s p = (c.toNat : Int) := fun b c e => by
  rw [e, smatch2 hp] at hm
  simpa using hm
 simp only [List.mem_cons, List.not_mem_nil, or_false] at hx
 rcases hx with e | e | e | e | e | e | e
 · obtain ⟨h1, h2⟩ := two _ _ e; subst e; simp [h1, h2, pieceB, lowB, uppB, digB]; rfl
 · obtain ⟨h1, h2⟩ := two _ _ e; subst e; simp [h1, h2, pieceB, lowB, uppB, digB]; rfl
 all_goals (have h1 := one _ e; subst e; simp [h1, pieceB, lowB, uppB, digB]; rfl)
theorem oneT_blank {s : ByteArray} {p : Nat} (hp : p < s.size) (hb : (bt s p == 32 || bt s p == 9) = true) : oneT s p = (Tok.z, 4) := by
 unfold oneT
 rw [if_neg (nblank hp)]
 simp only [hb, if_true]
end Go.Proofs.Ytdhocmakbapfpaa.M
end
section
namespace Go.Proofs.Ytdhocmakbapfpaa.M
open Go.R Go.Proofs.YtdhocmakbapfpaaW.PrintWords Go.Proofs.YtdhocmakbapfpaaW.PrintMore
def Tok.av (t : Tok) : AV := .agg [.d (.v (.int .u8 t.kind)), .d (.v (.int .i64 t.lo)), .d (.v (.int .i64 t.hi))]
end Go.Proofs.Ytdhocmakbapfpaa.M
end
section

end
section
namespace Go.Proofs.Ytdhocmakbapfpaa.M
open Go.R Go.Proofs.YtdhocmakbapfpaaW.PrintWords Go.Proofs.YtdhocmakbapfpaaW.PrintMore
@[go_sem] theorem Rd.adv_mk (R : Rd) : Rd.mk R.s R.T (R.k + 1) R.e R.fr = R.adv := rfl
@[go_sem] theorem Rd.adv_s (R : Rd) : R.adv.s = R.s := rfl
@[go_sem] theorem Rd.adv_T (R : Rd) : R.adv.T = R.T := rfl
@[go_sem] theorem Rd.adv_k (R : Rd) : R.adv.k = R.k + 1 := rfl
@[go_sem] theorem Rd.adv_e (R : Rd) : R.adv.e = R.e := rfl
@[go_sem] theorem Rd.adv_fr (R : Rd) : R.adv.fr = R.fr := rfl
theorem Rd.fail_k (R : Rd) (x : Int) : (R.fail x).k = R.k := by unfold Rd.fail; split <;> rfl
theorem Rd.fail_T (R : Rd) (x : Int) : (R.fail x).T = R.T := by unfold Rd.fail; split <;> rfl
theorem Rd.fail_s (R : Rd) (x : Int) : (R.fail x).s = R.s := by unfold Rd.fail; split <;> rfl
theorem RdOk.fail {R : Rd} (h : RdOk R) (x : Int) : RdOk (R.fail x) := by
 unfold RdOk
 rw [Rd.fail_k, Rd.fail_T, Rd.fail_s]
 exact h
theorem RdOk.len {R : Rd} (h : RdOk R) : R.k ≤ 4096 ∧ R.T.length ≤ 4096 := ⟨Nat.le_trans h.2 h.1.1, h.1.1⟩
theorem txt_lt {R : Rd} {m : Nat} {x : ByteArray} (h : ((R.txt m).toList == x.toList) = true) (hx : 0 < x.size) : R.k + m < R.T.length := by
 unfold Rd.txt textT at h
 cases ht : R.T[R.k + m]? with
 | none =>
   rw [ht] at h
   simp only [beq_iff_eq] at h
   have := toList_injA h
   rw [← this] at hx
   simp [ByteArray.size] at hx
 | some t => exact (List.getElem?_eq_some_iff.1 ht).1
theorem RdOk.adv_of {R : Rd} (h : RdOk R) (hk : R.k < R.T.length) : RdOk R.adv := ⟨h.1, hk⟩
theorem RdOk.adv_txt {R : Rd} (h : RdOk R) {x : ByteArray} (hk : ((R.txt 0).toList == x.toList) = true) (hx : 0 < x.size) : RdOk R.adv := h.adv_of (txt_lt hk hx)
def Rd.is (R : Rd) (m : Nat) (x : ByteArray) : Bool := (R.txt m).toList == x.toList
theorem RdOk.need {R : Rd} (h : RdOk R) {x : ByteArray} (hx : 0 < x.size) : RdOk (R.need x) := by
 unfold Rd.need
 split
 · rename_i hq
   simp only [Bool.and_eq_true] at hq
   exact h.adv_txt hq.2 hx
 · exact h.fail 6
def Rd.term (R : Rd) : Term × Rd := if R.e == 0 && (R.kd == 1 || R.kd == 2 || R.kd == 3) then (if R.kd == 2 then ⟨R.txt 0, Val.z⟩ else ⟨noStr, (readV (R.txt 0)).1⟩, R.adv) else (Term.z, R.fail 6)
def Rd.argsL : Nat → List Term → Rd → Option (List Term) × Rd
 | 0, acc, R => if R.e == 0 && R.is 0 ⟨#[44]⟩ then (none, R.fail 2) else (some acc, R)
 | f + 1, acc, R => if R.e == 0 && R.is 0 ⟨#[44]⟩ then Rd.argsL f (acc ++ [R.adv.term.1]) R.adv.term.2 else (some acc, R)
def Rd.atom (R : Rd) : (ByteArray × List Term) × Rd :=
 if R.e == 0 && R.kd == 1 then
  if R.adv.is 0 ⟨#[40]⟩ then match (Rd.argsL 3 [R.adv.adv.term.1] R.adv.adv.term.2).1 with
   | none => ((noStr, []), (Rd.argsL 3 [R.adv.adv.term.1] R.adv.adv.term.2).2)
   | some l => ((R.txt 0, l), (Rd.argsL 3 [R.adv.adv.term.1] R.adv.adv.term.2).2.need ⟨#[41]⟩)
  else ((R.txt 0, []), R.adv)
 else ((noStr, []), R.fail 6)
def saysS : ByteArray := ⟨#[115, 97, 121, 115]⟩
def Rd.said (R : Rd) (kind : Int) : Lit × Rd :=
 if R.kd == 2 || (R.kd == 1 && R.is 1 saysS) then (⟨kind, R.term.1, (R.term.2.need saysS).atom.1.1, (R.term.2.need saysS).atom.1.2⟩, (R.term.2.need saysS).atom.2)
 else (⟨kind, Term.z, R.atom.1.1, R.atom.1.2⟩, R.atom.2)
def Rd.compare (R : Rd) : Bool := R.kd == 3 || (R.kd == 2 && !R.is 1 saysS) || (R.kd == 1 && (R.is 1 ⟨#[60]⟩ || R.is 1 ⟨#[33, 61]⟩))
def Rd.mid (R : Rd) : Int × Rd := if R.is 0 ⟨#[33, 61]⟩ then (4, R.adv) else (3, R.need ⟨#[60]⟩)
def Rd.literal (R : Rd) : Lit × Rd :=
 if R.is 0 ⟨#[110, 111, 116]⟩ then R.adv.said 2
 else if R.compare then (⟨R.term.2.mid.1, Term.z, noStr, [R.term.1, R.term.2.mid.2.term.1]⟩, R.term.2.mid.2.term.2)
 else R.said 1
def termF (R : Rd) : List AV → Option (AV × Rd)
 | [] => some (R.term.1.av, R.term.2)
 | _ => none
def atomF' (R : Rd) : List AV → Option (AV × Rd)
 | [] => some (.tup [vS R.atom.1.1, .d (.sl 3 (R.atom.1.2.map Term.cells))], R.atom.2)
 | _ => none
def saidF (R : Rd) : List AV → Option (AV × Rd)
 | [.d (.v (.int .u8 k))] => some ((R.said k).1.av, (R.said k).2)
 | _ => none
def literalF (R : Rd) : List AV → Option (AV × Rd)
 | [] => some (R.literal.1.av, R.literal.2)
 | _ => none
attribute [go_sem] termF atomF' saidF literalF
end Go.Proofs.Ytdhocmakbapfpaa.M
end
section

end
section
namespace Go.Proofs.Ytdhocmakbapfpaa.M
open Go.R Go.Proofs.YtdhocmakbapfpaaW.PrintWords Go.Proofs.YtdhocmakbapfpaaW.PrintMore
def rd0 (s : ByteArray) : Rd := ⟨s, (allT s).1, 0, 0, 0⟩
def Rd.bodyL : Nat → List Lit → Rd → List Lit × Rd
 | 0, acc, R => if R.e == 0 && R.is 0 ⟨#[44]⟩ then (acc, R.fail 2) else (acc, R)
 | f + 1, acc, R => if R.e == 0 && R.is 0 ⟨#[44]⟩ then Rd.bodyL f (acc ++ [R.adv.literal.1]) R.adv.literal.2 else (acc, R)
def Rd.body (R : Rd) : List Lit × Rd := if R.e == 0 && R.is 0 ⟨#[58, 45]⟩ then Rd.bodyL 5 [R.adv.literal.1] R.adv.literal.2 else ([], R)
def openRun : List AV → AH → Nat → Option (AV × AH × Nat)
 | [.d (.v (.string s))], h, n => some (.tup [.p n 0, vI (allT s).2.1, vI (allT s).2.2], upd h n (.box (obRd.bx (rd0 s))), n + 1)
 | _, _, _ => none
def openPre : List AV → AH → Nat → Prop
 | [.d (.v (.string s))], h, n => (s.size : Int) ≤ 9223372036854775807
 | _, _, _ => True
def openS : Fs := ⟨openRun, openPre, fun _ => []⟩
@[go_sem] theorem openS_run (s : ByteArray) (h : AH) (n : Nat) : openS.run [.d (.v (.string s))] h n = some (.tup [.p n 0, vI (allT s).2.1, vI (allT s).2.2], upd h n (.box (obRd.bx (rd0 s))), n + 1) := rfl
@[go_sem] theorem openS_pre (s : ByteArray) (h : AH) (n : Nat) : openS.pre [.d (.v (.string s))] h n = ((s.size : Int) ≤ 9223372036854775807) := rfl
@[go_sem] theorem openS_tch (l : List AV) : openS.tch l = [] := rfl
end Go.Proofs.Ytdhocmakbapfpaa.M
end
section
namespace Go.Proofs.Ytdhocmakbapfpaa.M
open Go.R
def Out {α β : Type} (p : PR α) (f : α → β) (b : β) (R R' : Rd) : Prop := match p with
 | .ok (a, m) => b = f a ∧ R' = { R with k := m }
 | .error (q, x) => R'.e = x ∧ R'.fr = q ∧ x ≠ 0
structure Sim {α β : Type} (R : Rd) (p : PR α) (f : α → β) (b : β) (R' : Rd) : Prop where
 s : R'.s = R.s
 T : R'.T = R.T
 go : R.e = 0 → Out p f b R R'
 st : R.e ≠ 0 → R'.e = R.e ∧ R'.fr = R.fr
def ansP {α β : Type} (z : β) (f : α → β) : Except (Int × Int) α → β × Int × Int
 | .ok a => (f a, 0, 0)
 | .error (p, x) => (z, p, x)
end Go.Proofs.Ytdhocmakbapfpaa.M
end
section
namespace Go.R
open Go.RowKit
section
variable {c : Cx} {w w' : World} {h : AH} {n : Nat}
def Cx.hold (c : Cx) (w w' : World) : Cx := { c with L := fun b => if w.heap.size ≤ b ∧ b < w'.heap.size then none else c.L b }
theorem Wd.hold (hw : Wd c h n w) (hb : Below w.heap.size w w') : Wd (c.hold w w') h n w' ∧ Ext c h w (c.hold w w') h w' := by
 have old : ∀ b, b < w.heap.size → (c.hold w w').L b = c.L b := fun b hb => if_neg (fun q => absurd q.1 (Nat.not_le.2 hb))
 have q : Ext c h w (c.hold w w') h w' := ⟨hb.os, hb.tape, hb.output, hb.size, fun b off q => by
  unfold Cx.lo
  rw [old b (lo_lt hw q)]
  exact q, fun b off q => cell_of_block (hb.block b (lo_lt hw q)), fun b q => ⟨(old b (all_lt hw q)).trans q, hb.block b (all_lt hw q)⟩, fun _ cs q => ⟨rfl, cs, q⟩, fun _ n _ q => ⟨n, q, Nat.le_refl _, fun _ => rfl⟩⟩
 refine ⟨⟨fun i cs hi => ?_, hw.tokN, fun i m z a cap hi ha => ?_, hw.ne, fun b hb' => ?_, hw.new⟩, q⟩
 · obtain ⟨h1, vals, ty, h2, h3, h4⟩ := hw.box i cs hi
   have hl := (Array.getElem?_eq_some_iff.1 h2).1
   exact ⟨(old _ hl).trans h1, vals, ty, (hb.block _ hl).trans h2, h3, fun j v x hj hx => (h4 j v x hj hx).to q⟩
 · obtain ⟨h1, h2, h3, vals, ty, h4, h5⟩ := hw.tokS i m z a cap hi ha
   have hl := (Array.getElem?_eq_some_iff.1 h4).1
   exact ⟨h1, h2, (old _ hl).trans h3, vals, ty, (hb.block _ hl).trans h4, h5⟩
 · have : (c.hold w w').L b = c.L b := if_neg (fun q => absurd q.2 (Nat.not_lt.2 hb'))
   rw [this]
   exact hw.fresh b (Nat.le_trans hb.size hb')
theorem rep_nil : ∀ (j : Nat) v x, ([] : List Value)[j]? = some v → ([] : List AV)[j]? = some x → ARep c h w v x := fun j v x hv _ => by simp at hv
theorem rep_cons {v : Value} {x : AV} {vs : List Value} {xs : List AV} (h0 : ARep c h w v x) (ht : ∀ (j : Nat) v x, vs[j]? = some v → xs[j]? = some x → ARep c h w v x) : ∀ (j : Nat) u y, (v :: vs)[j]? = some u → (x :: xs)[j]? = some y → ARep c h w u y := fun j u y hu hy => by
 cases j with
 | zero =>
   simp only [List.getElem?_cons_zero, Option.some.injEq] at hu hy
   subst hu; subst hy
   exact h0
 | succ j => exact ht j u y (by simpa using hu) (by simpa using hy)
theorem of_hold {P : Program} {f : FuncId} {fn : Func} {code : Code} {g : List AV → Option AV} {pre : List AV → Prop} (hf : P.funcs[f]? = some fn) (hbody : fn.body = some code) (hn : (fn.name == "runtime.NumGoroutine") = false)
 (H : ∀ (args : List AV) (r : AV) (c : Cx) (h : AH) (n : Nat) (w : World) (vals : List Value), pre args → g args = some r → Wd c h n w → vals.length = args.length → (∀ (j : Nat) v x, vals[j]? = some v → args[j]? = some x → ARep c h w v x) → Calls P f vals.toArray w fun e w' => ∃ v, e = .returned v ∧ Below w.heap.size w w' ∧ ARep (c.hold w w') h w' v r) : FsOk P f (.pureIf pre g) := by
 intro c h n w vals args K hw hl hr hS
 obtain ⟨hpre, hS⟩ := hS
 obtain ⟨q, hq, hK⟩ := onO_iff hS
 refine ⟨Entered.of hf hbody hn, ?_⟩
 simp only [Fs.pureIf] at hq hpre
 cases hg : g args with
 | none => simp [hg] at hq
 | some r =>
   simp only [hg, Option.map_some, Option.some.injEq] at hq
   subst hq
   refine (H args r c h n w vals hpre hg hw hl hr).mono fun e w' ⟨v, he, hb, hv⟩ => ?_
   obtain ⟨g1, g2⟩ := hw.hold hb
   exact ⟨v, r, c.hold w w', h, n, he, g1, g2, ⟨fun b hbl _ => hb.block b hbl, fun i b q _ => q⟩, hv, Nat.le_refl n, hK⟩
end
end Go.R
namespace Go.Proofs.Ytdhocmakbapfpaa.M
open Go.R Go.RowKit
open Go.Proofs.YtdhocmakbapfpaaW.PrintWords Go.Proofs.YtdhocmakbapfpaaW.PrintMore
theorem kd_row {α : Type} {d : Kd α} {e : Nat} {ok : Nat → Prop} {v : Value} {xs : List α} {c : Cx} {w w' : World} (f : α → List DV) (hR : Kd.R d e w' w.heap.size ok v xs) (hf : ∀ x, (f x).length = d.sz)
 (hM : ∀ x cs ok, d.M w' w.heap.size ok x cs → ∀ (j : Nat) u y, cs[j]? = some u → (f x)[j]? = some y → DRep (c.hold w w') w' u y) : DRep (c.hold w w') w' v (.sl d.sz (xs.map f)) := by
 obtain ⟨h0, inner, ho, hr⟩ := hR
 have ho1 := ho
 obtain ⟨hlen, ho2⟩ := ho
 rcases ho2 with ⟨rfl, hn⟩ | ⟨g, cap, cur, rfl, hg, hh, hnc, hcm, hcs, htk⟩
 · obtain rfl := List.eq_nil_of_length_eq_zero hn
   exact .sl none 0 _ [] (fun _ _ => undef) (by simp) (by simp) (fun a h => by cases h) (fun _ => ⟨rfl, rfl⟩) (fun a h => by cases h) (fun i j row x hi => by simp at hi)
 · have hgl : g < w'.heap.size := (Array.getElem?_eq_some_iff.1 hh).1
   have key : ∀ (i j : Nat) row x, (xs.map f)[i]? = some row → row[j]? = some x → ∃ p u, xs[i]? = some p ∧ row = f p ∧ inner[i * d.sz + j]? = some u ∧ ((inner.drop (i * d.sz)).take d.sz)[j]? = some u := by
    intro i j row x hi hj
    rw [List.getElem?_map] at hi
    cases hp : xs[i]? with
    | none => simp [hp] at hi
    | some p =>
      simp only [hp, Option.map_some, Option.some.injEq] at hi
      subst hi
      have hjl : j < d.sz := by rw [← hf p]; exact (List.getElem?_eq_some_iff.1 hj).1
      have hil : i < xs.length := (List.getElem?_eq_some_iff.1 hp).1
      have hb : i * d.sz + j < inner.length := by
       rw [hlen]
       have : (i + 1) * d.sz ≤ xs.length * d.sz := Nat.mul_le_mul_right _ hil
       rw [Nat.succ_mul] at this
       omega
      refine ⟨p, inner[i * d.sz + j], rfl, rfl, List.getElem?_eq_getElem hb, ?_⟩
      rw [List.getElem?_take_of_lt hjl, List.getElem?_drop, List.getElem?_eq_getElem hb]
   have := DRep.sl (c := c.hold w w') (w := w') (some ⟨g, 0, none⟩) cap d.sz (xs.map f) (fun i j => (inner[i * d.sz + j]?).getD undef) (by rw [List.length_map]; exact hnc) (fun row hrow => by
    obtain ⟨x, _, rfl⟩ := List.mem_map.1 hrow
    exact hf x) (fun a ha => by cases ha; exact .inl rfl) (fun ha => by cases ha) (fun a ha i j row x hi hj => by
    cases ha
    obtain ⟨p, u, hp, rfl, hu, _⟩ := key i j row x hi hj
    refine ⟨?_, ?_⟩
    · have hc := ho1.cells (g := g) rfl _ u hu
      rw [hu]
      simpa [Go.Addr.add_mid, Nat.add_assoc] using hc
    · unfold Cx.lo
      have : (c.hold w w').L g = none := if_pos ⟨hg, hgl⟩
      simp only [this]) (fun i j row x hi hj => by
    obtain ⟨p, u, hp, rfl, hu, hu2⟩ := key i j row x hi hj
    rw [hu]
    exact hM p _ _ (hr.2 i p hp) j u x hu2 hj)
   rwa [List.length_map] at this
theorem term_row {ok : Nat → Prop} {v : Value} {xs : List Term} {c : Cx} {w w' : World} (hR : Kd.R kTerm 25 w' w.heap.size ok v xs) : DRep (c.hold w w') w' v (.sl 3 (xs.map Term.cells)) := by
 refine kd_row (d := kTerm) Term.cells hR (fun _ => rfl) fun t cs ok hM j u y hu hy => ?_
 obtain ⟨_, _, rfl, rfl, _, _, rfl, rfl, rfl⟩ := hM
 match j with
 | 0 => simp [Term.cells] at hu hy; subst hu; subst hy; exact .v _ rfl
 | 1 => simp [Term.cells] at hu hy; subst hu; subst hy; exact .v _ rfl
 | 2 => simp [Term.cells] at hu hy; subst hu; subst hy; exact .v _ rfl
 | j + 3 => simp [Term.cells] at hy
theorem lit_row {ok : Nat → Prop} {v : Value} {xs : List Lit} {c : Cx} {w w' : World} (hR : Kd.R kLit 28 w' w.heap.size ok v xs) : DRep (c.hold w w') w' v (.sl 6 (xs.map Lit.cells)) := by
 refine kd_row (d := kLit) Lit.cells hR (fun _ => rfl) fun l cs ok hM j u y hu hy => ?_
 obtain ⟨_, _, rfl, rfl, _, _, rfl, ⟨_, _, rfl, rfl, _, _, rfl, rfl, rfl⟩, _, _, rfl, rfl, av, rfl, hA⟩ := hM
 match j with
 | 0 => simp [Lit.cells] at hu hy; subst hu; subst hy; exact .v _ rfl
 | 1 => simp [Lit.cells] at hu hy; subst hu; subst hy; exact .v _ rfl
 | 2 => simp [Lit.cells] at hu hy; subst hu; subst hy; exact .v _ rfl
 | 3 => simp [Lit.cells] at hu hy; subst hu; subst hy; exact .v _ rfl
 | 4 => simp [Lit.cells] at hu hy; subst hu; subst hy; exact .v _ rfl
 | 5 => simp [Lit.cells] at hu hy; subst hu; subst hy; exact term_row hA
 | j + 6 => simp [Lit.cells] at hy
section
variable {c : Cx} {w : World} {h : AH}
theorem rep_v (v : Value) (hv : v.oneCell' = true) : ARep c h w v (.d (.v v)) := .d _ _ (.v _ hv)
theorem rep_nilsl (z : Nat) : ARep c h w (.slice none 0 0) (.d (.sl z [])) := .d _ _ (.sl none 0 _ [] (fun _ _ => undef) (by simp) (by simp) (fun a h => by cases h) (fun _ => ⟨rfl, rfl⟩) (fun a h => by cases h) (fun i j row x hi => by simp at hi))
theorem clause_rep {q : Clause} {av bv : Value} (ha : DRep c w av (.sl 3 (q.head.args.map Term.cells))) (hb : DRep c w bv (.sl 6 (q.body.map Lit.cells))) : ARep c h w (clauseV q av bv) q.av :=
 .agg _ _ rfl (rep_cons (rep_v _ rfl) (rep_cons (rep_v _ rfl) (rep_cons (rep_v _ rfl) (rep_cons (rep_v _ rfl) (rep_cons (rep_v _ rfl) (rep_cons (.d _ _ ha) (rep_cons (.d _ _ hb) rep_nil)))))))
theorem lit_rep {q : Lit} {av : Value} (ha : DRep c w av (.sl 3 (q.args.map Term.cells))) : ARep c h w (litV q av) q.av :=
 .agg _ _ rfl (rep_cons (rep_v _ rfl) (rep_cons (rep_v _ rfl) (rep_cons (rep_v _ rfl) (rep_cons (rep_v _ rfl) (rep_cons (rep_v _ rfl) (rep_cons (.d _ _ ha) rep_nil))))))
theorem tup3_rep {v : Value} {x : AV} (hv : ARep c h w v x) (p q : Int) : ARep c h w (.tuple #[v, .int .i64 p, .int .i64 q]) (.tup [x, vI p, vI q]) :=
 .tup [v, .int .i64 p, .int .i64 q] _ rfl (rep_cons hv (rep_cons (rep_v _ rfl) (rep_cons (rep_v _ rfl) rep_nil)))
end
def clauseA (s : ByteArray) : Clause × Int × Int := ansP Clause.z id (parseP s)
def litA (s : ByteArray) : Lit × Int × Int := ansP Lit.z litOf (parseLitP s)
abbrev pparseS : Fs := .pureIf (g1p aStr fun s => (s.size : Int) ≤ 9223372036854775807) (g1 aStr fun s => .tup [(clauseA s).1.av, vI (clauseA s).2.1, vI (clauseA s).2.2])
abbrev pparseLitS : Fs := .pureIf (g1p aStr fun s => (s.size : Int) ≤ 9223372036854775807) (g1 aStr fun s => .tup [(litA s).1.av, vI (litA s).2.1, vI (litA s).2.2])
theorem pparse_ok : FsOk Try.prog 11 pparseS := by
 refine of_hold Try.func11 rfl (by kernel_rfl) ?_
 intro args r c h n w vals hp hg hw hl hr
 obtain ⟨x, s, rfl, hx, rfl⟩ := g1_eq hg
 have hp := hp s hx
 obtain rfl := aStr_eq hx
 match vals, hl with
 | [v], _ =>
   have hv := hr 0 v _ rfl rfl
   obtain rfl := cval_rep hv rfl
   refine (parse_calls s w (by unfold maxLen; omega)).mono fun e w' hq => ?_
   unfold clauseA
   cases hE : parseP s with
   | error q =>
     obtain ⟨p, x⟩ := q
     rw [hE] at hq
     obtain ⟨rfl, hb⟩ := hq
     exact ⟨_, rfl, hb, tup3_rep (.agg _ _ rfl (rep_cons (rep_v _ rfl) (rep_cons (rep_v _ rfl) (rep_cons (rep_v _ rfl) (rep_cons (rep_v _ rfl) (rep_cons (rep_v _ rfl) (rep_cons (rep_nilsl 3) (rep_cons (rep_nilsl 6) rep_nil)))))))) _ _⟩
   | ok q =>
     rw [hE] at hq
     obtain ⟨⟨av, bv, rfl, ha, hb⟩, hbel⟩ := hq
     exact ⟨_, rfl, hbel, tup3_rep (clause_rep (term_row ha) (lit_row hb)) _ _⟩
theorem pparseLit_ok : FsOk Try.prog 15 pparseLitS := by
 refine of_hold Try.func15 rfl (by kernel_rfl) ?_
 intro args r c h n w vals hp hg hw hl hr
 obtain ⟨x, s, rfl, hx, rfl⟩ := g1_eq hg
 have hp := hp s hx
 obtain rfl := aStr_eq hx
 match vals, hl with
 | [v], _ =>
   have hv := hr 0 v _ rfl rfl
   obtain rfl := cval_rep hv rfl
   refine (parseLit_calls s w (by unfold maxLen; omega)).mono fun e w' hq => ?_
   unfold litA
   cases hE : parseLitP s with
   | error q =>
     obtain ⟨p, x⟩ := q
     rw [hE] at hq
     obtain ⟨rfl, hb⟩ := hq
     exact ⟨_, rfl, hb, tup3_rep (.agg _ _ rfl (rep_cons (rep_v _ rfl) (rep_cons (rep_v _ rfl) (rep_cons (rep_v _ rfl) (rep_cons (rep_v _ rfl) (rep_cons (rep_v _ rfl) (rep_cons (rep_nilsl 3) rep_nil))))))) _ _⟩
   | ok q =>
     rw [hE] at hq
     obtain ⟨⟨av, rfl, ha⟩, hbel⟩ := hq
     exact ⟨_, rfl, hbel, tup3_rep (lit_rep (q := litOf q) (term_row ha)) _ _⟩
end Go.Proofs.Ytdhocmakbapfpaa.M
end
section
namespace Go.R
open Go.RowKit
inductive Tr where
 | fin
 | q (k : Nat) (r : Tr)
 | one (k : Nat) (r : Tr)
 | two (k1 : Nat) (r1 : Tr) (k2 : Nat) (r2 : Tr)
def Tr.len : Tr → Nat
 | .fin => 0
 | .q _ r => r.len + 1
 | .one _ r => r.len + 1
 | .two _ r1 _ _ => r1.len + 1
section
variable {P : Program} {ops : Array Oper} {Q : Exit → Act → World → Prop}
def qB (ops : Array Oper) (k : Nat) : Bool := match ops[k]? with
 | some o => o.guard.isNone && noCall o
 | none => false
def oB (ops : Array Oper) (k : Nat) : Bool := (ops[k]?).isSome
def trB (ops : Array Oper) : Tr → Array Bool → Bool
 | .fin, listed => (Region.ready .any ops listed).isEmpty
 | .q k r, listed => qB ops k && (Region.ready .any ops listed).contains k && Region.free .any ops listed k && trB ops r (listed.setIfInBounds k true)
 | .one k r, listed => oB ops k && (Region.ready .any ops listed == [k]) && trB ops r (listed.setIfInBounds k true)
 | .two k1 r1 k2 r2, listed => oB ops k1 && oB ops k2 && (Region.ready .any ops listed == [k1, k2]) && (r1.len == r2.len) && trB ops r1 (listed.setIfInBounds k1 true) && trB ops r2 (listed.setIfInBounds k2 true)
def wpTr (P : Program) (ops : Array Oper) (C : World → Prop) (Q : Exit → Act → World → Prop) : Tr → Array Bool → Act → World → Prop
 | .fin, listed, a, w => C w ∧ Q .normal a w
 | .q k r, listed, a, w => ∃ o v, ops[k]? = some o ∧ QY P ops C o v a ∧ wpTr P ops C Q r (listed.setIfInBounds k true) (a.put o.dst v) w
 | .one k r, listed, a, w => C w ∧ wpOp P ops Q k (wpTr P ops C Q r (listed.setIfInBounds k true)) a w
 | .two k1 r1 k2 r2, listed, a, w => C w ∧ wpOp P ops Q k1 (wpTr P ops C Q r1 (listed.setIfInBounds k1 true)) a w ∧ wpOp P ops Q k2 (wpTr P ops C Q r2 (listed.setIfInBounds k2 true)) a w
theorem closed_set {listed : Array Bool} {k : Nat} (hcl : ∀ k o, ops[k]? = some o → listed.getD k true = true → ∀ e ∈ o.after, Region.binds .any e = true → listed.getD e.on false = true) (hr : k ∈ Region.ready .any ops listed) :
 ∀ k' o', ops[k']? = some o' → (listed.setIfInBounds k true).getD k' true = true → ∀ e ∈ o'.after, Region.binds .any e = true → (listed.setIfInBounds k true).getD e.on false = true := by
 intro k' o' ho' hl e he hb
 by_cases hk : k = k'
 · subst hk
   obtain ⟨_, o2, h2, hall⟩ := mem_ready.1 hr
   rw [ho'] at h2
   cases h2
   exact getD_set_true (hall e he hb)
 · rw [getD_set_ne true hk] at hl
   exact getD_set_true (hcl k' o' ho' hl e he hb)
theorem wpM_of_tr {C : World → Prop} (hsel : Region.noSelect ops = true) : ∀ (t : Tr) (listed : Array Bool) (a : Act) (w : World),
 trB ops t listed = true → (∀ k o, ops[k]? = some o → listed.getD k true = true → ∀ e ∈ o.after, Region.binds .any e = true → listed.getD e.on false = true) → listed.size = ops.size →
 wpTr P ops C (NoPanic Q) t listed a w → wpM P .any ops (fun _ w => C w) (NoPanic Q) t.len listed a w
 | .fin, listed, a, w, hB, _, _, h => ⟨h.1, by simpa [trB] using hB, h.2⟩
 | .q k r, listed, a, w, hB, hcl, hsz, h => by
   simp only [trB, Bool.and_eq_true] at hB
   obtain ⟨⟨⟨hq, hr⟩, hfree⟩, hB'⟩ := hB
   obtain ⟨o, v, ho, hy, hK⟩ := h
   have hkr : k ∈ Region.ready .any ops listed := by simpa using hr
   have hrest := wpM_of_tr hsel r _ _ w hB' (closed_set hcl hkr) (by simp [hsz]) hK
   have hheld : Held .any ops k listed := held_of_closed hcl hsz (mem_ready.1 hkr).1
   exact wpM_first ho (Region.noSelect_spec hsel) (fun l w hh hg => ⟨hg, hg⟩) r.len listed a w (fun j oj hj hne hun hno => Region.free_spec ho hfree j oj hj hne hun hno) hkr hheld hy hrest
 | .one k r, listed, a, w, hB, hcl, hsz, h => by
   simp only [trB, Bool.and_eq_true] at hB
   obtain ⟨⟨hq, hr⟩, hB'⟩ := hB
   have hr : Region.ready .any ops listed = [k] := by simpa using hr
   have hkr : k ∈ Region.ready .any ops listed := by rw [hr]; simp
   exact wpM_only hr h.1 (wpOp_mono (fun a' w' h' => wpM_of_tr hsel r _ a' w' hB' (closed_set hcl hkr) (by simp [hsz]) h') h.2)
 | .two k1 r1 k2 r2, listed, a, w, hB, hcl, hsz, h => by
   simp only [trB, Bool.and_eq_true] at hB
   obtain ⟨⟨⟨⟨⟨q1, q2⟩, hr⟩, hlen⟩, hB1⟩, hB2⟩ := hB
   have hr : Region.ready .any ops listed = [k1, k2] := by simpa using hr
   have hlen : r1.len = r2.len := by simpa using hlen
   have hk1 : k1 ∈ Region.ready .any ops listed := by rw [hr]; simp
   have hk2 : k2 ∈ Region.ready .any ops listed := by rw [hr]; simp
   refine ⟨h.1, fun h0 => (by rw [h0] at hk1; cases hk1), fun i hi => ?_⟩
   rw [hr] at hi
   simp only [List.mem_cons, List.not_mem_nil, or_false] at hi
   rcases hi with rfl | rfl
   · exact wpOp_mono (fun a' w' h' => wpM_of_tr hsel r1 _ a' w' hB1 (closed_set hcl hk1) (by simp [hsz]) h') h.2.1
   · have := wpOp_mono (fun a' w' h' => wpM_of_tr (C := C) hsel r2 _ a' w' hB2 (closed_set hcl hk2) (by simp [hsz]) h') h.2.2
     rw [← hlen] at this
     exact this
theorem wp_region_tr {id : Nat} {C : World → Prop} {t : Tr} {a : Act} {w : World} (hm : P.follows .mixedOrders = true) (hsel : Region.noSelect ops = true) (hlen : t.len = ops.size)
 (hB : trB ops t (Array.replicate ops.size false) = true) (h : wpTr P ops C (NoPanic Q) t (Array.replicate ops.size false) a { w with drawn := w.drawn + 1 }) : (Code.region id ops true).wp P Q a w := by
 have H := wpM_of_tr hsel t _ a _ hB (fun k o ho hl => by
  have hk := (Array.getElem?_eq_some_iff.1 ho).1
  simp [hk] at hl) (by simp) h
 rw [hlen] at H
 exact wp_region_noPanic (wp_region_any hm (wpAny_of_M (G := fun _ w => C w) _ _ _ _ H))
end
section
variable {P : Program} {E : EqT P} {F : Ft} {T T1 : List Nat} {ops : Array Oper}
def MT (E : EqT P) (F : Ft) (T T1 : List Nat) (ops : Array Oper) : Tr → Nat → (Exit → St → Prop) → St → Prop
 | .fin, b, Q, s => Q .normal ⟨s.t, s.h, b, s.n⟩
 | .q k r, b, Q, s => False
 | .one k r, b, Q, s => xops P F.tb T1 ops (opsAt ops [k]) s fun s' => s'.t.length ≤ 1000000 → MT E F T T1 ops r b Q s'
 | .two k1 r1 k2 r2, b, Q, s => (xops P F.tb T1 ops (opsAt ops [k1]) s fun s' => s'.t.length ≤ 1000000 → MT E F T T1 ops r1 b Q s') ∧ xops P F.tb T1 ops (opsAt ops [k2]) s fun s' => s'.t.length ≤ 1000000 → MT E F T T1 ops r2 b Q s'
def MTq (E : EqT P) (F : Ft) (T T1 : List Nat) (ops : Array Oper) (qs : List Nat) (r : Tr) (b : Nat) (Q : Exit → St → Prop) (s : St) : Prop :=
 xopsW P F.tb T1 ops qs s fun s1 => s1.t.length ≤ 1000000 → MT E F T T1 ops r b Q ⟨s1.t, s1.h, s1.n, s1.n⟩
variable {b : Nat} {Q : Exit → St → Prop} {s : St} {k k1 k2 : Nat} {r r1 r2 : Tr} {qs : List Nat}
theorem MTq.nil (h : MT E F T T1 ops r b Q ⟨s.t, s.h, s.n, s.n⟩) : MTq E F T T1 ops [] r b Q s := fun _ => h
theorem MTq.of (f : Nat) (hl : s.t.length ≤ 1000000) (hL : ldK T1 ops k s.t) (h : X E F T (fun _ s' => MTq E F T T1 ops qs r b Q s') f (.opsQ ops (opsAt ops [k])) [] s) : MTq E F T T1 ops (k :: qs) r b Q s := by
 refine ⟨hL, ?_⟩
 rw [X_eq] at h
 exact (Xi_sound f).2.2.2.1 ops _ [] s hl h
theorem MT.fin (h : Q .normal ⟨s.t, s.h, b, s.n⟩) : MT E F T T1 ops .fin b Q s := h
theorem MT.one (f : Nat) (hl : s.t.length ≤ 1000000) (h : X E F T1 (fun _ s' => MT E F T T1 ops r b Q s') f (.ops ops (opsAt ops [k])) [] s) : MT E F T T1 ops (.one k r) b Q s := by
 rw [X_eq] at h
 exact (Xi_sound f).2.2.1 ops _ [] s hl h
theorem MT.two (f : Nat) (hl : s.t.length ≤ 1000000) (h1 : X E F T1 (fun _ s' => MT E F T T1 ops r1 b Q s') f (.ops ops (opsAt ops [k1])) [] s) (h2 : X E F T1 (fun _ s' => MT E F T T1 ops r2 b Q s') f (.ops ops (opsAt ops [k2])) [] s) : MT E F T T1 ops (.two k1 r1 k2 r2) b Q s := by
 rw [X_eq] at h1 h2
 exact ⟨(Xi_sound f).2.2.1 ops _ [] s hl h1, (Xi_sound f).2.2.1 ops _ [] s hl h2⟩
end
section
variable {P : Program} {C : Tb} {E : EqT P} {F : Ft} {c c0 c' : Cx} {s s1 s2 : St} {a : Act} {w w0 w' : World} {h h0 h1 h' : AH} {n n' : Nat} {T T1 : List Nat} {ops : Array Oper} {Q : Exit → Act → World → Prop} {Cl : World → Prop}
theorem oB_some {k : Nat} (h : oB ops k = true) : ∃ o, ops[k]? = some o ∧ opsAt ops [k] = [o] := by
 unfold oB at h
 cases ho : ops[k]? with
 | none => simp [ho] at h
 | some o => exact ⟨o, rfl, by simp [opsAt, ho]⟩
theorem tr_one (hC : TbOk P C) {k : Nat} {K : St → Prop} {N : Act → World → Prop} (I : SI T c0 h0 w0 c s a w) (hl : s.t.length ≤ 1000000) (hk : oB ops k = true) (hx : xops P C T ops (opsAt ops [k]) s fun s' => s'.t.length ≤ 1000000 → K s')
 (hn : ∀ c' s' a' w', SI T c0 h0 w0 c' s' a' w' → s'.b = s.b → s'.t.length = s.t.length → K s' → N a' w') : wpOp P ops Q k N a w := by
 obtain ⟨o, ho, hat⟩ := oB_some hk
 rw [hat] at hx
 simp only [xops] at hx
 unfold wpOp
 simp only [ho]
 cases hg : o.guard with
 | none =>
   simp only [hg] at hx
   rw [if_pos (by simp [Region.wanted, hg])]
   exact .inl (aop_wp hC I (xop_aop hx) fun c' v r h' n' w' hr I' => hn _ _ _ _ I' rfl (putT_length _ _ _) (hr (by rw [putT_length]; exact hl)))
 | some jw =>
   obtain ⟨j, want⟩ := jw
   simp only [hg] at hx
   obtain ⟨d, hd, hx⟩ := onO_iff hx
   rcases onG_iff hx with ⟨q, hq, hx⟩ | ⟨hq, hx⟩
   case inr =>
    have hv := I.undef hq
    have hy : Region.wanted o (yielded ops a.tmps) = false := by
     simp only [Region.wanted, hg, yielded, hd, Option.bind_some, hv]
     rfl
    rw [if_neg (by rw [hy]; simp)]
    exact hn _ _ _ _ (I.next (d := o.dst) (v := undef) (r := .tup []) I.srep.wd (Ext.refl _ _ _) (Fr.refl _ _ _ _) undef_rep (Nat.le_refl _)) rfl (by rw [putT_length]) (hx (by rw [putT_length]; exact hl))
   have hv := I.bool hq
   have hy : Region.wanted o (yielded ops a.tmps) = (q == want) := by
    simp only [Region.wanted, hg, yielded, hd, Option.bind_some, hv]
    cases q <;> cases want <;> rfl
   have I1 : SI T c0 h0 w0 c { s with t := s.t.set d (.d (.v (.bool q))) } a w := I.setT fun v hv' => by rw [hv] at hv'; cases hv'; exact .d _ _ (.v _ rfl)
   have hll : ∀ r : AV, (putT (s.t.set d (.d (.v (.bool q)))) o.dst r).length = s.t.length := fun r => by rw [putT_length]; simp
   have skip : (K ⟨putT (s.t.set d (.d (.v (.bool q)))) o.dst (.tup []), s.h, s.b, s.n⟩) → N (a.put o.dst undef) w := fun hK =>
    hn _ _ _ _ (I1.next (d := o.dst) (v := undef) (r := .tup []) I1.srep.wd (Ext.refl _ _ _) (Fr.refl _ _ _ _) undef_rep (Nat.le_refl _)) rfl (hll _) hK
   cases want <;> cases q
   · rw [if_pos (by rw [hy]; rfl)]
     exact .inl (aop_wp hC I1 (xop_aop (hx.2 rfl)) fun c' v r h' n' w' hr I' => hn _ _ _ _ I' rfl (hll _) (hr (by show (putT _ _ _).length ≤ _; rw [hll]; exact hl)))
   · rw [if_neg (by rw [hy]; simp)]
     exact skip (hx.1 rfl (by show (putT _ _ _).length ≤ _; rw [hll]; exact hl))
   · rw [if_neg (by rw [hy]; simp)]
     exact skip (hx.2 rfl (by show (putT _ _ _).length ≤ _; rw [hll]; exact hl))
   · rw [if_pos (by rw [hy]; rfl)]
     exact .inl (aop_wp hC I1 (xop_aop (hx.1 rfl)) fun c' v r h' n' w' hr I' => hn _ _ _ _ I' rfl (hll _) (hr (by show (putT _ _ _).length ≤ _; rw [hll]; exact hl)))
theorem tr_walk (hC : TbOk P F.tb) {Qs : Exit → St → Prop} {b n0 L : Nat} (hL : L ≤ 1000000)
 (fin : ∀ c3 s3 a3 w3, SI T1 c h1 w c3 s3 a3 w3 → s3.b = n0 → s3.t.length = L → Qs .normal ⟨s3.t, s3.h, b, s3.n⟩ → Q .normal a3 w3) :
 ∀ (t : Tr) (c2 : Cx) (s2 : St) (a2 : Act) (w2 : World) (listed : Array Bool), SI T1 c h1 w c2 s2 a2 w2 → s2.b = n0 → s2.t.length = L → trB ops t listed = true → MT E F T T1 ops t b Qs s2 → wpTr P ops (SameBut T1 c h1 w) Q t listed a2 w2
 | .fin, c2, s2, a2, w2, listed, J, hb, hl, hB, hM => ⟨fun b hb hne => J.fr.far b hb hne, fin c2 s2 a2 w2 J hb hl hM⟩
 | .q k r, c2, s2, a2, w2, listed, J, hb, hl, hB, hM => hM.elim
 | .one k r, c2, s2, a2, w2, listed, J, hb, hl, hB, hM => by
   simp only [trB, Bool.and_eq_true] at hB
   obtain ⟨⟨hk, _⟩, hB'⟩ := hB
   exact ⟨fun b hb hne => J.fr.far b hb hne, tr_one hC J (by omega) hk hM fun c' s' a' w' J' e1 e2 hK => tr_walk hC hL fin r c' s' a' w' _ J' (e1.trans hb) (e2.trans hl) hB' hK⟩
 | .two k1 r1 k2 r2, c2, s2, a2, w2, listed, J, hb, hl, hB, hM => by
   simp only [trB, Bool.and_eq_true] at hB
   obtain ⟨⟨⟨⟨⟨hk1, hk2⟩, _⟩, _⟩, hB1⟩, hB2⟩ := hB
   exact ⟨fun b hb hne => J.fr.far b hb hne, tr_one hC J (by omega) hk1 hM.1 fun c' s' a' w' J' e1 e2 hK => tr_walk hC hL fin r1 c' s' a' w' _ J' (e1.trans hb) (e2.trans hl) hB1 hK,
    tr_one hC J (by omega) hk2 hM.2 fun c' s' a' w' J' e1 e2 hK => tr_walk hC hL fin r2 c' s' a' w' _ J' (e1.trans hb) (e2.trans hl) hB2 hK⟩
theorem tr_qs {K : St → Prop} {r : Tr} : ∀ (qs : List Nat) (s : St) (a : Act) (listed : Array Bool), SI T c0 h0 w0 c s a w → s.t.length ≤ 1000000 → trB ops (qs.foldr Tr.q r) listed = true → xopsW P C T1 ops qs s K →
 (∀ s' a' l', SI T c0 h0 w0 c s' a' w → s'.b = s.b → s'.h = s.h → s'.n = s.n → s'.t.length = s.t.length → trB ops r l' = true → K s' → wpTr P ops (SameBut T1 c s.h w) Q r l' a' w) → wpTr P ops (SameBut T1 c s.h w) Q (qs.foldr Tr.q r) listed a w
 | [], s, a, listed, I, _, hB, hK, hn => hn s a listed I rfl rfl rfl rfl hB hK
 | k :: qs, s, a, listed, I, hsl, hB, hK, hn => by
   simp only [List.foldr_cons, trB, Bool.and_eq_true] at hB
   obtain ⟨⟨⟨hq, _⟩, _⟩, hB'⟩ := hB
   obtain ⟨o, ho, hg, hat⟩ : ∃ o, ops[k]? = some o ∧ o.guard = none ∧ opsAt ops [k] = [o] := by
    unfold qB at hq
    cases ho : ops[k]? with
    | none => simp [ho] at hq
    | some o => exact ⟨o, rfl, by simp [ho] at hq; exact hq.1, by simp [opsAt, ho]⟩
   obtain ⟨hL, hK⟩ := hK
   simp only [ho] at hL
   rw [hat] at hK
   simp only [xopsQ, hg] at hK
   obtain ⟨v, rr, h1, h2, h3⟩ := quiet_QYW (ops := ops) I hg hL (xopQ_aopQ hK)
   refine ⟨o, v, ho, ?_, ?_⟩
   · rcases h1 with ⟨g1, g2⟩ | g
     · exact .inl ⟨g1, fun w' hw' => g2 w' (.inr hw')⟩
     · exact .inr g
   · refine tr_qs qs { s with t := putT s.t o.dst rr } _ _ (I.next (d := o.dst) (v := v) I.srep.wd (Ext.refl _ _ _) (Fr.refl _ _ _ _) h2 (Nat.le_refl _)) (by simp only [putT_length]; exact hsl) hB' (h3 (by simp only [putT_length]; exact hsl)) fun s' a' l' I' e1 e2 e3 e4 hB2 hK' => ?_
     exact hn s' a' l' I' e1 e2 e3 (e4.trans (putT_length _ _ _)) hB2 hK'
theorem AW.treeX {id : Nat} {Qs : Exit → St → Prop} (T1 qs : List Nat) (r : Tr) (hm : P.follows .mixedOrders = true) (hB : (Region.noSelect ops && ((qs.foldr Tr.q r).len == ops.size) && trB ops (qs.foldr Tr.q r) (Array.replicate ops.size false)) = true)
 (hl : s.t.length ≤ 1000000) (hT1 : ∀ i, i ∈ T1 → i ∈ T ∨ s.b ≤ i) (h : MTq E F T T1 ops qs r s.b Qs s) : AW P F.tb T (.region id ops true) Qs s := by
 simp only [Bool.and_eq_true, beq_iff_eq] at hB
 obtain ⟨⟨hsel, hlen⟩, hB⟩ := hB
 intro c0 h0 w0 c a w hC I
 have I1 := I.drew
 refine wp_region_tr (C := SameBut T1 c s.h { w with drawn := w.drawn + 1 }) (t := qs.foldr Tr.q r) hm hsel hlen hB ?_
 refine tr_qs qs s a _ I1 hl hB h fun s1 a1 l1 J1 e1 e2 e3 e4 hB2 hK => ?_
 have base : SI T1 c s.h { w with drawn := w.drawn + 1 } c ⟨s1.t, s1.h, s1.n, s1.n⟩ a1 { w with drawn := w.drawn + 1 } :=
  ⟨⟨J1.srep.size, J1.srep.tmp, J1.srep.defers, J1.srep.wd⟩, by rw [e2]; exact Ext.refl _ _ _, by rw [e2]; exact Fr.refl _ _ _ _, fun i hi => by rw [← e2]; exact J1.srep.wd.new i hi, Nat.le_refl _⟩
 refine tr_walk (n0 := s1.n) (L := s.t.length) hC hl (fun c3 s3 a3 w3 J f1 f2 hQ => ?_) r c ⟨s1.t, s1.h, s1.n, s1.n⟩ a1 _ l1 base rfl e4 hB2 (hK (by rw [e4]; exact hl))
 refine ⟨c3, ⟨s3.t, s3.h, s.b, s3.n⟩, ⟨⟨J.srep.size, J.srep.tmp, J.srep.defers, J.srep.wd⟩, ?_, ?_, I.new0, ?_⟩, rfl, f2, hQ⟩
 · have g := J1.ext
   rw [e2] at g
   exact g.trans J.ext
 · have g := J1.fr
   have g2 := J1.ext
   rw [e2] at g g2
   refine ⟨fun b hb hne => (J.fr.far b (Nat.lt_of_lt_of_le hb g2.size) (fun i hi e => ?_)).trans (g.far b hb hne), fun i b e hb => g.old i b (J.fr.old i b e (Nat.lt_of_lt_of_le hb g2.size)) hb⟩
   have := g.old i b e hb
   rcases hT1 i hi with hi | hi
   · exact hne i hi this
   · rw [I.new0 i hi] at this; cases this
 · have g1 := J.le
   have g2 := I.le
   simp only at g1 f1 ⊢
   omega
end
section
variable {P : Program} {c c0 c' : Cx} {s s1 s2 : St} {a : Act} {w w0 w' : World} {h h0 h' : AH} {n n' : Nat} {T : List Nat}
theorem nil_own (c : Cx) (h : AH) (w : World) (n z : Nat) : ARep { c with τ := upd c.τ n (none, 0) } (upd h n (.tok 0 z)) w (.slice none 0 0) (.own n z []) := by
 have hd : DRep { c with τ := upd c.τ n (none, 0) } w (.slice none ([] : List (List DV)).length 0) (.sl z []) := .sl none 0 z [] (fun _ _ => .bool false) (Nat.le_refl _) (by simp) (fun a ha => by cases ha) (fun _ => ⟨rfl, rfl⟩) (fun a ha => by cases ha) (fun i j row x hi => by simp at hi)
 exact .own none 0 n z [] 0 hd (upd_same _ _ _) (Nat.le_refl _) (fun _ => upd_same _ _ _)
theorem Wk.nil {t : List AV} {b j : Nat} (z : Nat) (hj : t[j]? = some (.d (.v (.slice none 0 0)))) : Wk T ⟨t, h, b, n⟩ ⟨t.set j (.own n z []), upd h n (.tok 0 z), b, n + 1⟩ := by
 refine ⟨rfl, by simp, fun c0 h0 w0 c a w I => ⟨{ c with τ := upd c.τ n (none, 0) }, ?_⟩⟩
 obtain ⟨g1, g2⟩ := I.srep.wd.newNil z
 have hfr := newNil_fr (T := may T b) I.srep.wd z
 have I2 := I.next (d := none) (v := .bool false) (r := .any) g1 g2 hfr (.any _) (Nat.le_succ _)
 refine I2.setT (d := j) (r := .own n z []) fun v hv => ?_
 have hv' : a.tmps[j]? = some v := hv
 have := I.srep.tmp j v _ hv' hj
 obtain rfl := cval_rep this rfl
 exact nil_own c h w n z
end
end Go.R
end
section
namespace Go.Proofs.Ytdhocmakbapfpaa.M
open Go.R
theorem fs_congr {P : Program} {f : FuncId} {S S' : Fs} (hS : FsOk P f S) (hc : ∀ args h n r h' n', S'.pre args h n → S'.run args h n = some (r, h', n') → S.pre args h n ∧ S.run args h n = some (r, h', n') ∧ S.tch args = S'.tch args) : FsOk P f S' := by
 intro c h n w vals args K hw hl hr hq
 obtain ⟨hpre, hrun⟩ := hq
 obtain ⟨⟨r, h', n'⟩, hr', hK⟩ := onO_iff hrun
 obtain ⟨g1, g2, g3⟩ := hc args h n r h' n' hpre hr'
 have := hS c h n w vals args K hw hl hr ⟨g1, by
  show onO (S.run args h n) _
  rw [g2]
  exact hK⟩
 have e : S.sp.tch args = S'.sp.tch args := g3
 rw [e] at this
 exact this
theorem putL_any {l : List ByteArray} {s : ByteArray} (h : l.any (fun x => x.toList == s.toList) = true) : putL l s = l := if_pos h
theorem putL_not {l : List ByteArray} {s : ByteArray} (h : ¬ l.any (fun x => x.toList == s.toList) = true) : putL l s = l ++ [s] := if_neg h
def put2Run : List AV → AH → Nat → Option (AV × AH × Nat)
 | [.own k 1 xs, .d (.v (.string s))], h, n => match dRows cStr xs with
   | some l => some (.own k 1 ((putL l s).map strRow), upd h k (.tok (putL l s).length 1), n)
   | none => none
 | _, _, _ => none
def put2S : Fs := ⟨put2Run, putPre, putTch⟩
@[go_sem] theorem put2_run (k : Nat) (l : List ByteArray) (s : ByteArray) (h : AH) (n : Nat) : put2S.run [.own k 1 (l.map strRow), .d (.v (.string s))] h n = some (.own k 1 ((putL l s).map strRow), upd h k (.tok (putL l s).length 1), n) := by
  simp only [put2S, put2Run, dStrs]
@[go_sem] theorem put2_pre (k : Nat) (xs : List (List DV)) (s : ByteArray) (h : AH) (n : Nat) : put2S.pre [.own k 1 xs, .d (.v (.string s))] h n = (h k = .tok xs.length 1 ∧ k < n ∧ xs.length ≤ 1099511627776) := rfl
@[go_sem] theorem put2_tch (k z : Nat) (xs : List (List DV)) (x : AV) : put2S.tch [.own k z xs, x] = [k] := rfl
theorem put2_ok : FsOk Try.prog 58 put2S := by
 refine fs_congr put_ok ?_
 intro args h n r h' n' hp hr
 simp only [put2S, putS] at hp hr ⊢
 unfold put2Run at hr
 split at hr
 · rename_i k xs s
   cases hd : dRows cStr xs with
   | none => simp [hd] at hr
   | some l =>
     simp only [hd, Option.some.injEq, Prod.mk.injEq] at hr
     obtain ⟨rfl, rfl, rfl⟩ := hr
     obtain rfl := dRows_eq (fun c x => cStr_eq) hd
     refine ⟨hp, ?_, trivial⟩
     simp only [putRun, hd]
     by_cases ha : l.any (fun x => x.toList == s.toList) = true
     · rw [if_pos ha, putL_any ha]
       have : upd h k (.tok l.length 1) = h := by
        funext j
        by_cases e : j = k
        · subst e
          rw [upd_same]
          have := hp.1
          rw [List.length_map] at this
          exact this.symm
        · rw [upd_ne _ _ e]
       rw [this]
     · rw [if_neg ha, putL_not ha]
       simp only [List.map_append, List.map_cons, List.map_nil, List.length_append, List.length_map, List.length_cons, List.length_nil]
 · cases hr
theorem putL_len (l : List ByteArray) (s : ByteArray) : (putL l s).length ≤ l.length + 1 := by
 unfold putL
 split
 · omega
 · simp
def putT (acc : List ByteArray) (t : Term) : List ByteArray := if 0 < t.var.size then putL acc t.var else acc
def litVs (acc : List ByteArray) (l : Lit) : List ByteArray := l.args.foldl putT (putT acc l.who)
def varsL (c : Clause) : List ByteArray := if checkB c then (c.head :: c.body).foldl litVs [] else []
theorem putT_len (l : List ByteArray) (t : Term) : (putT l t).length ≤ l.length + 1 := by
 unfold putT
 split
 · exact putL_len _ _
 · omega
abbrev refVarsS : Fs := .pure (g1 aClause fun c => .d (.sl 1 ((varsL c).map strRow)))
theorem lit_args4 {l : Lit} (hg : literalB l = true) : l.args.length ≤ 4 := by
 unfold literalB at hg
 split at hg
 · unfold saidB at hg
   simp only [Bool.and_eq_true, decide_eq_true_eq] at hg
   exact hg.1.2
 · simp only [Bool.and_eq_true, beq_iff_eq] at hg
   omega
set_option maxRecDepth 10000 in
set_option maxHeartbeats 8000000 in
theorem refVars_ok : FsOk Try.prog 27 refVarsS := by
 refine of_X1 (E := EqT.no _) (F := (Ft.no.put 29 checkS).put 58 put2S) Clause.av (fun _ _ => aClause_le) Try.func27 rfl (by kernel_rfl) [.tmp 2] rfl Try.ntmps27 (by decide) (((FtOk.no _).put check_ok).put put2_ok) ?_
 intro c h n hok
 cases hck : checkB c with
 | false =>
   have hV : varsL c = [] := by unfold varsL; rw [hck]; rfl
   repeat' (first | (with_reducible first | refine XG_split (fun hq => ?_) (fun hq => ?_) | refine MX1.of 4000 (by simp) ?_ | refine MX2.of 4000 (by simp) ?_ | refine And.intro ?_ ?_) | ((with_reducible first | refine Or.inl (And.intro (And.intro mixedP ?_) ?_) | refine Or.inl (And.intro mixedP ?_)); kernel_rfl) | simp only [go_sem,Nat.reduceEqDiff,Nat.reduceAdd,Nat.reduceMul,Nat.reduceLeDiff,Int.reduceBEq,Clause.av,Clause.ds,hck,hV,List.map_nil])
   all_goals first | omega | (unfold maxLen; omega) | (right; omega) | (left; simp; done) | (simp only [wk3,wkL2,wk2,wkL,wk1_d,wk1_own,wk1_nil,and_self]; done) | (intro i hi; simp only [upd]; (repeat' split); all_goals first | rfl | omega) | skip
 | true =>
   have hV : varsL c = (c.head :: c.body).foldl litVs [] := by unfold varsL; rw [hck]; rfl
   have hc := hck
   simp only [checkB, Bool.and_eq_true, decide_eq_true_eq] at hc
   obtain ⟨⟨⟨hc1, hc2⟩, hc3⟩, hc4⟩ := hc
   have hlit : ∀ l ∈ c.head :: c.body, l.args.length ≤ 4 := fun l hl => by
    rcases List.mem_cons.1 hl with rfl | hl
    · unfold checkLitB saidB at hc1
      simp only [Bool.and_eq_true, decide_eq_true_eq] at hc1
      exact hc1.2.1.2
    · rw [List.all_eq_true] at hc4
      exact lit_args4 (hc4 l hl)
   have hok1 : HOk (n + 1) (upd h n (.box c.ds)) := (hok.mono (Nat.le_succ n)).upd_box (Nat.lt_succ_self n) (by simp only [go_sem, Clause.ds])
   have hok2 : ∀ m : Nat, HOk (n + 1 + 1) (upd (upd h n (.box c.ds)) (n + 1) (.tok m 1)) := fun m => (hok1.mono (Nat.le_succ _)).upd_tok (by omega)
   have hok3 : ∀ (m : Nat) (l : Lit), HOk (n + 1 + 1 + 1) (upd (upd (upd h n (.box c.ds)) (n + 1) (.tok m 1)) (n + 1 + 1) (.box l.bx)) := fun m l => ((hok2 m).mono (Nat.le_succ _)).upd_box (by omega) (by simp only [go_sem, Lit.bx])
   repeat' (first | (with_reducible first | refine XG_split (fun hq => ?_) (fun hq => ?_) | refine MX1.of 4000 (by simp) ?_ | refine MX2.of 4000 (by simp) ?_ | refine And.intro ?_ ?_) | ((with_reducible first | refine Or.inl (And.intro (And.intro mixedP ?_) ?_) | refine Or.inl (And.intro mixedP ?_)); kernel_rfl) | simp only [go_sem,Nat.reduceEqDiff,Nat.reduceAdd,Nat.reduceMul,Nat.reduceLeDiff,Int.reduceBEq,Clause.av,Clause.ds,hck])
   all_goals first | omega | (unfold maxLen; omega) | (right; omega) | (left; simp; done) | (simp only [wk3,wkL2,wk2,wkL,wk1_d,wk1_own,wk1_nil,and_self]; done) | (intro i hi; simp only [upd]; (repeat' split); all_goals first | rfl | omega) | skip
   refine AW.wk (Wk.nil (j := 3) 1 rfl) ?_
   refine AW.loopJ (E := EqT.no _) (S := fun x : Nat × List ByteArray => ⟨fr [(1, .p n 0), (3, .own (n + 1) 1 (x.2.map strRow)), (4, vI ((x.1 : Int) - 1))] (List.replicate 60 .any), upd (upd h n (.box c.ds)) (n + 1) (.tok x.2.length 1), n, n + 1 + 1⟩)
    (I := fun x => x.1 ≤ c.body.length + 1 ∧ x.2.length ≤ 5 * x.1 ∧ ((c.head :: c.body).drop x.1).foldl litVs x.2 = varsL c) (μ := fun x => c.body.length + 1 - x.1) (0, []) ⟨Nat.zero_le _, Nat.le_refl _, hV.symm⟩ ?_ 4000 (fun _ => by simp only [fr_len, List.length_replicate]; decide) ?_
   · exact Wk.of (by simp only [go_sem, List.map_nil]; exact .inr (wk_v rfl)) (by intro i hi; simp only [upd, Clause.ds, List.length_nil]; (repeat' split); all_goals first | rfl | omega) (hok2 _) (by omega) (by omega) (by simp only [go_sem]; omega)
   · rintro ⟨k, acc⟩ ⟨hk, hac, hI⟩
     simp only at hk hac hI
     rcases Nat.lt_or_ge k (c.body.length + 1) with hkl | hkl
     · have hlt : decide ((k : Int) - 1 < (c.body.length : Int)) = true := decide_eq_true (by omega)
       have hkL : k < (c.head :: c.body).length := by simpa using hkl
       rw [List.drop_eq_getElem_cons hkL, List.foldl_cons] at hI
       have hmem := hlit _ (List.getElem_mem hkL)
       by_cases hk0 : k = 0
       · subst hk0
         have hge : decide ((0 : Int) ≤ ((0 : Nat) : Int) - 1) = false := rfl
         have hge' : decide ((0 : Int) ≤ 0 - 1) = false := rfl
         have hlt' : decide ((0 : Int) - 1 < (c.body.length : Int)) = true := hlt
         simp only [List.getElem_cons_zero] at hI hmem
         cases hw : decide (0 < c.head.who.var.size) with
         | true =>
           have hw' : 0 < c.head.who.var.size := of_decide_eq_true hw
           have hpt : putT acc c.head.who = putL acc c.head.who.var := if_pos hw'
           repeat' (first | (with_reducible first | refine XG_split (fun hq => ?_) (fun hq => ?_) | refine MX1.of 4000 (by simp) ?_ | refine MX2.of 4000 (by simp) ?_ | refine And.intro ?_ ?_) | ((with_reducible first | refine Or.inl (And.intro (And.intro mixedP ?_) ?_) | refine Or.inl (And.intro mixedP ?_)); kernel_rfl) | simp only [go_sem,Nat.reduceEqDiff,Nat.reduceAdd,Nat.reduceMul,Nat.reduceLeDiff,Int.reduceBEq,Clause.ds,Lit.bx,Term.cells,hlt,hge,hge',hlt',hw,List.length_map,Lit.cells])
           all_goals first | omega | (unfold maxLen; omega) | (right; omega) | (left; simp; done) | (simp only [wk3,wkL2,wk2,wkL,wk1_d,wk1_own,wk1_nil,and_self]; done) | (intro i hi; simp only [upd]; (repeat' split); all_goals first | rfl | omega) | skip
           all_goals
            refine AW.loopJ (E := EqT.no _) (S := fun y : Nat × List ByteArray => ⟨fr [(1, .p n 0), (3, .own (n + 1) 1 (y.2.map strRow)), (4, vI (((0 : Nat) : Int) - 1)), (5, .p (n + 1 + 1) 0), (6, vI y.1)] (List.replicate 60 .any), upd (upd (upd h n (.box c.ds)) (n + 1) (.tok y.2.length 1)) (n + 1 + 1) (.box (c.head).bx), n, n + 1 + 1 + 1⟩)
             (I := fun y => y.1 ≤ (c.head).args.length ∧ y.2.length ≤ 5 * 0 + 1 + y.1 ∧ ((c.head).args.drop y.1).foldl putT y.2 = litVs acc (c.head)) (μ := fun y => (c.head).args.length - y.1) (0, putT acc (c.head).who) ⟨Nat.zero_le _, by have := putT_len acc (c.head).who; show (putT acc (c.head).who).length ≤ 5 * 0 + 1 + 0; omega, rfl⟩ ?_ 4000 (fun _ => by simp only [fr_len, List.length_replicate]; decide) ?_
            · exact Wk.of (by simp only [go_sem, hpt]) (by intro i hi; simp only [upd, Clause.ds, Lit.bx, Lit.cells, List.map_cons, List.map_nil, hpt, List.length_map]; (repeat' split); all_goals first | rfl | omega) (hok3 _ _) (by omega) (by omega) (by simp only [go_sem]; omega)
            · rintro ⟨j, ac2⟩ ⟨hj, hjl, hJ⟩
              simp only at hj hjl hJ
              rcases Nat.lt_or_ge j (c.head).args.length with hjl2 | hjl2
              · rw [List.drop_eq_getElem_cons hjl2, List.foldl_cons] at hJ
                have hpl := putT_len ac2 (c.head).args[j]
                cases hv : decide (0 < (c.head).args[j].var.size) with
                | true =>
                  have hp2 : putT ac2 (c.head).args[j] = putL ac2 (c.head).args[j].var := if_pos (of_decide_eq_true hv)
                  rw [hp2] at hJ hpl
                  repeat' (first | (with_reducible first | refine XG_split (fun hq => ?_) (fun hq => ?_) | refine MX1.of 4000 (by simp) ?_ | refine MX2.of 4000 (by simp) ?_ | refine And.intro ?_ ?_) | ((with_reducible first | refine Or.inl (And.intro (And.intro mixedP ?_) ?_) | refine Or.inl (And.intro mixedP ?_)); kernel_rfl) | simp only [go_sem,Nat.reduceEqDiff,Nat.reduceAdd,Nat.reduceMul,Nat.reduceLeDiff,Int.reduceBEq,Clause.ds,Lit.bx,decide_eq_true hjl2,List.getElem?_eq_getElem hjl2,hv,List.length_map])
                  all_goals first | omega | (unfold maxLen; omega) | (right; omega) | (left; simp; done) | (simp only [wk3,wkL2,wk2,wkL,wk1_d,wk1_own,wk1_nil,and_self]; done) | (intro i hi; simp only [upd]; (repeat' split); all_goals first | rfl | omega) | skip
                  exact ⟨(j + 1, putL ac2 (c.head).args[j].var), ⟨hjl2, by show (putL ac2 (c.head).args[j].var).length ≤ 5 * 0 + 1 + (j + 1); omega, hJ⟩, Wk.of (by simp only [go_sem]) (by intro i hi; simp only [upd, Clause.ds, Lit.bx, List.length_map]; (repeat' split); all_goals first | rfl | omega) (hok3 _ _) (by omega) (by omega) (by simp only [go_sem]; omega), by show (c.head).args.length - (j + 1) < (c.head).args.length - j; omega⟩
                | false =>
                  have hp2 : putT ac2 (c.head).args[j] = ac2 := if_neg (of_decide_eq_false hv)
                  rw [hp2] at hJ
                  repeat' (first | (with_reducible first | refine XG_split (fun hq => ?_) (fun hq => ?_) | refine MX1.of 4000 (by simp) ?_ | refine MX2.of 4000 (by simp) ?_ | refine And.intro ?_ ?_) | ((with_reducible first | refine Or.inl (And.intro (And.intro mixedP ?_) ?_) | refine Or.inl (And.intro mixedP ?_)); kernel_rfl) | simp only [go_sem,Nat.reduceEqDiff,Nat.reduceAdd,Nat.reduceMul,Nat.reduceLeDiff,Int.reduceBEq,Clause.ds,Lit.bx,decide_eq_true hjl2,List.getElem?_eq_getElem hjl2,hv,List.length_map])
                  all_goals first | omega | (unfold maxLen; omega) | (right; omega) | (left; simp; done) | (simp only [wk3,wkL2,wk2,wkL,wk1_d,wk1_own,wk1_nil,and_self]; done) | (intro i hi; simp only [upd]; (repeat' split); all_goals first | rfl | omega) | skip
                  exact ⟨(j + 1, ac2), ⟨hjl2, by show ac2.length ≤ 5 * 0 + 1 + (j + 1); omega, hJ⟩, Wk.of (by simp only [go_sem]) (by intro i hi; simp only [upd, Clause.ds, Lit.bx, List.length_map]; (repeat' split); all_goals first | rfl | omega) (hok3 _ _) (by omega) (by omega) (by simp only [go_sem]; omega), by show (c.head).args.length - (j + 1) < (c.head).args.length - j; omega⟩
              · obtain rfl : j = (c.head).args.length := by omega
                rw [List.drop_length, List.foldl_nil] at hJ
                rw [← hJ] at hI
                have hkq : ((0 : Nat) : Int) - 1 + 1 = ((0 + 1 : Nat) : Int) - 1 := by omega
                repeat' (first | (with_reducible first | refine XG_split (fun hq => ?_) (fun hq => ?_) | refine MX1.of 4000 (by simp) ?_ | refine MX2.of 4000 (by simp) ?_ | refine And.intro ?_ ?_) | ((with_reducible first | refine Or.inl (And.intro (And.intro mixedP ?_) ?_) | refine Or.inl (And.intro mixedP ?_)); kernel_rfl) | simp only [go_sem,Nat.reduceEqDiff,Nat.reduceAdd,Nat.reduceMul,Nat.reduceLeDiff,Int.reduceBEq,Clause.ds,Lit.bx,Nat.lt_irrefl,decide_false])
                all_goals first | omega | (unfold maxLen; omega) | (right; omega) | (left; simp; done) | (simp only [wk3,wkL2,wk2,wkL,wk1_d,wk1_own,wk1_nil,and_self]; done) | (intro i hi; simp only [upd]; (repeat' split); all_goals first | rfl | omega) | skip
                exact ⟨(0 + 1, ac2), ⟨by show 0 + 1 ≤ c.body.length + 1; omega, by show ac2.length ≤ 5 * (0 + 1); omega, hI⟩, Wk.of (by simp only [go_sem]; exact .inr (wk_v rfl)) (by intro i hi; simp only [upd, Clause.ds, Lit.bx, List.length_map]; (repeat' split); all_goals first | rfl | omega) (hok2 _) (by omega) (by omega) (by simp only [go_sem]; omega), by show c.body.length + 1 - (0 + 1) < c.body.length + 1 - 0; omega⟩
         | false =>
           have hw' : ¬ 0 < c.head.who.var.size := of_decide_eq_false hw
           have hpt : putT acc c.head.who = acc := if_neg hw'
           repeat' (first | (with_reducible first | refine XG_split (fun hq => ?_) (fun hq => ?_) | refine MX1.of 4000 (by simp) ?_ | refine MX2.of 4000 (by simp) ?_ | refine And.intro ?_ ?_) | ((with_reducible first | refine Or.inl (And.intro (And.intro mixedP ?_) ?_) | refine Or.inl (And.intro mixedP ?_)); kernel_rfl) | simp only [go_sem,Nat.reduceEqDiff,Nat.reduceAdd,Nat.reduceMul,Nat.reduceLeDiff,Int.reduceBEq,Clause.ds,Lit.bx,Term.cells,hlt,hge,hge',hlt',hw,List.length_map,Lit.cells])
           all_goals first | omega | (unfold maxLen; omega) | (right; omega) | (left; simp; done) | (simp only [wk3,wkL2,wk2,wkL,wk1_d,wk1_own,wk1_nil,and_self]; done) | (intro i hi; simp only [upd]; (repeat' split); all_goals first | rfl | omega) | skip
           all_goals
            refine AW.loopJ (E := EqT.no _) (S := fun y : Nat × List ByteArray => ⟨fr [(1, .p n 0), (3, .own (n + 1) 1 (y.2.map strRow)), (4, vI (((0 : Nat) : Int) - 1)), (5, .p (n + 1 + 1) 0), (6, vI y.1)] (List.replicate 60 .any), upd (upd (upd h n (.box c.ds)) (n + 1) (.tok y.2.length 1)) (n + 1 + 1) (.box (c.head).bx), n, n + 1 + 1 + 1⟩)
             (I := fun y => y.1 ≤ (c.head).args.length ∧ y.2.length ≤ 5 * 0 + 1 + y.1 ∧ ((c.head).args.drop y.1).foldl putT y.2 = litVs acc (c.head)) (μ := fun y => (c.head).args.length - y.1) (0, putT acc (c.head).who) ⟨Nat.zero_le _, by have := putT_len acc (c.head).who; show (putT acc (c.head).who).length ≤ 5 * 0 + 1 + 0; omega, rfl⟩ ?_ 4000 (fun _ => by simp only [fr_len, List.length_replicate]; decide) ?_
            · exact Wk.of (by simp only [go_sem, hpt]) (by intro i hi; simp only [upd, Clause.ds, Lit.bx, Lit.cells, List.map_cons, List.map_nil, hpt, List.length_map]; (repeat' split); all_goals first | rfl | omega) (hok3 _ _) (by omega) (by omega) (by simp only [go_sem]; omega)
            · rintro ⟨j, ac2⟩ ⟨hj, hjl, hJ⟩
              simp only at hj hjl hJ
              rcases Nat.lt_or_ge j (c.head).args.length with hjl2 | hjl2
              · rw [List.drop_eq_getElem_cons hjl2, List.foldl_cons] at hJ
                have hpl := putT_len ac2 (c.head).args[j]
                cases hv : decide (0 < (c.head).args[j].var.size) with
                | true =>
                  have hp2 : putT ac2 (c.head).args[j] = putL ac2 (c.head).args[j].var := if_pos (of_decide_eq_true hv)
                  rw [hp2] at hJ hpl
                  repeat' (first | (with_reducible first | refine XG_split (fun hq => ?_) (fun hq => ?_) | refine MX1.of 4000 (by simp) ?_ | refine MX2.of 4000 (by simp) ?_ | refine And.intro ?_ ?_) | ((with_reducible first | refine Or.inl (And.intro (And.intro mixedP ?_) ?_) | refine Or.inl (And.intro mixedP ?_)); kernel_rfl) | simp only [go_sem,Nat.reduceEqDiff,Nat.reduceAdd,Nat.reduceMul,Nat.reduceLeDiff,Int.reduceBEq,Clause.ds,Lit.bx,decide_eq_true hjl2,List.getElem?_eq_getElem hjl2,hv,List.length_map])
                  all_goals first | omega | (unfold maxLen; omega) | (right; omega) | (left; simp; done) | (simp only [wk3,wkL2,wk2,wkL,wk1_d,wk1_own,wk1_nil,and_self]; done) | (intro i hi; simp only [upd]; (repeat' split); all_goals first | rfl | omega) | skip
                  exact ⟨(j + 1, putL ac2 (c.head).args[j].var), ⟨hjl2, by show (putL ac2 (c.head).args[j].var).length ≤ 5 * 0 + 1 + (j + 1); omega, hJ⟩, Wk.of (by simp only [go_sem]) (by intro i hi; simp only [upd, Clause.ds, Lit.bx, List.length_map]; (repeat' split); all_goals first | rfl | omega) (hok3 _ _) (by omega) (by omega) (by simp only [go_sem]; omega), by show (c.head).args.length - (j + 1) < (c.head).args.length - j; omega⟩
                | false =>
                  have hp2 : putT ac2 (c.head).args[j] = ac2 := if_neg (of_decide_eq_false hv)
                  rw [hp2] at hJ
                  repeat' (first | (with_reducible first | refine XG_split (fun hq => ?_) (fun hq => ?_) | refine MX1.of 4000 (by simp) ?_ | refine MX2.of 4000 (by simp) ?_ | refine And.intro ?_ ?_) | ((with_reducible first | refine Or.inl (And.intro (And.intro mixedP ?_) ?_) | refine Or.inl (And.intro mixedP ?_)); kernel_rfl) | simp only [go_sem,Nat.reduceEqDiff,Nat.reduceAdd,Nat.reduceMul,Nat.reduceLeDiff,Int.reduceBEq,Clause.ds,Lit.bx,decide_eq_true hjl2,List.getElem?_eq_getElem hjl2,hv,List.length_map])
                  all_goals first | omega | (unfold maxLen; omega) | (right; omega) | (left; simp; done) | (simp only [wk3,wkL2,wk2,wkL,wk1_d,wk1_own,wk1_nil,and_self]; done) | (intro i hi; simp only [upd]; (repeat' split); all_goals first | rfl | omega) | skip
                  exact ⟨(j + 1, ac2), ⟨hjl2, by show ac2.length ≤ 5 * 0 + 1 + (j + 1); omega, hJ⟩, Wk.of (by simp only [go_sem]) (by intro i hi; simp only [upd, Clause.ds, Lit.bx, List.length_map]; (repeat' split); all_goals first | rfl | omega) (hok3 _ _) (by omega) (by omega) (by simp only [go_sem]; omega), by show (c.head).args.length - (j + 1) < (c.head).args.length - j; omega⟩
              · obtain rfl : j = (c.head).args.length := by omega
                rw [List.drop_length, List.foldl_nil] at hJ
                rw [← hJ] at hI
                have hkq : ((0 : Nat) : Int) - 1 + 1 = ((0 + 1 : Nat) : Int) - 1 := by omega
                repeat' (first | (with_reducible first | refine XG_split (fun hq => ?_) (fun hq => ?_) | refine MX1.of 4000 (by simp) ?_ | refine MX2.of 4000 (by simp) ?_ | refine And.intro ?_ ?_) | ((with_reducible first | refine Or.inl (And.intro (And.intro mixedP ?_) ?_) | refine Or.inl (And.intro mixedP ?_)); kernel_rfl) | simp only [go_sem,Nat.reduceEqDiff,Nat.reduceAdd,Nat.reduceMul,Nat.reduceLeDiff,Int.reduceBEq,Clause.ds,Lit.bx,Nat.lt_irrefl,decide_false])
                all_goals first | omega | (unfold maxLen; omega) | (right; omega) | (left; simp; done) | (simp only [wk3,wkL2,wk2,wkL,wk1_d,wk1_own,wk1_nil,and_self]; done) | (intro i hi; simp only [upd]; (repeat' split); all_goals first | rfl | omega) | skip
                exact ⟨(0 + 1, ac2), ⟨by show 0 + 1 ≤ c.body.length + 1; omega, by show ac2.length ≤ 5 * (0 + 1); omega, hI⟩, Wk.of (by simp only [go_sem]; exact .inr (wk_v rfl)) (by intro i hi; simp only [upd, Clause.ds, Lit.bx, List.length_map]; (repeat' split); all_goals first | rfl | omega) (hok2 _) (by omega) (by omega) (by simp only [go_sem]; omega), by show c.body.length + 1 - (0 + 1) < c.body.length + 1 - 0; omega⟩
       · have hge : decide ((0 : Int) ≤ (k : Int) - 1) = true := decide_eq_true (by omega)
         have hidx : ((k : Int) - 1).toNat = k - 1 := by omega
         have hkb : k - 1 < c.body.length := by omega
         have hLk : (c.head :: c.body)[k] = c.body[k - 1] := by
          obtain ⟨m, rfl⟩ : ∃ m, k = m + 1 := ⟨k - 1, by omega⟩
          rfl
         rw [hLk] at hI hmem
         cases hw : decide (0 < c.body[k - 1].who.var.size) with
         | true =>
           have hw' : 0 < c.body[k - 1].who.var.size := of_decide_eq_true hw
           have hpt : putT acc c.body[k - 1].who = putL acc c.body[k - 1].who.var := if_pos hw'
           repeat' (first | (with_reducible first | refine XG_split (fun hq => ?_) (fun hq => ?_) | refine MX1.of 4000 (by simp) ?_ | refine MX2.of 4000 (by simp) ?_ | refine And.intro ?_ ?_) | ((with_reducible first | refine Or.inl (And.intro (And.intro mixedP ?_) ?_) | refine Or.inl (And.intro mixedP ?_)); kernel_rfl) | simp only [go_sem,Nat.reduceEqDiff,Nat.reduceAdd,Nat.reduceMul,Nat.reduceLeDiff,Int.reduceBEq,Clause.ds,Lit.bx,Term.cells,hlt,hge,hidx,List.getElem?_eq_getElem hkb,hw,List.length_map,Lit.cells])
           all_goals first | omega | (unfold maxLen; omega) | (right; omega) | (left; simp; done) | (simp only [wk3,wkL2,wk2,wkL,wk1_d,wk1_own,wk1_nil,and_self]; done) | (intro i hi; simp only [upd]; (repeat' split); all_goals first | rfl | omega) | skip
           all_goals
            refine AW.loopJ (E := EqT.no _) (S := fun y : Nat × List ByteArray => ⟨fr [(1, .p n 0), (3, .own (n + 1) 1 (y.2.map strRow)), (4, vI ((k : Int) - 1)), (5, .p (n + 1 + 1) 0), (6, vI y.1)] (List.replicate 60 .any), upd (upd (upd h n (.box c.ds)) (n + 1) (.tok y.2.length 1)) (n + 1 + 1) (.box (c.body[k - 1]).bx), n, n + 1 + 1 + 1⟩)
             (I := fun y => y.1 ≤ (c.body[k - 1]).args.length ∧ y.2.length ≤ 5 * k + 1 + y.1 ∧ ((c.body[k - 1]).args.drop y.1).foldl putT y.2 = litVs acc (c.body[k - 1])) (μ := fun y => (c.body[k - 1]).args.length - y.1) (0, putT acc (c.body[k - 1]).who) ⟨Nat.zero_le _, by have := putT_len acc (c.body[k - 1]).who; show (putT acc (c.body[k - 1]).who).length ≤ 5 * k + 1 + 0; omega, rfl⟩ ?_ 4000 (fun _ => by simp only [fr_len, List.length_replicate]; decide) ?_
            · exact Wk.of (by simp only [go_sem, hpt]) (by intro i hi; simp only [upd, Clause.ds, Lit.bx, Lit.cells, List.map_cons, List.map_nil, hpt, List.length_map]; (repeat' split); all_goals first | rfl | omega) (hok3 _ _) (by omega) (by omega) (by simp only [go_sem]; omega)
            · rintro ⟨j, ac2⟩ ⟨hj, hjl, hJ⟩
              simp only at hj hjl hJ
              rcases Nat.lt_or_ge j (c.body[k - 1]).args.length with hjl2 | hjl2
              · rw [List.drop_eq_getElem_cons hjl2, List.foldl_cons] at hJ
                have hpl := putT_len ac2 (c.body[k - 1]).args[j]
                cases hv : decide (0 < (c.body[k - 1]).args[j].var.size) with
                | true =>
                  have hp2 : putT ac2 (c.body[k - 1]).args[j] = putL ac2 (c.body[k - 1]).args[j].var := if_pos (of_decide_eq_true hv)
                  rw [hp2] at hJ hpl
                  repeat' (first | (with_reducible first | refine XG_split (fun hq => ?_) (fun hq => ?_) | refine MX1.of 4000 (by simp) ?_ | refine MX2.of 4000 (by simp) ?_ | refine And.intro ?_ ?_) | ((with_reducible first | refine Or.inl (And.intro (And.intro mixedP ?_) ?_) | refine Or.inl (And.intro mixedP ?_)); kernel_rfl) | simp only [go_sem,Nat.reduceEqDiff,Nat.reduceAdd,Nat.reduceMul,Nat.reduceLeDiff,Int.reduceBEq,Clause.ds,Lit.bx,decide_eq_true hjl2,List.getElem?_eq_getElem hjl2,hv,List.length_map])
                  all_goals first | omega | (unfold maxLen; omega) | (right; omega) | (left; simp; done) | (simp only [wk3,wkL2,wk2,wkL,wk1_d,wk1_own,wk1_nil,and_self]; done) | (intro i hi; simp only [upd]; (repeat' split); all_goals first | rfl | omega) | skip
                  exact ⟨(j + 1, putL ac2 (c.body[k - 1]).args[j].var), ⟨hjl2, by show (putL ac2 (c.body[k - 1]).args[j].var).length ≤ 5 * k + 1 + (j + 1); omega, hJ⟩, Wk.of (by simp only [go_sem]) (by intro i hi; simp only [upd, Clause.ds, Lit.bx, List.length_map]; (repeat' split); all_goals first | rfl | omega) (hok3 _ _) (by omega) (by omega) (by simp only [go_sem]; omega), by show (c.body[k - 1]).args.length - (j + 1) < (c.body[k - 1]).args.length - j; omega⟩
                | false =>
                  have hp2 : putT ac2 (c.body[k - 1]).args[j] = ac2 := if_neg (of_decide_eq_false hv)
                  rw [hp2] at hJ
                  repeat' (first | (with_reducible first | refine XG_split (fun hq => ?_) (fun hq => ?_) | refine MX1.of 4000 (by simp) ?_ | refine MX2.of 4000 (by simp) ?_ | refine And.intro ?_ ?_) | ((with_reducible first | refine Or.inl (And.intro (And.intro mixedP ?_) ?_) | refine Or.inl (And.intro mixedP ?_)); kernel_rfl) | simp only [go_sem,Nat.reduceEqDiff,Nat.reduceAdd,Nat.reduceMul,Nat.reduceLeDiff,Int.reduceBEq,Clause.ds,Lit.bx,decide_eq_true hjl2,List.getElem?_eq_getElem hjl2,hv,List.length_map])
                  all_goals first | omega | (unfold maxLen; omega) | (right; omega) | (left; simp; done) | (simp only [wk3,wkL2,wk2,wkL,wk1_d,wk1_own,wk1_nil,and_self]; done) | (intro i hi; simp only [upd]; (repeat' split); all_goals first | rfl | omega) | skip
                  exact ⟨(j + 1, ac2), ⟨hjl2, by show ac2.length ≤ 5 * k + 1 + (j + 1); omega, hJ⟩, Wk.of (by simp only [go_sem]) (by intro i hi; simp only [upd, Clause.ds, Lit.bx, List.length_map]; (repeat' split); all_goals first | rfl | omega) (hok3 _ _) (by omega) (by omega) (by simp only [go_sem]; omega), by show (c.body[k - 1]).args.length - (j + 1) < (c.body[k - 1]).args.length - j; omega⟩
              · obtain rfl : j = (c.body[k - 1]).args.length := by omega
                rw [List.drop_length, List.foldl_nil] at hJ
                rw [← hJ] at hI
                have hkq : (k : Int) - 1 + 1 = ((k + 1 : Nat) : Int) - 1 := by omega
                repeat' (first | (with_reducible first | refine XG_split (fun hq => ?_) (fun hq => ?_) | refine MX1.of 4000 (by simp) ?_ | refine MX2.of 4000 (by simp) ?_ | refine And.intro ?_ ?_) | ((with_reducible first | refine Or.inl (And.intro (And.intro mixedP ?_) ?_) | refine Or.inl (And.intro mixedP ?_)); kernel_rfl) | simp only [go_sem,Nat.reduceEqDiff,Nat.reduceAdd,Nat.reduceMul,Nat.reduceLeDiff,Int.reduceBEq,Clause.ds,Lit.bx,Nat.lt_irrefl,decide_false])
                all_goals first | omega | (unfold maxLen; omega) | (right; omega) | (left; simp; done) | (simp only [wk3,wkL2,wk2,wkL,wk1_d,wk1_own,wk1_nil,and_self]; done) | (intro i hi; simp only [upd]; (repeat' split); all_goals first | rfl | omega) | skip
                exact ⟨(k + 1, ac2), ⟨by show k + 1 ≤ c.body.length + 1; omega, by show ac2.length ≤ 5 * (k + 1); omega, hI⟩, Wk.of (by simp only [go_sem, hkq]) (by intro i hi; simp only [upd, Clause.ds, Lit.bx, List.length_map]; (repeat' split); all_goals first | rfl | omega) (hok2 _) (by omega) (by omega) (by simp only [go_sem]; omega), by show c.body.length + 1 - (k + 1) < c.body.length + 1 - k; omega⟩
         | false =>
           have hw' : ¬ 0 < c.body[k - 1].who.var.size := of_decide_eq_false hw
           have hpt : putT acc c.body[k - 1].who = acc := if_neg hw'
           repeat' (first | (with_reducible first | refine XG_split (fun hq => ?_) (fun hq => ?_) | refine MX1.of 4000 (by simp) ?_ | refine MX2.of 4000 (by simp) ?_ | refine And.intro ?_ ?_) | ((with_reducible first | refine Or.inl (And.intro (And.intro mixedP ?_) ?_) | refine Or.inl (And.intro mixedP ?_)); kernel_rfl) | simp only [go_sem,Nat.reduceEqDiff,Nat.reduceAdd,Nat.reduceMul,Nat.reduceLeDiff,Int.reduceBEq,Clause.ds,Lit.bx,Term.cells,hlt,hge,hidx,List.getElem?_eq_getElem hkb,hw,List.length_map,Lit.cells])
           all_goals first | omega | (unfold maxLen; omega) | (right; omega) | (left; simp; done) | (simp only [wk3,wkL2,wk2,wkL,wk1_d,wk1_own,wk1_nil,and_self]; done) | (intro i hi; simp only [upd]; (repeat' split); all_goals first | rfl | omega) | skip
           all_goals
            refine AW.loopJ (E := EqT.no _) (S := fun y : Nat × List ByteArray => ⟨fr [(1, .p n 0), (3, .own (n + 1) 1 (y.2.map strRow)), (4, vI ((k : Int) - 1)), (5, .p (n + 1 + 1) 0), (6, vI y.1)] (List.replicate 60 .any), upd (upd (upd h n (.box c.ds)) (n + 1) (.tok y.2.length 1)) (n + 1 + 1) (.box (c.body[k - 1]).bx), n, n + 1 + 1 + 1⟩)
             (I := fun y => y.1 ≤ (c.body[k - 1]).args.length ∧ y.2.length ≤ 5 * k + 1 + y.1 ∧ ((c.body[k - 1]).args.drop y.1).foldl putT y.2 = litVs acc (c.body[k - 1])) (μ := fun y => (c.body[k - 1]).args.length - y.1) (0, putT acc (c.body[k - 1]).who) ⟨Nat.zero_le _, by have := putT_len acc (c.body[k - 1]).who; show (putT acc (c.body[k - 1]).who).length ≤ 5 * k + 1 + 0; omega, rfl⟩ ?_ 4000 (fun _ => by simp only [fr_len, List.length_replicate]; decide) ?_
            · exact Wk.of (by simp only [go_sem, hpt]) (by intro i hi; simp only [upd, Clause.ds, Lit.bx, Lit.cells, List.map_cons, List.map_nil, hpt, List.length_map]; (repeat' split); all_goals first | rfl | omega) (hok3 _ _) (by omega) (by omega) (by simp only [go_sem]; omega)
            · rintro ⟨j, ac2⟩ ⟨hj, hjl, hJ⟩
              simp only at hj hjl hJ
              rcases Nat.lt_or_ge j (c.body[k - 1]).args.length with hjl2 | hjl2
              · rw [List.drop_eq_getElem_cons hjl2, List.foldl_cons] at hJ
                have hpl := putT_len ac2 (c.body[k - 1]).args[j]
                cases hv : decide (0 < (c.body[k - 1]).args[j].var.size) with
                | true =>
                  have hp2 : putT ac2 (c.body[k - 1]).args[j] = putL ac2 (c.body[k - 1]).args[j].var := if_pos (of_decide_eq_true hv)
                  rw [hp2] at hJ hpl
                  repeat' (first | (with_reducible first | refine XG_split (fun hq => ?_) (fun hq => ?_) | refine MX1.of 4000 (by simp) ?_ | refine MX2.of 4000 (by simp) ?_ | refine And.intro ?_ ?_) | ((with_reducible first | refine Or.inl (And.intro (And.intro mixedP ?_) ?_) | refine Or.inl (And.intro mixedP ?_)); kernel_rfl) | simp only [go_sem,Nat.reduceEqDiff,Nat.reduceAdd,Nat.reduceMul,Nat.reduceLeDiff,Int.reduceBEq,Clause.ds,Lit.bx,decide_eq_true hjl2,List.getElem?_eq_getElem hjl2,hv,List.length_map])
                  all_goals first | omega | (unfold maxLen; omega) | (right; omega) | (left; simp; done) | (simp only [wk3,wkL2,wk2,wkL,wk1_d,wk1_own,wk1_nil,and_self]; done) | (intro i hi; simp only [upd]; (repeat' split); all_goals first | rfl | omega) | skip
                  exact ⟨(j + 1, putL ac2 (c.body[k - 1]).args[j].var), ⟨hjl2, by show (putL ac2 (c.body[k - 1]).args[j].var).length ≤ 5 * k + 1 + (j + 1); omega, hJ⟩, Wk.of (by simp only [go_sem]) (by intro i hi; simp only [upd, Clause.ds, Lit.bx, List.length_map]; (repeat' split); all_goals first | rfl | omega) (hok3 _ _) (by omega) (by omega) (by simp only [go_sem]; omega), by show (c.body[k - 1]).args.length - (j + 1) < (c.body[k - 1]).args.length - j; omega⟩
                | false =>
                  have hp2 : putT ac2 (c.body[k - 1]).args[j] = ac2 := if_neg (of_decide_eq_false hv)
                  rw [hp2] at hJ
                  repeat' (first | (with_reducible first | refine XG_split (fun hq => ?_) (fun hq => ?_) | refine MX1.of 4000 (by simp) ?_ | refine MX2.of 4000 (by simp) ?_ | refine And.intro ?_ ?_) | ((with_reducible first | refine Or.inl (And.intro (And.intro mixedP ?_) ?_) | refine Or.inl (And.intro mixedP ?_)); kernel_rfl) | simp only [go_sem,Nat.reduceEqDiff,Nat.reduceAdd,Nat.reduceMul,Nat.reduceLeDiff,Int.reduceBEq,Clause.ds,Lit.bx,decide_eq_true hjl2,List.getElem?_eq_getElem hjl2,hv,List.length_map])
                  all_goals first | omega | (unfold maxLen; omega) | (right; omega) | (left; simp; done) | (simp only [wk3,wkL2,wk2,wkL,wk1_d,wk1_own,wk1_nil,and_self]; done) | (intro i hi; simp only [upd]; (repeat' split); all_goals first | rfl | omega) | skip
                  exact ⟨(j + 1, ac2), ⟨hjl2, by show ac2.length ≤ 5 * k + 1 + (j + 1); omega, hJ⟩, Wk.of (by simp only [go_sem]) (by intro i hi; simp only [upd, Clause.ds, Lit.bx, List.length_map]; (repeat' split); all_goals first | rfl | omega) (hok3 _ _) (by omega) (by omega) (by simp only [go_sem]; omega), by show (c.body[k - 1]).args.length - (j + 1) < (c.body[k - 1]).args.length - j; omega⟩
              · obtain rfl : j = (c.body[k - 1]).args.length := by omega
                rw [List.drop_length, List.foldl_nil] at hJ
                rw [← hJ] at hI
                have hkq : (k : Int) - 1 + 1 = ((k + 1 : Nat) : Int) - 1 := by omega
                repeat' (first | (with_reducible first | refine XG_split (fun hq => ?_) (fun hq => ?_) | refine MX1.of 4000 (by simp) ?_ | refine MX2.of 4000 (by simp) ?_ | refine And.intro ?_ ?_) | ((with_reducible first | refine Or.inl (And.intro (And.intro mixedP ?_) ?_) | refine Or.inl (And.intro mixedP ?_)); kernel_rfl) | simp only [go_sem,Nat.reduceEqDiff,Nat.reduceAdd,Nat.reduceMul,Nat.reduceLeDiff,Int.reduceBEq,Clause.ds,Lit.bx,Nat.lt_irrefl,decide_false])
                all_goals first | omega | (unfold maxLen; omega) | (right; omega) | (left; simp; done) | (simp only [wk3,wkL2,wk2,wkL,wk1_d,wk1_own,wk1_nil,and_self]; done) | (intro i hi; simp only [upd]; (repeat' split); all_goals first | rfl | omega) | skip
                exact ⟨(k + 1, ac2), ⟨by show k + 1 ≤ c.body.length + 1; omega, by show ac2.length ≤ 5 * (k + 1); omega, hI⟩, Wk.of (by simp only [go_sem, hkq]) (by intro i hi; simp only [upd, Clause.ds, Lit.bx, List.length_map]; (repeat' split); all_goals first | rfl | omega) (hok2 _) (by omega) (by omega) (by simp only [go_sem]; omega), by show c.body.length + 1 - (k + 1) < c.body.length + 1 - k; omega⟩
     · have hlt : decide ((k : Int) - 1 < (c.body.length : Int)) = false := decide_eq_false (by omega)
       rw [List.drop_eq_nil_iff.2 (by simp only [List.length_cons]; omega), List.foldl_nil] at hI
       repeat' (first | (with_reducible first | refine XG_split (fun hq => ?_) (fun hq => ?_) | refine MX1.of 4000 (by simp) ?_ | refine MX2.of 4000 (by simp) ?_ | refine And.intro ?_ ?_) | ((with_reducible first | refine Or.inl (And.intro (And.intro mixedP ?_) ?_) | refine Or.inl (And.intro mixedP ?_)); kernel_rfl) | simp only [go_sem,Nat.reduceEqDiff,Nat.reduceAdd,Nat.reduceMul,Nat.reduceLeDiff,Int.reduceBEq,Clause.ds,hlt,hI])
       all_goals first | omega | (unfold maxLen; omega) | (right; omega) | (left; simp; done) | (simp only [wk3,wkL2,wk2,wkL,wk1_d,wk1_own,wk1_nil,and_self]; done) | (intro i hi; simp only [upd]; (repeat' split); all_goals first | rfl | omega) | skip
end Go.Proofs.Ytdhocmakbapfpaa.M
end
section
namespace Go.Proofs.Ytdhocmakbapfpaa.M
open Go.R
theorem empty_str (s : ByteArray) : (s.toList == (⟨#[]⟩ : ByteArray).toList) = (s.size == 0) := by
 rw [Bool.eq_iff_iff, beq_iff_eq, beq_iff_eq]
 constructor
 · intro h; rw [toList_inj h]; rfl
 · intro h
   have : s = ⟨#[]⟩ := by
    obtain ⟨⟨l⟩⟩ := s
    cases l with
    | nil => rfl
    | cons a l => simp [ByteArray.size] at h
   rw [this]
abbrev nameS : Fs := .pureIf (fun _ => True) (g1 aStr fun s => vB (nameB s))
theorem name_ok : FsOk Try.prog 77 nameS := by
 refine FsOk.of_calls Try.func77 rfl (by kernel_rfl) ?_
 intro args r _ h
 obtain ⟨x, s, rfl, hx, rfl⟩ := g1_eq h
 obtain rfl := aStr_eq hx
 exact ⟨[.string s], _, rfl, fun _ _ _ => .d _ _ (.v _ rfl), fun w => (name_calls s w).mono fun e w' ⟨h1, h2⟩ => ⟨h1, by subst h2; exact Go.RowKit.Below.refl _ _⟩⟩
abbrev goodS : Fs := .pure (g1 aVal fun v => vB (goodV v))
theorem good_ok : FsOk Try.prog 96 goodS := by
 refine of_X1 (E := EqT.no _) (F := Ft.no.put 77 nameS) Val.av (fun _ _ => aVal_le) Try.func96 rfl (by kernel_rfl) [.tmp 2] rfl Try.ntmps96 (by decide) ((FtOk.no _).put name_ok) ?_
 intro v h n hok
 repeat' (first | (with_reducible refine XG_split (fun hq => ?_) (fun hq => ?_)) | (with_reducible refine Or.inl (And.intro (And.intro mixedP ?_) ?_); kernel_rfl) | (with_reducible refine MX1.of 4000 (by simp) ?_) | (with_reducible refine MX2.of 4000 (by simp) ?_) | (with_reducible refine And.intro ?_ ?_) | simp only [go_sem,Nat.reduceEqDiff,Nat.reduceAdd,Nat.reduceMul,Nat.reduceLeDiff,Val.av,empty_str])
 all_goals (refine wk_v (congrArg Value.bool ?_); simp [goodV, *])
end Go.Proofs.Ytdhocmakbapfpaa.M
end
section
namespace Go.Proofs.Ytdhocmakbapfpaa.M
open Go.R Go.Proofs.YtdhocmakbapfpaaW.PrintWords Go.Proofs.YtdhocmakbapfpaaW.PrintMore
theorem bytesOf_all (s : ByteArray) (p : Int → Bool) : (List.range s.size).all (fun i => p (byteAt s i)) = (bytesOf s).all p := by
 have key : ∀ k : Nat, k ≤ s.size → ((bytesOf s).drop (s.size - k)).all p = (List.range k).all fun i => p (byteAt s ((s.size - k + i : Nat) : Int)) := by
  intro k
  induction k with
  | zero => intro _; rw [Nat.sub_zero, List.drop_eq_nil_iff.2 (by rw [bytesOf_length]; exact Nat.le_refl _)]; rfl
  | succ k ih =>
    intro hk
    have h1 : s.size - (k + 1) < s.size := by omega
    rw [bytesOf_drop s _ h1, List.all_cons, show s.size - (k + 1) + 1 = s.size - k by omega, ih (by omega), List.range_succ_eq_map, List.all_cons, List.all_map, Nat.add_zero, byteAt_bt]
    congr 1
    congr 1
    funext i
    simp only [Function.comp]
    rw [show s.size - k + i = s.size - (k + 1) + (i + 1) by omega]
 have := key s.size (Nat.le_refl _)
 rw [Nat.sub_self, List.drop_zero] at this
 rw [this]
 simp only [Nat.zero_add]
theorem tw_len (p : Int → Bool) : ∀ l : List Int, (l.takeWhile p).length = l.length ↔ l.all p = true
 | [] => by simp
 | c :: l => by
   rw [List.takeWhile_cons, List.all_cons]
   cases hc : p c with
   | true =>
     rw [if_pos rfl, List.length_cons, List.length_cons, Bool.true_and, ← tw_len p l]
     omega
   | false => simp
theorem runTo_all {s : ByteArray} (h : 0 < s.size) (hc : pieceB (bt s 0) = true) : (runTo s 1 = s.size ↔ (bytesOf s).all pieceB = true) := by
 have hd := bytesOf_drop s 0 h
 rw [List.drop_zero] at hd
 have hl : ((bytesOf s).drop 1).length = s.size - 1 := by rw [List.length_drop, bytesOf_length]
 rw [hd, List.all_cons, show (bt s ((0 : Nat) : Int)) = bt s 0 from rfl, hc, Bool.true_and]
 unfold runTo
 rw [← tw_len, Nat.zero_add]
 have := (List.takeWhile_prefix pieceB (l := (bytesOf s).drop 1)).length_le
 omega
theorem upp_facts {c : Int} (h : uppB c = true) : 65 ≤ c ∧ c ≤ 90 ∧ pieceB c = true ∧ lowB c = false := by
 unfold uppB at h
 simp only [Bool.and_eq_true, decide_eq_true_eq] at h
 refine ⟨h.1, h.2, ?_, ?_⟩
 · unfold pieceB uppB
   simp [h.1, h.2]
 · unfold lowB
   have : ¬ 97 ≤ c := by omega
   simp [this]
theorem nameB_upp {s : ByteArray} (h : 0 < s.size) (hu : uppB (bt s 0) = true) : nameB s = false := by
 have hd := bytesOf_drop s 0 h
 rw [List.drop_zero] at hd
 unfold nameB
 rw [hd]
 have := (upp_facts hu).2.2.2
 rw [show bt s ((0 : Nat) : Int) = bt s 0 from rfl]
 simp [nameGo, this]
theorem word_upp {s : ByteArray} (h : 0 < s.size) (hu : uppB (bt s 0) = true) : (s.toList == [110, 111, 116] || s.toList == [115, 97, 121, 115]) = false := by
 have key : ∀ (c : UInt8) (t : List UInt8), s.toList = c :: t → bt s 0 = (c.toNat : Int) := by
  intro c t e
  rw [toList_eq] at e
  have hb : bytesOf s = (c.toNat : Int) :: t.map fun b => (b.toNat : Int) := by
   unfold bytesOf
   rw [e]
   rfl
  have := bytesOf_head s h
  rw [hb] at this
  simpa using this.symm
 rw [Bool.or_eq_false_iff]
 constructor
 · rw [beq_eq_false_iff_ne]
   intro e
   rw [key _ _ e] at hu
   cases hu
 · rw [beq_eq_false_iff_ne]
   intro e
   rw [key _ _ e] at hu
   cases hu
theorem sortK_upp {s : ByteArray} (h : 0 < s.size) (hu : uppB (bt s 0) = true) : (sortK s == 2) = decide (s.size ≤ 16) := by
 unfold sortK
 rw [word_upp h hu, nameB_upp h hu, hu, decide_eq_true h]
 by_cases h16 : s.size ≤ 16
 · have : decide ((s.size : Int) ≤ 16) = true := decide_eq_true (by omega)
   simp [this, h16]
 · have : decide ((s.size : Int) ≤ 16) = false := decide_eq_false (by omega)
   simp [this, h16]
   split <;> decide
theorem sortK_two {p : ByteArray} (h : sortK p = 2) : uppB (bt p 0) = true ∧ 0 < p.size := by
 unfold sortK at h
 split at h
 · cases h
 · split at h
   · cases h
   · split at h
     · rename_i hq
       simp only [Bool.and_eq_true, decide_eq_true_eq] at hq
       exact ⟨hq.1.2, hq.1.1⟩
     · split at h <;> cases h
theorem bt_extract {s : ByteArray} {q : Nat} (h : 0 < q) (hq : q ≤ s.size) : bt (s.extract 0 q) 0 = bt s 0 := by
 have h1 : 0 < (s.extract 0 q).size := by simp; omega
 have e1 := bytesOf_head _ h1
 have e2 := bytesOf_head s (by omega)
 rw [bytesOf_extract, List.drop_zero] at e1
 have hd := bytesOf_drop s 0 (by omega)
 rw [List.drop_zero] at hd
 obtain ⟨m, rfl⟩ : ∃ m, q = m + 1 := ⟨q - 1, by omega⟩
 rw [hd, List.take_succ_cons, List.head?_cons] at e1
 simpa using e1.symm
theorem extract_all (s : ByteArray) : s.extract 0 s.size = s := by
 refine bytesOf_inj ?_
 rw [bytesOf_extract, List.drop_zero, List.take_of_length_le (by rw [bytesOf_length]; exact Nat.le_refl _)]
theorem pieceTok_kind {s : ByteArray} {q : Nat} (h : 0 < q) (hq : q ≤ s.size) (hu : uppB (bt s 0) = false) : ((pieceTok s 0 q).1.kind == 2) = false := by
 unfold pieceTok
 split
 · rfl
 · rw [beq_eq_false_iff_ne]
   intro e
   have := (sortK_two e).1
   rw [bt_extract h hq, hu] at this
   cases this
theorem var_law (s : ByteArray) : ((oneT s 0).2 == 0 && (oneT s 0).1.kind == 2 && (oneT s 0).1.hi == (s.size : Int)) = varB s := by
 rcases Nat.eq_zero_or_pos s.size with h0 | h0
 · have : oneT s 0 = (Tok.z, 1) := by unfold oneT; rw [if_pos (by omega)]
   rw [this]
   unfold varB
   rw [h0]
   rfl
 have hv : varB s = (decide (s.size ≤ 16) && uppB (bt s 0) && (bytesOf s).all pieceB) := by
  unfold varB
  rw [decide_eq_true h0, Bool.true_and, bytesOf_all, byteAt_bt]
 rw [hv]
 have hb0 : bt s ((0 : Nat) : Int) = bt s 0 := rfl
 cases hu : uppB (bt s 0) with
 | true =>
   obtain ⟨u1, u2, u3, _⟩ := upp_facts hu
   have ho : oneT s 0 = pieceTok s 0 (runTo s (0 + 1)) := by
    unfold oneT
    rw [if_neg (by omega)]
    have e1 : (bt s 0 == 32 || bt s 0 == 9) = false := by
     rw [Bool.or_eq_false_iff, beq_eq_false_iff_ne, beq_eq_false_iff_ne]; omega
    have e2 : (bt s 0 == 45) = false := by rw [beq_eq_false_iff_ne]; omega
    simp only [hb0, e1, e2, u3, Bool.false_eq_true, if_false, if_true]
   rw [ho]
   have hq1 := runTo_ge s (0 + 1)
   have hq2 := runTo_le s (0 + 1) (by omega)
   have ha := runTo_all h0 u3
   cases hall : (bytesOf s).all pieceB with
   | true =>
     have hr : runTo s (0 + 1) = s.size := ha.2 hall
     rw [hr]
     unfold pieceTok
     rw [extract_all]
     have hk := sortK_upp h0 hu
     by_cases hk0 : sortK s = 0
     · rw [if_pos hk0]
       rw [hk0] at hk
       rw [← hk]
       rfl
     · rw [if_neg hk0]
       simp only [hk]
       simp
   | false =>
     have hr : runTo s (0 + 1) ≠ s.size := fun e => by rw [ha.1 e] at hall; cases hall
     simp only [Bool.and_false]
     unfold pieceTok
     split
     · rfl
     · simp only
       have : (((runTo s (0 + 1) : Nat) : Int) == (s.size : Int)) = false := by rw [beq_eq_false_iff_ne]; omega
       rw [this, Bool.and_false]
 | false =>
   simp only [Bool.and_false, Bool.false_and]
   have hk : ((oneT s 0).1.kind == 2) = false := by
    unfold oneT
    rw [if_neg (by omega)]
    simp only [hb0]
    have hq1 := runTo_ge s (0 + 1)
    have hq2 := runTo_le s (0 + 1) (by omega)
    repeat' split
    all_goals first | rfl | exact pieceTok_kind (by omega) hq2 hu
   rw [hk, Bool.and_false, Bool.false_and]
end Go.Proofs.Ytdhocmakbapfpaa.M
end
section
namespace Go.Proofs.Ytdhocmakbapfpaa.M
open Go.R Go.Proofs.YtdhocmakbapfpaaW.PrintWords Go.Proofs.YtdhocmakbapfpaaW.PrintMore
theorem noGuardV : Try.prog.eqGuardType Try.prog.depth 23 = false := by kernel_rfl
theorem equalIn_val (a a' : ByteArray) (n n' : Int) (w : World) : (Op.equalIn 10000 23 (.agg #[.string a, .int .i64 n]) (.agg #[.string a', .int .i64 n'])).run Try.prog w = .ok (a.toList == a'.toList && n == n') w := by
 rw [run_equalIn_agg w 9999 _ _ _ undV heldV, eqFields_map, e2]
 simp [go_sem, eqF3, und_s, und_i]
 by_cases h1 : a.toList = a'.toList <;> by_cases h3 : n = n' <;> simp [*]
def eqTV : EqT Try.prog := ⟨fun t us vs => if t = 23 then (match us, vs with
    | [.string a, .int .i64 n], [.string a', .int .i64 n'] => some (a.toList == a'.toList && n == n')
    | _, _ => none) else eqT.eq t us vs, fun t us vs b h op x y w => by
 split at h
 · rename_i e
   subst e
   split at h
   · cases h
     refine ⟨?_, ?_⟩ <;> (rintro rfl; simp only [Sem.run_bind, run_eqGuard_agg _ _ _ _ _ _ _ noGuardV, Result.andThen_ok, run_eql_struct, run_neq_struct, equalIn_val])
   · cases h
 · exact eqT.ok t us vs b h op x y w⟩
@[go_sem] theorem eqTV_val (a a' : ByteArray) (n n' : Int) : eqTV.eq 23 [.string a, .int .i64 n] [.string a', .int .i64 n'] = some (a.toList == a'.toList && n == n') := rfl
@[go_sem] theorem eqTV_term (a b a' b' : ByteArray) (n n' : Int) : eqTV.eq 25 [.string a, .string b, .int .i64 n] [.string a', .string b', .int .i64 n'] = some (a.toList == a'.toList && (b.toList == b'.toList && n == n')) := rfl
def szS (s : ByteArray) : Prop := s.size ≤ 1099511627776
def szT (t : Term) : Prop := szS t.var
def szL (l : Lit) : Prop := szT l.who ∧ l.args.length ≤ 1099511627776 ∧ ∀ t ∈ l.args, szT t
def szC (c : Clause) : Prop := szL c.head ∧ c.body.length ≤ 1099511627776 ∧ ∀ l ∈ c.body, szL l
abbrev lexOneS : Fs := .pureIf (g2p aStr aI64 fun s p => szS s ∧ 0 ≤ p) (g2 aStr aI64 fun s p => .tup [(oneT s p.toNat).1.av, vI (oneT s p.toNat).2])
theorem lexOne_ok : FsOk Try.prog 82 lexOneS := by
 refine FsOk.of_calls Try.func82 rfl (by kernel_rfl) ?_
 intro args r hp h
 obtain ⟨x, y, s, p, rfl, hx, hy, rfl⟩ := g2_eq h
 obtain rfl := aStr_eq hx
 have hy' : y = vI p := by
  unfold aI64 at hy
  split at hy
  · cases hy; rfl
  · cases hy
 subst hy'
 obtain ⟨hs, hp0⟩ := hp s rfl p rfl
 obtain ⟨q, rfl⟩ := Int.eq_ofNat_of_zero_le hp0
 refine ⟨[.string s, .int .i64 q], .tuple #[.agg #[.int .u8 (oneT s q).1.kind, .int .i64 (oneT s q).1.lo, .int .i64 (oneT s q).1.hi], .int .i64 (oneT s q).2], rfl, fun c h w => ?_, fun w => one_calls s q w (by unfold szS at hs; unfold maxLen; omega)⟩
 refine .tup [.agg #[.int .u8 (oneT s q).1.kind, .int .i64 (oneT s q).1.lo, .int .i64 (oneT s q).1.hi], .int .i64 (oneT s q).2] [(oneT s q).1.av, vI (oneT s q).2] rfl fun j v x hv hx => ?_
 match j with
 | 0 =>
   simp only [List.getElem?_cons_zero, Option.some.injEq] at hv hx
   subst hv; subst hx
   refine .agg [.int .u8 (oneT s q).1.kind, .int .i64 (oneT s q).1.lo, .int .i64 (oneT s q).1.hi] [.d (.v (.int .u8 (oneT s q).1.kind)), .d (.v (.int .i64 (oneT s q).1.lo)), .d (.v (.int .i64 (oneT s q).1.hi))] rfl fun j v x hv hx => ?_
   match j with
   | 0 => simp only [List.getElem?_cons_zero, Option.some.injEq] at hv hx; subst hv; subst hx; exact .d _ _ (.v _ rfl)
   | 1 => simp only [List.getElem?_cons_succ, List.getElem?_cons_zero, Option.some.injEq] at hv hx; subst hv; subst hx; exact .d _ _ (.v _ rfl)
   | 2 => simp only [List.getElem?_cons_succ, List.getElem?_cons_zero, Option.some.injEq] at hv hx; subst hv; subst hx; exact .d _ _ (.v _ rfl)
   | j + 3 => simp at hv
 | 1 =>
   simp only [List.getElem?_cons_succ, List.getElem?_cons_zero, Option.some.injEq] at hv hx
   subst hv; subst hx
   exact .d _ _ (.v _ rfl)
 | j + 2 => simp at hv
abbrev variableS : Fs := .pureIf (g1p aStr szS) (g1 aStr fun s => vB (varB s))
abbrev ptermS : Fs := .pureIf (g1p aTerm szT) (g1 aTerm fun t => vB (termB t))
abbrev notTermS : Fs := .pureIf (g1p aTerm szT) (g1 aTerm fun t => vB (!termB t))
def aFn (f : FuncId) : AV → Option Unit
 | .fn (.func g) [] [] => if g = f then some () else none
 | _ => none
theorem aFn_le {f : FuncId} {x : AV} {u : Unit} (h : aFn f x = some u) : AV.le x (.fn (.func f) [] []) := by
 unfold aFn at h
 split at h
 · split at h
   · rename_i e; subst e; exact AV.le.refl _
   · cases h
 · cases h
@[go_sem] theorem aFn_self (f : FuncId) : aFn f (.fn (.func f) [] []) = some () := by simp [aFn]
def idxL {α : Type} (p : α → Bool) (l : List α) : Int := if l.any p then ((l.findIdx p : Nat) : Int) else -1
abbrev idxTermS : Fs := .pureIf (g2p aTerms (aFn 79) fun l _ => l.length ≤ 1099511627776 ∧ ∀ t ∈ l, szT t) (g2 aTerms (aFn 79) fun l _ => vI (idxL (fun t => !termB t) l))
abbrev hasTermS : Fs := .pureIf (g2p aTerms (aFn 79) fun l _ => l.length ≤ 1099511627776 ∧ ∀ t ∈ l, szT t) (g2 aTerms (aFn 79) fun l _ => vB (l.any fun t => !termB t))
abbrev patomS : Fs := .pureIf (g1p aLit szL) (g1 aLit fun l => vB (saidB l))
abbrev pliteralS : Fs := .pureIf (g1p aLit szL) (g1 aLit fun l => vB (literalB l))
abbrev pcheckLitS : Fs := .pureIf (g1p aLit szL) (g1 aLit fun l => vB (checkLitB l))
abbrev notLitS : Fs := .pureIf (g1p aLit szL) (g1 aLit fun l => vB (!literalB l))
abbrev idxLitS : Fs := .pureIf (g2p aLits (aFn 52) fun l _ => l.length ≤ 1099511627776 ∧ ∀ t ∈ l, szL t) (g2 aLits (aFn 52) fun l _ => vI (idxL (fun t => !literalB t) l))
abbrev hasLitS : Fs := .pureIf (g2p aLits (aFn 52) fun l _ => l.length ≤ 1099511627776 ∧ ∀ t ∈ l, szL t) (g2 aLits (aFn 52) fun l _ => vB (l.any fun t => !literalB t))
abbrev pcheckS : Fs := .pureIf (g1p aClause szC) (g1 aClause fun c => vB (checkB c))
theorem idx_ge {α : Type} (p : α → Bool) (l : List α) : decide ((0 : Int) ≤ idxL p l) = l.any p := by
 unfold idxL
 cases h : l.any p with
 | true => simp
 | false => simp
theorem idx_hit {α : Type} {p : α → Bool} {l : List α} {k : Nat} (hk : k < l.length) (hp : p l[k] = true) (h : ∀ i, (hi : i < k) → p (l[i]'(by omega)) = false) : idxL p l = k := by
 unfold idxL
 have ha : l.any p = true := List.any_eq_true.2 ⟨l[k], List.getElem_mem hk, hp⟩
 rw [if_pos ha]
 congr 1
 exact (List.findIdx_eq hk).2 ⟨hp, fun j hj => h j hj⟩
theorem idx_miss {α : Type} {p : α → Bool} {l : List α} (h : ∀ i, (hi : i < l.length) → p l[i] = false) : idxL p l = -1 := by
 unfold idxL
 have ha : l.any p = false := by
  rw [List.any_eq_false]
  intro x hx
  obtain ⟨i, hi, rfl⟩ := List.getElem_of_mem hx
  simp [h i hi]
 rw [ha]
 rfl
set_option maxRecDepth 10000 in
set_option maxHeartbeats 2000000 in
theorem variable_ok : FsOk Try.prog 95 variableS := by
 refine of_Y1 (E := EqT.no _) (F := Ft.no.put 82 lexOneS) vS (fun _ _ => aStr_le) Try.func95 rfl (by kernel_rfl) [.tmp 2] rfl Try.ntmps95 (by decide) ((FtOk.no _).put lexOne_ok) ?_
 intro s h n hp hok
 have hv := var_law s
 repeat' (first | (with_reducible first | refine XG_split (fun hq => ?_) (fun hq => ?_) | refine MX1.of 4000 (by simp) ?_ | refine MX2.of 4000 (by simp) ?_ | refine And.intro ?_ ?_) | ((with_reducible first | refine Or.inl (And.intro (And.intro mixedP ?_) ?_) | refine Or.inl (And.intro mixedP ?_)); kernel_rfl) | simp only [go_sem,Nat.reduceEqDiff,Nat.reduceAdd,Nat.reduceMul,Nat.reduceLeDiff,Int.reduceBEq,Tok.av])
 all_goals first | exact ⟨hp, Int.le_refl _⟩ | skip
 all_goals first | omega | (unfold maxLen; omega) | (right; omega) | (left; simp; done) | (simp only [wk3,wkL2,wk2,wkL,wk1_d,wk1_own,wk1_nil,and_self]; done) | (intro i hi; simp only [upd]; (repeat' split); all_goals first | rfl | omega) | skip
 all_goals (refine wk_v (congrArg Value.bool ?_); rw [← hv]; simp [*])
set_option maxRecDepth 10000 in
set_option maxHeartbeats 2000000 in
theorem pterm_ok : FsOk Try.prog 76 ptermS := by
 refine of_Y1 (E := eqTV) (F := (Ft.no.put 95 variableS).put 96 goodS) Term.av (fun _ _ => aTerm_le) Try.func76 rfl (by kernel_rfl) [.tmp 2] rfl Try.ntmps76 (by decide) (((FtOk.no _).put variable_ok).put good_ok) ?_
 intro t h n hp hok
 cases hv : t.var.size == 0 with
 | true =>
   have hT : termB t = goodV t.val := by unfold termB; rw [if_neg (by have := beq_iff_eq.1 hv; omega)]
   repeat' (first | (with_reducible first | refine XG_split (fun hq => ?_) (fun hq => ?_) | refine MX1.of 4000 (by simp) ?_ | refine MX2.of 4000 (by simp) ?_ | refine And.intro ?_ ?_) | ((with_reducible first | refine Or.inl (And.intro (And.intro mixedP ?_) ?_) | refine Or.inl (And.intro mixedP ?_)); kernel_rfl) | simp only [go_sem,Nat.reduceEqDiff,Nat.reduceAdd,Nat.reduceMul,Nat.reduceLeDiff,Int.reduceBEq,Term.av,empty_str,hv,hT,cvals,cval])
   all_goals first | omega | (unfold maxLen; omega) | (right; omega) | (left; simp; done) | (simp only [wk3,wkL2,wk2,wkL,wk1_d,wk1_own,wk1_nil,and_self]; done) | (intro i hi; simp only [upd]; (repeat' split); all_goals first | rfl | omega) | skip
 | false =>
   have hT : termB t = (varB t.var && (t.val.sym.size == 0 && t.val.num == 0)) := by unfold termB; rw [if_pos (by have := beq_eq_false_iff_ne.1 hv; omega)]
   cases hw : (t.val.sym.size == 0 && t.val.num == 0) with
   | true =>
     repeat' (first | (with_reducible first | refine XG_split (fun hq => ?_) (fun hq => ?_) | refine MX1.of 4000 (by simp) ?_ | refine MX2.of 4000 (by simp) ?_ | refine And.intro ?_ ?_) | ((with_reducible first | refine Or.inl (And.intro (And.intro mixedP ?_) ?_) | refine Or.inl (And.intro mixedP ?_)); kernel_rfl) | simp only [go_sem,Nat.reduceEqDiff,Nat.reduceAdd,Nat.reduceMul,Nat.reduceLeDiff,Int.reduceBEq,Term.av,empty_str,hv,hT,hw,cvals,cval,Bool.and_true,Bool.and_false])
     all_goals first | exact hp | skip
     all_goals first | omega | (unfold maxLen; omega) | (right; omega) | (left; simp; done) | (simp only [wk3,wkL2,wk2,wkL,wk1_d,wk1_own,wk1_nil,and_self]; done) | (intro i hi; simp only [upd]; (repeat' split); all_goals first | rfl | omega) | skip
   | false =>
     repeat' (first | (with_reducible first | refine XG_split (fun hq => ?_) (fun hq => ?_) | refine MX1.of 4000 (by simp) ?_ | refine MX2.of 4000 (by simp) ?_ | refine And.intro ?_ ?_) | ((with_reducible first | refine Or.inl (And.intro (And.intro mixedP ?_) ?_) | refine Or.inl (And.intro mixedP ?_)); kernel_rfl) | simp only [go_sem,Nat.reduceEqDiff,Nat.reduceAdd,Nat.reduceMul,Nat.reduceLeDiff,Int.reduceBEq,Term.av,empty_str,hv,hT,hw,cvals,cval,Bool.and_true,Bool.and_false])
     all_goals first | omega | (unfold maxLen; omega) | (right; omega) | (left; simp; done) | (simp only [wk3,wkL2,wk2,wkL,wk1_d,wk1_own,wk1_nil,and_self]; done) | (intro i hi; simp only [upd]; (repeat' split); all_goals first | rfl | omega) | skip
set_option maxRecDepth 10000 in
set_option maxHeartbeats 2000000 in
theorem notTerm_ok : FsOk Try.prog 79 notTermS := by
 refine of_Y1 (E := EqT.no _) (F := Ft.no.put 76 ptermS) Term.av (fun _ _ => aTerm_le) Try.func79 rfl (by kernel_rfl) [.tmp 2] rfl Try.ntmps79 (by decide) ((FtOk.no _).put pterm_ok) ?_
 intro t h n hp hok
 repeat' (first | (with_reducible first | refine XG_split (fun hq => ?_) (fun hq => ?_) | refine MX1.of 4000 (by simp) ?_ | refine MX2.of 4000 (by simp) ?_ | refine And.intro ?_ ?_) | ((with_reducible first | refine Or.inl (And.intro (And.intro mixedP ?_) ?_) | refine Or.inl (And.intro mixedP ?_)); kernel_rfl) | simp only [go_sem,Nat.reduceEqDiff,Nat.reduceAdd,Nat.reduceMul,Nat.reduceLeDiff,Int.reduceBEq,Term.av])
 all_goals first | exact hp | skip
 all_goals first | omega | (unfold maxLen; omega) | (right; omega) | (left; simp; done) | (simp only [wk3,wkL2,wk2,wkL,wk1_d,wk1_own,wk1_nil,and_self]; done) | (intro i hi; simp only [upd]; (repeat' split); all_goals first | rfl | omega) | skip
set_option maxRecDepth 10000 in
set_option maxHeartbeats 2000000 in
theorem idxTerm_ok : FsOk Try.prog 97 idxTermS := by
 refine of_Y2 (E := EqT.no _) (F := Ft.no.put 79 notTermS) (fun l => .d (.sl 3 (l.map Term.cells))) (fun _ => .fn (.func 79) [] []) (fun _ _ => aTerms_le) (fun _ _ => aFn_le) Try.func97 rfl (by kernel_rfl) [.tmp 4] rfl Try.ntmps97 (by decide) ((FtOk.no _).put notTerm_ok) ?_
 intro l u h n hp hok
 obtain ⟨hl, hsz⟩ := hp
 repeat' (first | (with_reducible first | refine XG_split (fun hq => ?_) (fun hq => ?_) | refine MX1.of 4000 (by simp) ?_ | refine MX2.of 4000 (by simp) ?_ | refine And.intro ?_ ?_) | ((with_reducible first | refine Or.inl (And.intro (And.intro mixedP ?_) ?_) | refine Or.inl (And.intro mixedP ?_)); kernel_rfl) | simp only [go_sem,Nat.reduceEqDiff,Nat.reduceAdd,Nat.reduceMul,Nat.reduceLeDiff,Int.reduceBEq])
 all_goals first | omega | (unfold maxLen; omega) | (right; omega) | (left; simp; done) | (simp only [wk3,wkL2,wk2,wkL,wk1_d,wk1_own,wk1_nil,and_self]; done) | (intro i hi; simp only [upd]; (repeat' split); all_goals first | rfl | omega) | skip
 refine AW.loopJ (E := EqT.no _) (S := fun k : Nat => ⟨fr [(0, .d (.sl 3 (l.map Term.cells))), (1, .fn (.func 79) [] []), (7, vI l.length), (8, vI k)] (List.replicate 19 .any), h, n, n⟩) (I := fun k => k ≤ l.length ∧ ∀ i, (hi : i < k) → (hl : i < l.length) → (!termB l[i]) = false) (μ := fun k => l.length - k) 0 ⟨Nat.zero_le _, fun i hi => absurd hi (Nat.not_lt_zero i)⟩ ?_ 4000 (fun _ => by simp only [fr_len, List.length_replicate]; decide) ?_
 · exact Wk.same (by simp only [go_sem]) hok (Nat.le_refl _) (by simp only [go_sem])
 · rintro k ⟨hk, hA⟩
   rcases Nat.lt_or_ge k l.length with hkl | hkl
   · have hs := hsz _ (List.getElem_mem hkl)
     cases hq : !termB l[k] with
     | true =>
       have hR := idx_hit (p := fun t => !termB t) hkl hq fun i hi => hA i hi (by omega)
       repeat' (first | (with_reducible first | refine XG_split (fun hq => ?_) (fun hq => ?_) | refine MX1.of 4000 (by simp) ?_ | refine MX2.of 4000 (by simp) ?_ | refine And.intro ?_ ?_) | ((with_reducible first | refine Or.inl (And.intro (And.intro mixedP ?_) ?_) | refine Or.inl (And.intro mixedP ?_)); kernel_rfl) | simp only [go_sem,Nat.reduceEqDiff,Nat.reduceAdd,Nat.reduceMul,Nat.reduceLeDiff,Int.reduceBEq,decide_eq_true hkl,List.getElem?_eq_getElem hkl,hq,hR,Term.av,Lit.av])
       all_goals first | exact hs | skip
       all_goals first | omega | (unfold maxLen; omega) | (right; omega) | (left; simp; done) | (simp only [wk3,wkL2,wk2,wkL,wk1_d,wk1_own,wk1_nil,and_self]; done) | (intro i hi; simp only [upd]; (repeat' split); all_goals first | rfl | omega) | skip
     | false =>
       repeat' (first | (with_reducible first | refine XG_split (fun hq => ?_) (fun hq => ?_) | refine MX1.of 4000 (by simp) ?_ | refine MX2.of 4000 (by simp) ?_ | refine And.intro ?_ ?_) | ((with_reducible first | refine Or.inl (And.intro (And.intro mixedP ?_) ?_) | refine Or.inl (And.intro mixedP ?_)); kernel_rfl) | simp only [go_sem,Nat.reduceEqDiff,Nat.reduceAdd,Nat.reduceMul,Nat.reduceLeDiff,Int.reduceBEq,decide_eq_true hkl,List.getElem?_eq_getElem hkl,hq,Term.av,Lit.av])
       all_goals first | exact hs | skip
       all_goals first | omega | (unfold maxLen; omega) | (right; omega) | (left; simp; done) | (simp only [wk3,wkL2,wk2,wkL,wk1_d,wk1_own,wk1_nil,and_self]; done) | (intro i hi; simp only [upd]; (repeat' split); all_goals first | rfl | omega) | skip
       refine ⟨k + 1, ⟨hkl, fun i hi hil => ?_⟩, Wk.same (by simp only [go_sem]) hok (Nat.le_refl _) (by simp only [go_sem]), by omega⟩
       rcases Nat.lt_or_ge i k with h' | h'
       · exact hA i h' hil
       · obtain rfl : i = k := by omega
         exact hq
   · have hR := idx_miss (p := fun t => !termB t) (l := l) fun i hi => hA i (by omega) hi
     repeat' (first | (with_reducible first | refine XG_split (fun hq => ?_) (fun hq => ?_) | refine MX1.of 4000 (by simp) ?_ | refine MX2.of 4000 (by simp) ?_ | refine And.intro ?_ ?_) | ((with_reducible first | refine Or.inl (And.intro (And.intro mixedP ?_) ?_) | refine Or.inl (And.intro mixedP ?_)); kernel_rfl) | simp only [go_sem,Nat.reduceEqDiff,Nat.reduceAdd,Nat.reduceMul,Nat.reduceLeDiff,Int.reduceBEq,decide_eq_false (Nat.not_lt.2 hkl),hR])
     all_goals first | omega | (unfold maxLen; omega) | (right; omega) | (left; simp; done) | (simp only [wk3,wkL2,wk2,wkL,wk1_d,wk1_own,wk1_nil,and_self]; done) | (intro i hi; simp only [upd]; (repeat' split); all_goals first | rfl | omega) | skip
set_option maxRecDepth 10000 in
set_option maxHeartbeats 2000000 in
theorem hasTerm_ok : FsOk Try.prog 78 hasTermS := by
 refine of_Y2 (E := EqT.no _) (F := Ft.no.put 97 idxTermS) (fun l => .d (.sl 3 (l.map Term.cells))) (fun _ => .fn (.func 79) [] []) (fun _ _ => aTerms_le) (fun _ _ => aFn_le) Try.func78 rfl (by kernel_rfl) [.tmp 4] rfl Try.ntmps78 (by decide) ((FtOk.no _).put idxTerm_ok) ?_
 intro l u h n hp hok
 repeat' (first | (with_reducible first | refine XG_split (fun hq => ?_) (fun hq => ?_) | refine MX1.of 4000 (by simp) ?_ | refine MX2.of 4000 (by simp) ?_ | refine And.intro ?_ ?_) | ((with_reducible first | refine Or.inl (And.intro (And.intro mixedP ?_) ?_) | refine Or.inl (And.intro mixedP ?_)); kernel_rfl) | simp only [go_sem,Nat.reduceEqDiff,Nat.reduceAdd,Nat.reduceMul,Nat.reduceLeDiff,Int.reduceBEq,aFn_self,idx_ge])
 all_goals first | exact hp | exact hp.1 | exact hp.2 | skip
 all_goals first | omega | (unfold maxLen; omega) | (right; omega) | (left; simp; done) | (simp only [wk3,wkL2,wk2,wkL,wk1_d,wk1_own,wk1_nil,and_self]; done) | (intro i hi; simp only [upd]; (repeat' split); all_goals first | rfl | omega) | skip
set_option maxRecDepth 10000 in
set_option maxHeartbeats 2000000 in
theorem patom_ok : FsOk Try.prog 54 patomS := by
 refine of_Y1 (E := EqT.no _) (F := ((Ft.no.put 77 nameS).put 76 ptermS).put 78 hasTermS) Lit.av (fun _ _ => aLit_le) Try.func54 rfl (by kernel_rfl) [.tmp 2] rfl Try.ntmps54 (by decide) ((((FtOk.no _).put name_ok).put pterm_ok).put hasTerm_ok) ?_
 intro l h n hp hok
 obtain ⟨hw, hl, ha⟩ := hp
 have hany : (!(l.args.any fun t => !termB t)) = termsB l.args := by
  unfold termsB
  rw [List.all_eq_not_any_not]
 cases hN : nameB l.pred with
 | false =>
   have hS : saidB l = false := by unfold saidB; rw [hN]; simp
   repeat' (first | (with_reducible first | refine XG_split (fun hq => ?_) (fun hq => ?_) | refine MX1.of 4000 (by simp) ?_ | refine MX2.of 4000 (by simp) ?_ | refine And.intro ?_ ?_) | ((with_reducible first | refine Or.inl (And.intro (And.intro mixedP ?_) ?_) | refine Or.inl (And.intro mixedP ?_)); kernel_rfl) | simp only [go_sem,Nat.reduceEqDiff,Nat.reduceAdd,Nat.reduceMul,Nat.reduceLeDiff,Int.reduceBEq,Lit.av,empty_str,aFn_self,hN,hS])
   all_goals first | omega | (unfold maxLen; omega) | (right; omega) | (left; simp; done) | (simp only [wk3,wkL2,wk2,wkL,wk1_d,wk1_own,wk1_nil,and_self]; done) | (intro i hi; simp only [upd]; (repeat' split); all_goals first | rfl | omega) | skip
 | true =>
   cases h4 : decide (4 < l.args.length) with
   | true =>
     have hS : saidB l = false := by
      have : decide (l.args.length ≤ 4) = false := decide_eq_false (by have := of_decide_eq_true h4; omega)
      unfold saidB
      rw [this]
      simp
     repeat' (first | (with_reducible first | refine XG_split (fun hq => ?_) (fun hq => ?_) | refine MX1.of 4000 (by simp) ?_ | refine MX2.of 4000 (by simp) ?_ | refine And.intro ?_ ?_) | ((with_reducible first | refine Or.inl (And.intro (And.intro mixedP ?_) ?_) | refine Or.inl (And.intro mixedP ?_)); kernel_rfl) | simp only [go_sem,Nat.reduceEqDiff,Nat.reduceAdd,Nat.reduceMul,Nat.reduceLeDiff,Int.reduceBEq,Lit.av,empty_str,aFn_self,hN,h4,hS])
     all_goals first | omega | (unfold maxLen; omega) | (right; omega) | (left; simp; done) | (simp only [wk3,wkL2,wk2,wkL,wk1_d,wk1_own,wk1_nil,and_self]; done) | (intro i hi; simp only [upd]; (repeat' split); all_goals first | rfl | omega) | skip
   | false =>
     have h4' : decide (l.args.length ≤ 4) = true := decide_eq_true (by have := of_decide_eq_false h4; omega)
     have hS : saidB l = ((ownT l.who || termB l.who && (decide (0 < l.who.var.size) || decide (0 < l.who.val.sym.size))) && termsB l.args) := by
      unfold saidB
      rw [hN, h4', Bool.and_true, Bool.and_true]
     cases hv : l.who.var.size == 0 with
     | false =>
       have hv0 : ¬ l.who.var.size = 0 := beq_eq_false_iff_ne.1 hv
       have hS2 : saidB l = (termB l.who && termsB l.args) := by
        rw [hS]
        have e1 : ownT l.who = false := by unfold ownT; rw [hv]; rfl
        have e2 : decide (0 < l.who.var.size) = true := decide_eq_true (by omega)
        rw [e1, e2]
        simp
       cases ht : termB l.who with
       | false =>
         rw [ht, Bool.false_and] at hS2
         repeat' (first | (with_reducible first | refine XG_split (fun hq => ?_) (fun hq => ?_) | refine MX1.of 4000 (by simp) ?_ | refine MX2.of 4000 (by simp) ?_ | refine And.intro ?_ ?_) | ((with_reducible first | refine Or.inl (And.intro (And.intro mixedP ?_) ?_) | refine Or.inl (And.intro mixedP ?_)); kernel_rfl) | simp only [go_sem,Nat.reduceEqDiff,Nat.reduceAdd,Nat.reduceMul,Nat.reduceLeDiff,Int.reduceBEq,Lit.av,empty_str,aFn_self,hN,h4,hv,ht,hS2,hany])
         all_goals first | exact hw | exact ha | skip
         all_goals first | omega | (unfold maxLen; omega) | (right; omega) | (left; simp; done) | (simp only [wk3,wkL2,wk2,wkL,wk1_d,wk1_own,wk1_nil,and_self]; done) | (intro i hi; simp only [upd]; (repeat' split); all_goals first | rfl | omega) | skip
       | true =>
         rw [ht, Bool.true_and] at hS2
         repeat' (first | (with_reducible first | refine XG_split (fun hq => ?_) (fun hq => ?_) | refine MX1.of 4000 (by simp) ?_ | refine MX2.of 4000 (by simp) ?_ | refine And.intro ?_ ?_) | ((with_reducible first | refine Or.inl (And.intro (And.intro mixedP ?_) ?_) | refine Or.inl (And.intro mixedP ?_)); kernel_rfl) | simp only [go_sem,Nat.reduceEqDiff,Nat.reduceAdd,Nat.reduceMul,Nat.reduceLeDiff,Int.reduceBEq,Lit.av,empty_str,aFn_self,hN,h4,hv,ht,hS2,hany])
         all_goals first | exact hw | exact ha | skip
         all_goals first | omega | (unfold maxLen; omega) | (right; omega) | (left; simp; done) | (simp only [wk3,wkL2,wk2,wkL,wk1_d,wk1_own,wk1_nil,and_self]; done) | (intro i hi; simp only [upd]; (repeat' split); all_goals first | rfl | omega) | skip
     | true =>
       have hv0 : l.who.var.size = 0 := beq_iff_eq.1 hv
       have e2 : decide (0 < l.who.var.size) = false := decide_eq_false (by omega)
       have ht : termB l.who = goodV l.who.val := by unfold termB; rw [if_neg (by omega)]
       cases hs : l.who.val.sym.size == 0 with
       | false =>
         have hs0 : ¬ l.who.val.sym.size = 0 := beq_eq_false_iff_ne.1 hs
         have hS2 : saidB l = (goodV l.who.val && termsB l.args) := by
          rw [hS]
          have e1 : ownT l.who = false := by unfold ownT; rw [hs, Bool.and_false]; rfl
          have e3 : decide (0 < l.who.val.sym.size) = true := decide_eq_true (by omega)
          rw [e1, e2, e3, ht]
          simp
         cases hg : goodV l.who.val with
         | false =>
           rw [hg, Bool.false_and] at hS2
           repeat' (first | (with_reducible first | refine XG_split (fun hq => ?_) (fun hq => ?_) | refine MX1.of 4000 (by simp) ?_ | refine MX2.of 4000 (by simp) ?_ | refine And.intro ?_ ?_) | ((with_reducible first | refine Or.inl (And.intro (And.intro mixedP ?_) ?_) | refine Or.inl (And.intro mixedP ?_)); kernel_rfl) | simp only [go_sem,Nat.reduceEqDiff,Nat.reduceAdd,Nat.reduceMul,Nat.reduceLeDiff,Int.reduceBEq,Lit.av,empty_str,aFn_self,hN,h4,hv,hs,ht,hg,hS2,hany])
           all_goals first | exact hw | exact ha | skip
           all_goals first | omega | (unfold maxLen; omega) | (right; omega) | (left; simp; done) | (simp only [wk3,wkL2,wk2,wkL,wk1_d,wk1_own,wk1_nil,and_self]; done) | (intro i hi; simp only [upd]; (repeat' split); all_goals first | rfl | omega) | skip
         | true =>
           rw [hg, Bool.true_and] at hS2
           repeat' (first | (with_reducible first | refine XG_split (fun hq => ?_) (fun hq => ?_) | refine MX1.of 4000 (by simp) ?_ | refine MX2.of 4000 (by simp) ?_ | refine And.intro ?_ ?_) | ((with_reducible first | refine Or.inl (And.intro (And.intro mixedP ?_) ?_) | refine Or.inl (And.intro mixedP ?_)); kernel_rfl) | simp only [go_sem,Nat.reduceEqDiff,Nat.reduceAdd,Nat.reduceMul,Nat.reduceLeDiff,Int.reduceBEq,Lit.av,empty_str,aFn_self,hN,h4,hv,hs,ht,hg,hS2,hany])
           all_goals first | exact hw | exact ha | skip
           all_goals first | omega | (unfold maxLen; omega) | (right; omega) | (left; simp; done) | (simp only [wk3,wkL2,wk2,wkL,wk1_d,wk1_own,wk1_nil,and_self]; done) | (intro i hi; simp only [upd]; (repeat' split); all_goals first | rfl | omega) | skip
       | true =>
         have hg : goodV l.who.val = true := by unfold goodV; rw [hs]; rfl
         have e3 : decide (0 < l.who.val.sym.size) = false := decide_eq_false (by have := beq_iff_eq.1 hs; omega)
         have hS2 : saidB l = (l.who.val.num == 0 && termsB l.args) := by
          rw [hS]
          unfold ownT
          rw [hv, hs, e2, e3]
          simp
         cases hn : l.who.val.num == 0 with
         | false =>
           rw [hn, Bool.false_and] at hS2
           have hn' : (l.who.val.num != 0) = true := by simp only [bne, hn]; rfl
           repeat' (first | (with_reducible first | refine XG_split (fun hq => ?_) (fun hq => ?_) | refine MX1.of 4000 (by simp) ?_ | refine MX2.of 4000 (by simp) ?_ | refine And.intro ?_ ?_) | ((with_reducible first | refine Or.inl (And.intro (And.intro mixedP ?_) ?_) | refine Or.inl (And.intro mixedP ?_)); kernel_rfl) | simp only [go_sem,Nat.reduceEqDiff,Nat.reduceAdd,Nat.reduceMul,Nat.reduceLeDiff,Int.reduceBEq,Lit.av,empty_str,aFn_self,hN,h4,hv,hs,ht,hg,hn',hS2,hany])
           all_goals first | exact hw | exact ha | skip
           all_goals first | omega | (unfold maxLen; omega) | (right; omega) | (left; simp; done) | (simp only [wk3,wkL2,wk2,wkL,wk1_d,wk1_own,wk1_nil,and_self]; done) | (intro i hi; simp only [upd]; (repeat' split); all_goals first | rfl | omega) | skip
         | true =>
           rw [hn, Bool.true_and] at hS2
           have hn' : (l.who.val.num != 0) = false := by simp only [bne, hn]; rfl
           repeat' (first | (with_reducible first | refine XG_split (fun hq => ?_) (fun hq => ?_) | refine MX1.of 4000 (by simp) ?_ | refine MX2.of 4000 (by simp) ?_ | refine And.intro ?_ ?_) | ((with_reducible first | refine Or.inl (And.intro (And.intro mixedP ?_) ?_) | refine Or.inl (And.intro mixedP ?_)); kernel_rfl) | simp only [go_sem,Nat.reduceEqDiff,Nat.reduceAdd,Nat.reduceMul,Nat.reduceLeDiff,Int.reduceBEq,Lit.av,empty_str,aFn_self,hN,h4,hv,hs,ht,hg,hn',hS2,hany])
           all_goals first | exact hw | exact ha | skip
           all_goals first | omega | (unfold maxLen; omega) | (right; omega) | (left; simp; done) | (simp only [wk3,wkL2,wk2,wkL,wk1_d,wk1_own,wk1_nil,and_self]; done) | (intro i hi; simp only [upd]; (repeat' split); all_goals first | rfl | omega) | skip
set_option maxRecDepth 10000 in
set_option maxHeartbeats 2000000 in
theorem pliteral_ok : FsOk Try.prog 53 pliteralS := by
 refine of_Y1 (E := eqTV) (F := (Ft.no.put 54 patomS).put 76 ptermS) Lit.av (fun _ _ => aLit_le) Try.func53 rfl (by kernel_rfl) [.tmp 2] rfl Try.ntmps53 (by decide) (((FtOk.no _).put patom_ok).put pterm_ok) ?_
 intro l h n hp hok
 have hp' := hp
 obtain ⟨hw, hl, ha⟩ := hp
 by_cases k1 : l.kind = 1
 · have hS : literalB l = saidB l := by unfold literalB; rw [k1]; rfl
   have c1 : (l.kind == 1) = true := by simp [k1]
   repeat' (first | (with_reducible first | refine XG_split (fun hq => ?_) (fun hq => ?_) | refine MX1.of 4000 (by simp) ?_ | refine MX2.of 4000 (by simp) ?_ | refine And.intro ?_ ?_) | ((with_reducible first | refine Or.inl (And.intro (And.intro mixedP ?_) ?_) | refine Or.inl (And.intro mixedP ?_)); kernel_rfl) | simp only [go_sem,Nat.reduceEqDiff,Nat.reduceAdd,Nat.reduceMul,Nat.reduceLeDiff,Int.reduceBEq,Lit.av,empty_str,cvals,cval,c1,hS])
   all_goals first | exact hp' | skip
   all_goals first | omega | (unfold maxLen; omega) | (right; omega) | (left; simp; done) | (simp only [wk3,wkL2,wk2,wkL,wk1_d,wk1_own,wk1_nil,and_self]; done) | (intro i hi; simp only [upd]; (repeat' split); all_goals first | rfl | omega) | skip
 by_cases k2 : l.kind = 2
 · have hS : literalB l = saidB l := by unfold literalB; rw [k2]; rfl
   have c1 : (l.kind == 1) = false := by simp [k1]
   have c2 : (l.kind == 2) = true := by simp [k2]
   repeat' (first | (with_reducible first | refine XG_split (fun hq => ?_) (fun hq => ?_) | refine MX1.of 4000 (by simp) ?_ | refine MX2.of 4000 (by simp) ?_ | refine And.intro ?_ ?_) | ((with_reducible first | refine Or.inl (And.intro (And.intro mixedP ?_) ?_) | refine Or.inl (And.intro mixedP ?_)); kernel_rfl) | simp only [go_sem,Nat.reduceEqDiff,Nat.reduceAdd,Nat.reduceMul,Nat.reduceLeDiff,Int.reduceBEq,Lit.av,empty_str,cvals,cval,c1,c2,hS])
   all_goals first | exact hp' | skip
   all_goals first | omega | (unfold maxLen; omega) | (right; omega) | (left; simp; done) | (simp only [wk3,wkL2,wk2,wkL,wk1_d,wk1_own,wk1_nil,and_self]; done) | (intro i hi; simp only [upd]; (repeat' split); all_goals first | rfl | omega) | skip
 have c1 : (l.kind == 1) = false := by simp [k1]
 have c2 : (l.kind == 2) = false := by simp [k2]
 by_cases k34 : l.kind = 3 ∨ l.kind = 4
 · have hS : literalB l = (l.pred.size == 0 && ownT l.who && l.args.length == 2 && termsB l.args) := by
    unfold literalB
    rw [c1, c2]
    rcases k34 with k | k <;> rw [k] <;> simp
   have hk : (l.kind == 3) = true ∨ (l.kind == 3) = false ∧ (l.kind == 4) = true := by
    rcases k34 with k | k
    · left; rw [k]; rfl
    · right; rw [k]; exact ⟨rfl, rfl⟩
   have hown : (l.who.var.size == 0 && (l.who.val.sym.size == 0 && l.who.val.num == 0)) = ownT l.who := by unfold ownT; rw [Bool.and_assoc]
   cases hpr : l.pred.size == 0 with
   | false =>
     rw [hpr] at hS
     simp only [Bool.false_and] at hS
     rcases hk with hk | ⟨hk, hk'⟩
     · repeat' (first | (with_reducible first | refine XG_split (fun hq => ?_) (fun hq => ?_) | refine MX1.of 4000 (by simp) ?_ | refine MX2.of 4000 (by simp) ?_ | refine And.intro ?_ ?_) | ((with_reducible first | refine Or.inl (And.intro (And.intro mixedP ?_) ?_) | refine Or.inl (And.intro mixedP ?_)); kernel_rfl) | simp only [go_sem,Nat.reduceEqDiff,Nat.reduceAdd,Nat.reduceMul,Nat.reduceLeDiff,Int.reduceBEq,Lit.av,empty_str,cvals,cval,c1,c2,hk,hpr,hS])
       all_goals first | omega | (unfold maxLen; omega) | (right; omega) | (left; simp; done) | (simp only [wk3,wkL2,wk2,wkL,wk1_d,wk1_own,wk1_nil,and_self]; done) | (intro i hi; simp only [upd]; (repeat' split); all_goals first | rfl | omega) | skip
     · repeat' (first | (with_reducible first | refine XG_split (fun hq => ?_) (fun hq => ?_) | refine MX1.of 4000 (by simp) ?_ | refine MX2.of 4000 (by simp) ?_ | refine And.intro ?_ ?_) | ((with_reducible first | refine Or.inl (And.intro (And.intro mixedP ?_) ?_) | refine Or.inl (And.intro mixedP ?_)); kernel_rfl) | simp only [go_sem,Nat.reduceEqDiff,Nat.reduceAdd,Nat.reduceMul,Nat.reduceLeDiff,Int.reduceBEq,Lit.av,empty_str,cvals,cval,c1,c2,hk,hk',hpr,hS])
       all_goals first | omega | (unfold maxLen; omega) | (right; omega) | (left; simp; done) | (simp only [wk3,wkL2,wk2,wkL,wk1_d,wk1_own,wk1_nil,and_self]; done) | (intro i hi; simp only [upd]; (repeat' split); all_goals first | rfl | omega) | skip
   | true =>
     cases ho : ownT l.who with
     | false =>
       rw [ho] at hS hown
       simp only [Bool.and_false, Bool.false_and] at hS
       rcases hk with hk | ⟨hk, hk'⟩
       · repeat' (first | (with_reducible first | refine XG_split (fun hq => ?_) (fun hq => ?_) | refine MX1.of 4000 (by simp) ?_ | refine MX2.of 4000 (by simp) ?_ | refine And.intro ?_ ?_) | ((with_reducible first | refine Or.inl (And.intro (And.intro mixedP ?_) ?_) | refine Or.inl (And.intro mixedP ?_)); kernel_rfl) | simp only [go_sem,Nat.reduceEqDiff,Nat.reduceAdd,Nat.reduceMul,Nat.reduceLeDiff,Int.reduceBEq,Lit.av,empty_str,cvals,cval,c1,c2,hk,hpr,hown,hS])
         all_goals first | omega | (unfold maxLen; omega) | (right; omega) | (left; simp; done) | (simp only [wk3,wkL2,wk2,wkL,wk1_d,wk1_own,wk1_nil,and_self]; done) | (intro i hi; simp only [upd]; (repeat' split); all_goals first | rfl | omega) | skip
       · repeat' (first | (with_reducible first | refine XG_split (fun hq => ?_) (fun hq => ?_) | refine MX1.of 4000 (by simp) ?_ | refine MX2.of 4000 (by simp) ?_ | refine And.intro ?_ ?_) | ((with_reducible first | refine Or.inl (And.intro (And.intro mixedP ?_) ?_) | refine Or.inl (And.intro mixedP ?_)); kernel_rfl) | simp only [go_sem,Nat.reduceEqDiff,Nat.reduceAdd,Nat.reduceMul,Nat.reduceLeDiff,Int.reduceBEq,Lit.av,empty_str,cvals,cval,c1,c2,hk,hk',hpr,hown,hS])
         all_goals first | omega | (unfold maxLen; omega) | (right; omega) | (left; simp; done) | (simp only [wk3,wkL2,wk2,wkL,wk1_d,wk1_own,wk1_nil,and_self]; done) | (intro i hi; simp only [upd]; (repeat' split); all_goals first | rfl | omega) | skip
     | true =>
       rw [ho] at hown
       rw [hpr, ho] at hS
       cases h2 : l.args.length == 2 with
       | false =>
         rw [h2] at hS
         simp only [Bool.and_false, Bool.false_and] at hS
         rcases hk with hk | ⟨hk, hk'⟩
         · repeat' (first | (with_reducible first | refine XG_split (fun hq => ?_) (fun hq => ?_) | refine MX1.of 4000 (by simp) ?_ | refine MX2.of 4000 (by simp) ?_ | refine And.intro ?_ ?_) | ((with_reducible first | refine Or.inl (And.intro (And.intro mixedP ?_) ?_) | refine Or.inl (And.intro mixedP ?_)); kernel_rfl) | simp only [go_sem,Nat.reduceEqDiff,Nat.reduceAdd,Nat.reduceMul,Nat.reduceLeDiff,Int.reduceBEq,Lit.av,empty_str,cvals,cval,c1,c2,hk,hpr,hown,h2,hS])
           all_goals first | omega | (unfold maxLen; omega) | (right; omega) | (left; simp; done) | (simp only [wk3,wkL2,wk2,wkL,wk1_d,wk1_own,wk1_nil,and_self]; done) | (intro i hi; simp only [upd]; (repeat' split); all_goals first | rfl | omega) | skip
         · repeat' (first | (with_reducible first | refine XG_split (fun hq => ?_) (fun hq => ?_) | refine MX1.of 4000 (by simp) ?_ | refine MX2.of 4000 (by simp) ?_ | refine And.intro ?_ ?_) | ((with_reducible first | refine Or.inl (And.intro (And.intro mixedP ?_) ?_) | refine Or.inl (And.intro mixedP ?_)); kernel_rfl) | simp only [go_sem,Nat.reduceEqDiff,Nat.reduceAdd,Nat.reduceMul,Nat.reduceLeDiff,Int.reduceBEq,Lit.av,empty_str,cvals,cval,c1,c2,hk,hk',hpr,hown,h2,hS])
           all_goals first | omega | (unfold maxLen; omega) | (right; omega) | (left; simp; done) | (simp only [wk3,wkL2,wk2,wkL,wk1_d,wk1_own,wk1_nil,and_self]; done) | (intro i hi; simp only [upd]; (repeat' split); all_goals first | rfl | omega) | skip
       | true =>
         rw [h2] at hS
         simp only [Bool.true_and] at hS
         obtain ⟨a, b, hab⟩ : ∃ a b, l.args = [a, b] := by
          have := beq_iff_eq.1 h2
          match l.args, this with
          | [a, b], _ => exact ⟨a, b, rfl⟩
         rw [hab] at hS
         have hSa : termsB [a, b] = (termB a && termB b) := by unfold termsB; simp
         rw [hSa] at hS
         have sa : szT a := ha a (by rw [hab]; simp)
         have sb : szT b := ha b (by rw [hab]; simp)
         cases hta : termB a with
         | false =>
           rw [hta, Bool.false_and] at hS
           rcases hk with hk | ⟨hk, hk'⟩
           · repeat' (first | (with_reducible first | refine XG_split (fun hq => ?_) (fun hq => ?_) | refine MX1.of 4000 (by simp) ?_ | refine MX2.of 4000 (by simp) ?_ | refine And.intro ?_ ?_) | ((with_reducible first | refine Or.inl (And.intro (And.intro mixedP ?_) ?_) | refine Or.inl (And.intro mixedP ?_)); kernel_rfl) | simp only [go_sem,Nat.reduceEqDiff,Nat.reduceAdd,Nat.reduceMul,Nat.reduceLeDiff,Int.reduceBEq,Lit.av,empty_str,cvals,cval,c1,c2,hk,hpr,hown,hab,hta,hS,Term.av])
             all_goals first | exact sa | exact sb | skip
             all_goals first | omega | (unfold maxLen; omega) | (right; omega) | (left; simp; done) | (simp only [wk3,wkL2,wk2,wkL,wk1_d,wk1_own,wk1_nil,and_self]; done) | (intro i hi; simp only [upd]; (repeat' split); all_goals first | rfl | omega) | skip
           · repeat' (first | (with_reducible first | refine XG_split (fun hq => ?_) (fun hq => ?_) | refine MX1.of 4000 (by simp) ?_ | refine MX2.of 4000 (by simp) ?_ | refine And.intro ?_ ?_) | ((with_reducible first | refine Or.inl (And.intro (And.intro mixedP ?_) ?_) | refine Or.inl (And.intro mixedP ?_)); kernel_rfl) | simp only [go_sem,Nat.reduceEqDiff,Nat.reduceAdd,Nat.reduceMul,Nat.reduceLeDiff,Int.reduceBEq,Lit.av,empty_str,cvals,cval,c1,c2,hk,hk',hpr,hown,hab,hta,hS,Term.av])
             all_goals first | exact sa | exact sb | skip
             all_goals first | omega | (unfold maxLen; omega) | (right; omega) | (left; simp; done) | (simp only [wk3,wkL2,wk2,wkL,wk1_d,wk1_own,wk1_nil,and_self]; done) | (intro i hi; simp only [upd]; (repeat' split); all_goals first | rfl | omega) | skip
         | true =>
           rw [hta, Bool.true_and] at hS
           rcases hk with hk | ⟨hk, hk'⟩
           · repeat' (first | (with_reducible first | refine XG_split (fun hq => ?_) (fun hq => ?_) | refine MX1.of 4000 (by simp) ?_ | refine MX2.of 4000 (by simp) ?_ | refine And.intro ?_ ?_) | ((with_reducible first | refine Or.inl (And.intro (And.intro mixedP ?_) ?_) | refine Or.inl (And.intro mixedP ?_)); kernel_rfl) | simp only [go_sem,Nat.reduceEqDiff,Nat.reduceAdd,Nat.reduceMul,Nat.reduceLeDiff,Int.reduceBEq,Lit.av,empty_str,cvals,cval,c1,c2,hk,hpr,hown,hab,hta,hS,Term.av])
             all_goals first | exact sa | exact sb | skip
             all_goals first | omega | (unfold maxLen; omega) | (right; omega) | (left; simp; done) | (simp only [wk3,wkL2,wk2,wkL,wk1_d,wk1_own,wk1_nil,and_self]; done) | (intro i hi; simp only [upd]; (repeat' split); all_goals first | rfl | omega) | skip
           · repeat' (first | (with_reducible first | refine XG_split (fun hq => ?_) (fun hq => ?_) | refine MX1.of 4000 (by simp) ?_ | refine MX2.of 4000 (by simp) ?_ | refine And.intro ?_ ?_) | ((with_reducible first | refine Or.inl (And.intro (And.intro mixedP ?_) ?_) | refine Or.inl (And.intro mixedP ?_)); kernel_rfl) | simp only [go_sem,Nat.reduceEqDiff,Nat.reduceAdd,Nat.reduceMul,Nat.reduceLeDiff,Int.reduceBEq,Lit.av,empty_str,cvals,cval,c1,c2,hk,hk',hpr,hown,hab,hta,hS,Term.av])
             all_goals first | exact sa | exact sb | skip
             all_goals first | omega | (unfold maxLen; omega) | (right; omega) | (left; simp; done) | (simp only [wk3,wkL2,wk2,wkL,wk1_d,wk1_own,wk1_nil,and_self]; done) | (intro i hi; simp only [upd]; (repeat' split); all_goals first | rfl | omega) | skip
 · have c3 : (l.kind == 3) = false := by rw [beq_eq_false_iff_ne]; exact fun e => k34 (.inl e)
   have c4 : (l.kind == 4) = false := by rw [beq_eq_false_iff_ne]; exact fun e => k34 (.inr e)
   have hS : literalB l = false := by unfold literalB; rw [c1, c2, c3, c4]; rfl
   repeat' (first | (with_reducible first | refine XG_split (fun hq => ?_) (fun hq => ?_) | refine MX1.of 4000 (by simp) ?_ | refine MX2.of 4000 (by simp) ?_ | refine And.intro ?_ ?_) | ((with_reducible first | refine Or.inl (And.intro (And.intro mixedP ?_) ?_) | refine Or.inl (And.intro mixedP ?_)); kernel_rfl) | simp only [go_sem,Nat.reduceEqDiff,Nat.reduceAdd,Nat.reduceMul,Nat.reduceLeDiff,Int.reduceBEq,Lit.av,empty_str,cvals,cval,c1,c2,c3,c4,hS])
   all_goals first | omega | (unfold maxLen; omega) | (right; omega) | (left; simp; done) | (simp only [wk3,wkL2,wk2,wkL,wk1_d,wk1_own,wk1_nil,and_self]; done) | (intro i hi; simp only [upd]; (repeat' split); all_goals first | rfl | omega) | skip
set_option maxRecDepth 10000 in
set_option maxHeartbeats 2000000 in
theorem pcheckLit_ok : FsOk Try.prog 25 pcheckLitS := by
 refine of_Y1 (E := EqT.no _) (F := Ft.no.put 54 patomS) Lit.av (fun _ _ => aLit_le) Try.func25 rfl (by kernel_rfl) [.tmp 2] rfl Try.ntmps25 (by decide) ((FtOk.no _).put patom_ok) ?_
 intro l h n hp hok
 cases k1 : l.kind == 1 with
 | true =>
   have hS : checkLitB l = saidB l := by unfold checkLitB; rw [k1]; rfl
   repeat' (first | (with_reducible first | refine XG_split (fun hq => ?_) (fun hq => ?_) | refine MX1.of 4000 (by simp) ?_ | refine MX2.of 4000 (by simp) ?_ | refine And.intro ?_ ?_) | ((with_reducible first | refine Or.inl (And.intro (And.intro mixedP ?_) ?_) | refine Or.inl (And.intro mixedP ?_)); kernel_rfl) | simp only [go_sem,Nat.reduceEqDiff,Nat.reduceAdd,Nat.reduceMul,Nat.reduceLeDiff,Int.reduceBEq,Lit.av,k1,hS])
   all_goals first | exact hp | skip
   all_goals first | omega | (unfold maxLen; omega) | (right; omega) | (left; simp; done) | (simp only [wk3,wkL2,wk2,wkL,wk1_d,wk1_own,wk1_nil,and_self]; done) | (intro i hi; simp only [upd]; (repeat' split); all_goals first | rfl | omega) | skip
 | false =>
   have hS : checkLitB l = false := by unfold checkLitB; rw [k1]; rfl
   repeat' (first | (with_reducible first | refine XG_split (fun hq => ?_) (fun hq => ?_) | refine MX1.of 4000 (by simp) ?_ | refine MX2.of 4000 (by simp) ?_ | refine And.intro ?_ ?_) | ((with_reducible first | refine Or.inl (And.intro (And.intro mixedP ?_) ?_) | refine Or.inl (And.intro mixedP ?_)); kernel_rfl) | simp only [go_sem,Nat.reduceEqDiff,Nat.reduceAdd,Nat.reduceMul,Nat.reduceLeDiff,Int.reduceBEq,Lit.av,k1,hS])
   all_goals first | exact hp | skip
   all_goals first | omega | (unfold maxLen; omega) | (right; omega) | (left; simp; done) | (simp only [wk3,wkL2,wk2,wkL,wk1_d,wk1_own,wk1_nil,and_self]; done) | (intro i hi; simp only [upd]; (repeat' split); all_goals first | rfl | omega) | skip
set_option maxRecDepth 10000 in
set_option maxHeartbeats 2000000 in
theorem notLit_ok : FsOk Try.prog 52 notLitS := by
 refine of_Y1 (E := EqT.no _) (F := Ft.no.put 53 pliteralS) Lit.av (fun _ _ => aLit_le) Try.func52 rfl (by kernel_rfl) [.tmp 2] rfl Try.ntmps52 (by decide) ((FtOk.no _).put pliteral_ok) ?_
 intro t h n hp hok
 repeat' (first | (with_reducible first | refine XG_split (fun hq => ?_) (fun hq => ?_) | refine MX1.of 4000 (by simp) ?_ | refine MX2.of 4000 (by simp) ?_ | refine And.intro ?_ ?_) | ((with_reducible first | refine Or.inl (And.intro (And.intro mixedP ?_) ?_) | refine Or.inl (And.intro mixedP ?_)); kernel_rfl) | simp only [go_sem,Nat.reduceEqDiff,Nat.reduceAdd,Nat.reduceMul,Nat.reduceLeDiff,Int.reduceBEq,Lit.av])
 all_goals first | exact hp | skip
 all_goals first | omega | (unfold maxLen; omega) | (right; omega) | (left; simp; done) | (simp only [wk3,wkL2,wk2,wkL,wk1_d,wk1_own,wk1_nil,and_self]; done) | (intro i hi; simp only [upd]; (repeat' split); all_goals first | rfl | omega) | skip
set_option maxRecDepth 10000 in
set_option maxHeartbeats 2000000 in
theorem idxLit_ok : FsOk Try.prog 75 idxLitS := by
 refine of_Y2 (E := EqT.no _) (F := Ft.no.put 52 notLitS) (fun l => .d (.sl 6 (l.map Lit.cells))) (fun _ => .fn (.func 52) [] []) (fun _ _ => aLits_le) (fun _ _ => aFn_le) Try.func75 rfl (by kernel_rfl) [.tmp 4] rfl Try.ntmps75 (by decide) ((FtOk.no _).put notLit_ok) ?_
 intro l u h n hp hok
 obtain ⟨hl, hsz⟩ := hp
 repeat' (first | (with_reducible first | refine XG_split (fun hq => ?_) (fun hq => ?_) | refine MX1.of 4000 (by simp) ?_ | refine MX2.of 4000 (by simp) ?_ | refine And.intro ?_ ?_) | ((with_reducible first | refine Or.inl (And.intro (And.intro mixedP ?_) ?_) | refine Or.inl (And.intro mixedP ?_)); kernel_rfl) | simp only [go_sem,Nat.reduceEqDiff,Nat.reduceAdd,Nat.reduceMul,Nat.reduceLeDiff,Int.reduceBEq])
 all_goals first | omega | (unfold maxLen; omega) | (right; omega) | (left; simp; done) | (simp only [wk3,wkL2,wk2,wkL,wk1_d,wk1_own,wk1_nil,and_self]; done) | (intro i hi; simp only [upd]; (repeat' split); all_goals first | rfl | omega) | skip
 refine AW.loopJ (E := EqT.no _) (S := fun k : Nat => ⟨fr [(0, .d (.sl 6 (l.map Lit.cells))), (1, .fn (.func 52) [] []), (7, vI l.length), (8, vI k)] (List.replicate 19 .any), h, n, n⟩) (I := fun k => k ≤ l.length ∧ ∀ i, (hi : i < k) → (hl : i < l.length) → (!literalB l[i]) = false) (μ := fun k => l.length - k) 0 ⟨Nat.zero_le _, fun i hi => absurd hi (Nat.not_lt_zero i)⟩ ?_ 4000 (fun _ => by simp only [fr_len, List.length_replicate]; decide) ?_
 · exact Wk.same (by simp only [go_sem]) hok (Nat.le_refl _) (by simp only [go_sem])
 · rintro k ⟨hk, hA⟩
   rcases Nat.lt_or_ge k l.length with hkl | hkl
   · have hs := hsz _ (List.getElem_mem hkl)
     cases hq : !literalB l[k] with
     | true =>
       have hR := idx_hit (p := fun t => !literalB t) hkl hq fun i hi => hA i hi (by omega)
       repeat' (first | (with_reducible first | refine XG_split (fun hq => ?_) (fun hq => ?_) | refine MX1.of 4000 (by simp) ?_ | refine MX2.of 4000 (by simp) ?_ | refine And.intro ?_ ?_) | ((with_reducible first | refine Or.inl (And.intro (And.intro mixedP ?_) ?_) | refine Or.inl (And.intro mixedP ?_)); kernel_rfl) | simp only [go_sem,Nat.reduceEqDiff,Nat.reduceAdd,Nat.reduceMul,Nat.reduceLeDiff,Int.reduceBEq,decide_eq_true hkl,List.getElem?_eq_getElem hkl,hq,hR,Term.av,Lit.av])
       all_goals first | exact hs | skip
       all_goals first | omega | (unfold maxLen; omega) | (right; omega) | (left; simp; done) | (simp only [wk3,wkL2,wk2,wkL,wk1_d,wk1_own,wk1_nil,and_self]; done) | (intro i hi; simp only [upd]; (repeat' split); all_goals first | rfl | omega) | skip
     | false =>
       repeat' (first | (with_reducible first | refine XG_split (fun hq => ?_) (fun hq => ?_) | refine MX1.of 4000 (by simp) ?_ | refine MX2.of 4000 (by simp) ?_ | refine And.intro ?_ ?_) | ((with_reducible first | refine Or.inl (And.intro (And.intro mixedP ?_) ?_) | refine Or.inl (And.intro mixedP ?_)); kernel_rfl) | simp only [go_sem,Nat.reduceEqDiff,Nat.reduceAdd,Nat.reduceMul,Nat.reduceLeDiff,Int.reduceBEq,decide_eq_true hkl,List.getElem?_eq_getElem hkl,hq,Term.av,Lit.av])
       all_goals first | exact hs | skip
       all_goals first | omega | (unfold maxLen; omega) | (right; omega) | (left; simp; done) | (simp only [wk3,wkL2,wk2,wkL,wk1_d,wk1_own,wk1_nil,and_self]; done) | (intro i hi; simp only [upd]; (repeat' split); all_goals first | rfl | omega) | skip
       refine ⟨k + 1, ⟨hkl, fun i hi hil => ?_⟩, Wk.same (by simp only [go_sem]) hok (Nat.le_refl _) (by simp only [go_sem]), by omega⟩
       rcases Nat.lt_or_ge i k with h' | h'
       · exact hA i h' hil
       · obtain rfl : i = k := by omega
         exact hq
   · have hR := idx_miss (p := fun t => !literalB t) (l := l) fun i hi => hA i (by omega) hi
     repeat' (first | (with_reducible first | refine XG_split (fun hq => ?_) (fun hq => ?_) | refine MX1.of 4000 (by simp) ?_ | refine MX2.of 4000 (by simp) ?_ | refine And.intro ?_ ?_) | ((with_reducible first | refine Or.inl (And.intro (And.intro mixedP ?_) ?_) | refine Or.inl (And.intro mixedP ?_)); kernel_rfl) | simp only [go_sem,Nat.reduceEqDiff,Nat.reduceAdd,Nat.reduceMul,Nat.reduceLeDiff,Int.reduceBEq,decide_eq_false (Nat.not_lt.2 hkl),hR])
     all_goals first | omega | (unfold maxLen; omega) | (right; omega) | (left; simp; done) | (simp only [wk3,wkL2,wk2,wkL,wk1_d,wk1_own,wk1_nil,and_self]; done) | (intro i hi; simp only [upd]; (repeat' split); all_goals first | rfl | omega) | skip
set_option maxRecDepth 10000 in
set_option maxHeartbeats 2000000 in
theorem hasLit_ok : FsOk Try.prog 51 hasLitS := by
 refine of_Y2 (E := EqT.no _) (F := Ft.no.put 75 idxLitS) (fun l => .d (.sl 6 (l.map Lit.cells))) (fun _ => .fn (.func 52) [] []) (fun _ _ => aLits_le) (fun _ _ => aFn_le) Try.func51 rfl (by kernel_rfl) [.tmp 4] rfl Try.ntmps51 (by decide) ((FtOk.no _).put idxLit_ok) ?_
 intro l u h n hp hok
 repeat' (first | (with_reducible first | refine XG_split (fun hq => ?_) (fun hq => ?_) | refine MX1.of 4000 (by simp) ?_ | refine MX2.of 4000 (by simp) ?_ | refine And.intro ?_ ?_) | ((with_reducible first | refine Or.inl (And.intro (And.intro mixedP ?_) ?_) | refine Or.inl (And.intro mixedP ?_)); kernel_rfl) | simp only [go_sem,Nat.reduceEqDiff,Nat.reduceAdd,Nat.reduceMul,Nat.reduceLeDiff,Int.reduceBEq,aFn_self,idx_ge])
 all_goals first | exact hp | exact hp.1 | exact hp.2 | skip
 all_goals first | omega | (unfold maxLen; omega) | (right; omega) | (left; simp; done) | (simp only [wk3,wkL2,wk2,wkL,wk1_d,wk1_own,wk1_nil,and_self]; done) | (intro i hi; simp only [upd]; (repeat' split); all_goals first | rfl | omega) | skip
set_option maxRecDepth 10000 in
set_option maxHeartbeats 2000000 in
theorem pcheck_ok : FsOk Try.prog 24 pcheckS := by
 refine of_Y1 (E := eqTV) (F := (Ft.no.put 25 pcheckLitS).put 51 hasLitS) Clause.av (fun _ _ => aClause_le) Try.func24 rfl (by kernel_rfl) [.tmp 2] rfl Try.ntmps24 (by decide) (((FtOk.no _).put pcheckLit_ok).put hasLit_ok) ?_
 intro c h n hp hok
 obtain ⟨hh, hl, hb⟩ := hp
 have hany : (!(c.body.any fun t => !literalB t)) = c.body.all literalB := by
  rw [List.all_eq_not_any_not]
 have hown : (c.head.who.var.size == 0 && (c.head.who.val.sym.size == 0 && c.head.who.val.num == 0)) = ownT c.head.who := by unfold ownT; rw [Bool.and_assoc]
 cases h1 : checkLitB c.head with
 | false =>
   have hS : checkB c = false := by unfold checkB; rw [h1]; rfl
   repeat' (first | (with_reducible first | refine XG_split (fun hq => ?_) (fun hq => ?_) | refine MX1.of 4000 (by simp) ?_ | refine MX2.of 4000 (by simp) ?_ | refine And.intro ?_ ?_) | ((with_reducible first | refine Or.inl (And.intro (And.intro mixedP ?_) ?_) | refine Or.inl (And.intro mixedP ?_)); kernel_rfl) | simp only [go_sem,Nat.reduceEqDiff,Nat.reduceAdd,Nat.reduceMul,Nat.reduceLeDiff,Int.reduceBEq,Clause.av,Lit.av,empty_str,cvals,cval,aFn_self,hS,h1])
   all_goals first | exact hh | exact hb | skip
   all_goals first | omega | (unfold maxLen; omega) | (right; omega) | (left; simp; done) | (simp only [wk3,wkL2,wk2,wkL,wk1_d,wk1_own,wk1_nil,and_self]; done) | (intro i hi; simp only [upd]; (repeat' split); all_goals first | rfl | omega) | skip
 | true =>
   cases h2 : ownT c.head.who with
   | false =>
     rw [h2] at hown
     have hS : checkB c = false := by unfold checkB; rw [h1, h2]; rfl
     repeat' (first | (with_reducible first | refine XG_split (fun hq => ?_) (fun hq => ?_) | refine MX1.of 4000 (by simp) ?_ | refine MX2.of 4000 (by simp) ?_ | refine And.intro ?_ ?_) | ((with_reducible first | refine Or.inl (And.intro (And.intro mixedP ?_) ?_) | refine Or.inl (And.intro mixedP ?_)); kernel_rfl) | simp only [go_sem,Nat.reduceEqDiff,Nat.reduceAdd,Nat.reduceMul,Nat.reduceLeDiff,Int.reduceBEq,Clause.av,Lit.av,empty_str,cvals,cval,aFn_self,hS,h1,hown])
     all_goals first | exact hh | exact hb | skip
     all_goals first | omega | (unfold maxLen; omega) | (right; omega) | (left; simp; done) | (simp only [wk3,wkL2,wk2,wkL,wk1_d,wk1_own,wk1_nil,and_self]; done) | (intro i hi; simp only [upd]; (repeat' split); all_goals first | rfl | omega) | skip
   | true =>
     rw [h2] at hown
     cases h6 : decide (6 < c.body.length) with
     | true =>
       have h6' : decide (c.body.length ≤ 6) = false := decide_eq_false (by have := of_decide_eq_true h6; omega)
       have hS : checkB c = false := by unfold checkB; rw [h1, h2, h6']; rfl
       repeat' (first | (with_reducible first | refine XG_split (fun hq => ?_) (fun hq => ?_) | refine MX1.of 4000 (by simp) ?_ | refine MX2.of 4000 (by simp) ?_ | refine And.intro ?_ ?_) | ((with_reducible first | refine Or.inl (And.intro (And.intro mixedP ?_) ?_) | refine Or.inl (And.intro mixedP ?_)); kernel_rfl) | simp only [go_sem,Nat.reduceEqDiff,Nat.reduceAdd,Nat.reduceMul,Nat.reduceLeDiff,Int.reduceBEq,Clause.av,Lit.av,empty_str,cvals,cval,aFn_self,hS,h1,hown,h6,hany])
       all_goals first | exact hh | exact hb | skip
       all_goals first | omega | (unfold maxLen; omega) | (right; omega) | (left; simp; done) | (simp only [wk3,wkL2,wk2,wkL,wk1_d,wk1_own,wk1_nil,and_self]; done) | (intro i hi; simp only [upd]; (repeat' split); all_goals first | rfl | omega) | skip
     | false =>
       have h6' : decide (c.body.length ≤ 6) = true := decide_eq_true (by have := of_decide_eq_false h6; omega)
       have hS : checkB c = c.body.all literalB := by unfold checkB; rw [h1, h2, h6']; rfl
       repeat' (first | (with_reducible first | refine XG_split (fun hq => ?_) (fun hq => ?_) | refine MX1.of 4000 (by simp) ?_ | refine MX2.of 4000 (by simp) ?_ | refine And.intro ?_ ?_) | ((with_reducible first | refine Or.inl (And.intro (And.intro mixedP ?_) ?_) | refine Or.inl (And.intro mixedP ?_)); kernel_rfl) | simp only [go_sem,Nat.reduceEqDiff,Nat.reduceAdd,Nat.reduceMul,Nat.reduceLeDiff,Int.reduceBEq,Clause.av,Lit.av,empty_str,cvals,cval,aFn_self,hS,h1,hown,h6,hany])
       all_goals first | exact hh | exact hb | skip
       all_goals first | omega | (unfold maxLen; omega) | (right; omega) | (left; simp; done) | (simp only [wk3,wkL2,wk2,wkL,wk1_d,wk1_own,wk1_nil,and_self]; done) | (intro i hi; simp only [upd]; (repeat' split); all_goals first | rfl | omega) | skip
end Go.Proofs.Ytdhocmakbapfpaa.M
end
section
namespace Go.Proofs.Ytdhocmakbapfpaa.M
open Go.R
def tI (t : Term) : Prop := i64 t.val.num
def litI (l : Lit) : Prop := tI l.who ∧ ∀ t ∈ l.args, tI t
def argsGo : Nat → ByteArray → List Term → ByteArray
 | _, out, [] => out
 | 0, out, t :: r => argsGo 1 (out ++ ⟨#[40]⟩ ++ termText t) r
 | k + 1, out, t :: r => argsGo (k + 2) (out ++ ⟨#[44, 32]⟩ ++ termText t) r
def litAhead (l : Lit) : ByteArray :=
 let a : ByteArray := if l.kind == 2 then ⟨#[110, 111, 116, 32]⟩ else ⟨#[]⟩
 let b := if ownT l.who then a else a ++ (termText l.who ++ ⟨#[32, 115, 97, 121, 115, 32]⟩)
 b ++ l.pred
def litBehind (l : Lit) (out : ByteArray) : ByteArray := if 0 < l.args.length then out ++ ⟨#[41]⟩ else out
def termAt (l : List Term) (i : Nat) : ByteArray := match l[i]? with | some t => termText t | none => ⟨#[]⟩
def litText (l : Lit) : ByteArray :=
 if l.kind == 3 then termAt l.args 0 ++ ⟨#[32, 60, 32]⟩ ++ termAt l.args 1
 else if l.kind == 4 then termAt l.args 0 ++ ⟨#[32, 33, 61, 32]⟩ ++ termAt l.args 1
 else litBehind l (argsGo 0 (litAhead l) l.args)
abbrev litTextS : Fs := .pureIf (g1p aLit fun l => literalB l = true ∧ litI l) (g1 aLit fun l => vS (litText l))
theorem nameB_size {s : ByteArray} (h : nameB s = true) : s.size ≤ 16 := by
 unfold nameB at h
 simp only [Bool.and_eq_true, decide_eq_true_eq] at h
 exact h.1.1.2
theorem numText_size {n : Int} (h : i64 n) : (numText n).size ≤ 20 := by
 obtain ⟨h1, h2⟩ := h
 unfold numText
 split
 · rw [strOf_size, List.length_cons]
   have := decL_len 18 (-n).toNat (by omega)
   omega
 · rw [strOf_size]
   exact decL_len 19 n.toNat (by omega)
theorem textB_size {v : Val} (h : i64 v.num) : (textB v).size ≤ 20 := by
 unfold textB
 split
 · rename_i hg
   split
   · rename_i hs
     have h1 : v.sym.size ≠ 0 := by omega
     simp [goodV, h1] at hg
     have := nameB_size hg.1
     omega
   · exact numText_size h
 · exact Nat.zero_le _
theorem termText_size {t : Term} (h : tI t) (hb : termB t = true) : (termText t).size ≤ 20 := by
 unfold termText
 split
 · rename_i hv
   simp [termB, hv, varB] at hb
   omega
 · exact textB_size h
set_option maxHeartbeats 1000000 in
theorem litText_ok : FsOk Try.prog 49 litTextS := by
 refine of_Y1 (E := EqT.no _) (F := (Ft.no.put 59 ownS).put 73 termTextS) Lit.av (fun _ _ => aLit_le) Try.func49 rfl (by kernel_rfl) [.tmp 2] rfl Try.ntmps49 (by decide) (((FtOk.no _).put own_ok).put termText_ok) ?_
 intro l h n hp hok
 obtain ⟨hg, hw, hi⟩ := hp
 by_cases h3 : l.kind = 3
 · have hA : (l.kind == 3) = true := by simp [h3]
   obtain ⟨h2, ha⟩ : l.args.length = 2 ∧ termsB l.args = true := by simp [literalB, h3] at hg; exact ⟨hg.1.2, hg.2⟩
   obtain ⟨a, b, hab⟩ : ∃ a b, l.args = [a, b] := by
    match l.args, h2 with
    | [a, b], _ => exact ⟨a, b, rfl⟩
   rw [hab] at hi ha
   have ia := hi a (by simp)
   have ib := hi b (by simp)
   have sa := termText_size ia (by simp [termsB] at ha; exact ha.1)
   have sb := termText_size ib (by simp [termsB] at ha; exact ha.2)
   repeat' (first | (with_reducible refine XG_split (fun hq => ?_) (fun hq => ?_)) | (with_reducible refine Or.inl (And.intro (And.intro mixedP ?_) ?_); kernel_rfl) | (with_reducible refine MX1.of 4000 (by simp) ?_) | (with_reducible refine MX2.of 4000 (by simp) ?_) | (with_reducible refine And.intro ?_ ?_) | simp only [go_sem,Nat.reduceEqDiff,Nat.reduceAdd,Nat.reduceMul,Nat.reduceLeDiff,Lit.av,hA,hab])
   all_goals first | omega | assumption | skip
   · have e : #[(32 : UInt8), 60, 32].size = 3 := rfl
     rw [e]; omega
   · have e : #[(32 : UInt8), 60, 32].size = 3 := rfl
     rw [e]; omega
   · exact wk_v (congrArg Value.string (by simp [litText, hA, hab, termAt]))
 by_cases h4 : l.kind = 4
 · have hA : (l.kind == 3) = false := by simp [h3]
   have hB : (l.kind == 4) = true := by simp [h4]
   obtain ⟨h2, ha⟩ : l.args.length = 2 ∧ termsB l.args = true := by simp [literalB, h4] at hg; exact ⟨hg.1.2, hg.2⟩
   obtain ⟨a, b, hab⟩ : ∃ a b, l.args = [a, b] := by
    match l.args, h2 with
    | [a, b], _ => exact ⟨a, b, rfl⟩
   rw [hab] at hi ha
   have ia := hi a (by simp)
   have ib := hi b (by simp)
   have sa := termText_size ia (by simp [termsB] at ha; exact ha.1)
   have sb := termText_size ib (by simp [termsB] at ha; exact ha.2)
   repeat' (first | (with_reducible refine XG_split (fun hq => ?_) (fun hq => ?_)) | (with_reducible refine Or.inl (And.intro (And.intro mixedP ?_) ?_); kernel_rfl) | (with_reducible refine MX1.of 4000 (by simp) ?_) | (with_reducible refine MX2.of 4000 (by simp) ?_) | (with_reducible refine And.intro ?_ ?_) | simp only [go_sem,Nat.reduceEqDiff,Nat.reduceAdd,Nat.reduceMul,Nat.reduceLeDiff,Lit.av,hA,hB,hab])
   all_goals first | omega | assumption | skip
   · have e : #[(32 : UInt8), 33, 61, 32].size = 4 := rfl
     rw [e]; omega
   · have e : #[(32 : UInt8), 33, 61, 32].size = 4 := rfl
     rw [e]; omega
   · exact wk_v (congrArg Value.string (by simp [litText, hA, hB, hab, termAt]))
 · have hA : (l.kind == 3) = false := by simp [h3]
   have hB : (l.kind == 4) = false := by simp [h4]
   have hs : saidB l = true := by
    simp only [literalB, hA, hB] at hg
    split at hg
    · exact hg
    · simp at hg
   have hpred : l.pred.size ≤ 16 := by simp only [saidB, Bool.and_eq_true] at hs; exact nameB_size hs.1.1.2
   have hlen : l.args.length ≤ 4 := by simp only [saidB, Bool.and_eq_true, decide_eq_true_eq] at hs; exact hs.1.2
   have hts : termsB l.args = true := by simp only [saidB, Bool.and_eq_true] at hs; exact hs.2
   have hwho : ownT l.who = false → (termText l.who).size ≤ 20 := fun e => by
    simp only [saidB, Bool.and_eq_true, e, Bool.false_or] at hs
    exact termText_size hw hs.1.1.1.1
   have hok' : HOk (n + 1) (upd h n (.box l.bx)) := (hok.mono (Nat.le_succ n)).upd_box (Nat.lt_succ_self n) (by simp only [go_sem, Lit.bx])
   have e1 : #[(110 : UInt8), 111, 116, 32].size = 4 := rfl
   have e2 : #[(32 : UInt8), 115, 97, 121, 115, 32].size = 6 := rfl
   have e3 : (#[] : Array UInt8).size = 0 := rfl
   have hahead : (litAhead l).size ≤ 60 := by
    unfold litAhead
    have f1 : (⟨#[110, 111, 116, 32]⟩ : ByteArray).size = 4 := rfl
    have f2 : (⟨#[32, 115, 97, 121, 115, 32]⟩ : ByteArray).size = 6 := rfl
    have f3 : (⟨#[]⟩ : ByteArray).size = 0 := rfl
    cases ho : ownT l.who
    · have := hwho ho
      simp only [ByteArray.size_append, Bool.false_eq_true, if_false]
      split <;> omega
    · simp only [ByteArray.size_append, if_true]
      split <;> omega
   repeat' (first | (with_reducible refine XG_split (fun hq => ?_) (fun hq => ?_)) | (with_reducible refine Or.inl (And.intro (And.intro mixedP ?_) ?_); kernel_rfl) | (with_reducible refine MX1.of 4000 (by simp) ?_) | (with_reducible refine MX2.of 4000 (by simp) ?_) | (with_reducible refine And.intro ?_ ?_) | simp only [go_sem,Nat.reduceEqDiff,Nat.reduceAdd,Nat.reduceMul,Nat.reduceLeDiff,Lit.av,hA,hB])
   all_goals try simp only [Bool.not_eq_true', Bool.not_eq_false'] at *
   all_goals first | assumption | skip
   all_goals try (have hwho := hwho ‹_›)
   all_goals first | (simp only [e1, e2, e3]; omega) | skip
   all_goals
    refine AW.loopJ (E := EqT.no _) (S := fun x : Nat × ByteArray => ⟨fr [(1, .p n 0), (3, vS x.2), (4, vI x.1)] (List.replicate 80 .any), upd h n (.box l.bx), n, n + 1⟩)
     (I := fun x => x.1 ≤ l.args.length ∧ x.2.size ≤ 100 + 40 * x.1 ∧ argsGo x.1 x.2 (l.args.drop x.1) = argsGo 0 (litAhead l) l.args) (μ := fun x => l.args.length - x.1) (0, litAhead l) ⟨Nat.zero_le _, by simp only; omega, rfl⟩ ?_ 4000 (fun _ => by simp only [fr_len, List.length_replicate]; decide) ?_
    · have hah : litAhead l = litAhead l := rfl
      refine Wk.same ?_ hok' (Nat.le_succ n) (by simp only [go_sem]; omega)
      simp only [go_sem, litAhead, *, if_true, if_false, Bool.false_eq_true, reduceIte]
    · rintro ⟨k, out⟩ ⟨hk, hsz, hI⟩
      have hk : k ≤ l.args.length := hk
      have hsz : out.size ≤ 100 + 40 * k := hsz
      have hI : argsGo k out (l.args.drop k) = argsGo 0 (litAhead l) l.args := hI
      have f1 : #[(40 : UInt8)].size = 1 := rfl
      have f2 : #[(44 : UInt8), 32].size = 2 := rfl
      have f3 : #[(41 : UInt8)].size = 1 := rfl
      have g1 : (⟨#[40]⟩ : ByteArray).size = 1 := rfl
      have g2 : (⟨#[44, 32]⟩ : ByteArray).size = 2 := rfl
      rcases Nat.lt_or_ge k l.args.length with hkl | hkl
      · have hin := List.getElem_mem hkl
        have ht := hi _ hin
        have hz := termText_size ht (by unfold termsB at hts; rw [List.all_eq_true] at hts; exact hts _ hin)
        rw [List.drop_eq_getElem_cons hkl] at hI
        repeat' (first | (with_reducible refine XG_split (fun hq => ?_) (fun hq => ?_)) | (with_reducible refine Or.inl (And.intro (And.intro mixedP ?_) ?_); kernel_rfl) | (with_reducible refine MX1.of 4000 (by simp) ?_) | (with_reducible refine MX2.of 4000 (by simp) ?_) | (with_reducible refine And.intro ?_ ?_) | simp only [go_sem,Nat.reduceEqDiff,Nat.reduceAdd,Nat.reduceMul,Nat.reduceLeDiff,Lit.bx,decide_eq_true hkl,List.getElem?_eq_getElem hkl])
        all_goals first | exact ht | omega | (rw [f1]; omega) | (rw [f2]; omega) | (simp only [ByteArray.size_append, Int.natCast_add, g1, g2]; omega) | skip
        · rename_i hq
          have hI' : argsGo (k + 1) (out ++ (⟨#[40]⟩ : ByteArray) ++ termText l.args[k]) (l.args.drop (k + 1)) = argsGo 0 (litAhead l) l.args := by
           have h0 : k = 0 := by simpa using hq
           subst h0
           exact hI
          exact ⟨((k + 1, out ++ (⟨#[40]⟩ : ByteArray) ++ termText l.args[k]) : Nat × ByteArray), ⟨by show k + 1 ≤ _; omega, by simp only [ByteArray.size_append, g1]; omega, hI'⟩, Wk.same (by simp only [go_sem]) hok' (Nat.le_succ n) (by simp only [go_sem]; omega), by simp only; omega⟩
        · rename_i hq
          have hI' : argsGo (k + 1) (out ++ (⟨#[44, 32]⟩ : ByteArray) ++ termText l.args[k]) (l.args.drop (k + 1)) = argsGo 0 (litAhead l) l.args := by
           obtain ⟨j, rfl⟩ : ∃ j, k = j + 1 := ⟨k - 1, by simp at hq; omega⟩
           exact hI
          exact ⟨((k + 1, out ++ (⟨#[44, 32]⟩ : ByteArray) ++ termText l.args[k]) : Nat × ByteArray), ⟨by show k + 1 ≤ _; omega, by simp only [ByteArray.size_append, g2]; omega, hI'⟩, Wk.same (by simp only [go_sem]) hok' (Nat.le_succ n) (by simp only [go_sem]; omega), by simp only; omega⟩
      · obtain rfl : k = l.args.length := by omega
        rw [List.drop_length] at hI
        have hout : out = argsGo 0 (litAhead l) l.args := by
         rw [← hI]
         cases l.args.length <;> rfl
        repeat' (first | (with_reducible refine XG_split (fun hq => ?_) (fun hq => ?_)) | (with_reducible refine Or.inl (And.intro (And.intro mixedP ?_) ?_); kernel_rfl) | (with_reducible refine MX1.of 4000 (by simp) ?_) | (with_reducible refine MX2.of 4000 (by simp) ?_) | (with_reducible refine And.intro ?_ ?_) | simp only [go_sem,Nat.reduceEqDiff,Nat.reduceAdd,Nat.reduceMul,Nat.reduceLeDiff,Lit.bx,Nat.lt_irrefl,decide_false])
        all_goals first | omega | (rw [f3]; omega) | skip
        all_goals refine wk_v (congrArg Value.string ?_)
        all_goals simp only [decide_eq_true_eq, decide_eq_false_iff_not] at *
        all_goals simp [litText, litBehind, *]
end Go.Proofs.Ytdhocmakbapfpaa.M
end
section
namespace Go.Proofs.Ytdhocmakbapfpaa.M
open Go.R
def clauseI (c : Clause) : Prop := litI c.head ∧ ∀ l ∈ c.body, litI l
def bodyGo : Nat → ByteArray → List Lit → ByteArray
 | _, out, [] => out
 | 0, out, t :: r => bodyGo 1 (out ++ ⟨#[32, 58, 45, 32]⟩ ++ litText t) r
 | k + 1, out, t :: r => bodyGo (k + 2) (out ++ ⟨#[44, 32]⟩ ++ litText t) r
def clauseText (c : Clause) : ByteArray := bodyGo 0 (litText c.head) c.body ++ ⟨#[46]⟩
def printB (c : Clause) : ByteArray × Int := if checkB c then (clauseText c, 0) else (⟨#[]⟩, 1)
def printLitB (l : Lit) : ByteArray × Int := if checkLitB l then (litText l, 0) else (⟨#[]⟩, 1)
abbrev printS : Fs := .pureIf (g1p aClause fun c => clauseI c) (g1 aClause fun c => .tup [vS (printB c).1, vI (printB c).2])
abbrev printLitS : Fs := .pureIf (g1p aLit fun l => litI l) (g1 aLit fun l => .tup [vS (printLitB l).1, vI (printLitB l).2])
theorem argsGo_size : ∀ (l : List Term) (k : Nat) (out : ByteArray), (∀ t ∈ l, tI t) → termsB l = true → (argsGo k out l).size ≤ out.size + 22 * l.length
 | [], k, out, _, _ => by cases k <;> simp [argsGo]
 | t :: r, k, out, hi, hb => by
   have h1 := termText_size (hi t (by simp)) (by simp [termsB] at hb; exact hb.1)
   have g1 : (⟨#[40]⟩ : ByteArray).size = 1 := rfl
   have g2 : (⟨#[44, 32]⟩ : ByteArray).size = 2 := rfl
   have hr : termsB r = true := by simp [termsB] at hb ⊢; exact hb.2
   cases k with
   | zero =>
     have := argsGo_size r 1 (out ++ ⟨#[40]⟩ ++ termText t) (fun x hx => hi x (by simp [hx])) hr
     simp only [ByteArray.size_append, g1] at this
     simp only [argsGo, List.length_cons]
     omega
   | succ k =>
     have := argsGo_size r (k + 2) (out ++ ⟨#[44, 32]⟩ ++ termText t) (fun x hx => hi x (by simp [hx])) hr
     simp only [ByteArray.size_append, g2] at this
     simp only [argsGo, List.length_cons]
     omega
theorem litText_size {l : Lit} (hi : litI l) (hg : literalB l = true) : (litText l).size ≤ 200 := by
 have f1 : (⟨#[110, 111, 116, 32]⟩ : ByteArray).size = 4 := rfl
 have f2 : (⟨#[32, 115, 97, 121, 115, 32]⟩ : ByteArray).size = 6 := rfl
 have f3 : (⟨#[]⟩ : ByteArray).size = 0 := rfl
 have f4 : (⟨#[41]⟩ : ByteArray).size = 1 := rfl
 have f5 : (⟨#[32, 60, 32]⟩ : ByteArray).size = 3 := rfl
 have f6 : (⟨#[32, 33, 61, 32]⟩ : ByteArray).size = 4 := rfl
 have hz : ∀ i, termsB l.args = true → (termAt l.args i).size ≤ 20 := by
  intro i hb
  unfold termAt
  split
  · rename_i t ht
    have hm := List.mem_of_getElem? ht
    exact termText_size (hi.2 t hm) (by unfold termsB at hb; rw [List.all_eq_true] at hb; exact hb t hm)
  · exact Nat.zero_le _
 by_cases h12 : (l.kind == 1 || l.kind == 2) = true
 · have hs : saidB l = true := by simp only [literalB, h12, if_true] at hg; exact hg
   have h3 : (l.kind == 3) = false := by simp at h12 ⊢; omega
   have h4 : (l.kind == 4) = false := by simp at h12 ⊢; omega
   have hpred : l.pred.size ≤ 16 := by simp only [saidB, Bool.and_eq_true] at hs; exact nameB_size hs.1.1.2
   have hlen : l.args.length ≤ 4 := by simp only [saidB, Bool.and_eq_true, decide_eq_true_eq] at hs; exact hs.1.2
   have hts : termsB l.args = true := by simp only [saidB, Bool.and_eq_true] at hs; exact hs.2
   have hwho : ownT l.who = false → (termText l.who).size ≤ 20 := fun e => by
    simp only [saidB, Bool.and_eq_true, e, Bool.false_or] at hs
    exact termText_size hi.1 hs.1.1.1.1
   have ha := argsGo_size l.args 0 (litAhead l) hi.2 hts
   have hahead : (litAhead l).size ≤ 60 := by
    unfold litAhead
    cases ho : ownT l.who
    · have := hwho ho
      simp only [ByteArray.size_append, Bool.false_eq_true, if_false]
      split <;> omega
    · simp only [ByteArray.size_append, if_true]
      split <;> omega
   simp only [litText, h3, h4, Bool.false_eq_true, if_false, litBehind]
   split
   · rw [ByteArray.size_append, f4]; omega
   · omega
 · have h12 : (l.kind == 1 || l.kind == 2) = false := by simpa using h12
   have hts : termsB l.args = true := by simp only [literalB, h12, Bool.false_eq_true, if_false, Bool.and_eq_true] at hg; exact hg.2
   have h0 := hz 0 hts
   have h1 := hz 1 hts
   simp only [literalB, h12, Bool.false_eq_true, if_false, Bool.and_eq_true, Bool.or_eq_true] at hg
   unfold litText
   split
   · simp only [ByteArray.size_append, f5]; omega
   · split
     · simp only [ByteArray.size_append, f6]; omega
     · exfalso
       rcases hg.1.1.1.1 with q | q <;> simp_all
theorem checkLit_literal {l : Lit} (h : checkLitB l = true) : literalB l = true := by
 simp only [checkLitB, Bool.and_eq_true] at h
 simp [literalB, h.1, h.2]
set_option maxHeartbeats 1000000 in
theorem refPrintLit_ok : FsOk Try.prog 23 printLitS := by
 refine of_Y1 (E := EqT.no _) (F := (Ft.no.put 50 checkLitS).put 49 litTextS) Lit.av (fun _ _ => aLit_le) Try.func23 rfl (by kernel_rfl) [.tmp 2, .tmp 3] rfl Try.ntmps23 (by decide) (((FtOk.no _).put checkLit_ok).put litText_ok) ?_
 intro l h n hp hok
 repeat' (first | (with_reducible refine XG_split (fun hq => ?_) (fun hq => ?_)) | (with_reducible refine Or.inl (And.intro (And.intro mixedP ?_) ?_); kernel_rfl) | (with_reducible refine MX1.of 4000 (by simp) ?_) | (with_reducible refine MX2.of 4000 (by simp) ?_) | (with_reducible refine And.intro ?_ ?_) | simp only [go_sem,Nat.reduceEqDiff,Nat.reduceAdd,Nat.reduceMul,Nat.reduceLeDiff,Lit.av])
 all_goals try simp only [Bool.not_eq_true', Bool.not_eq_false'] at *
 all_goals first | exact checkLit_literal ‹_› | assumption | (refine wk3_eq ?_; simp [printLitB, *])
set_option maxHeartbeats 1000000 in
theorem refPrint_ok : FsOk Try.prog 20 printS := by
 refine of_Y1 (E := EqT.no _) (F := (Ft.no.put 29 checkS).put 49 litTextS) Clause.av (fun _ _ => aClause_le) Try.func20 rfl (by kernel_rfl) [.tmp 2, .tmp 3] rfl Try.ntmps20 (by decide) (((FtOk.no _).put check_ok).put litText_ok) ?_
 intro c h n hp hok
 obtain ⟨hp1, hp2⟩ := hp
 cases hck : checkB c with
 | false =>
   repeat' (first | (with_reducible refine XG_split (fun hq => ?_) (fun hq => ?_)) | (with_reducible refine Or.inl (And.intro (And.intro mixedP ?_) ?_); kernel_rfl) | (with_reducible refine MX1.of 4000 (by simp) ?_) | (with_reducible refine MX2.of 4000 (by simp) ?_) | (with_reducible refine And.intro ?_ ?_) | simp only [go_sem,Nat.reduceEqDiff,Nat.reduceAdd,Nat.reduceMul,Nat.reduceLeDiff,Clause.av,hck])
   refine wk3_eq ?_
   simp [printB, *]
 | true =>
 have hc := hck
 simp only [checkB, Bool.and_eq_true, decide_eq_true_eq] at hc
 obtain ⟨⟨⟨hc1, hc2⟩, hc3⟩, hc4⟩ := hc
 repeat' (first | (with_reducible refine XG_split (fun hq => ?_) (fun hq => ?_)) | (with_reducible refine Or.inl (And.intro (And.intro mixedP ?_) ?_); kernel_rfl) | (with_reducible refine MX1.of 4000 (by simp) ?_) | (with_reducible refine MX2.of 4000 (by simp) ?_) | (with_reducible refine And.intro ?_ ?_) | simp only [go_sem,Nat.reduceEqDiff,Nat.reduceAdd,Nat.reduceMul,Nat.reduceLeDiff,Clause.av,hck])
 · exact checkLit_literal hc1
 · exact hp1
 have hz0 := litText_size hp1 (checkLit_literal hc1)
 have hok' : HOk (n + 1) (upd h n (.box c.ds)) := (hok.mono (Nat.le_succ n)).upd_box (Nat.lt_succ_self n) (by simp only [go_sem, Clause.ds])
 refine AW.loopJ (E := EqT.no _) (S := fun x : Nat × ByteArray => ⟨fr [(1, .p n 0), (4, vS x.2), (5, vI x.1)] (List.replicate 35 .any), upd h n (.box c.ds), n, n + 1⟩)
  (I := fun x => x.1 ≤ c.body.length ∧ x.2.size ≤ 200 + 300 * x.1 ∧ bodyGo x.1 x.2 (c.body.drop x.1) = bodyGo 0 (litText c.head) c.body) (μ := fun x => c.body.length - x.1) (0, litText c.head) ⟨Nat.zero_le _, by simp only; omega, rfl⟩ ?_ 4000 (fun _ => by simp only [fr_len, List.length_replicate]; decide) ?_
 · exact Wk.same (by simp only [go_sem]) hok' (Nat.le_succ n) (by simp only [go_sem]; omega)
 · rintro ⟨k, out⟩ ⟨hk, hsz, hI⟩
   have hk : k ≤ c.body.length := hk
   have hsz : out.size ≤ 200 + 300 * k := hsz
   have hI : bodyGo k out (c.body.drop k) = bodyGo 0 (litText c.head) c.body := hI
   have f1 : #[(32 : UInt8), 58, 45, 32].size = 4 := rfl
   have f2 : #[(44 : UInt8), 32].size = 2 := rfl
   have f3 : #[(46 : UInt8)].size = 1 := rfl
   have g1 : (⟨#[32, 58, 45, 32]⟩ : ByteArray).size = 4 := rfl
   have g2 : (⟨#[44, 32]⟩ : ByteArray).size = 2 := rfl
   rcases Nat.lt_or_ge k c.body.length with hkl | hkl
   · have hin := List.getElem_mem hkl
     have ht := hp2 _ hin
     have hg : literalB c.body[k] = true := by rw [List.all_eq_true] at hc4; exact hc4 _ hin
     have hz := litText_size ht hg
     rw [List.drop_eq_getElem_cons hkl] at hI
     repeat' (first | (with_reducible refine XG_split (fun hq => ?_) (fun hq => ?_)) | (with_reducible refine Or.inl (And.intro (And.intro mixedP ?_) ?_); kernel_rfl) | (with_reducible refine MX1.of 4000 (by simp) ?_) | (with_reducible refine MX2.of 4000 (by simp) ?_) | (with_reducible refine And.intro ?_ ?_) | simp only [go_sem,Nat.reduceEqDiff,Nat.reduceAdd,Nat.reduceMul,Nat.reduceLeDiff,Clause.ds,decide_eq_true hkl,List.getElem?_eq_getElem hkl])
     all_goals first | exact ht | exact hg | omega | (rw [f1]; omega) | (rw [f2]; omega) | (simp only [ByteArray.size_append, Int.natCast_add, g1, g2]; omega) | skip
     · rename_i hq
       have hI' : bodyGo (k + 1) (out ++ (⟨#[32, 58, 45, 32]⟩ : ByteArray) ++ litText c.body[k]) (c.body.drop (k + 1)) = bodyGo 0 (litText c.head) c.body := by
        have h0 : k = 0 := by simpa using hq
        subst h0
        exact hI
       exact ⟨((k + 1, out ++ (⟨#[32, 58, 45, 32]⟩ : ByteArray) ++ litText c.body[k]) : Nat × ByteArray), ⟨by show k + 1 ≤ _; omega, by simp only [ByteArray.size_append, g1]; omega, hI'⟩, Wk.same (by simp only [go_sem]) hok' (Nat.le_succ n) (by simp only [go_sem]; omega), by simp only; omega⟩
     · rename_i hq
       have hI' : bodyGo (k + 1) (out ++ (⟨#[44, 32]⟩ : ByteArray) ++ litText c.body[k]) (c.body.drop (k + 1)) = bodyGo 0 (litText c.head) c.body := by
        obtain ⟨j, rfl⟩ : ∃ j, k = j + 1 := ⟨k - 1, by simp at hq; omega⟩
        exact hI
       exact ⟨((k + 1, out ++ (⟨#[44, 32]⟩ : ByteArray) ++ litText c.body[k]) : Nat × ByteArray), ⟨by show k + 1 ≤ _; omega, by simp only [ByteArray.size_append, g2]; omega, hI'⟩, Wk.same (by simp only [go_sem]) hok' (Nat.le_succ n) (by simp only [go_sem]; omega), by simp only; omega⟩
   · obtain rfl : k = c.body.length := by omega
     rw [List.drop_length] at hI
     have hout : out = bodyGo 0 (litText c.head) c.body := by
      rw [← hI]
      cases c.body.length <;> rfl
     repeat' (first | (with_reducible refine XG_split (fun hq => ?_) (fun hq => ?_)) | (with_reducible refine Or.inl (And.intro (And.intro mixedP ?_) ?_); kernel_rfl) | (with_reducible refine MX1.of 4000 (by simp) ?_) | (with_reducible refine MX2.of 4000 (by simp) ?_) | (with_reducible refine And.intro ?_ ?_) | simp only [go_sem,Nat.reduceEqDiff,Nat.reduceAdd,Nat.reduceMul,Nat.reduceLeDiff,Clause.ds,Nat.lt_irrefl,decide_false])
     · rw [f3]; omega
     · refine wk3_eq ?_
       simp [printB, clauseText, hck, hout]
end Go.Proofs.Ytdhocmakbapfpaa.M
end
