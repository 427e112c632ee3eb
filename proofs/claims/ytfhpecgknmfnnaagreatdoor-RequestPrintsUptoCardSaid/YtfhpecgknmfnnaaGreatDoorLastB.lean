/- PROVED: For any request: the program writes it as the chapter says, or refuses it (where the listed tables hold what their initialisers lay, and the argument is small enough for the row). -/
import Derived.Test.YtfhpecgknmfnnaaGreatDoorCards
import Derived.Test.YtfhpecgknmfnnaaGreatDoorTie
import Derived.Test.YtfhpecgknmfnnaaGreatDoorB10
import Derived.WalkKit
import Derived.ProofKit
import Derived.OpenShut
import Derived.ShutString
import Derived.ChangeSame
import Derived.RowKit3
import Derived.Below
import Derived.Deep.DeepHandedRow
import Derived.Lib.LaidTab
import Derived.SevenTiedAt
import Derived.JoinedCond
namespace Go.Proofs.YtfhpecgknmfnnaaGreatDoor.requestPrints
open Go.ChangeShapes Go.WideShapes Go.ChangeAt Go.RowKit
open Go.ChangeMaps (open_string shut_string)
set_option linter.unusedVariables false
theorem own : ownKnob Tryz.prog.godebug = none := by kernel_rfl

set_option maxRecDepth 100000 in
theorem contract (H : Type) (enc : TypeId × Value → H) (W : World) (base : Nat) (args : Array Value) (ds gs : List (DataW H)) (before : List MemPlace)
    (hval : ∀ (j : Nat) t v, Tryz.f4.params[j]? = some t → args[j]? = some v → Value.okWide Tryz.prog W .any base t v)
    (hW : DataW.Whole enc Tryz.prog Tryz.f4.params.toList Rows.requestPrintsSpec.vars false W args.toList ds gs before) (hk : Rows.uptoSmall H (ds ++ gs) = true) (hL : laidMetH Tryz.prog Rows.requestPrintsRow.laid W) :
    Calls Tryz.prog 4 args W fun e W' => ∃ v, e = .returned v ∧ Rows.requestPrintsSpec.post enc Tryz.prog Tryz.f4 false true false false W args v W' := by
  have hW' := hW
  obtain ⟨p, q, hA0, hV, rfl, hfz, hnd⟩ := hW
  have hA : DataW.TrodAll enc Tryz.prog W 0 (fun _ => true) true Tryz.f4.params.toList args.toList ds p := hA0
  rw [Tryz.params4] at hA hval
  obtain ⟨v0, vs0, d0, ds0, p0, q0, hargs, rfl, rfl, h0, r0⟩ := trodAll_cons hA
  obtain ⟨rfl, rfl, rfl⟩ := trodAll_nil r0
  obtain rfl : args = #[v0] := by cases args; simp_all
  obtain ⟨rfl, rfl⟩ := trodVars_none hV
  clear hA0
  have hb : Rows.uptoBulkAll ([d0] ++ []) ≤ 1048576 := of_decide_eq_true hk
  obtain ⟨a0, w0, e0⟩ := M.open_req (hval 0 33 v0 rfl rfl) h0
  have w0 := M.reqQ_mono _ _ _ w0 (Nat.le_trans (Go.R.bulk_part (by simp)) hb)
  refine (M.prints_calls e0 w0 hL).mono fun e W' ⟨he, hg⟩ => ?_
  subst he
  exact ⟨_, rfl, Go.R.post_below (pa := p0 ++ ([])) (pv := []) hW' (fun _ _ _ => (trodAll_cons_mk (shut_bool Tryz.underlying4 _) trodAll_mk0)) (fun sp hs => (trodAll_cons_mk (Go.R.arg_again M.laid M.read_req M.row_req h0 hg (fun x hx => by simpa using hW'.lt x (by simp [hx])) (fun x hx => by simp [hx]) sp hs) trodAll_mk0)) (fun _ _ => rfl) (by simp) hg (ok_one (by kernel_rfl) rfl (okWide_bool_mk Tryz.underlying4 _))⟩

/-- A world for the witness: the tables hold what their initialisers lay. -/
noncomputable def laidWorld (os : Os) : World :=
  { World.holding Tryz.prog os ⟨#[], #[], []⟩ with heap := M.laidHeap (World.holding Tryz.prog os ⟨#[], #[], []⟩).heap }
theorem laid_met (os : Os) : laidMet Tryz.prog Rows.requestPrintsRow.laid ((laidWorld os).forCall (fun _ _ => 0) ⟨#[], #[.agg #[.int .u8 0, .string .empty, .int .i64 0, .int .u8 0, .string .empty, .string .empty, .int .i64 0, .string .empty, .slice none 0 0, .slice none 0 0, .int .i64 0, .int .u8 0, .string .empty, .string .empty, .int .i64 0, .string .empty, .slice none 0 0]], []⟩).memory :=
  laidMet_of_run' 8 (by kernel_rfl) (by kernel_rfl)
theorem reads (os : Os) {H : Type} (enc : TypeId × Value → H) : ∃ places, DataW.whole enc Tryz.prog ((laidWorld os).forCall (fun _ _ => 0) ⟨#[], #[.agg #[.int .u8 0, .string .empty, .int .i64 0, .int .u8 0, .string .empty, .string .empty, .int .i64 0, .string .empty, .slice none 0 0, .slice none 0 0, .int .i64 0, .int .u8 0, .string .empty, .string .empty, .int .i64 0, .string .empty, .slice none 0 0]], []⟩).memory Tryz.f4.params.toList Rows.requestPrintsSpec.vars false (#[.agg #[.int .u8 0, .string .empty, .int .i64 0, .int .u8 0, .string .empty, .string .empty, .int .i64 0, .string .empty, .slice none 0 0, .slice none 0 0, .int .i64 0, .int .u8 0, .string .empty, .string .empty, .int .i64 0, .string .empty, .slice none 0 0]] : Array Value).toList 8 = some ([.agg [.lit (.int .u8 0), .lit (.string []), .lit (.int .i64 0), .agg [.agg [.lit (.int .u8 0), .agg [.lit (.string []), .agg [.lit (.string []), .lit (.int .i64 0)]], .lit (.string []), .nil], .nil], .lit (.int .i64 0), .agg [.lit (.int .u8 0), .agg [.lit (.string []), .agg [.lit (.string []), .lit (.int .i64 0)]], .lit (.string []), .nil]]], [], places) :=
  ⟨[], by kernel_rfl⟩

set_option maxRecDepth 100000 in
theorem lifted (os : Os) (started : os.Started) (H : Type) (enc : TypeId × Value → H) (F : Stop.Interp) :
    ReturnsInHanded {} Tryz.checked os 4 .any ((Rows.OpenSpec.upto Rows.requestPrintsSpec).preRow enc Tryz.prog Tryz.f4 Rows.requestPrintsUptoRow.domain false Rows.requestPrintsUptoRow.laid) (((Rows.OpenSpec.upto Rows.requestPrintsSpec).at F).post enc Tryz.prog Tryz.f4 false true false false) := by
  obtain ⟨places, hx⟩ := reads os enc
  refine returnsInHanded_of_row (C := Tryz.checked) (s := Rows.OpenSpec.upto Rows.requestPrintsSpec) own started (by kernel_rfl) Tryz.func4
    (witness_row_at (enc := enc) (C := Tryz.checked) false (laidWorld os) #[.agg #[.int .u8 0, .string .empty, .int .i64 0, .int .u8 0, .string .empty, .string .empty, .int .i64 0, .string .empty, .slice none 0 0, .slice none 0 0, .int .i64 0, .int .u8 0, .string .empty, .string .empty, .int .i64 0, .string .empty, .slice none 0 0]] rfl (by kernel_rfl) (by kernel_rfl) (by kernel_rfl)
      (OpenSpec.preRow_of_cond 8 hx (by kernel_rfl) (fun k hk => by cases hk; kernel_rfl) (by kernel_rfl) (laid_met os))) ?_
  intro W base args ds gs before hval hW _ hk _ hL _ _
  exact contract H enc W base args ds gs before hval hW (hk _ rfl) hL

theorem said : Rows.RequestPrintsUptoSaid :=
  OpenClaim.holds_of_cond 4 Tryz.f4 rfl rfl rfl rfl rfl rfl rfl ⟨rfl, rfl, rfl, rfl, rfl⟩ rfl rfl rfl rfl rfl (by kernel_rfl) Tryz.func4 (by kernel_rfl)
    (of_decide_eq_true (by kernel_rfl)) (by unfold Func.isWrapper; first | (rw [if_pos (by decide +kernel)]; kernel_rfl) | (rw [if_neg (by decide +kernel)]; exact ⟨rfl, rfl⟩))
    (fun os started H enc _ F => by rw [OpenClaim.pre_eq_preRow]; exact lifted os started H enc F)

/-- What the card asks: no parameter wants a stand-in; the program's own looks are off. -/
theorem plain (f : FuncId) (fn : Func) (hf : Tryz.pinned.checked.prog.funcNamed "mandate/mandatelaw22.RequestPrints" = some f) (hfn : Tryz.pinned.checked.prog.funcs[f]? = some fn) :
    true = Tryz.pinned.checked.prog.looks [] ∧ ∀ (j : Nat) t, fn.params[j]? = some t → Tryz.pinned.checked.prog.wantsStandIn t = false := by
  obtain rfl : f = 4 := Option.some.inj ((show Tryz.prog.funcNamed "mandate/mandatelaw22.RequestPrints" = some 4 by kernel_rfl).symm.trans hf) |>.symm
  obtain rfl : fn = Tryz.f4 := (Option.some.inj (Tryz.func4.symm.trans hfn)).symm
  refine ⟨by kernel_rfl, fun j t ht => ?_⟩
  rw [Tryz.params4] at ht
  have hm := Array.mem_of_getElem? ht
  simp only [List.mem_toArray, List.mem_cons, List.not_mem_nil, or_false] at hm
  obtain rfl := hm
  exact (show Tryz.prog.wantsStandIn 33 = false by kernel_rfl)

/-- THE CARD. -/
theorem proved : Rows.RequestPrintsUptoCardSaid :=
  Claim7.holds_tied_plain_at .later [] _ _ _ _ said (fun _ h => by cases h) (by kernel_rfl) (fun _ h => by cases h) requestPrintsUpto_row_tie rfl ⟨rfl, rfl⟩ (by kernel_rfl) rfl plain (by kernel_rfl)
#print axioms proved
end Go.Proofs.YtfhpecgknmfnnaaGreatDoor.requestPrints
