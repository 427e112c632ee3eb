/- PROVED: for every string (of at most 2^63-1 bytes) mandatelaw06.ClauseLits returns true: the program's ParseLit and the reference's ParseLit give the same literal, place and error number; the input reads behind the call as it read before. No condition beyond the row's own. -/
import Derived.Test.YtdhocmakbapfpaaRows
import Derived.Test.YtdhocmakbapfpaaQ11
import Derived.WalkKit
import Derived.ProofKit
import Derived.OpenShut
import Derived.ShutString
import Derived.ChangeSame
import Derived.RowKit3
import Derived.Below
namespace Go.R
open Go.RowKit Go.ChangeShapes Go.WideShapes
set_option linter.unusedVariables false

/-- All that is there is held fast. -/
def Cx.fast (w : World) : Cx := ⟨fun b => if b < w.heap.size then none else some 0, fun _ => 0, fun _ => (none, 0)⟩
def AH.none : AH := fun _ => .no
theorem Wd.fast (w : World) : Wd (Cx.fast w) AH.none 0 w :=
  ⟨fun i cs hi => (by cases hi), fun i m z cap hi _ => (by cases hi), fun i m z a cap hi _ => (by cases hi), fun i j b _ hi _ => (by cases hi), fun b hb => if_neg (Nat.not_lt.2 hb), fun _ _ => rfl⟩
theorem calls_of_fs {P : Program} {f : FuncId} {pre : List AV → Prop} {g : List AV → Option AV} (hF : FsOk P f (.pureIf pre g)) {w : World} {vals : List Value} {args : List AV} {x : Value} (hl : vals.length = args.length)
    (hr : ∀ (j : Nat) v x, vals[j]? = some v → args[j]? = some x → ARep (Cx.fast w) AH.none w v x) (hp : pre args) (hg : g args = some (.d (.v x))) :
    Calls P f vals.toArray w fun e w' => e = .returned x ∧ Below w.heap.size w w' := by
  obtain ⟨hent, hcalls⟩ := hF (Cx.fast w) AH.none 0 w vals args (fun r _ _ => r = .d (.v x)) (Wd.fast w) hl hr ⟨hp, by
    show onO ((g args).map fun r => (r, AH.none, 0)) _
    rw [hg]
    exact rfl⟩
  refine hcalls.mono fun e w' he => ?_
  obtain ⟨y, r, c', h', n', rfl, r1, r2, r3, r4, r5, rfl⟩ := he
  obtain rfl := cval_rep r4 rfl
  exact ⟨rfl, r2.os, r2.tape, r2.output, r2.size, fun b hb => (r2.all b (if_pos hb)).2⟩
/-- What a row asks for, behind a call that leaves all that was there. -/
theorem post_below {H : Type} {enc : TypeId × Value → H} {P : Program} {f : Func} {s : ChangeSpec} {apart fresh handsOn again : Bool} {W W' : World} {args : Array Value} {v : Value} {ds gs : List (DataW H)} {before pa pv : List MemPlace}
    (hW : DataW.Whole enc P f.params.toList s.vars apart W args.toList ds gs before)
    (hres : ∀ (b : Nat) (sp : Nat → Bool) (hd : Bool), DataW.TrodAll enc P W' b sp hd f.resultTypes.toList (v.resultList f.resultTypes.size) (s.fn H (ds ++ gs)).results [])
    (hargs : ∀ sp : Nat → Bool, (∀ p ∈ before, sp p.block = true) → DataW.TrodAll enc P W' 0 sp true f.params.toList args.toList (s.fn H (ds ++ gs)).args pa)
    (hvars : ∀ sp : Nat → Bool, (∀ p ∈ before, sp p.block = true) → DataW.TrodVars enc P W' sp s.vars (s.fn H (ds ++ gs)).vars pv)
    (hps : before = pa ++ pv) (hB : Below W.heap.size W W')
    (hok : ∀ (j : Nat) (t : TypeId) (r : Value), f.resultTypes[j]? = some t → (v.resultList f.resultTypes.size)[j]? = some r → Value.okWide P W' .any 0 t r) :
    s.post enc P f apart fresh handsOn again W args v W' := by
  have hlt : ∀ p ∈ before, p.block < W.heap.size := fun p hp => by simpa using hW.lt p hp
  have hold : ∀ p ∈ before, (fun b => decide (b < W.heap.size)) p.block = true := fun p hp => decide_eq_true (hlt p hp)
  refine ⟨ds, gs, before, [], pa, pv, hW, hres _ _ _, hargs _ hold, hvars _ hold, hB.frame _, fun _ => ?_⟩
  obtain ⟨_, _, _, _, _, hz, hn⟩ := hW
  refine ⟨hok, _, _, ([] ++ pa) ++ pv, ⟨[] ++ pa, pv, trodAll_append (hargs _ (fun _ _ => rfl)) (hres _ _ _), hvars _ (fun _ _ => rfl), rfl, ?_, ?_⟩, ?_⟩
  · intro b off hp
    have hp' : MemPlace.cell b off ∈ before := by rw [hps]; simpa using hp
    rw [hB.frozen (p := ⟨b, off, none⟩) (hlt _ hp')]
    exact hz b off hp'
  · intro ha
    have := hn ha
    rw [hps] at this
    simpa using this
  · intro p hp _
    rw [hps]
    simpa using hp
end Go.R
namespace Go.Proofs.Ytdhocmakbapfpaa.clauseLits
open Go.ChangeShapes Go.WideShapes Go.ChangeAt Go.RowKit
open Go.ChangeMaps (open_string shut_string)
set_option linter.unusedVariables false
theorem own : ownKnob Try.prog.godebug = none := by kernel_rfl

theorem walk (a0 : ByteArray) (w0 : a0.size ≤ maxLen) (w : World) :
    Calls Try.prog 4 #[.string a0] w fun e w' => e = .returned (.bool true) ∧ Below w.heap.size w w' :=
  Go.R.calls_of_fs (vals := [.string a0]) (args := [.d (.v (.string a0))]) Go.Proofs.Ytdhocmakbapfpaa.M.law2_ok rfl
    (fun j v x hv hx => by
      cases j with
      | zero =>
        simp only [List.getElem?_cons_zero, Option.some.injEq] at hv hx
        subst hv
        subst hx
        exact .d _ _ (.v _ rfl)
      | succ j => simp at hv)
    (fun s hs => by
      cases hs
      have h := w0
      unfold maxLen at h
      omega) rfl

set_option maxRecDepth 100000 in
theorem lifted (os : Os) (started : os.Started) (H : Type) (enc : TypeId × Value → H) :
    ReturnsInHanded {} Try.checked os 4 .any (Rows.clauseLitsSpec.pre6 enc Try.prog Try.f4 Rows.clauseLitsRow.domain false) (Rows.clauseLitsSpec.post enc Try.prog Try.f4 false true false false) := by
  refine returnsInHanded_of_change (C := Try.checked) own started (by kernel_rfl) Try.func4
    (ChangeSpec.witness6 (enc := enc) (C := Try.checked) false ⟨#[], #[.string ByteArray.empty], []⟩ 8 (by kernel_rfl) (by kernel_rfl) (by kernel_rfl) (by kernel_rfl)) ?_
  intro W base args ds gs before hval0 hW hcnd _
  have hval : ∀ (j : Nat) t v, Try.f4.params[j]? = some t → args[j]? = some v → Value.okWide Try.prog W .any base t v := hval0
  have hW' := hW
  obtain ⟨p, q, hA0, hV, rfl, hfz, hnd⟩ := hW
  have hA : DataW.TrodAll enc Try.prog W 0 (fun _ => true) true Try.f4.params.toList args.toList ds p := hA0
  rw [Try.params4] at hA hval
  obtain ⟨v0, vs0, d0, ds0, p0, q0, hargs, rfl, rfl, h0, r0⟩ := trodAll_cons hA
  obtain ⟨rfl, rfl, rfl⟩ := trodAll_nil r0
  obtain rfl : args = #[v0] := by cases args; simp_all
  obtain ⟨rfl, rfl⟩ := trodVars_none hV
  obtain ⟨a0, rfl, rfl, rfl, w0⟩ := open_string Try.underlying9 (hval 0 9 v0 rfl rfl) h0
  clear hA0 hval0
  simp only [List.append_nil] at hW'
  refine (walk a0 w0 W).mono fun e W' ⟨he, hg⟩ => ?_
  subst he
  exact ⟨_, rfl, Go.R.post_below (pa := []) (pv := []) hW' (fun _ _ _ => (trodAll_cons_mk (shut_bool Try.underlying4 _) trodAll_mk0)) (fun sp _ => (trodAll_cons_mk (shut_string Try.underlying9 w0) trodAll_mk0)) (fun _ _ => rfl) rfl
    hg (ok_one (by kernel_rfl) rfl (okWide_bool_mk Try.underlying4 _))⟩

theorem over : Rows.clauseLitsRow.holds Try.pinned (OpenSpec.ofChange Rows.clauseLitsSpec) :=
  OpenClaim.holds_of_wide 4 Try.f4 rfl rfl rfl rfl rfl rfl rfl ⟨rfl, rfl, rfl, rfl, rfl⟩ rfl rfl rfl rfl rfl (by kernel_rfl) Try.func4 (by kernel_rfl)
    (of_decide_eq_true (by kernel_rfl)) (by unfold Func.isWrapper; first | (rw [if_pos (by decide +kernel)]; kernel_rfl) | (rw [if_neg (by decide +kernel)]; exact ⟨rfl, rfl⟩))
    (fun os started H enc _ => lifted os started H enc)

theorem proved : Rows.ClauseLitsSaid :=
  over
#print axioms proved
end Go.Proofs.Ytdhocmakbapfpaa.clauseLits
