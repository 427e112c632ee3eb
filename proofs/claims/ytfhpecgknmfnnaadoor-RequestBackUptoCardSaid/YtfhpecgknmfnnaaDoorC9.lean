import Derived.Test.YtfhpecgknmfnnaaDoorC8
import Derived.Test.YtfhpecgknmfnnaaDoorC2
import Derived.Test.YtfhpecgknmfnnaaDoorC3
import Derived.Test.YtfhpecgknmfnnaaDoorC7
import Derived.ChangeSame
import Derived.RowKit3
import Derived.Below
import Derived.Test.YtfhpecgknmfnnaaDoorRows
import Derived.Deep.Slices
import Derived.Carry
set_option linter.unusedVariables false
set_option linter.unusedSimpArgs false
section
namespace Go.Proofs.YtfhpecgknmfnnaaDoor.M
open Go.R Go.Proofs.YtfhpecgknmfnnaaDoorW.PrintWords Go.Proofs.YtfhpecgknmfnnaaDoorW.PrintMore
theorem noGuardV : Tryd.prog.eqGuardType Tryd.prog.depth 23 = false := by kernel_rfl
theorem equalIn_val (a a' : ByteArray) (n n' : Int) (w : World) : (Op.equalIn 10000 23 (.agg #[.string a, .int .i64 n]) (.agg #[.string a', .int .i64 n'])).run Tryd.prog w = .ok (a.toList == a'.toList && n == n') w := by
 rw [run_equalIn_agg w 9999 _ _ _ undV heldV, eqFields_map, e2]
 simp [go_sem, eqF3, und_s, und_i]
 by_cases h1 : a.toList = a'.toList <;> by_cases h3 : n = n' <;> simp [*]
def eqTV : EqT Tryd.prog := ⟨fun t us vs => if t = 23 then (match us, vs with
    | [.string a, .int .i64 n], [.string a', .int .i64 n'] => some (a.toList == a'.toList && n == n')
    | _, _ => none) else eqT.eq t us vs, fun t us vs b h op x y w => by
 split at h
 · rename_i e
   subst e
   split at h
   · cases h
     refine ⟨?_, ?_⟩ <;> (rintro rfl; simp only [Sem.run_bind, run_eqGuard_agg _ _ _ _ _ _ _ noGuardV, Result.andThen_ok, run_eql_struct, run_neq_struct, equalIn_val])
   · cases h
 · exact eqT.ok t us vs b h op x y w⟩
@[go_sem] theorem eqTV_val (a a' : ByteArray) (n n' : Int) : eqTV.eq 23 [.string a, .int .i64 n] [.string a', .int .i64 n'] = some (a.toList == a'.toList && n == n') := rfl
@[go_sem] theorem eqTV_term (a b a' b' : ByteArray) (n n' : Int) : eqTV.eq 25 [.string a, .string b, .int .i64 n] [.string a', .string b', .int .i64 n'] = some (a.toList == a'.toList && (b.toList == b'.toList && n == n')) := rfl
def szS (s : ByteArray) : Prop := s.size ≤ 1099511627776
def szT (t : Term) : Prop := szS t.var
def szL (l : Lit) : Prop := szT l.who ∧ l.args.length ≤ 1099511627776 ∧ ∀ t ∈ l.args, szT t
def szC (c : Clause) : Prop := szL c.head ∧ c.body.length ≤ 1099511627776 ∧ ∀ l ∈ c.body, szL l
abbrev lexOneS : Fs := .pureIf (g2p aStr aI64 fun s p => szS s ∧ 0 ≤ p) (g2 aStr aI64 fun s p => .tup [(oneT s p.toNat).1.av, vI (oneT s p.toNat).2])
theorem lexOne_ok : FsOk Tryd.prog 30 lexOneS := by
 refine FsOk.of_calls Tryd.func30 rfl (by kernel_rfl) ?_
 intro args r hp h
 obtain ⟨x, y, s, p, rfl, hx, hy, rfl⟩ := g2_eq h
 obtain rfl := aStr_eq hx
 have hy' : y = vI p := by
  unfold aI64 at hy
  split at hy
  · cases hy; rfl
  · cases hy
 subst hy'
 obtain ⟨hs, hp0⟩ := hp s rfl p rfl
 obtain ⟨q, rfl⟩ := Int.eq_ofNat_of_zero_le hp0
 refine ⟨[.string s, .int .i64 q], .tuple #[.agg #[.int .u8 (oneT s q).1.kind, .int .i64 (oneT s q).1.lo, .int .i64 (oneT s q).1.hi], .int .i64 (oneT s q).2], rfl, fun c h w => ?_, fun w => one_calls s q w (by unfold szS at hs; unfold maxLen; omega)⟩
 refine .tup [.agg #[.int .u8 (oneT s q).1.kind, .int .i64 (oneT s q).1.lo, .int .i64 (oneT s q).1.hi], .int .i64 (oneT s q).2] [(oneT s q).1.av, vI (oneT s q).2] rfl fun j v x hv hx => ?_
 match j with
 | 0 =>
   simp only [List.getElem?_cons_zero, Option.some.injEq] at hv hx
   subst hv; subst hx
   refine .agg [.int .u8 (oneT s q).1.kind, .int .i64 (oneT s q).1.lo, .int .i64 (oneT s q).1.hi] [.d (.v (.int .u8 (oneT s q).1.kind)), .d (.v (.int .i64 (oneT s q).1.lo)), .d (.v (.int .i64 (oneT s q).1.hi))] rfl fun j v x hv hx => ?_
   match j with
   | 0 => simp only [List.getElem?_cons_zero, Option.some.injEq] at hv hx; subst hv; subst hx; exact .d _ _ (.v _ rfl)
   | 1 => simp only [List.getElem?_cons_succ, List.getElem?_cons_zero, Option.some.injEq] at hv hx; subst hv; subst hx; exact .d _ _ (.v _ rfl)
   | 2 => simp only [List.getElem?_cons_succ, List.getElem?_cons_zero, Option.some.injEq] at hv hx; subst hv; subst hx; exact .d _ _ (.v _ rfl)
   | j + 3 => simp at hv
 | 1 =>
   simp only [List.getElem?_cons_succ, List.getElem?_cons_zero, Option.some.injEq] at hv hx
   subst hv; subst hx
   exact .d _ _ (.v _ rfl)
 | j + 2 => simp at hv
abbrev variableS : Fs := .pureIf (g1p aStr szS) (g1 aStr fun s => vB (varB s))
abbrev ptermS : Fs := .pureIf (g1p aTerm szT) (g1 aTerm fun t => vB (termB t))
abbrev notTermS : Fs := .pureIf (g1p aTerm szT) (g1 aTerm fun t => vB (!termB t))
def aFn (f : FuncId) : AV → Option Unit
 | .fn (.func g) [] [] => if g = f then some () else none
 | _ => none
theorem aFn_le {f : FuncId} {x : AV} {u : Unit} (h : aFn f x = some u) : AV.le x (.fn (.func f) [] []) := by
 unfold aFn at h
 split at h
 · split at h
   · rename_i e; subst e; exact AV.le.refl _
   · cases h
 · cases h
@[go_sem] theorem aFn_self (f : FuncId) : aFn f (.fn (.func f) [] []) = some () := by simp [aFn]
def idxL {α : Type} (p : α → Bool) (l : List α) : Int := if l.any p then ((l.findIdx p : Nat) : Int) else -1
abbrev idxTermS : Fs := .pureIf (g2p aTerms (aFn 66) fun l _ => l.length ≤ 1099511627776 ∧ ∀ t ∈ l, szT t) (g2 aTerms (aFn 66) fun l _ => vI (idxL (fun t => !termB t) l))
abbrev hasTermS : Fs := .pureIf (g2p aTerms (aFn 66) fun l _ => l.length ≤ 1099511627776 ∧ ∀ t ∈ l, szT t) (g2 aTerms (aFn 66) fun l _ => vB (l.any fun t => !termB t))
abbrev patomS : Fs := .pureIf (g1p aLit szL) (g1 aLit fun l => vB (saidB l))
abbrev pliteralS : Fs := .pureIf (g1p aLit szL) (g1 aLit fun l => vB (literalB l))
abbrev pcheckLitS : Fs := .pureIf (g1p aLit szL) (g1 aLit fun l => vB (checkLitB l))
abbrev notLitS : Fs := .pureIf (g1p aLit szL) (g1 aLit fun l => vB (!literalB l))
abbrev idxLitS : Fs := .pureIf (g2p aLits (aFn 42) fun l _ => l.length ≤ 1099511627776 ∧ ∀ t ∈ l, szL t) (g2 aLits (aFn 42) fun l _ => vI (idxL (fun t => !literalB t) l))
abbrev hasLitS : Fs := .pureIf (g2p aLits (aFn 42) fun l _ => l.length ≤ 1099511627776 ∧ ∀ t ∈ l, szL t) (g2 aLits (aFn 42) fun l _ => vB (l.any fun t => !literalB t))
abbrev pcheckS : Fs := .pureIf (g1p aClause szC) (g1 aClause fun c => vB (checkB c))
theorem idx_ge {α : Type} (p : α → Bool) (l : List α) : decide ((0 : Int) ≤ idxL p l) = l.any p := by
 unfold idxL
 cases h : l.any p with
 | true => simp
 | false => simp
theorem idx_hit {α : Type} {p : α → Bool} {l : List α} {k : Nat} (hk : k < l.length) (hp : p l[k] = true) (h : ∀ i, (hi : i < k) → p (l[i]'(by omega)) = false) : idxL p l = k := by
 unfold idxL
 have ha : l.any p = true := List.any_eq_true.2 ⟨l[k], List.getElem_mem hk, hp⟩
 rw [if_pos ha]
 congr 1
 exact (List.findIdx_eq hk).2 ⟨hp, fun j hj => h j hj⟩
theorem idx_miss {α : Type} {p : α → Bool} {l : List α} (h : ∀ i, (hi : i < l.length) → p l[i] = false) : idxL p l = -1 := by
 unfold idxL
 have ha : l.any p = false := by
  rw [List.any_eq_false]
  intro x hx
  obtain ⟨i, hi, rfl⟩ := List.getElem_of_mem hx
  simp [h i hi]
 rw [ha]
 rfl
set_option maxRecDepth 10000 in
set_option maxHeartbeats 2000000 in
theorem variable_ok : FsOk Tryd.prog 85 variableS := by
 refine of_Y1 (E := EqT.no _) (F := Ft.no.put 30 lexOneS) vS (fun _ _ => aStr_le) Tryd.func85 rfl (by kernel_rfl) [.tmp 2] rfl Tryd.ntmps85 (by decide) ((FtOk.no _).put lexOne_ok) ?_
 intro s h n hp hok
 have hv := var_law s
 repeat' (first | (with_reducible first | refine XG_split (fun hq => ?_) (fun hq => ?_) | refine MX1.of 4000 (by simp) ?_ | refine MX2.of 4000 (by simp) ?_ | refine And.intro ?_ ?_) | ((with_reducible first | refine Or.inl (And.intro (And.intro mixedP ?_) ?_) | refine Or.inl (And.intro mixedP ?_)); kernel_rfl) | simp only [go_sem,Nat.reduceEqDiff,Nat.reduceAdd,Nat.reduceMul,Nat.reduceLeDiff,Int.reduceBEq,Tok.av])
 all_goals first | exact ⟨hp, Int.le_refl _⟩ | skip
 all_goals first | omega | (unfold maxLen; omega) | (right; omega) | (left; simp; done) | (simp only [wk3,wkL2,wk2,wkL,wk1_d,wk1_own,wk1_nil,and_self]; done) | (intro i hi; simp only [upd]; (repeat' split); all_goals first | rfl | omega) | skip
 all_goals (refine wk_v (congrArg Value.bool ?_); rw [← hv]; simp [*])
set_option maxRecDepth 10000 in
set_option maxHeartbeats 2000000 in
theorem pterm_ok : FsOk Tryd.prog 64 ptermS := by
 refine of_Y1 (E := eqTV) (F := (Ft.no.put 85 variableS).put 86 goodS) Term.av (fun _ _ => aTerm_le) Tryd.func64 rfl (by kernel_rfl) [.tmp 2] rfl Tryd.ntmps64 (by decide) (((FtOk.no _).put variable_ok).put good_ok) ?_
 intro t h n hp hok
 cases hv : t.var.size == 0 with
 | true =>
   have hT : termB t = goodV t.val := by unfold termB; rw [if_neg (by have := beq_iff_eq.1 hv; omega)]
   repeat' (first | (with_reducible first | refine XG_split (fun hq => ?_) (fun hq => ?_) | refine MX1.of 4000 (by simp) ?_ | refine MX2.of 4000 (by simp) ?_ | refine And.intro ?_ ?_) | ((with_reducible first | refine Or.inl (And.intro (And.intro mixedP ?_) ?_) | refine Or.inl (And.intro mixedP ?_)); kernel_rfl) | simp only [go_sem,Nat.reduceEqDiff,Nat.reduceAdd,Nat.reduceMul,Nat.reduceLeDiff,Int.reduceBEq,Term.av,empty_str,hv,hT,cvals,cval])
   all_goals first | omega | (unfold maxLen; omega) | (right; omega) | (left; simp; done) | (simp only [wk3,wkL2,wk2,wkL,wk1_d,wk1_own,wk1_nil,and_self]; done) | (intro i hi; simp only [upd]; (repeat' split); all_goals first | rfl | omega) | skip
 | false =>
   have hT : termB t = (varB t.var && (t.val.sym.size == 0 && t.val.num == 0)) := by unfold termB; rw [if_pos (by have := beq_eq_false_iff_ne.1 hv; omega)]
   cases hw : (t.val.sym.size == 0 && t.val.num == 0) with
   | true =>
     repeat' (first | (with_reducible first | refine XG_split (fun hq => ?_) (fun hq => ?_) | refine MX1.of 4000 (by simp) ?_ | refine MX2.of 4000 (by simp) ?_ | refine And.intro ?_ ?_) | ((with_reducible first | refine Or.inl (And.intro (And.intro mixedP ?_) ?_) | refine Or.inl (And.intro mixedP ?_)); kernel_rfl) | simp only [go_sem,Nat.reduceEqDiff,Nat.reduceAdd,Nat.reduceMul,Nat.reduceLeDiff,Int.reduceBEq,Term.av,empty_str,hv,hT,hw,cvals,cval,Bool.and_true,Bool.and_false])
     all_goals first | exact hp | skip
     all_goals first | omega | (unfold maxLen; omega) | (right; omega) | (left; simp; done) | (simp only [wk3,wkL2,wk2,wkL,wk1_d,wk1_own,wk1_nil,and_self]; done) | (intro i hi; simp only [upd]; (repeat' split); all_goals first | rfl | omega) | skip
   | false =>
     repeat' (first | (with_reducible first | refine XG_split (fun hq => ?_) (fun hq => ?_) | refine MX1.of 4000 (by simp) ?_ | refine MX2.of 4000 (by simp) ?_ | refine And.intro ?_ ?_) | ((with_reducible first | refine Or.inl (And.intro (And.intro mixedP ?_) ?_) | refine Or.inl (And.intro mixedP ?_)); kernel_rfl) | simp only [go_sem,Nat.reduceEqDiff,Nat.reduceAdd,Nat.reduceMul,Nat.reduceLeDiff,Int.reduceBEq,Term.av,empty_str,hv,hT,hw,cvals,cval,Bool.and_true,Bool.and_false])
     all_goals first | omega | (unfold maxLen; omega) | (right; omega) | (left; simp; done) | (simp only [wk3,wkL2,wk2,wkL,wk1_d,wk1_own,wk1_nil,and_self]; done) | (intro i hi; simp only [upd]; (repeat' split); all_goals first | rfl | omega) | skip
set_option maxRecDepth 10000 in
set_option maxHeartbeats 2000000 in
theorem notTerm_ok : FsOk Tryd.prog 66 notTermS := by
 refine of_Y1 (E := EqT.no _) (F := Ft.no.put 64 ptermS) Term.av (fun _ _ => aTerm_le) Tryd.func66 rfl (by kernel_rfl) [.tmp 2] rfl Tryd.ntmps66 (by decide) ((FtOk.no _).put pterm_ok) ?_
 intro t h n hp hok
 repeat' (first | (with_reducible first | refine XG_split (fun hq => ?_) (fun hq => ?_) | refine MX1.of 4000 (by simp) ?_ | refine MX2.of 4000 (by simp) ?_ | refine And.intro ?_ ?_) | ((with_reducible first | refine Or.inl (And.intro (And.intro mixedP ?_) ?_) | refine Or.inl (And.intro mixedP ?_)); kernel_rfl) | simp only [go_sem,Nat.reduceEqDiff,Nat.reduceAdd,Nat.reduceMul,Nat.reduceLeDiff,Int.reduceBEq,Term.av])
 all_goals first | exact hp | skip
 all_goals first | omega | (unfold maxLen; omega) | (right; omega) | (left; simp; done) | (simp only [wk3,wkL2,wk2,wkL,wk1_d,wk1_own,wk1_nil,and_self]; done) | (intro i hi; simp only [upd]; (repeat' split); all_goals first | rfl | omega) | skip
set_option maxRecDepth 10000 in
set_option maxHeartbeats 2000000 in
theorem idxTerm_ok : FsOk Tryd.prog 87 idxTermS := by
 refine of_Y2 (E := EqT.no _) (F := Ft.no.put 66 notTermS) (fun l => .d (.sl 3 (l.map Term.cells))) (fun _ => .fn (.func 66) [] []) (fun _ _ => aTerms_le) (fun _ _ => aFn_le) Tryd.func87 rfl (by kernel_rfl) [.tmp 4] rfl Tryd.ntmps87 (by decide) ((FtOk.no _).put notTerm_ok) ?_
 intro l u h n hp hok
 obtain ⟨hl, hsz⟩ := hp
 repeat' (first | (with_reducible first | refine XG_split (fun hq => ?_) (fun hq => ?_) | refine MX1.of 4000 (by simp) ?_ | refine MX2.of 4000 (by simp) ?_ | refine And.intro ?_ ?_) | ((with_reducible first | refine Or.inl (And.intro (And.intro mixedP ?_) ?_) | refine Or.inl (And.intro mixedP ?_)); kernel_rfl) | simp only [go_sem,Nat.reduceEqDiff,Nat.reduceAdd,Nat.reduceMul,Nat.reduceLeDiff,Int.reduceBEq])
 all_goals first | omega | (unfold maxLen; omega) | (right; omega) | (left; simp; done) | (simp only [wk3,wkL2,wk2,wkL,wk1_d,wk1_own,wk1_nil,and_self]; done) | (intro i hi; simp only [upd]; (repeat' split); all_goals first | rfl | omega) | skip
 refine AW.loopJ (E := EqT.no _) (S := fun k : Nat => ⟨fr [(0, .d (.sl 3 (l.map Term.cells))), (1, .fn (.func 66) [] []), (7, vI l.length), (8, vI k)] (List.replicate 19 .any), h, n, n⟩) (I := fun k => k ≤ l.length ∧ ∀ i, (hi : i < k) → (hl : i < l.length) → (!termB l[i]) = false) (μ := fun k => l.length - k) 0 ⟨Nat.zero_le _, fun i hi => absurd hi (Nat.not_lt_zero i)⟩ ?_ 4000 (fun _ => by simp only [fr_len, List.length_replicate]; decide) ?_
 · exact Wk.same (by simp only [go_sem]) hok (Nat.le_refl _) (by simp only [go_sem])
 · rintro k ⟨hk, hA⟩
   rcases Nat.lt_or_ge k l.length with hkl | hkl
   · have hs := hsz _ (List.getElem_mem hkl)
     cases hq : !termB l[k] with
     | true =>
       have hR := idx_hit (p := fun t => !termB t) hkl hq fun i hi => hA i hi (by omega)
       repeat' (first | (with_reducible first | refine XG_split (fun hq => ?_) (fun hq => ?_) | refine MX1.of 4000 (by simp) ?_ | refine MX2.of 4000 (by simp) ?_ | refine And.intro ?_ ?_) | ((with_reducible first | refine Or.inl (And.intro (And.intro mixedP ?_) ?_) | refine Or.inl (And.intro mixedP ?_)); kernel_rfl) | simp only [go_sem,Nat.reduceEqDiff,Nat.reduceAdd,Nat.reduceMul,Nat.reduceLeDiff,Int.reduceBEq,decide_eq_true hkl,List.getElem?_eq_getElem hkl,hq,hR,Term.av,Lit.av])
       all_goals first | exact hs | skip
       all_goals first | omega | (unfold maxLen; omega) | (right; omega) | (left; simp; done) | (simp only [wk3,wkL2,wk2,wkL,wk1_d,wk1_own,wk1_nil,and_self]; done) | (intro i hi; simp only [upd]; (repeat' split); all_goals first | rfl | omega) | skip
     | false =>
       repeat' (first | (with_reducible first | refine XG_split (fun hq => ?_) (fun hq => ?_) | refine MX1.of 4000 (by simp) ?_ | refine MX2.of 4000 (by simp) ?_ | refine And.intro ?_ ?_) | ((with_reducible first | refine Or.inl (And.intro (And.intro mixedP ?_) ?_) | refine Or.inl (And.intro mixedP ?_)); kernel_rfl) | simp only [go_sem,Nat.reduceEqDiff,Nat.reduceAdd,Nat.reduceMul,Nat.reduceLeDiff,Int.reduceBEq,decide_eq_true hkl,List.getElem?_eq_getElem hkl,hq,Term.av,Lit.av])
       all_goals first | exact hs | skip
       all_goals first | omega | (unfold maxLen; omega) | (right; omega) | (left; simp; done) | (simp only [wk3,wkL2,wk2,wkL,wk1_d,wk1_own,wk1_nil,and_self]; done) | (intro i hi; simp only [upd]; (repeat' split); all_goals first | rfl | omega) | skip
       refine ⟨k + 1, ⟨hkl, fun i hi hil => ?_⟩, Wk.same (by simp only [go_sem]) hok (Nat.le_refl _) (by simp only [go_sem]), by omega⟩
       rcases Nat.lt_or_ge i k with h' | h'
       · exact hA i h' hil
       · obtain rfl : i = k := by omega
         exact hq
   · have hR := idx_miss (p := fun t => !termB t) (l := l) fun i hi => hA i (by omega) hi
     repeat' (first | (with_reducible first | refine XG_split (fun hq => ?_) (fun hq => ?_) | refine MX1.of 4000 (by simp) ?_ | refine MX2.of 4000 (by simp) ?_ | refine And.intro ?_ ?_) | ((with_reducible first | refine Or.inl (And.intro (And.intro mixedP ?_) ?_) | refine Or.inl (And.intro mixedP ?_)); kernel_rfl) | simp only [go_sem,Nat.reduceEqDiff,Nat.reduceAdd,Nat.reduceMul,Nat.reduceLeDiff,Int.reduceBEq,decide_eq_false (Nat.not_lt.2 hkl),hR])
     all_goals first | omega | (unfold maxLen; omega) | (right; omega) | (left; simp; done) | (simp only [wk3,wkL2,wk2,wkL,wk1_d,wk1_own,wk1_nil,and_self]; done) | (intro i hi; simp only [upd]; (repeat' split); all_goals first | rfl | omega) | skip
set_option maxRecDepth 10000 in
set_option maxHeartbeats 2000000 in
theorem hasTerm_ok : FsOk Tryd.prog 65 hasTermS := by
 refine of_Y2 (E := EqT.no _) (F := Ft.no.put 87 idxTermS) (fun l => .d (.sl 3 (l.map Term.cells))) (fun _ => .fn (.func 66) [] []) (fun _ _ => aTerms_le) (fun _ _ => aFn_le) Tryd.func65 rfl (by kernel_rfl) [.tmp 4] rfl Tryd.ntmps65 (by decide) ((FtOk.no _).put idxTerm_ok) ?_
 intro l u h n hp hok
 repeat' (first | (with_reducible first | refine XG_split (fun hq => ?_) (fun hq => ?_) | refine MX1.of 4000 (by simp) ?_ | refine MX2.of 4000 (by simp) ?_ | refine And.intro ?_ ?_) | ((with_reducible first | refine Or.inl (And.intro (And.intro mixedP ?_) ?_) | refine Or.inl (And.intro mixedP ?_)); kernel_rfl) | simp only [go_sem,Nat.reduceEqDiff,Nat.reduceAdd,Nat.reduceMul,Nat.reduceLeDiff,Int.reduceBEq,aFn_self,idx_ge])
 all_goals first | exact hp | exact hp.1 | exact hp.2 | skip
 all_goals first | omega | (unfold maxLen; omega) | (right; omega) | (left; simp; done) | (simp only [wk3,wkL2,wk2,wkL,wk1_d,wk1_own,wk1_nil,and_self]; done) | (intro i hi; simp only [upd]; (repeat' split); all_goals first | rfl | omega) | skip
set_option maxRecDepth 10000 in
set_option maxHeartbeats 2000000 in
theorem patom_ok : FsOk Tryd.prog 44 patomS := by
 refine of_Y1 (E := EqT.no _) (F := ((Ft.no.put 24 nameS).put 64 ptermS).put 65 hasTermS) Lit.av (fun _ _ => aLit_le) Tryd.func44 rfl (by kernel_rfl) [.tmp 2] rfl Tryd.ntmps44 (by decide) ((((FtOk.no _).put name_ok).put pterm_ok).put hasTerm_ok) ?_
 intro l h n hp hok
 obtain ⟨hw, hl, ha⟩ := hp
 have hany : (!(l.args.any fun t => !termB t)) = termsB l.args := by
  unfold termsB
  rw [List.all_eq_not_any_not]
 cases hN : nameB l.pred with
 | false =>
   have hS : saidB l = false := by unfold saidB; rw [hN]; simp
   repeat' (first | (with_reducible first | refine XG_split (fun hq => ?_) (fun hq => ?_) | refine MX1.of 4000 (by simp) ?_ | refine MX2.of 4000 (by simp) ?_ | refine And.intro ?_ ?_) | ((with_reducible first | refine Or.inl (And.intro (And.intro mixedP ?_) ?_) | refine Or.inl (And.intro mixedP ?_)); kernel_rfl) | simp only [go_sem,Nat.reduceEqDiff,Nat.reduceAdd,Nat.reduceMul,Nat.reduceLeDiff,Int.reduceBEq,Lit.av,empty_str,aFn_self,hN,hS])
   all_goals first | omega | (unfold maxLen; omega) | (right; omega) | (left; simp; done) | (simp only [wk3,wkL2,wk2,wkL,wk1_d,wk1_own,wk1_nil,and_self]; done) | (intro i hi; simp only [upd]; (repeat' split); all_goals first | rfl | omega) | skip
 | true =>
   cases h4 : decide (4 < l.args.length) with
   | true =>
     have hS : saidB l = false := by
      have : decide (l.args.length ≤ 4) = false := decide_eq_false (by have := of_decide_eq_true h4; omega)
      unfold saidB
      rw [this]
      simp
     repeat' (first | (with_reducible first | refine XG_split (fun hq => ?_) (fun hq => ?_) | refine MX1.of 4000 (by simp) ?_ | refine MX2.of 4000 (by simp) ?_ | refine And.intro ?_ ?_) | ((with_reducible first | refine Or.inl (And.intro (And.intro mixedP ?_) ?_) | refine Or.inl (And.intro mixedP ?_)); kernel_rfl) | simp only [go_sem,Nat.reduceEqDiff,Nat.reduceAdd,Nat.reduceMul,Nat.reduceLeDiff,Int.reduceBEq,Lit.av,empty_str,aFn_self,hN,h4,hS])
     all_goals first | omega | (unfold maxLen; omega) | (right; omega) | (left; simp; done) | (simp only [wk3,wkL2,wk2,wkL,wk1_d,wk1_own,wk1_nil,and_self]; done) | (intro i hi; simp only [upd]; (repeat' split); all_goals first | rfl | omega) | skip
   | false =>
     have h4' : decide (l.args.length ≤ 4) = true := decide_eq_true (by have := of_decide_eq_false h4; omega)
     have hS : saidB l = ((ownT l.who || termB l.who && (decide (0 < l.who.var.size) || decide (0 < l.who.val.sym.size))) && termsB l.args) := by
      unfold saidB
      rw [hN, h4', Bool.and_true, Bool.and_true]
     cases hv : l.who.var.size == 0 with
     | false =>
       have hv0 : ¬ l.who.var.size = 0 := beq_eq_false_iff_ne.1 hv
       have hS2 : saidB l = (termB l.who && termsB l.args) := by
        rw [hS]
        have e1 : ownT l.who = false := by unfold ownT; rw [hv]; rfl
        have e2 : decide (0 < l.who.var.size) = true := decide_eq_true (by omega)
        rw [e1, e2]
        simp
       cases ht : termB l.who with
       | false =>
         rw [ht, Bool.false_and] at hS2
         repeat' (first | (with_reducible first | refine XG_split (fun hq => ?_) (fun hq => ?_) | refine MX1.of 4000 (by simp) ?_ | refine MX2.of 4000 (by simp) ?_ | refine And.intro ?_ ?_) | ((with_reducible first | refine Or.inl (And.intro (And.intro mixedP ?_) ?_) | refine Or.inl (And.intro mixedP ?_)); kernel_rfl) | simp only [go_sem,Nat.reduceEqDiff,Nat.reduceAdd,Nat.reduceMul,Nat.reduceLeDiff,Int.reduceBEq,Lit.av,empty_str,aFn_self,hN,h4,hv,ht,hS2,hany])
         all_goals first | exact hw | exact ha | skip
         all_goals first | omega | (unfold maxLen; omega) | (right; omega) | (left; simp; done) | (simp only [wk3,wkL2,wk2,wkL,wk1_d,wk1_own,wk1_nil,and_self]; done) | (intro i hi; simp only [upd]; (repeat' split); all_goals first | rfl | omega) | skip
       | true =>
         rw [ht, Bool.true_and] at hS2
         repeat' (first | (with_reducible first | refine XG_split (fun hq => ?_) (fun hq => ?_) | refine MX1.of 4000 (by simp) ?_ | refine MX2.of 4000 (by simp) ?_ | refine And.intro ?_ ?_) | ((with_reducible first | refine Or.inl (And.intro (And.intro mixedP ?_) ?_) | refine Or.inl (And.intro mixedP ?_)); kernel_rfl) | simp only [go_sem,Nat.reduceEqDiff,Nat.reduceAdd,Nat.reduceMul,Nat.reduceLeDiff,Int.reduceBEq,Lit.av,empty_str,aFn_self,hN,h4,hv,ht,hS2,hany])
         all_goals first | exact hw | exact ha | skip
         all_goals first | omega | (unfold maxLen; omega) | (right; omega) | (left; simp; done) | (simp only [wk3,wkL2,wk2,wkL,wk1_d,wk1_own,wk1_nil,and_self]; done) | (intro i hi; simp only [upd]; (repeat' split); all_goals first | rfl | omega) | skip
     | true =>
       have hv0 : l.who.var.size = 0 := beq_iff_eq.1 hv
       have e2 : decide (0 < l.who.var.size) = false := decide_eq_false (by omega)
       have ht : termB l.who = goodV l.who.val := by unfold termB; rw [if_neg (by omega)]
       cases hs : l.who.val.sym.size == 0 with
       | false =>
         have hs0 : ¬ l.who.val.sym.size = 0 := beq_eq_false_iff_ne.1 hs
         have hS2 : saidB l = (goodV l.who.val && termsB l.args) := by
          rw [hS]
          have e1 : ownT l.who = false := by unfold ownT; rw [hs, Bool.and_false]; rfl
          have e3 : decide (0 < l.who.val.sym.size) = true := decide_eq_true (by omega)
          rw [e1, e2, e3, ht]
          simp
         cases hg : goodV l.who.val with
         | false =>
           rw [hg, Bool.false_and] at hS2
           repeat' (first | (with_reducible first | refine XG_split (fun hq => ?_) (fun hq => ?_) | refine MX1.of 4000 (by simp) ?_ | refine MX2.of 4000 (by simp) ?_ | refine And.intro ?_ ?_) | ((with_reducible first | refine Or.inl (And.intro (And.intro mixedP ?_) ?_) | refine Or.inl (And.intro mixedP ?_)); kernel_rfl) | simp only [go_sem,Nat.reduceEqDiff,Nat.reduceAdd,Nat.reduceMul,Nat.reduceLeDiff,Int.reduceBEq,Lit.av,empty_str,aFn_self,hN,h4,hv,hs,ht,hg,hS2,hany])
           all_goals first | exact hw | exact ha | skip
           all_goals first | omega | (unfold maxLen; omega) | (right; omega) | (left; simp; done) | (simp only [wk3,wkL2,wk2,wkL,wk1_d,wk1_own,wk1_nil,and_self]; done) | (intro i hi; simp only [upd]; (repeat' split); all_goals first | rfl | omega) | skip
         | true =>
           rw [hg, Bool.true_and] at hS2
           repeat' (first | (with_reducible first | refine XG_split (fun hq => ?_) (fun hq => ?_) | refine MX1.of 4000 (by simp) ?_ | refine MX2.of 4000 (by simp) ?_ | refine And.intro ?_ ?_) | ((with_reducible first | refine Or.inl (And.intro (And.intro mixedP ?_) ?_) | refine Or.inl (And.intro mixedP ?_)); kernel_rfl) | simp only [go_sem,Nat.reduceEqDiff,Nat.reduceAdd,Nat.reduceMul,Nat.reduceLeDiff,Int.reduceBEq,Lit.av,empty_str,aFn_self,hN,h4,hv,hs,ht,hg,hS2,hany])
           all_goals first | exact hw | exact ha | skip
           all_goals first | omega | (unfold maxLen; omega) | (right; omega) | (left; simp; done) | (simp only [wk3,wkL2,wk2,wkL,wk1_d,wk1_own,wk1_nil,and_self]; done) | (intro i hi; simp only [upd]; (repeat' split); all_goals first | rfl | omega) | skip
       | true =>
         have hg : goodV l.who.val = true := by unfold goodV; rw [hs]; rfl
         have e3 : decide (0 < l.who.val.sym.size) = false := decide_eq_false (by have := beq_iff_eq.1 hs; omega)
         have hS2 : saidB l = (l.who.val.num == 0 && termsB l.args) := by
          rw [hS]
          unfold ownT
          rw [hv, hs, e2, e3]
          simp
         cases hn : l.who.val.num == 0 with
         | false =>
           rw [hn, Bool.false_and] at hS2
           have hn' : (l.who.val.num != 0) = true := by simp only [bne, hn]; rfl
           repeat' (first | (with_reducible first | refine XG_split (fun hq => ?_) (fun hq => ?_) | refine MX1.of 4000 (by simp) ?_ | refine MX2.of 4000 (by simp) ?_ | refine And.intro ?_ ?_) | ((with_reducible first | refine Or.inl (And.intro (And.intro mixedP ?_) ?_) | refine Or.inl (And.intro mixedP ?_)); kernel_rfl) | simp only [go_sem,Nat.reduceEqDiff,Nat.reduceAdd,Nat.reduceMul,Nat.reduceLeDiff,Int.reduceBEq,Lit.av,empty_str,aFn_self,hN,h4,hv,hs,ht,hg,hn',hS2,hany])
           all_goals first | exact hw | exact ha | skip
           all_goals first | omega | (unfold maxLen; omega) | (right; omega) | (left; simp; done) | (simp only [wk3,wkL2,wk2,wkL,wk1_d,wk1_own,wk1_nil,and_self]; done) | (intro i hi; simp only [upd]; (repeat' split); all_goals first | rfl | omega) | skip
         | true =>
           rw [hn, Bool.true_and] at hS2
           have hn' : (l.who.val.num != 0) = false := by simp only [bne, hn]; rfl
           repeat' (first | (with_reducible first | refine XG_split (fun hq => ?_) (fun hq => ?_) | refine MX1.of 4000 (by simp) ?_ | refine MX2.of 4000 (by simp) ?_ | refine And.intro ?_ ?_) | ((with_reducible first | refine Or.inl (And.intro (And.intro mixedP ?_) ?_) | refine Or.inl (And.intro mixedP ?_)); kernel_rfl) | simp only [go_sem,Nat.reduceEqDiff,Nat.reduceAdd,Nat.reduceMul,Nat.reduceLeDiff,Int.reduceBEq,Lit.av,empty_str,aFn_self,hN,h4,hv,hs,ht,hg,hn',hS2,hany])
           all_goals first | exact hw | exact ha | skip
           all_goals first | omega | (unfold maxLen; omega) | (right; omega) | (left; simp; done) | (simp only [wk3,wkL2,wk2,wkL,wk1_d,wk1_own,wk1_nil,and_self]; done) | (intro i hi; simp only [upd]; (repeat' split); all_goals first | rfl | omega) | skip
set_option maxRecDepth 10000 in
set_option maxHeartbeats 2000000 in
theorem pliteral_ok : FsOk Tryd.prog 43 pliteralS := by
 refine of_Y1 (E := eqTV) (F := (Ft.no.put 44 patomS).put 64 ptermS) Lit.av (fun _ _ => aLit_le) Tryd.func43 rfl (by kernel_rfl) [.tmp 2] rfl Tryd.ntmps43 (by decide) (((FtOk.no _).put patom_ok).put pterm_ok) ?_
 intro l h n hp hok
 have hp' := hp
 obtain ⟨hw, hl, ha⟩ := hp
 by_cases k1 : l.kind = 1
 · have hS : literalB l = saidB l := by unfold literalB; rw [k1]; rfl
   have c1 : (l.kind == 1) = true := by simp [k1]
   repeat' (first | (with_reducible first | refine XG_split (fun hq => ?_) (fun hq => ?_) | refine MX1.of 4000 (by simp) ?_ | refine MX2.of 4000 (by simp) ?_ | refine And.intro ?_ ?_) | ((with_reducible first | refine Or.inl (And.intro (And.intro mixedP ?_) ?_) | refine Or.inl (And.intro mixedP ?_)); kernel_rfl) | simp only [go_sem,Nat.reduceEqDiff,Nat.reduceAdd,Nat.reduceMul,Nat.reduceLeDiff,Int.reduceBEq,Lit.av,empty_str,cvals,cval,c1,hS])
   all_goals first | exact hp' | skip
   all_goals first | omega | (unfold maxLen; omega) | (right; omega) | (left; simp; done) | (simp only [wk3,wkL2,wk2,wkL,wk1_d,wk1_own,wk1_nil,and_self]; done) | (intro i hi; simp only [upd]; (repeat' split); all_goals first | rfl | omega) | skip
 by_cases k2 : l.kind = 2
 · have hS : literalB l = saidB l := by unfold literalB; rw [k2]; rfl
   have c1 : (l.kind == 1) = false := by simp [k1]
   have c2 : (l.kind == 2) = true := by simp [k2]
   repeat' (first | (with_reducible first | refine XG_split (fun hq => ?_) (fun hq => ?_) | refine MX1.of 4000 (by simp) ?_ | refine MX2.of 4000 (by simp) ?_ | refine And.intro ?_ ?_) | ((with_reducible first | refine Or.inl (And.intro (And.intro mixedP ?_) ?_) | refine Or.inl (And.intro mixedP ?_)); kernel_rfl) | simp only [go_sem,Nat.reduceEqDiff,Nat.reduceAdd,Nat.reduceMul,Nat.reduceLeDiff,Int.reduceBEq,Lit.av,empty_str,cvals,cval,c1,c2,hS])
   all_goals first | exact hp' | skip
   all_goals first | omega | (unfold maxLen; omega) | (right; omega) | (left; simp; done) | (simp only [wk3,wkL2,wk2,wkL,wk1_d,wk1_own,wk1_nil,and_self]; done) | (intro i hi; simp only [upd]; (repeat' split); all_goals first | rfl | omega) | skip
 have c1 : (l.kind == 1) = false := by simp [k1]
 have c2 : (l.kind == 2) = false := by simp [k2]
 by_cases k34 : l.kind = 3 ∨ l.kind = 4
 · have hS : literalB l = (l.pred.size == 0 && ownT l.who && l.args.length == 2 && termsB l.args) := by
    unfold literalB
    rw [c1, c2]
    rcases k34 with k | k <;> rw [k] <;> simp
   have hk : (l.kind == 3) = true ∨ (l.kind == 3) = false ∧ (l.kind == 4) = true := by
    rcases k34 with k | k
    · left; rw [k]; rfl
    · right; rw [k]; exact ⟨rfl, rfl⟩
   have hown : (l.who.var.size == 0 && (l.who.val.sym.size == 0 && l.who.val.num == 0)) = ownT l.who := by unfold ownT; rw [Bool.and_assoc]
   cases hpr : l.pred.size == 0 with
   | false =>
     rw [hpr] at hS
     simp only [Bool.false_and] at hS
     rcases hk with hk | ⟨hk, hk'⟩
     · repeat' (first | (with_reducible first | refine XG_split (fun hq => ?_) (fun hq => ?_) | refine MX1.of 4000 (by simp) ?_ | refine MX2.of 4000 (by simp) ?_ | refine And.intro ?_ ?_) | ((with_reducible first | refine Or.inl (And.intro (And.intro mixedP ?_) ?_) | refine Or.inl (And.intro mixedP ?_)); kernel_rfl) | simp only [go_sem,Nat.reduceEqDiff,Nat.reduceAdd,Nat.reduceMul,Nat.reduceLeDiff,Int.reduceBEq,Lit.av,empty_str,cvals,cval,c1,c2,hk,hpr,hS])
       all_goals first | omega | (unfold maxLen; omega) | (right; omega) | (left; simp; done) | (simp only [wk3,wkL2,wk2,wkL,wk1_d,wk1_own,wk1_nil,and_self]; done) | (intro i hi; simp only [upd]; (repeat' split); all_goals first | rfl | omega) | skip
     · repeat' (first | (with_reducible first | refine XG_split (fun hq => ?_) (fun hq => ?_) | refine MX1.of 4000 (by simp) ?_ | refine MX2.of 4000 (by simp) ?_ | refine And.intro ?_ ?_) | ((with_reducible first | refine Or.inl (And.intro (And.intro mixedP ?_) ?_) | refine Or.inl (And.intro mixedP ?_)); kernel_rfl) | simp only [go_sem,Nat.reduceEqDiff,Nat.reduceAdd,Nat.reduceMul,Nat.reduceLeDiff,Int.reduceBEq,Lit.av,empty_str,cvals,cval,c1,c2,hk,hk',hpr,hS])
       all_goals first | omega | (unfold maxLen; omega) | (right; omega) | (left; simp; done) | (simp only [wk3,wkL2,wk2,wkL,wk1_d,wk1_own,wk1_nil,and_self]; done) | (intro i hi; simp only [upd]; (repeat' split); all_goals first | rfl | omega) | skip
   | true =>
     cases ho : ownT l.who with
     | false =>
       rw [ho] at hS hown
       simp only [Bool.and_false, Bool.false_and] at hS
       rcases hk with hk | ⟨hk, hk'⟩
       · repeat' (first | (with_reducible first | refine XG_split (fun hq => ?_) (fun hq => ?_) | refine MX1.of 4000 (by simp) ?_ | refine MX2.of 4000 (by simp) ?_ | refine And.intro ?_ ?_) | ((with_reducible first | refine Or.inl (And.intro (And.intro mixedP ?_) ?_) | refine Or.inl (And.intro mixedP ?_)); kernel_rfl) | simp only [go_sem,Nat.reduceEqDiff,Nat.reduceAdd,Nat.reduceMul,Nat.reduceLeDiff,Int.reduceBEq,Lit.av,empty_str,cvals,cval,c1,c2,hk,hpr,hown,hS])
         all_goals first | omega | (unfold maxLen; omega) | (right; omega) | (left; simp; done) | (simp only [wk3,wkL2,wk2,wkL,wk1_d,wk1_own,wk1_nil,and_self]; done) | (intro i hi; simp only [upd]; (repeat' split); all_goals first | rfl | omega) | skip
       · repeat' (first | (with_reducible first | refine XG_split (fun hq => ?_) (fun hq => ?_) | refine MX1.of 4000 (by simp) ?_ | refine MX2.of 4000 (by simp) ?_ | refine And.intro ?_ ?_) | ((with_reducible first | refine Or.inl (And.intro (And.intro mixedP ?_) ?_) | refine Or.inl (And.intro mixedP ?_)); kernel_rfl) | simp only [go_sem,Nat.reduceEqDiff,Nat.reduceAdd,Nat.reduceMul,Nat.reduceLeDiff,Int.reduceBEq,Lit.av,empty_str,cvals,cval,c1,c2,hk,hk',hpr,hown,hS])
         all_goals first | omega | (unfold maxLen; omega) | (right; omega) | (left; simp; done) | (simp only [wk3,wkL2,wk2,wkL,wk1_d,wk1_own,wk1_nil,and_self]; done) | (intro i hi; simp only [upd]; (repeat' split); all_goals first | rfl | omega) | skip
     | true =>
       rw [ho] at hown
       rw [hpr, ho] at hS
       cases h2 : l.args.length == 2 with
       | false =>
         rw [h2] at hS
         simp only [Bool.and_false, Bool.false_and] at hS
         rcases hk with hk | ⟨hk, hk'⟩
         · repeat' (first | (with_reducible first | refine XG_split (fun hq => ?_) (fun hq => ?_) | refine MX1.of 4000 (by simp) ?_ | refine MX2.of 4000 (by simp) ?_ | refine And.intro ?_ ?_) | ((with_reducible first | refine Or.inl (And.intro (And.intro mixedP ?_) ?_) | refine Or.inl (And.intro mixedP ?_)); kernel_rfl) | simp only [go_sem,Nat.reduceEqDiff,Nat.reduceAdd,Nat.reduceMul,Nat.reduceLeDiff,Int.reduceBEq,Lit.av,empty_str,cvals,cval,c1,c2,hk,hpr,hown,h2,hS])
           all_goals first | omega | (unfold maxLen; omega) | (right; omega) | (left; simp; done) | (simp only [wk3,wkL2,wk2,wkL,wk1_d,wk1_own,wk1_nil,and_self]; done) | (intro i hi; simp only [upd]; (repeat' split); all_goals first | rfl | omega) | skip
         · repeat' (first | (with_reducible first | refine XG_split (fun hq => ?_) (fun hq => ?_) | refine MX1.of 4000 (by simp) ?_ | refine MX2.of 4000 (by simp) ?_ | refine And.intro ?_ ?_) | ((with_reducible first | refine Or.inl (And.intro (And.intro mixedP ?_) ?_) | refine Or.inl (And.intro mixedP ?_)); kernel_rfl) | simp only [go_sem,Nat.reduceEqDiff,Nat.reduceAdd,Nat.reduceMul,Nat.reduceLeDiff,Int.reduceBEq,Lit.av,empty_str,cvals,cval,c1,c2,hk,hk',hpr,hown,h2,hS])
           all_goals first | omega | (unfold maxLen; omega) | (right; omega) | (left; simp; done) | (simp only [wk3,wkL2,wk2,wkL,wk1_d,wk1_own,wk1_nil,and_self]; done) | (intro i hi; simp only [upd]; (repeat' split); all_goals first | rfl | omega) | skip
       | true =>
         rw [h2] at hS
         simp only [Bool.true_and] at hS
         obtain ⟨a, b, hab⟩ : ∃ a b, l.args = [a, b] := by
          have := beq_iff_eq.1 h2
          match l.args, this with
          | [a, b], _ => exact ⟨a, b, rfl⟩
         rw [hab] at hS
         have hSa : termsB [a, b] = (termB a && termB b) := by unfold termsB; simp
         rw [hSa] at hS
         have sa : szT a := ha a (by rw [hab]; simp)
         have sb : szT b := ha b (by rw [hab]; simp)
         cases hta : termB a with
         | false =>
           rw [hta, Bool.false_and] at hS
           rcases hk with hk | ⟨hk, hk'⟩
           · repeat' (first | (with_reducible first | refine XG_split (fun hq => ?_) (fun hq => ?_) | refine MX1.of 4000 (by simp) ?_ | refine MX2.of 4000 (by simp) ?_ | refine And.intro ?_ ?_) | ((with_reducible first | refine Or.inl (And.intro (And.intro mixedP ?_) ?_) | refine Or.inl (And.intro mixedP ?_)); kernel_rfl) | simp only [go_sem,Nat.reduceEqDiff,Nat.reduceAdd,Nat.reduceMul,Nat.reduceLeDiff,Int.reduceBEq,Lit.av,empty_str,cvals,cval,c1,c2,hk,hpr,hown,hab,hta,hS,Term.av])
             all_goals first | exact sa | exact sb | skip
             all_goals first | omega | (unfold maxLen; omega) | (right; omega) | (left; simp; done) | (simp only [wk3,wkL2,wk2,wkL,wk1_d,wk1_own,wk1_nil,and_self]; done) | (intro i hi; simp only [upd]; (repeat' split); all_goals first | rfl | omega) | skip
           · repeat' (first | (with_reducible first | refine XG_split (fun hq => ?_) (fun hq => ?_) | refine MX1.of 4000 (by simp) ?_ | refine MX2.of 4000 (by simp) ?_ | refine And.intro ?_ ?_) | ((with_reducible first | refine Or.inl (And.intro (And.intro mixedP ?_) ?_) | refine Or.inl (And.intro mixedP ?_)); kernel_rfl) | simp only [go_sem,Nat.reduceEqDiff,Nat.reduceAdd,Nat.reduceMul,Nat.reduceLeDiff,Int.reduceBEq,Lit.av,empty_str,cvals,cval,c1,c2,hk,hk',hpr,hown,hab,hta,hS,Term.av])
             all_goals first | exact sa | exact sb | skip
             all_goals first | omega | (unfold maxLen; omega) | (right; omega) | (left; simp; done) | (simp only [wk3,wkL2,wk2,wkL,wk1_d,wk1_own,wk1_nil,and_self]; done) | (intro i hi; simp only [upd]; (repeat' split); all_goals first | rfl | omega) | skip
         | true =>
           rw [hta, Bool.true_and] at hS
           rcases hk with hk | ⟨hk, hk'⟩
           · repeat' (first | (with_reducible first | refine XG_split (fun hq => ?_) (fun hq => ?_) | refine MX1.of 4000 (by simp) ?_ | refine MX2.of 4000 (by simp) ?_ | refine And.intro ?_ ?_) | ((with_reducible first | refine Or.inl (And.intro (And.intro mixedP ?_) ?_) | refine Or.inl (And.intro mixedP ?_)); kernel_rfl) | simp only [go_sem,Nat.reduceEqDiff,Nat.reduceAdd,Nat.reduceMul,Nat.reduceLeDiff,Int.reduceBEq,Lit.av,empty_str,cvals,cval,c1,c2,hk,hpr,hown,hab,hta,hS,Term.av])
             all_goals first | exact sa | exact sb | skip
             all_goals first | omega | (unfold maxLen; omega) | (right; omega) | (left; simp; done) | (simp only [wk3,wkL2,wk2,wkL,wk1_d,wk1_own,wk1_nil,and_self]; done) | (intro i hi; simp only [upd]; (repeat' split); all_goals first | rfl | omega) | skip
           · repeat' (first | (with_reducible first | refine XG_split (fun hq => ?_) (fun hq => ?_) | refine MX1.of 4000 (by simp) ?_ | refine MX2.of 4000 (by simp) ?_ | refine And.intro ?_ ?_) | ((with_reducible first | refine Or.inl (And.intro (And.intro mixedP ?_) ?_) | refine Or.inl (And.intro mixedP ?_)); kernel_rfl) | simp only [go_sem,Nat.reduceEqDiff,Nat.reduceAdd,Nat.reduceMul,Nat.reduceLeDiff,Int.reduceBEq,Lit.av,empty_str,cvals,cval,c1,c2,hk,hk',hpr,hown,hab,hta,hS,Term.av])
             all_goals first | exact sa | exact sb | skip
             all_goals first | omega | (unfold maxLen; omega) | (right; omega) | (left; simp; done) | (simp only [wk3,wkL2,wk2,wkL,wk1_d,wk1_own,wk1_nil,and_self]; done) | (intro i hi; simp only [upd]; (repeat' split); all_goals first | rfl | omega) | skip
 · have c3 : (l.kind == 3) = false := by rw [beq_eq_false_iff_ne]; exact fun e => k34 (.inl e)
   have c4 : (l.kind == 4) = false := by rw [beq_eq_false_iff_ne]; exact fun e => k34 (.inr e)
   have hS : literalB l = false := by unfold literalB; rw [c1, c2, c3, c4]; rfl
   repeat' (first | (with_reducible first | refine XG_split (fun hq => ?_) (fun hq => ?_) | refine MX1.of 4000 (by simp) ?_ | refine MX2.of 4000 (by simp) ?_ | refine And.intro ?_ ?_) | ((with_reducible first | refine Or.inl (And.intro (And.intro mixedP ?_) ?_) | refine Or.inl (And.intro mixedP ?_)); kernel_rfl) | simp only [go_sem,Nat.reduceEqDiff,Nat.reduceAdd,Nat.reduceMul,Nat.reduceLeDiff,Int.reduceBEq,Lit.av,empty_str,cvals,cval,c1,c2,c3,c4,hS])
   all_goals first | omega | (unfold maxLen; omega) | (right; omega) | (left; simp; done) | (simp only [wk3,wkL2,wk2,wkL,wk1_d,wk1_own,wk1_nil,and_self]; done) | (intro i hi; simp only [upd]; (repeat' split); all_goals first | rfl | omega) | skip
set_option maxRecDepth 10000 in
set_option maxHeartbeats 2000000 in
theorem pcheckLit_ok : FsOk Tryd.prog 26 pcheckLitS := by
 refine of_Y1 (E := EqT.no _) (F := Ft.no.put 44 patomS) Lit.av (fun _ _ => aLit_le) Tryd.func26 rfl (by kernel_rfl) [.tmp 2] rfl Tryd.ntmps26 (by decide) ((FtOk.no _).put patom_ok) ?_
 intro l h n hp hok
 cases k1 : l.kind == 1 with
 | true =>
   have hS : checkLitB l = saidB l := by unfold checkLitB; rw [k1]; rfl
   repeat' (first | (with_reducible first | refine XG_split (fun hq => ?_) (fun hq => ?_) | refine MX1.of 4000 (by simp) ?_ | refine MX2.of 4000 (by simp) ?_ | refine And.intro ?_ ?_) | ((with_reducible first | refine Or.inl (And.intro (And.intro mixedP ?_) ?_) | refine Or.inl (And.intro mixedP ?_)); kernel_rfl) | simp only [go_sem,Nat.reduceEqDiff,Nat.reduceAdd,Nat.reduceMul,Nat.reduceLeDiff,Int.reduceBEq,Lit.av,k1,hS])
   all_goals first | exact hp | skip
   all_goals first | omega | (unfold maxLen; omega) | (right; omega) | (left; simp; done) | (simp only [wk3,wkL2,wk2,wkL,wk1_d,wk1_own,wk1_nil,and_self]; done) | (intro i hi; simp only [upd]; (repeat' split); all_goals first | rfl | omega) | skip
 | false =>
   have hS : checkLitB l = false := by unfold checkLitB; rw [k1]; rfl
   repeat' (first | (with_reducible first | refine XG_split (fun hq => ?_) (fun hq => ?_) | refine MX1.of 4000 (by simp) ?_ | refine MX2.of 4000 (by simp) ?_ | refine And.intro ?_ ?_) | ((with_reducible first | refine Or.inl (And.intro (And.intro mixedP ?_) ?_) | refine Or.inl (And.intro mixedP ?_)); kernel_rfl) | simp only [go_sem,Nat.reduceEqDiff,Nat.reduceAdd,Nat.reduceMul,Nat.reduceLeDiff,Int.reduceBEq,Lit.av,k1,hS])
   all_goals first | exact hp | skip
   all_goals first | omega | (unfold maxLen; omega) | (right; omega) | (left; simp; done) | (simp only [wk3,wkL2,wk2,wkL,wk1_d,wk1_own,wk1_nil,and_self]; done) | (intro i hi; simp only [upd]; (repeat' split); all_goals first | rfl | omega) | skip
set_option maxRecDepth 10000 in
set_option maxHeartbeats 2000000 in
theorem notLit_ok : FsOk Tryd.prog 42 notLitS := by
 refine of_Y1 (E := EqT.no _) (F := Ft.no.put 43 pliteralS) Lit.av (fun _ _ => aLit_le) Tryd.func42 rfl (by kernel_rfl) [.tmp 2] rfl Tryd.ntmps42 (by decide) ((FtOk.no _).put pliteral_ok) ?_
 intro t h n hp hok
 repeat' (first | (with_reducible first | refine XG_split (fun hq => ?_) (fun hq => ?_) | refine MX1.of 4000 (by simp) ?_ | refine MX2.of 4000 (by simp) ?_ | refine And.intro ?_ ?_) | ((with_reducible first | refine Or.inl (And.intro (And.intro mixedP ?_) ?_) | refine Or.inl (And.intro mixedP ?_)); kernel_rfl) | simp only [go_sem,Nat.reduceEqDiff,Nat.reduceAdd,Nat.reduceMul,Nat.reduceLeDiff,Int.reduceBEq,Lit.av])
 all_goals first | exact hp | skip
 all_goals first | omega | (unfold maxLen; omega) | (right; omega) | (left; simp; done) | (simp only [wk3,wkL2,wk2,wkL,wk1_d,wk1_own,wk1_nil,and_self]; done) | (intro i hi; simp only [upd]; (repeat' split); all_goals first | rfl | omega) | skip
set_option maxRecDepth 10000 in
set_option maxHeartbeats 2000000 in
theorem idxLit_ok : FsOk Tryd.prog 63 idxLitS := by
 refine of_Y2 (E := EqT.no _) (F := Ft.no.put 42 notLitS) (fun l => .d (.sl 6 (l.map Lit.cells))) (fun _ => .fn (.func 42) [] []) (fun _ _ => aLits_le) (fun _ _ => aFn_le) Tryd.func63 rfl (by kernel_rfl) [.tmp 4] rfl Tryd.ntmps63 (by decide) ((FtOk.no _).put notLit_ok) ?_
 intro l u h n hp hok
 obtain ⟨hl, hsz⟩ := hp
 repeat' (first | (with_reducible first | refine XG_split (fun hq => ?_) (fun hq => ?_) | refine MX1.of 4000 (by simp) ?_ | refine MX2.of 4000 (by simp) ?_ | refine And.intro ?_ ?_) | ((with_reducible first | refine Or.inl (And.intro (And.intro mixedP ?_) ?_) | refine Or.inl (And.intro mixedP ?_)); kernel_rfl) | simp only [go_sem,Nat.reduceEqDiff,Nat.reduceAdd,Nat.reduceMul,Nat.reduceLeDiff,Int.reduceBEq])
 all_goals first | omega | (unfold maxLen; omega) | (right; omega) | (left; simp; done) | (simp only [wk3,wkL2,wk2,wkL,wk1_d,wk1_own,wk1_nil,and_self]; done) | (intro i hi; simp only [upd]; (repeat' split); all_goals first | rfl | omega) | skip
 refine AW.loopJ (E := EqT.no _) (S := fun k : Nat => ⟨fr [(0, .d (.sl 6 (l.map Lit.cells))), (1, .fn (.func 42) [] []), (7, vI l.length), (8, vI k)] (List.replicate 19 .any), h, n, n⟩) (I := fun k => k ≤ l.length ∧ ∀ i, (hi : i < k) → (hl : i < l.length) → (!literalB l[i]) = false) (μ := fun k => l.length - k) 0 ⟨Nat.zero_le _, fun i hi => absurd hi (Nat.not_lt_zero i)⟩ ?_ 4000 (fun _ => by simp only [fr_len, List.length_replicate]; decide) ?_
 · exact Wk.same (by simp only [go_sem]) hok (Nat.le_refl _) (by simp only [go_sem])
 · rintro k ⟨hk, hA⟩
   rcases Nat.lt_or_ge k l.length with hkl | hkl
   · have hs := hsz _ (List.getElem_mem hkl)
     cases hq : !literalB l[k] with
     | true =>
       have hR := idx_hit (p := fun t => !literalB t) hkl hq fun i hi => hA i hi (by omega)
       repeat' (first | (with_reducible first | refine XG_split (fun hq => ?_) (fun hq => ?_) | refine MX1.of 4000 (by simp) ?_ | refine MX2.of 4000 (by simp) ?_ | refine And.intro ?_ ?_) | ((with_reducible first | refine Or.inl (And.intro (And.intro mixedP ?_) ?_) | refine Or.inl (And.intro mixedP ?_)); kernel_rfl) | simp only [go_sem,Nat.reduceEqDiff,Nat.reduceAdd,Nat.reduceMul,Nat.reduceLeDiff,Int.reduceBEq,decide_eq_true hkl,List.getElem?_eq_getElem hkl,hq,hR,Term.av,Lit.av])
       all_goals first | exact hs | skip
       all_goals first | omega | (unfold maxLen; omega) | (right; omega) | (left; simp; done) | (simp only [wk3,wkL2,wk2,wkL,wk1_d,wk1_own,wk1_nil,and_self]; done) | (intro i hi; simp only [upd]; (repeat' split); all_goals first | rfl | omega) | skip
     | false =>
       repeat' (first | (with_reducible first | refine XG_split (fun hq => ?_) (fun hq => ?_) | refine MX1.of 4000 (by simp) ?_ | refine MX2.of 4000 (by simp) ?_ | refine And.intro ?_ ?_) | ((with_reducible first | refine Or.inl (And.intro (And.intro mixedP ?_) ?_) | refine Or.inl (And.intro mixedP ?_)); kernel_rfl) | simp only [go_sem,Nat.reduceEqDiff,Nat.reduceAdd,Nat.reduceMul,Nat.reduceLeDiff,Int.reduceBEq,decide_eq_true hkl,List.getElem?_eq_getElem hkl,hq,Term.av,Lit.av])
       all_goals first | exact hs | skip
       all_goals first | omega | (unfold maxLen; omega) | (right; omega) | (left; simp; done) | (simp only [wk3,wkL2,wk2,wkL,wk1_d,wk1_own,wk1_nil,and_self]; done) | (intro i hi; simp only [upd]; (repeat' split); all_goals first | rfl | omega) | skip
       refine ⟨k + 1, ⟨hkl, fun i hi hil => ?_⟩, Wk.same (by simp only [go_sem]) hok (Nat.le_refl _) (by simp only [go_sem]), by omega⟩
       rcases Nat.lt_or_ge i k with h' | h'
       · exact hA i h' hil
       · obtain rfl : i = k := by omega
         exact hq
   · have hR := idx_miss (p := fun t => !literalB t) (l := l) fun i hi => hA i (by omega) hi
     repeat' (first | (with_reducible first | refine XG_split (fun hq => ?_) (fun hq => ?_) | refine MX1.of 4000 (by simp) ?_ | refine MX2.of 4000 (by simp) ?_ | refine And.intro ?_ ?_) | ((with_reducible first | refine Or.inl (And.intro (And.intro mixedP ?_) ?_) | refine Or.inl (And.intro mixedP ?_)); kernel_rfl) | simp only [go_sem,Nat.reduceEqDiff,Nat.reduceAdd,Nat.reduceMul,Nat.reduceLeDiff,Int.reduceBEq,decide_eq_false (Nat.not_lt.2 hkl),hR])
     all_goals first | omega | (unfold maxLen; omega) | (right; omega) | (left; simp; done) | (simp only [wk3,wkL2,wk2,wkL,wk1_d,wk1_own,wk1_nil,and_self]; done) | (intro i hi; simp only [upd]; (repeat' split); all_goals first | rfl | omega) | skip
set_option maxRecDepth 10000 in
set_option maxHeartbeats 2000000 in
theorem hasLit_ok : FsOk Tryd.prog 41 hasLitS := by
 refine of_Y2 (E := EqT.no _) (F := Ft.no.put 63 idxLitS) (fun l => .d (.sl 6 (l.map Lit.cells))) (fun _ => .fn (.func 42) [] []) (fun _ _ => aLits_le) (fun _ _ => aFn_le) Tryd.func41 rfl (by kernel_rfl) [.tmp 4] rfl Tryd.ntmps41 (by decide) ((FtOk.no _).put idxLit_ok) ?_
 intro l u h n hp hok
 repeat' (first | (with_reducible first | refine XG_split (fun hq => ?_) (fun hq => ?_) | refine MX1.of 4000 (by simp) ?_ | refine MX2.of 4000 (by simp) ?_ | refine And.intro ?_ ?_) | ((with_reducible first | refine Or.inl (And.intro (And.intro mixedP ?_) ?_) | refine Or.inl (And.intro mixedP ?_)); kernel_rfl) | simp only [go_sem,Nat.reduceEqDiff,Nat.reduceAdd,Nat.reduceMul,Nat.reduceLeDiff,Int.reduceBEq,aFn_self,idx_ge])
 all_goals first | exact hp | exact hp.1 | exact hp.2 | skip
 all_goals first | omega | (unfold maxLen; omega) | (right; omega) | (left; simp; done) | (simp only [wk3,wkL2,wk2,wkL,wk1_d,wk1_own,wk1_nil,and_self]; done) | (intro i hi; simp only [upd]; (repeat' split); all_goals first | rfl | omega) | skip
set_option maxRecDepth 10000 in
set_option maxHeartbeats 2000000 in
theorem pcheck_ok : FsOk Tryd.prog 25 pcheckS := by
 refine of_Y1 (E := eqTV) (F := (Ft.no.put 26 pcheckLitS).put 41 hasLitS) Clause.av (fun _ _ => aClause_le) Tryd.func25 rfl (by kernel_rfl) [.tmp 2] rfl Tryd.ntmps25 (by decide) (((FtOk.no _).put pcheckLit_ok).put hasLit_ok) ?_
 intro c h n hp hok
 obtain ⟨hh, hl, hb⟩ := hp
 have hany : (!(c.body.any fun t => !literalB t)) = c.body.all literalB := by
  rw [List.all_eq_not_any_not]
 have hown : (c.head.who.var.size == 0 && (c.head.who.val.sym.size == 0 && c.head.who.val.num == 0)) = ownT c.head.who := by unfold ownT; rw [Bool.and_assoc]
 cases h1 : checkLitB c.head with
 | false =>
   have hS : checkB c = false := by unfold checkB; rw [h1]; rfl
   repeat' (first | (with_reducible first | refine XG_split (fun hq => ?_) (fun hq => ?_) | refine MX1.of 4000 (by simp) ?_ | refine MX2.of 4000 (by simp) ?_ | refine And.intro ?_ ?_) | ((with_reducible first | refine Or.inl (And.intro (And.intro mixedP ?_) ?_) | refine Or.inl (And.intro mixedP ?_)); kernel_rfl) | simp only [go_sem,Nat.reduceEqDiff,Nat.reduceAdd,Nat.reduceMul,Nat.reduceLeDiff,Int.reduceBEq,Clause.av,Lit.av,empty_str,cvals,cval,aFn_self,hS,h1])
   all_goals first | exact hh | exact hb | skip
   all_goals first | omega | (unfold maxLen; omega) | (right; omega) | (left; simp; done) | (simp only [wk3,wkL2,wk2,wkL,wk1_d,wk1_own,wk1_nil,and_self]; done) | (intro i hi; simp only [upd]; (repeat' split); all_goals first | rfl | omega) | skip
 | true =>
   cases h2 : ownT c.head.who with
   | false =>
     rw [h2] at hown
     have hS : checkB c = false := by unfold checkB; rw [h1, h2]; rfl
     repeat' (first | (with_reducible first | refine XG_split (fun hq => ?_) (fun hq => ?_) | refine MX1.of 4000 (by simp) ?_ | refine MX2.of 4000 (by simp) ?_ | refine And.intro ?_ ?_) | ((with_reducible first | refine Or.inl (And.intro (And.intro mixedP ?_) ?_) | refine Or.inl (And.intro mixedP ?_)); kernel_rfl) | simp only [go_sem,Nat.reduceEqDiff,Nat.reduceAdd,Nat.reduceMul,Nat.reduceLeDiff,Int.reduceBEq,Clause.av,Lit.av,empty_str,cvals,cval,aFn_self,hS,h1,hown])
     all_goals first | exact hh | exact hb | skip
     all_goals first | omega | (unfold maxLen; omega) | (right; omega) | (left; simp; done) | (simp only [wk3,wkL2,wk2,wkL,wk1_d,wk1_own,wk1_nil,and_self]; done) | (intro i hi; simp only [upd]; (repeat' split); all_goals first | rfl | omega) | skip
   | true =>
     rw [h2] at hown
     cases h6 : decide (6 < c.body.length) with
     | true =>
       have h6' : decide (c.body.length ≤ 6) = false := decide_eq_false (by have := of_decide_eq_true h6; omega)
       have hS : checkB c = false := by unfold checkB; rw [h1, h2, h6']; rfl
       repeat' (first | (with_reducible first | refine XG_split (fun hq => ?_) (fun hq => ?_) | refine MX1.of 4000 (by simp) ?_ | refine MX2.of 4000 (by simp) ?_ | refine And.intro ?_ ?_) | ((with_reducible first | refine Or.inl (And.intro (And.intro mixedP ?_) ?_) | refine Or.inl (And.intro mixedP ?_)); kernel_rfl) | simp only [go_sem,Nat.reduceEqDiff,Nat.reduceAdd,Nat.reduceMul,Nat.reduceLeDiff,Int.reduceBEq,Clause.av,Lit.av,empty_str,cvals,cval,aFn_self,hS,h1,hown,h6,hany])
       all_goals first | exact hh | exact hb | skip
       all_goals first | omega | (unfold maxLen; omega) | (right; omega) | (left; simp; done) | (simp only [wk3,wkL2,wk2,wkL,wk1_d,wk1_own,wk1_nil,and_self]; done) | (intro i hi; simp only [upd]; (repeat' split); all_goals first | rfl | omega) | skip
     | false =>
       have h6' : decide (c.body.length ≤ 6) = true := decide_eq_true (by have := of_decide_eq_false h6; omega)
       have hS : checkB c = c.body.all literalB := by unfold checkB; rw [h1, h2, h6']; rfl
       repeat' (first | (with_reducible first | refine XG_split (fun hq => ?_) (fun hq => ?_) | refine MX1.of 4000 (by simp) ?_ | refine MX2.of 4000 (by simp) ?_ | refine And.intro ?_ ?_) | ((with_reducible first | refine Or.inl (And.intro (And.intro mixedP ?_) ?_) | refine Or.inl (And.intro mixedP ?_)); kernel_rfl) | simp only [go_sem,Nat.reduceEqDiff,Nat.reduceAdd,Nat.reduceMul,Nat.reduceLeDiff,Int.reduceBEq,Clause.av,Lit.av,empty_str,cvals,cval,aFn_self,hS,h1,hown,h6,hany])
       all_goals first | exact hh | exact hb | skip
       all_goals first | omega | (unfold maxLen; omega) | (right; omega) | (left; simp; done) | (simp only [wk3,wkL2,wk2,wkL,wk1_d,wk1_own,wk1_nil,and_self]; done) | (intro i hi; simp only [upd]; (repeat' split); all_goals first | rfl | omega) | skip
end Go.Proofs.YtfhpecgknmfnnaaDoor.M
end
section
namespace Go.Proofs.YtfhpecgknmfnnaaDoor.M
open Go.R
def tI (t : Term) : Prop := i64 t.val.num
def litI (l : Lit) : Prop := tI l.who ∧ ∀ t ∈ l.args, tI t
def argsGo : Nat → ByteArray → List Term → ByteArray
 | _, out, [] => out
 | 0, out, t :: r => argsGo 1 (out ++ ⟨#[40]⟩ ++ termText t) r
 | k + 1, out, t :: r => argsGo (k + 2) (out ++ ⟨#[44, 32]⟩ ++ termText t) r
def litAhead (l : Lit) : ByteArray :=
 let a : ByteArray := if l.kind == 2 then ⟨#[110, 111, 116, 32]⟩ else ⟨#[]⟩
 let b := if ownT l.who then a else a ++ (termText l.who ++ ⟨#[32, 115, 97, 121, 115, 32]⟩)
 b ++ l.pred
def litBehind (l : Lit) (out : ByteArray) : ByteArray := if 0 < l.args.length then out ++ ⟨#[41]⟩ else out
def termAt (l : List Term) (i : Nat) : ByteArray := match l[i]? with | some t => termText t | none => ⟨#[]⟩
def litText (l : Lit) : ByteArray :=
 if l.kind == 3 then termAt l.args 0 ++ ⟨#[32, 60, 32]⟩ ++ termAt l.args 1
 else if l.kind == 4 then termAt l.args 0 ++ ⟨#[32, 33, 61, 32]⟩ ++ termAt l.args 1
 else litBehind l (argsGo 0 (litAhead l) l.args)
theorem nameB_size {s : ByteArray} (h : nameB s = true) : s.size ≤ 16 := by
 unfold nameB at h
 simp only [Bool.and_eq_true, decide_eq_true_eq] at h
 exact h.1.1.2
theorem numText_size {n : Int} (h : i64 n) : (numText n).size ≤ 20 := by
 obtain ⟨h1, h2⟩ := h
 unfold numText
 split
 · rw [strOf_size, List.length_cons]
   have := decL_len 18 (-n).toNat (by omega)
   omega
 · rw [strOf_size]
   exact decL_len 19 n.toNat (by omega)
theorem textB_size {v : Val} (h : i64 v.num) : (textB v).size ≤ 20 := by
 unfold textB
 split
 · rename_i hg
   split
   · rename_i hs
     have h1 : v.sym.size ≠ 0 := by omega
     simp [goodV, h1] at hg
     have := nameB_size hg.1
     omega
   · exact numText_size h
 · exact Nat.zero_le _
theorem termText_size {t : Term} (h : tI t) (hb : termB t = true) : (termText t).size ≤ 20 := by
 unfold termText
 split
 · rename_i hv
   simp [termB, hv, varB] at hb
   omega
 · exact textB_size h
end Go.Proofs.YtfhpecgknmfnnaaDoor.M
end
section
namespace Go.Proofs.YtfhpecgknmfnnaaDoor.M
open Go.R
def clauseI (c : Clause) : Prop := litI c.head ∧ ∀ l ∈ c.body, litI l
def bodyGo : Nat → ByteArray → List Lit → ByteArray
 | _, out, [] => out
 | 0, out, t :: r => bodyGo 1 (out ++ ⟨#[32, 58, 45, 32]⟩ ++ litText t) r
 | k + 1, out, t :: r => bodyGo (k + 2) (out ++ ⟨#[44, 32]⟩ ++ litText t) r
def clauseText (c : Clause) : ByteArray := bodyGo 0 (litText c.head) c.body ++ ⟨#[46]⟩
def printB (c : Clause) : ByteArray × Int := if checkB c then (clauseText c, 0) else (⟨#[]⟩, 1)
def printLitB (l : Lit) : ByteArray × Int := if checkLitB l then (litText l, 0) else (⟨#[]⟩, 1)
theorem argsGo_size : ∀ (l : List Term) (k : Nat) (out : ByteArray), (∀ t ∈ l, tI t) → termsB l = true → (argsGo k out l).size ≤ out.size + 22 * l.length
 | [], k, out, _, _ => by cases k <;> simp [argsGo]
 | t :: r, k, out, hi, hb => by
   have h1 := termText_size (hi t (by simp)) (by simp [termsB] at hb; exact hb.1)
   have g1 : (⟨#[40]⟩ : ByteArray).size = 1 := rfl
   have g2 : (⟨#[44, 32]⟩ : ByteArray).size = 2 := rfl
   have hr : termsB r = true := by simp [termsB] at hb ⊢; exact hb.2
   cases k with
   | zero =>
     have := argsGo_size r 1 (out ++ ⟨#[40]⟩ ++ termText t) (fun x hx => hi x (by simp [hx])) hr
     simp only [ByteArray.size_append, g1] at this
     simp only [argsGo, List.length_cons]
     omega
   | succ k =>
     have := argsGo_size r (k + 2) (out ++ ⟨#[44, 32]⟩ ++ termText t) (fun x hx => hi x (by simp [hx])) hr
     simp only [ByteArray.size_append, g2] at this
     simp only [argsGo, List.length_cons]
     omega
theorem litText_size {l : Lit} (hi : litI l) (hg : literalB l = true) : (litText l).size ≤ 200 := by
 have f1 : (⟨#[110, 111, 116, 32]⟩ : ByteArray).size = 4 := rfl
 have f2 : (⟨#[32, 115, 97, 121, 115, 32]⟩ : ByteArray).size = 6 := rfl
 have f3 : (⟨#[]⟩ : ByteArray).size = 0 := rfl
 have f4 : (⟨#[41]⟩ : ByteArray).size = 1 := rfl
 have f5 : (⟨#[32, 60, 32]⟩ : ByteArray).size = 3 := rfl
 have f6 : (⟨#[32, 33, 61, 32]⟩ : ByteArray).size = 4 := rfl
 have hz : ∀ i, termsB l.args = true → (termAt l.args i).size ≤ 20 := by
  intro i hb
  unfold termAt
  split
  · rename_i t ht
    have hm := List.mem_of_getElem? ht
    exact termText_size (hi.2 t hm) (by unfold termsB at hb; rw [List.all_eq_true] at hb; exact hb t hm)
  · exact Nat.zero_le _
 by_cases h12 : (l.kind == 1 || l.kind == 2) = true
 · have hs : saidB l = true := by simp only [literalB, h12, if_true] at hg; exact hg
   have h3 : (l.kind == 3) = false := by simp at h12 ⊢; omega
   have h4 : (l.kind == 4) = false := by simp at h12 ⊢; omega
   have hpred : l.pred.size ≤ 16 := by simp only [saidB, Bool.and_eq_true] at hs; exact nameB_size hs.1.1.2
   have hlen : l.args.length ≤ 4 := by simp only [saidB, Bool.and_eq_true, decide_eq_true_eq] at hs; exact hs.1.2
   have hts : termsB l.args = true := by simp only [saidB, Bool.and_eq_true] at hs; exact hs.2
   have hwho : ownT l.who = false → (termText l.who).size ≤ 20 := fun e => by
    simp only [saidB, Bool.and_eq_true, e, Bool.false_or] at hs
    exact termText_size hi.1 hs.1.1.1.1
   have ha := argsGo_size l.args 0 (litAhead l) hi.2 hts
   have hahead : (litAhead l).size ≤ 60 := by
    unfold litAhead
    cases ho : ownT l.who
    · have := hwho ho
      simp only [ByteArray.size_append, Bool.false_eq_true, if_false]
      split <;> omega
    · simp only [ByteArray.size_append, if_true]
      split <;> omega
   simp only [litText, h3, h4, Bool.false_eq_true, if_false, litBehind]
   split
   · rw [ByteArray.size_append, f4]; omega
   · omega
 · have h12 : (l.kind == 1 || l.kind == 2) = false := by simpa using h12
   have hts : termsB l.args = true := by simp only [literalB, h12, Bool.false_eq_true, if_false, Bool.and_eq_true] at hg; exact hg.2
   have h0 := hz 0 hts
   have h1 := hz 1 hts
   simp only [literalB, h12, Bool.false_eq_true, if_false, Bool.and_eq_true, Bool.or_eq_true] at hg
   unfold litText
   split
   · simp only [ByteArray.size_append, f5]; omega
   · split
     · simp only [ByteArray.size_append, f6]; omega
     · exfalso
       rcases hg.1.1.1.1 with q | q <;> simp_all
theorem checkLit_literal {l : Lit} (h : checkLitB l = true) : literalB l = true := by
 simp only [checkLitB, Bool.and_eq_true] at h
 simp [literalB, h.1, h.2]
end Go.Proofs.YtfhpecgknmfnnaaDoor.M
end
section
namespace Go.Proofs.YtfhpecgknmfnnaaDoor.M
open Go.R Go.RowKit
def u8Row (c : Int) : List DV := [.v (.int .u8 c)]
theorem wp_two {P : Program} {id : Nat} {o1 o2 : Oper} {Q : Exit → Act → World → Prop} {a : Act} {w : World} (g1 : o1.guard = none) (g2 : o2.guard = none)
 (h : o1.wp P a w (fun a' w' => o2.wp P a' w' (Q .normal) Q) Q) : (Code.region id #[o1, o2] false).wp P Q a w := by
 refine wp_region ?_
 show wpOps P #[o1, o2] Q [0, 1] a w
 simp only [wpOps, List.getElem?_toArray, List.getElem?_cons_zero, List.getElem?_cons_succ]
 rw [if_pos (by simp [Region.wanted, g1])]
 refine .inl (Oper.wp_mono ?_ h)
 intro a' w' h'
 rw [if_pos (by simp [Region.wanted, g2])]
 exact .inl h'
theorem wp_val {P : Program} {o : Oper} {a : Act} {w : World} {next : Act → World → Prop} {Q : Exit → Act → World → Prop} {v : Value} (h : (execOp a.eval o).run P w = .ok (.value v) w) (k : next (a.put o.dst v) w) : o.wp P a w next Q := by
 unfold Oper.wp
 rw [h]
 exact k
theorem wp_enter {P : Program} {o : Oper} {a : Act} {w : World} {next : Act → World → Prop} {Q : Exit → Act → World → Prop} {f : FuncId} {args : Array Value} (h : (execOp a.eval o).run P w = .ok (.enter f args) w)
 (k : Calls P f args w fun e w' => ∃ v, e = .returned v ∧ next (a.put o.dst v) w') : o.wp P a w next Q := by
 unfold Oper.wp
 rw [h, Oper.upon_enter]
 refine k.mono fun e w' he => ?_
 obtain ⟨v, rfl, h⟩ := he
 exact h
theorem heap_putRow {α : Type} [Inhabited α] (enc : α → Value) (w : World) (blk off : Nat) (d : Array α) {b : Nat} (h : b ≠ blk) : (Sort.putRow enc w blk off d).heap[b]? = w.heap[b]? := by
 simp [Sort.putRow, Sort.mapBlock, Array.getElem?_modify, Ne.symm h]
theorem size_putRow {α : Type} [Inhabited α] (enc : α → Value) (w : World) (blk off : Nat) (d : Array α) : (Sort.putRow enc w blk off d).heap.size = w.heap.size := by
 simp [Sort.putRow, Sort.mapBlock]
theorem AW.rev {C : Tb} {T : List Nat} {s : St} {Q : Exit → St → Prop} {id : Nat} {o1 o2 : Oper} {ts : Array TypeId} {j d1 d2 k : Nat} {zs : List Int} (g1 : o1.guard = none) (g2 : o2.guard = none)
 (e1 : o1.op = .move (.tmp j)) (e1d : o1.dst = some d1) (e2 : o2.op = .call { callee := .value (.func 96), args := #[.tmp d1], argTypes := ts }) (e2d : o2.dst = some d2) (hj1 : j ≠ d1) (hj2 : j ≠ d2)
 (hj : s.t[j]? = some (.own k 1 (zs.map u8Row))) (hz : zs ≠ []) (hh : s.h = upd (fun _ => .no) k (.tok zs.length 1)) (hb : s.b ≤ k) (hl : d1 < s.t.length) (h1000 : zs.length ≤ 1000)
 (hv : ∀ i x, s.t[i]? = some x → i ≠ j → x = .any ∨ ∃ v, x = .d (.v v))
 (hQ : Q .normal ⟨((s.t.set d1 .any).set d2 .any).set j (.d (.sl 1 (zs.reverse.map u8Row))), fun _ => .no, s.b, s.n⟩) : AW Tryd.prog C T (.region id #[o1, o2] false) Q s := by
 intro c0 h0 w0 c a w hC I
 refine wp_two g1 g2 ?_
 have hjl : j < a.tmps.size := by rw [I.srep.size]; exact (List.getElem?_eq_some_iff.1 hj).1
 have hd1 : d1 < a.tmps.size := by rw [I.srep.size]; exact hl
 obtain ⟨v, hvj⟩ : ∃ v, a.tmps[j]? = some v := ⟨_, Array.getElem?_eq_getElem hjl⟩
 have hrep := I.srep.tmp j v _ hvj hj
 have hev : a.eval (.tmp j) = v := by simp [Act.eval, hvj]
 generalize hxs : zs.map u8Row = xs at hrep
 cases hrep with
 | own A cap k' z xs' m hd hk hm hτ =>
   have hlen : xs.length = zs.length := by rw [← hxs, List.length_map]
   have hzl : 0 < zs.length := List.length_pos_iff.2 hz
   rw [hh, upd_same] at hk
   have hkm : zs.length = m := by injection hk
   have hτ' := hτ (by omega)
   generalize hz1 : (.sl 1 xs : DV) = zz at hd
   generalize hvv : (.slice A xs.length cap : Value) = vv at hd
   cases hd with
   | v x h1 => cases hz1
   | sl A' cap' z' rows f hc hz' hA hN hcell hdrep =>
     cases hz1
     simp only [Value.slice.injEq] at hvv
     obtain ⟨rfl, _, rfl⟩ := hvv
     cases A with
     | none =>
       have := (hN rfl).1
       rw [this] at hlen
       simp at hlen
       omega
     | some ad =>
       have hsp := (hA ad rfl).resolve_right (by omega)
       obtain ⟨blk, off, sp⟩ := ad
       simp only at hsp
       subst hsp
       have hks : s.h k = .tok zs.length 1 := by rw [hh, upd_same]
       obtain ⟨_, t2, t3, vals, ty, t4, t5⟩ := I.srep.wd.tokS k zs.length 1 _ _ hks hτ'
       simp only [Nat.mul_one] at t3 t5
       have hblkw : blk < w.heap.size := (Array.getElem?_eq_some_iff.1 t4).1
       have hblk0 : w0.heap.size ≤ blk := by
        refine Nat.le_of_not_lt fun hlt => ?_
        have hb1 : (s.h k).blk c k = some blk := by rw [hks]; simp [AO.blk, hτ']
        have := I.fr.old k blk hb1 hlt
        rw [I.new0 k hb] at this
        cases this
       have hcells : ∀ i, i < zs.length → w.cell? ⟨blk, off + i, none⟩ = some (.int .u8 (zs.getD i 0)) := fun i hi => by
        have hrow : xs[i]? = some (u8Row (zs.getD i 0)) := by
         rw [← hxs, List.getElem?_map, List.getElem?_eq_getElem hi, List.getD_eq_getElem?_getD, List.getElem?_eq_getElem hi]
         rfl
        have h1 := (hcell _ rfl i 0 _ (.v (.int .u8 (zs.getD i 0))) hrow rfl).1
        have h2 := hdrep i 0 _ (.v (.int .u8 (zs.getD i 0))) hrow rfl
        have e : f i 0 = .int .u8 (zs.getD i 0) := by
         generalize f i 0 = q at h2
         cases h2
         rfl
        rw [e] at h1
        simpa using h1
       have hH : Sort.Holds (Value.int .u8) w blk off zs.toArray := by
        intro i hi
        have hi : i < zs.length := by simpa using hi
        refine ⟨?_, ?_⟩
        · rw [hcells i hi]
          simp [List.getD_eq_getElem?_getD, List.getElem?_eq_getElem hi, hi]
        · simp [World.frozen?, t4]
       have hcon := AnyE.slices_Reverse Go.Proofs.Tryd.lrev (Value.int .u8) (fun _ => rfl) blk off cap zs w hH (by omega)
       change Calls Tryd.prog 96 _ _ _ at hcon
       have hv' : a.tmps[j]? = some (.slice (some ⟨blk, off, none⟩) zs.length cap) := by rw [hvj, hlen]
       have run1 : (execOp a.eval o1).run Tryd.prog w = .ok (.value (.slice (some ⟨blk, off, none⟩) zs.length cap)) w := by
        have : a.eval (.tmp j) = .slice (some ⟨blk, off, none⟩) zs.length cap := by simp [Act.eval, hv']
        simp only [execOp, e1, this]
        rfl
       refine wp_val run1 ?_
       rw [e1d]
       have ev1 : (a.put (some d1) (.slice (some ⟨blk, off, none⟩) zs.length cap)).eval (.tmp d1) = .slice (some ⟨blk, off, none⟩) zs.length cap := by
        simp [Act.eval, Act.put, hd1]
       have run2 : (execOp (a.put (some d1) (.slice (some ⟨blk, off, none⟩) zs.length cap)).eval o2).run Tryd.prog w = .ok (.enter 96 #[.slice (some ⟨blk, off, none⟩) zs.length cap]) w := by
        have hent : Entered Tryd.prog 96 := Entered.of Tryd.func96 rfl (by kernel_rfl)
        simp only [execOp, e2, resolve, Deferred.ofValue, Sem.run_bind, Sem.run_pure, Result.andThen_ok, invoke]
        have := hent #[.slice (some ⟨blk, off, none⟩) zs.length cap] w
        simp [Act.eval, Act.put, hd1, Deferred.ofValue]
       refine wp_enter run2 (hcon.mono fun e w' he => ?_)
       obtain ⟨rfl, nn, hw'⟩ := he
       refine ⟨_, rfl, ?_⟩
       rw [e2d]
       replace hw' := hw'.symm
       have hH' := Sort.holds_putRow (Value.int .u8) (Sort.ahead w nn) blk off zs.toArray zs.reverse.toArray (Sort.holds_ahead _ _ _ _ _ _ hH) (by simp)
       rw [hw'] at hH'
       have hsz : w'.heap.size = w.heap.size := by rw [← hw', size_putRow]; rfl
       have hother : ∀ b, b ≠ blk → w'.heap[b]? = w.heap[b]? := fun b hb => by rw [← hw', heap_putRow _ _ _ _ _ hb]; rfl
       have hcellO : ∀ o, (o < off ∨ off + zs.length ≤ o) → w'.cell? ⟨blk, o, none⟩ = w.cell? ⟨blk, o, none⟩ := fun o ho => by
        rw [← hw', Sort.cell?_putRow_other _ _ _ _ _ _ (by right; simpa using ho)]
        rfl
       have hos : w'.os = w.os ∧ w'.tape = w.tape ∧ w'.output = w.output := by rw [← hw']; exact ⟨rfl, rfl, rfl⟩
       have hw0blk : ∀ o, w0.cell? ⟨blk, o, none⟩ = none := fun o => by
        simp [World.cell?, Array.getElem?_eq_none hblk0]
       have hcell0 : ∀ b o, c0.lo b o → w'.cell? ⟨b, o, none⟩ = w0.cell? ⟨b, o, none⟩ := fun b o hlo => by
        have h1 := I.ext.cell b o hlo
        by_cases hbb : b = blk
        · subst hbb
          rw [hw0blk] at h1
          by_cases ho : o < off ∨ off + zs.length ≤ o
          · rw [hcellO o ho, h1, hw0blk]
          · exfalso
            obtain ⟨i, rfl⟩ : ∃ i, o = off + i := ⟨o - off, by omega⟩
            rw [hcells i (by omega)] at h1
            cases h1
        · rw [← h1]
          simp [World.cell?, hother b hbb]
       refine ⟨c, ⟨((s.t.set d1 .any).set d2 .any).set j (.d (.sl 1 (zs.reverse.map u8Row))), fun _ => .no, s.b, s.n⟩, ?_, rfl, by simp, hQ⟩
       have hnoh : ∀ i, s.h i ≠ .no → i = k := fun i hi => by
        refine Classical.byContradiction fun hne => hi ?_
        rw [hh, upd_ne _ _ hne]
       refine ⟨⟨by simp [Act.put, I.srep.size], fun i u x hu hx => ?_, I.srep.defers, ?_⟩, ⟨hos.1.trans I.ext.os, hos.2.1.trans I.ext.tape, hos.2.2.trans I.ext.output, by rw [hsz]; exact I.ext.size, I.ext.lo, hcell0, fun b hb0 => ?_, fun i cs hi => ?_, fun i m' z' hi => ?_⟩, ⟨fun b hb0 hne => ?_, fun i b hi => by cases hi⟩, I.new0, I.le⟩
       ·
        by_cases hij : i = j
        · subst hij
          have : i < ((s.t.set d1 .any).set d2 .any).length := by have := (List.getElem?_eq_some_iff.1 hj).1; simpa using this
          rw [List.getElem?_set_self this] at hx
          cases hx
          have hu' : u = .slice (some ⟨blk, off, none⟩) zs.length cap := by
           simp only [Act.put] at hu
           rw [Array.getElem?_setIfInBounds_ne (Ne.symm hj2), Array.getElem?_setIfInBounds_ne (Ne.symm hj1), hv'] at hu
           cases hu
           rfl
          subst hu'
          have hl2 : zs.length = (zs.reverse.map u8Row).length := by simp
          have hcap : zs.length ≤ cap := by omega
          rw [hl2] at hcap ⊢
          refine .d _ _ (.sl _ cap 1 _ (fun i _ => .int .u8 (zs.reverse.getD i 0)) hcap (fun row hrow => ?_) (fun a ha => by cases ha; exact .inl rfl) (fun h => by cases h) (fun a ha i j row x hi hj => ?_) (fun i j row x hi hj => ?_))
          · obtain ⟨q, _, rfl⟩ := List.mem_map.1 hrow
            rfl
          · cases ha
            have hil : i < zs.length := by have := (List.getElem?_eq_some_iff.1 hi).1; simpa using this
            have hj0 : j = 0 := by
             rw [List.getElem?_map] at hi
             cases hq : zs.reverse[i]? with
             | none => rw [hq] at hi; cases hi
             | some q =>
               rw [hq] at hi
               cases hi
               match j with
               | 0 => rfl
               | j + 1 => simp [u8Row] at hj
            subst hj0
            have := (hH' i (by simpa using hil)).1
            simp only [Nat.mul_one, Nat.add_zero]
            refine ⟨?_, ?_⟩
            · rw [this]
              simp [List.getD_eq_getElem?_getD, hil]
            · unfold Cx.lo
              rw [t3]
              simp only
              omega
          · rw [List.getElem?_map] at hi
            cases hq : zs.reverse[i]? with
            | none => rw [hq] at hi; cases hi
            | some q =>
              rw [hq] at hi
              cases hi
              match j with
              | 0 =>
                simp only [u8Row, List.getElem?_cons_zero, Option.some.injEq] at hj
                subst hj
                rw [List.getD_eq_getElem?_getD, hq]
                exact .v _ rfl
              | j + 1 => simp [u8Row] at hj
        · rw [List.getElem?_set_ne (Ne.symm hij)] at hx
          by_cases hid2 : i = d2
          · subst hid2
            have : i < (s.t.set d1 .any).length := by
             refine Nat.lt_of_not_le fun hle => ?_
             rw [List.getElem?_eq_none (by simpa using hle)] at hx
             cases hx
            rw [List.getElem?_set_self this] at hx
            cases hx
            exact .any _
          · rw [List.getElem?_set_ne (Ne.symm hid2)] at hx
            by_cases hid1 : i = d1
            · subst hid1
              rw [List.getElem?_set_self hl] at hx
              cases hx
              exact .any _
            · rw [List.getElem?_set_ne (Ne.symm hid1)] at hx
              have hu' : a.tmps[i]? = some u := by
               simp only [Act.put] at hu
               rw [Array.getElem?_setIfInBounds_ne (Ne.symm hid2), Array.getElem?_setIfInBounds_ne (Ne.symm hid1)] at hu
               exact hu
              rcases hv i x hx hij with rfl | ⟨y, rfl⟩
              · exact .any _
              · have hr := I.srep.tmp i u _ hu' hx
                cases hr with
                | d _ _ hd' =>
                  cases hd' with
                  | v x h1 => exact .d _ _ (.v _ h1)
       · exact ⟨fun i cs hi => (by cases hi), fun i m z cap hi _ => (by cases hi), fun i m z a cap hi _ => (by cases hi), fun i j b _ hi _ => (by cases hi), fun b hb0 => I.srep.wd.fresh b (by rw [← hsz]; exact hb0), fun _ _ => rfl, fun p hp => by
          obtain ⟨g1, g2⟩ := I.srep.wd.glob p hp
          exact ⟨g1, by rw [hother p.1 (fun e => by rw [e, t3] at g1; cases g1)]; exact g2⟩⟩
       · obtain ⟨g1, g2⟩ := I.ext.all b hb0
         refine ⟨g1, ?_⟩
         rw [hother b (fun e => by subst e; rw [t3] at g1; cases g1), g2]
       · obtain ⟨_, cs', g2⟩ := I.ext.box i cs hi
         have := hnoh i (by rw [g2]; simp)
         subst this
         rw [hks] at g2
         cases g2
       · obtain ⟨n', g1, _⟩ := I.ext.tok i m' z' hi
         have := hnoh i (by rw [g1]; simp)
         subst this
         rw [I.new0 i hb] at hi
         cases hi
       · rw [hother b (by omega)]
         exact I.fr.far b hb0 hne
theorem of_AWP {P : Program} {F : Ft} {f : FuncId} {fn : Func} {code : Code} {S : Fs} (g : List AV → Option AV) (hf : P.funcs[f]? = some fn) (hbody : fn.body = some code) (hn : (fn.name == "runtime.NumGoroutine") = false) {rs : List ResultVar} {nt : Nat} (hrs : fn.results = rs.toArray) (hnt : fn.ntmps = nt) (hF : FtOk P F)
 (hS : ∀ args h n, S.run args h n = (g args).map fun r => (r, h, n))
 (H : ∀ args h n r, S.pre args h n → g args = some r → HOk n h → ∃ args', leL args args' ∧ (nt ≤ 900000 ∧ args'.length ≤ 50000) ∧
   AW P F.tb (S.tch args) code (FinP P rs n h r) ⟨args' ++ List.replicate (nt - args'.length) .any, h, n, n⟩) : FsOk P f S := by
 subst hnt
 refine SpOk.of_code hf hbody hn hF fun args h n K hS' hno hbx => ?_
 have hok : HOk n h := ⟨hno, hbx⟩
 rw [hrs]
 obtain ⟨hpre, hrun⟩ := hS'
 obtain ⟨⟨r, h', n'⟩, hr, hK⟩ := onO_iff hrun
 rw [hS] at hr
 cases hg : g args with
 | none => simp [hg] at hr
 | some r' =>
   simp only [hg, Option.map_some, Option.some.injEq, Prod.mk.injEq] at hr
   obtain ⟨rfl, rfl, rfl⟩ := hr
   obtain ⟨args', hle, ⟨hl1, hl2⟩, hX⟩ := H args _ _ _ hpre hg hok
   refine ⟨args', fun c w vs hl hr => leL_rep hle hl hr, ?_⟩
   refine hX.mono fun e s' _ _ q => ?_
   obtain ⟨q1, q2, q3, q4, q5⟩ := q
   cases hres : resO P s'.t s'.h rs with
   | none => rw [hres] at q3; exact q3.elim
   | some l =>
     rw [hres] at q3
     exact ⟨q1, res_ares q2 hres (AFin.pure hno q4 q3 q5 hK)⟩
theorem AW.step {P : Program} {E : EqT P} {F : Ft} {T : List Nat} {x y : Code} {Q : Exit → St → Prop} {s : St} (f : Nat) (hl : s.t.length ≤ 1000000) (h : X E F T (fun e s' => match e with
 | .normal => AW P F.tb T y Q s'
 | e => Q e s') f (.code x) [] s) : AW P F.tb T (.seq x y) Q s := AW.seq (AW.of_X f hl h)
def digits0S : Fs := ⟨fun args h n => (g1 aI64 (fun n => vS (numText n)) args).map fun r => (r, h, n), fun args h n => g1p aI64 i64 args ∧ h = (fun _ => .no) ∧ n = 0, fun _ => []⟩
theorem byteRows_u8 : ∀ l : List Int, byteRows (l.map u8Row) = some l
 | [] => rfl
 | c :: l => by simp [byteRows, u8Row, byteRows_u8 l]
def digSt (m : Nat) (sg : ByteArray) (zs : List Int) : St := ⟨fr [(3, .d (.v (.int .u64 m))), (4, vS sg), (5, .own 0 1 (zs.map u8Row))] (List.replicate 34 .any), upd (fun _ => .no) 0 (.tok zs.length 1), 0, 1⟩
theorem dig_slots (m : Nat) (sg : ByteArray) (zs : List Int) : ∀ i x, (digSt m sg zs).t[i]? = some x → i ≠ 5 → x = .any ∨ ∃ v, x = .d (.v v) := by
 intro i x hi h5
 simp only [digSt, fr] at hi
 rw [List.getElem?_set_ne (Ne.symm h5)] at hi
 by_cases h4 : i = 4
 · subst h4
   rw [List.getElem?_set_self (by simp)] at hi
   cases hi
   exact .inr ⟨_, rfl⟩
 rw [List.getElem?_set_ne (Ne.symm h4)] at hi
 by_cases h3 : i = 3
 · subst h3
   rw [List.getElem?_set_self (by simp)] at hi
   cases hi
   exact .inr ⟨_, rfl⟩
 rw [List.getElem?_set_ne (Ne.symm h3), List.getElem?_replicate] at hi
 split at hi
 · cases hi; exact .inl rfl
 · cases hi
set_option maxRecDepth 10000 in
set_option maxHeartbeats 4000000 in
theorem digits0_ok : FsOk Tryd.prog 88 digits0S := by
 refine of_AWP (F := Ft.no) (g1 aI64 fun n => vS (numText n)) Tryd.func88 rfl (by kernel_rfl) (rs := [.tmp 2]) rfl Tryd.ntmps88 (FtOk.no _) (fun _ _ _ => rfl) ?_
 intro args h n r hp hg hok
 obtain ⟨hp, rfl, rfl⟩ := hp
 obtain ⟨x, v, rfl, hx, rfl⟩ := g1_eq hg
 obtain ⟨hv1, hv2⟩ := hp v hx
 refine ⟨[vI v], ⟨aI64_le hx, trivial⟩, ⟨by decide, by simp⟩, ?_⟩
 show AW Tryd.prog Ft.no.tb [] _ _ _
 obtain ⟨m0, hm0⟩ : ∃ m0 : Nat, m0 = v.natAbs := ⟨_, rfl⟩
 obtain ⟨sg, hsg⟩ : ∃ sg : ByteArray, sg = if v < 0 then ⟨#[45]⟩ else ⟨#[]⟩ := ⟨_, rfl⟩
 have hsgs : sg.size ≤ 1 := by rw [hsg]; split <;> decide
 have hlen : (decL m0).length ≤ 20 := decL_len 19 m0 (by omega)
 have hpos : 0 < (decL m0).length := by rw [decL]; split <;> simp
 have htxt : numText v = sg ++ strOf (decL m0) := by
  unfold numText
  rw [hsg]
  by_cases hn : v < 0
  · rw [if_pos hn, if_pos hn]
    have e : (-v).toNat = m0 := by omega
    rw [e]
    exact strOf_append [45] (decL m0)
  · rw [if_neg hn, if_neg hn]
    have e : v.toNat = m0 := by omega
    rw [e]
    refine ByteArray.ext ?_
    simp [ByteArray.data_append]
 refine AW.step (E := EqT.no _) 4000 (by simp only [List.length_cons, List.length_nil, List.length_set, List.length_append, List.length_replicate]; decide) ?_
 repeat' (first | (with_reducible first | refine XG_split (fun hq => ?_) (fun hq => ?_) | refine MX1.of 4000 (by simp) ?_ | refine MX2.of 4000 (by simp) ?_ | refine And.intro ?_ ?_) | ((with_reducible first | refine Or.inl (And.intro (And.intro mixedP ?_) ?_) | refine Or.inl (And.intro mixedP ?_)); kernel_rfl) | simp only [go_sem,Nat.reduceEqDiff,Nat.reduceAdd,Nat.reduceMul,Nat.reduceLeDiff,Int.reduceBEq])
 refine AW.step (E := EqT.no _) 4000 (by simp only [List.length_cons, List.length_nil, List.length_set, List.length_append, List.length_replicate]; decide) ?_
 repeat' (first | (with_reducible first | refine XG_split (fun hq => ?_) (fun hq => ?_) | refine MX1.of 4000 (by simp) ?_ | refine MX2.of 4000 (by simp) ?_ | refine And.intro ?_ ?_) | ((with_reducible first | refine Or.inl (And.intro (And.intro mixedP ?_) ?_) | refine Or.inl (And.intro mixedP ?_)); kernel_rfl) | simp only [go_sem,Nat.reduceEqDiff,Nat.reduceAdd,Nat.reduceMul,Nat.reduceLeDiff,Int.reduceBEq])
 refine AW.step (E := EqT.no _) 4000 (by simp only [List.length_cons, List.length_nil, List.length_set, List.length_append, List.length_replicate]; decide) ?_
 have c64 : IntKind.wrap .u64 v = if v < 0 then v + 18446744073709551616 else v := by rw [IntKind.wrap_u64]; split <;> omega
 have n64 : v < 0 → IntKind.wrap .u64 (0 - (v + 18446744073709551616)) = (m0 : Int) := fun h => by rw [IntKind.wrap_u64]; omega
 have body : ∀ (s0 : St), s0.h = (fun _ => .no) → s0.b = 0 → s0.n = 0 → Wk [] s0 ⟨fr [(3, .d (.v (.int .u64 m0))), (4, vS sg)] (List.replicate 34 .any), fun _ => .no, 0, 0⟩ → True := fun _ _ _ _ _ => trivial
 by_cases hn : v < 0
 · have d0 : decide (v < 0) = true := decide_eq_true hn
   have hs1 : sg = ⟨#[45]⟩ := by rw [hsg, if_pos hn]
   rw [if_pos hn] at c64
   have n64 := n64 hn
   repeat' (first | (with_reducible first | refine XG_split (fun hq => ?_) (fun hq => ?_) | refine MX1.of 4000 (by simp) ?_ | refine MX2.of 4000 (by simp) ?_ | refine And.intro ?_ ?_) | ((with_reducible first | refine Or.inl (And.intro (And.intro mixedP ?_) ?_) | refine Or.inl (And.intro mixedP ?_)); kernel_rfl) | simp only [go_sem,Nat.reduceEqDiff,Nat.reduceAdd,Nat.reduceMul,Nat.reduceLeDiff,Int.reduceBEq,d0,c64,n64])
   refine AW.step (E := EqT.no _) 4000 (by simp only [List.length_cons, List.length_nil, List.length_set, List.length_append, List.length_replicate]; decide) ?_
   repeat' (first | (with_reducible first | refine XG_split (fun hq => ?_) (fun hq => ?_) | refine MX1.of 4000 (by simp) ?_ | refine MX2.of 4000 (by simp) ?_ | refine And.intro ?_ ?_) | ((with_reducible first | refine Or.inl (And.intro (And.intro mixedP ?_) ?_) | refine Or.inl (And.intro mixedP ?_)); kernel_rfl) | simp only [go_sem,Nat.reduceEqDiff,Nat.reduceAdd,Nat.reduceMul,Nat.reduceLeDiff,Int.reduceBEq])
   refine AW.wk (Wk.nil (j := 5) 1 rfl) ?_
   refine AW.step (E := EqT.no _) 4000 (by simp only [List.length_cons, List.length_nil, List.length_set, List.length_append, List.length_replicate]; decide) ?_
   repeat' (first | (with_reducible first | refine XG_split (fun hq => ?_) (fun hq => ?_) | refine MX1.of 4000 (by simp) ?_ | refine MX2.of 4000 (by simp) ?_ | refine And.intro ?_ ?_) | ((with_reducible first | refine Or.inl (And.intro (And.intro mixedP ?_) ?_) | refine Or.inl (And.intro mixedP ?_)); kernel_rfl) | simp only [go_sem,Nat.reduceEqDiff,Nat.reduceAdd,Nat.reduceMul,Nat.reduceLeDiff,Int.reduceBEq])
   refine AW.loopJ (E := EqT.no _) (S := fun x : Nat × List Int => digSt x.1 sg x.2) (I := fun x => x.1 ≤ m0 ∧ (x.2 = [] → x.1 = m0) ∧ (x.2 ≠ [] → (if x.1 = 0 then [] else decL x.1) ++ x.2.reverse = decL m0)) (μ := fun x => if x.2 = [] then x.1 + 1 else x.1) (m0, []) ⟨Nat.le_refl _, fun _ => rfl, fun h => absurd rfl h⟩ ?_ 4000 (fun _ => by simp only [digSt, fr_len, List.length_replicate]; decide) ?_
   · refine Wk.same (by simp only [go_sem, digSt, hs1, List.map_nil]) ⟨fun i hi => by rw [upd_ne _ _ (by omega)], fun i cs hi => by simp only [upd] at hi; split at hi <;> cases hi⟩ (by omega) (by simp only [go_sem, digSt, List.map_nil]; omega)
   · rintro ⟨m, zs⟩ ⟨hm, hI1, hI2⟩
     simp only at hm hI1 hI2
     have hm18 : m ≤ 9223372036854775808 := by omega
     have w1 : IntKind.wrap .u64 (48 + ((m % 10 : Nat) : Int)) = 48 + ((m % 10 : Nat) : Int) := by rw [IntKind.wrap_u64]; omega
     have w2 := dig_u8 m
     have w3 : IntKind.wrap .u64 ((m / 10 : Nat) : Int) = ((m / 10 : Nat) : Int) := by rw [IntKind.wrap_u64]; omega
     have hHOk : ∀ k : Nat, HOk 1 (upd (fun _ => .no) 0 (.tok k 1)) := fun k => ⟨fun i hi => by rw [upd_ne _ _ (by omega)], fun i cs hi => by simp only [upd] at hi; split at hi <;> cases hi⟩
     cases zs with
     | nil =>
       have hmm := hI1 rfl
       by_cases hmz : m = 0
       · have dm : decide (0 < m) = false := decide_eq_false (by omega)
         repeat' (first | (with_reducible first | refine XG_split (fun hq => ?_) (fun hq => ?_) | refine MX1.of 4000 (by simp) ?_ | refine MX2.of 4000 (by simp) ?_ | refine And.intro ?_ ?_) | ((with_reducible first | refine Or.inl (And.intro (And.intro mixedP ?_) ?_) | refine Or.inl (And.intro mixedP ?_)); kernel_rfl) | simp only [go_sem,Nat.reduceEqDiff,Nat.reduceAdd,Nat.reduceMul,Nat.reduceLeDiff,Int.reduceBEq,List.map_cons,List.map_nil,digSt,w1,w2,w3,dm])
         all_goals first | omega | (unfold maxLen; omega) | (right; omega) | (left; simp; done) | (simp only [wk3,wkL2,wk2,wkL,wk1_d,wk1_own,wk1_nil,and_self]; done) | (intro i hi; simp only [upd]; (repeat' split); all_goals first | rfl | omega) | skip
         all_goals exact ⟨(m / 10, [48 + ((m % 10 : Nat) : Int)]), ⟨by show m / 10 ≤ m0; omega, fun h => (by cases h), fun _ => by
          show (if m / 10 = 0 then [] else decL (m / 10)) ++ [48 + ((m % 10 : Nat) : Int)] = decL m0
          rw [← hmm, hmz]
          decide +kernel⟩, Wk.of (by simp only [go_sem, digSt, List.map_cons, List.map_nil, u8Row]) (by intro i hi; simp only [upd, digSt, List.length_cons, List.length_nil]; (repeat' split); all_goals first | rfl | omega) (hHOk _) (by omega) (by omega) (by simp only [go_sem, digSt]; omega), by show m / 10 < m + 1; omega⟩
       · have dm : decide (0 < m) = true := decide_eq_true (by omega)
         repeat' (first | (with_reducible first | refine XG_split (fun hq => ?_) (fun hq => ?_) | refine MX1.of 4000 (by simp) ?_ | refine MX2.of 4000 (by simp) ?_ | refine And.intro ?_ ?_) | ((with_reducible first | refine Or.inl (And.intro (And.intro mixedP ?_) ?_) | refine Or.inl (And.intro mixedP ?_)); kernel_rfl) | simp only [go_sem,Nat.reduceEqDiff,Nat.reduceAdd,Nat.reduceMul,Nat.reduceLeDiff,Int.reduceBEq,List.map_cons,List.map_nil,digSt,w1,w2,w3,dm])
         all_goals first | omega | (unfold maxLen; omega) | (right; omega) | (left; simp; done) | (simp only [wk3,wkL2,wk2,wkL,wk1_d,wk1_own,wk1_nil,and_self]; done) | (intro i hi; simp only [upd]; (repeat' split); all_goals first | rfl | omega) | skip
         refine ⟨(m / 10, [48 + ((m % 10 : Nat) : Int)]), ⟨by show m / 10 ≤ m0; omega, fun h => (by cases h), fun _ => ?_⟩, Wk.of (by simp only [go_sem, digSt, List.map_cons, List.map_nil, u8Row]) (by intro i hi; simp only [upd, digSt, List.length_cons, List.length_nil]; (repeat' split); all_goals first | rfl | omega) (hHOk _) (by omega) (by omega) (by simp only [go_sem, digSt]; omega), by show m / 10 < m + 1; omega⟩
         show (if m / 10 = 0 then [] else decL (m / 10)) ++ [48 + ((m % 10 : Nat) : Int)] = decL m0
         rw [← hmm]
         by_cases h10 : m / 10 = 0
         · rw [if_pos h10, decL_last m h10]; rfl
         · rw [if_neg h10, decL_step m (by omega)]
     | cons z zs =>
       have hE := hI2 (by simp)
       have hzl : (z :: zs).length ≤ 20 := by
        have := congrArg List.length hE
        rw [List.length_append, List.length_reverse] at this
        omega
       simp only [List.length_cons] at hzl
       have dl : ((zs.length : Int) + 1 == 0) = false := by rw [beq_eq_false_iff_ne]; omega
       by_cases hmz : m = 0
       · have dm : decide (0 < m) = false := decide_eq_false (by omega)
         rw [if_pos hmz, List.nil_append] at hE
         repeat' (first | (with_reducible first | refine XG_split (fun hq => ?_) (fun hq => ?_) | refine MX1.of 4000 (by simp) ?_ | refine MX2.of 4000 (by simp) ?_ | refine And.intro ?_ ?_) | ((with_reducible first | refine Or.inl (And.intro (And.intro mixedP ?_) ?_) | refine Or.inl (And.intro mixedP ?_)); kernel_rfl) | simp only [go_sem,Nat.reduceEqDiff,Nat.reduceAdd,Nat.reduceMul,Nat.reduceLeDiff,Int.reduceBEq,List.map_cons,List.map_nil,digSt,w1,w2,w3,dm,dl])
         all_goals first | omega | (unfold maxLen; omega) | (right; omega) | (left; simp; done) | (simp only [wk3,wkL2,wk2,wkL,wk1_d,wk1_own,wk1_nil,and_self]; done) | (intro i hi; simp only [upd]; (repeat' split); all_goals first | rfl | omega) | skip
         refine AW.wk (Wk.of (t1 := (digSt m sg (z :: zs)).t) (h1 := (digSt m sg (z :: zs)).h) (n1 := 1) (by simp only [go_sem, digSt, List.map_cons]) (fun i hi => rfl) (hHOk _) (Nat.le_refl _) (by omega) (by simp only [go_sem, digSt, List.map_cons]; omega)) ?_
         refine AW.seq ?_
         refine AW.rev (j := 5) (k := 0) (zs := z :: zs) rfl rfl rfl rfl rfl rfl (by decide) (by decide) rfl (by simp) rfl (Nat.le_refl _) (by simp only [digSt, fr_len, List.length_replicate]; decide) (by simp only [List.length_cons]; omega) (dig_slots m sg (z :: zs)) ?_
         show AW Tryd.prog Ft.no.tb [] _ _ _
         refine AW.of_X (E := EqT.no _) 4000 (by simp [digSt, fr_len]) ?_
         rw [hE]
         repeat' (first | (with_reducible first | refine XG_split (fun hq => ?_) (fun hq => ?_) | refine MX1.of 4000 (by simp) ?_ | refine MX2.of 4000 (by simp) ?_ | refine And.intro ?_ ?_) | ((with_reducible first | refine Or.inl (And.intro (And.intro mixedP ?_) ?_) | refine Or.inl (And.intro mixedP ?_)); kernel_rfl) | simp only [go_sem,Nat.reduceEqDiff,Nat.reduceAdd,Nat.reduceMul,Nat.reduceLeDiff,Int.reduceBEq,digSt,byteRows_u8])
         all_goals try simp only [strOf_size]
         all_goals first | omega | (unfold maxLen; omega) | (right; omega) | (left; simp; done) | (simp only [wk3,wkL2,wk2,wkL,wk1_d,wk1_own,wk1_nil,and_self]; done) | (intro i hi; simp only [upd]; (repeat' split); all_goals first | rfl | omega) | skip
         all_goals exact wk_v (congrArg Value.string htxt.symm)
       · have dm : decide (0 < m) = true := decide_eq_true (by omega)
         rw [if_neg hmz] at hE
         repeat' (first | (with_reducible first | refine XG_split (fun hq => ?_) (fun hq => ?_) | refine MX1.of 4000 (by simp) ?_ | refine MX2.of 4000 (by simp) ?_ | refine And.intro ?_ ?_) | ((with_reducible first | refine Or.inl (And.intro (And.intro mixedP ?_) ?_) | refine Or.inl (And.intro mixedP ?_)); kernel_rfl) | simp only [go_sem,Nat.reduceEqDiff,Nat.reduceAdd,Nat.reduceMul,Nat.reduceLeDiff,Int.reduceBEq,List.map_cons,List.map_nil,digSt,w1,w2,w3,dm,dl])
         all_goals first | omega | (unfold maxLen; omega) | (right; omega) | (left; simp; done) | (simp only [wk3,wkL2,wk2,wkL,wk1_d,wk1_own,wk1_nil,and_self]; done) | (intro i hi; simp only [upd]; (repeat' split); all_goals first | rfl | omega) | skip
         refine ⟨(m / 10, z :: zs ++ [48 + ((m % 10 : Nat) : Int)]), ⟨by show m / 10 ≤ m0; omega, fun h => (by simp at h), fun _ => ?_⟩, Wk.of (by simp only [go_sem, digSt, List.map_cons, List.map_nil, List.map_append, u8Row]) (by intro i hi; simp only [upd, digSt, List.length_cons, List.length_nil, List.length_append]; (repeat' split); all_goals first | rfl | omega) (hHOk _) (by omega) (by omega) (by simp only [go_sem, digSt]; omega), by simp; omega⟩
         show (if m / 10 = 0 then [] else decL (m / 10)) ++ (z :: zs ++ [48 + ((m % 10 : Nat) : Int)]).reverse = decL m0
         rw [← hE, List.reverse_append]
         by_cases h10 : m / 10 = 0
         · rw [if_pos h10, decL_last m h10]; rfl
         · rw [if_neg h10, decL_step m (by omega)]
           simp
 · have d0 : decide (v < 0) = false := decide_eq_false hn
   have hs1 : sg = ⟨#[]⟩ := by rw [hsg, if_neg hn]
   rw [if_neg hn] at c64
   have c64 : IntKind.wrap .u64 v = (m0 : Int) := by rw [c64]; omega
   repeat' (first | (with_reducible first | refine XG_split (fun hq => ?_) (fun hq => ?_) | refine MX1.of 4000 (by simp) ?_ | refine MX2.of 4000 (by simp) ?_ | refine And.intro ?_ ?_) | ((with_reducible first | refine Or.inl (And.intro (And.intro mixedP ?_) ?_) | refine Or.inl (And.intro mixedP ?_)); kernel_rfl) | simp only [go_sem,Nat.reduceEqDiff,Nat.reduceAdd,Nat.reduceMul,Nat.reduceLeDiff,Int.reduceBEq,d0,c64])
   refine AW.step (E := EqT.no _) 4000 (by simp only [List.length_cons, List.length_nil, List.length_set, List.length_append, List.length_replicate]; decide) ?_
   repeat' (first | (with_reducible first | refine XG_split (fun hq => ?_) (fun hq => ?_) | refine MX1.of 4000 (by simp) ?_ | refine MX2.of 4000 (by simp) ?_ | refine And.intro ?_ ?_) | ((with_reducible first | refine Or.inl (And.intro (And.intro mixedP ?_) ?_) | refine Or.inl (And.intro mixedP ?_)); kernel_rfl) | simp only [go_sem,Nat.reduceEqDiff,Nat.reduceAdd,Nat.reduceMul,Nat.reduceLeDiff,Int.reduceBEq])
   refine AW.wk (Wk.nil (j := 5) 1 rfl) ?_
   refine AW.step (E := EqT.no _) 4000 (by simp only [List.length_cons, List.length_nil, List.length_set, List.length_append, List.length_replicate]; decide) ?_
   repeat' (first | (with_reducible first | refine XG_split (fun hq => ?_) (fun hq => ?_) | refine MX1.of 4000 (by simp) ?_ | refine MX2.of 4000 (by simp) ?_ | refine And.intro ?_ ?_) | ((with_reducible first | refine Or.inl (And.intro (And.intro mixedP ?_) ?_) | refine Or.inl (And.intro mixedP ?_)); kernel_rfl) | simp only [go_sem,Nat.reduceEqDiff,Nat.reduceAdd,Nat.reduceMul,Nat.reduceLeDiff,Int.reduceBEq])
   refine AW.loopJ (E := EqT.no _) (S := fun x : Nat × List Int => digSt x.1 sg x.2) (I := fun x => x.1 ≤ m0 ∧ (x.2 = [] → x.1 = m0) ∧ (x.2 ≠ [] → (if x.1 = 0 then [] else decL x.1) ++ x.2.reverse = decL m0)) (μ := fun x => if x.2 = [] then x.1 + 1 else x.1) (m0, []) ⟨Nat.le_refl _, fun _ => rfl, fun h => absurd rfl h⟩ ?_ 4000 (fun _ => by simp only [digSt, fr_len, List.length_replicate]; decide) ?_
   · refine Wk.same (by simp only [go_sem, digSt, hs1, List.map_nil]) ⟨fun i hi => by rw [upd_ne _ _ (by omega)], fun i cs hi => by simp only [upd] at hi; split at hi <;> cases hi⟩ (by omega) (by simp only [go_sem, digSt, List.map_nil]; omega)
   · rintro ⟨m, zs⟩ ⟨hm, hI1, hI2⟩
     simp only at hm hI1 hI2
     have hm18 : m ≤ 9223372036854775808 := by omega
     have w1 : IntKind.wrap .u64 (48 + ((m % 10 : Nat) : Int)) = 48 + ((m % 10 : Nat) : Int) := by rw [IntKind.wrap_u64]; omega
     have w2 := dig_u8 m
     have w3 : IntKind.wrap .u64 ((m / 10 : Nat) : Int) = ((m / 10 : Nat) : Int) := by rw [IntKind.wrap_u64]; omega
     have hHOk : ∀ k : Nat, HOk 1 (upd (fun _ => .no) 0 (.tok k 1)) := fun k => ⟨fun i hi => by rw [upd_ne _ _ (by omega)], fun i cs hi => by simp only [upd] at hi; split at hi <;> cases hi⟩
     cases zs with
     | nil =>
       have hmm := hI1 rfl
       by_cases hmz : m = 0
       · have dm : decide (0 < m) = false := decide_eq_false (by omega)
         repeat' (first | (with_reducible first | refine XG_split (fun hq => ?_) (fun hq => ?_) | refine MX1.of 4000 (by simp) ?_ | refine MX2.of 4000 (by simp) ?_ | refine And.intro ?_ ?_) | ((with_reducible first | refine Or.inl (And.intro (And.intro mixedP ?_) ?_) | refine Or.inl (And.intro mixedP ?_)); kernel_rfl) | simp only [go_sem,Nat.reduceEqDiff,Nat.reduceAdd,Nat.reduceMul,Nat.reduceLeDiff,Int.reduceBEq,List.map_cons,List.map_nil,digSt,w1,w2,w3,dm])
         all_goals first | omega | (unfold maxLen; omega) | (right; omega) | (left; simp; done) | (simp only [wk3,wkL2,wk2,wkL,wk1_d,wk1_own,wk1_nil,and_self]; done) | (intro i hi; simp only [upd]; (repeat' split); all_goals first | rfl | omega) | skip
         all_goals exact ⟨(m / 10, [48 + ((m % 10 : Nat) : Int)]), ⟨by show m / 10 ≤ m0; omega, fun h => (by cases h), fun _ => by
          show (if m / 10 = 0 then [] else decL (m / 10)) ++ [48 + ((m % 10 : Nat) : Int)] = decL m0
          rw [← hmm, hmz]
          decide +kernel⟩, Wk.of (by simp only [go_sem, digSt, List.map_cons, List.map_nil, u8Row]) (by intro i hi; simp only [upd, digSt, List.length_cons, List.length_nil]; (repeat' split); all_goals first | rfl | omega) (hHOk _) (by omega) (by omega) (by simp only [go_sem, digSt]; omega), by show m / 10 < m + 1; omega⟩
       · have dm : decide (0 < m) = true := decide_eq_true (by omega)
         repeat' (first | (with_reducible first | refine XG_split (fun hq => ?_) (fun hq => ?_) | refine MX1.of 4000 (by simp) ?_ | refine MX2.of 4000 (by simp) ?_ | refine And.intro ?_ ?_) | ((with_reducible first | refine Or.inl (And.intro (And.intro mixedP ?_) ?_) | refine Or.inl (And.intro mixedP ?_)); kernel_rfl) | simp only [go_sem,Nat.reduceEqDiff,Nat.reduceAdd,Nat.reduceMul,Nat.reduceLeDiff,Int.reduceBEq,List.map_cons,List.map_nil,digSt,w1,w2,w3,dm])
         all_goals first | omega | (unfold maxLen; omega) | (right; omega) | (left; simp; done) | (simp only [wk3,wkL2,wk2,wkL,wk1_d,wk1_own,wk1_nil,and_self]; done) | (intro i hi; simp only [upd]; (repeat' split); all_goals first | rfl | omega) | skip
         refine ⟨(m / 10, [48 + ((m % 10 : Nat) : Int)]), ⟨by show m / 10 ≤ m0; omega, fun h => (by cases h), fun _ => ?_⟩, Wk.of (by simp only [go_sem, digSt, List.map_cons, List.map_nil, u8Row]) (by intro i hi; simp only [upd, digSt, List.length_cons, List.length_nil]; (repeat' split); all_goals first | rfl | omega) (hHOk _) (by omega) (by omega) (by simp only [go_sem, digSt]; omega), by show m / 10 < m + 1; omega⟩
         show (if m / 10 = 0 then [] else decL (m / 10)) ++ [48 + ((m % 10 : Nat) : Int)] = decL m0
         rw [← hmm]
         by_cases h10 : m / 10 = 0
         · rw [if_pos h10, decL_last m h10]; rfl
         · rw [if_neg h10, decL_step m (by omega)]
     | cons z zs =>
       have hE := hI2 (by simp)
       have hzl : (z :: zs).length ≤ 20 := by
        have := congrArg List.length hE
        rw [List.length_append, List.length_reverse] at this
        omega
       simp only [List.length_cons] at hzl
       have dl : ((zs.length : Int) + 1 == 0) = false := by rw [beq_eq_false_iff_ne]; omega
       by_cases hmz : m = 0
       · have dm : decide (0 < m) = false := decide_eq_false (by omega)
         rw [if_pos hmz, List.nil_append] at hE
         repeat' (first | (with_reducible first | refine XG_split (fun hq => ?_) (fun hq => ?_) | refine MX1.of 4000 (by simp) ?_ | refine MX2.of 4000 (by simp) ?_ | refine And.intro ?_ ?_) | ((with_reducible first | refine Or.inl (And.intro (And.intro mixedP ?_) ?_) | refine Or.inl (And.intro mixedP ?_)); kernel_rfl) | simp only [go_sem,Nat.reduceEqDiff,Nat.reduceAdd,Nat.reduceMul,Nat.reduceLeDiff,Int.reduceBEq,List.map_cons,List.map_nil,digSt,w1,w2,w3,dm,dl])
         all_goals first | omega | (unfold maxLen; omega) | (right; omega) | (left; simp; done) | (simp only [wk3,wkL2,wk2,wkL,wk1_d,wk1_own,wk1_nil,and_self]; done) | (intro i hi; simp only [upd]; (repeat' split); all_goals first | rfl | omega) | skip
         refine AW.wk (Wk.of (t1 := (digSt m sg (z :: zs)).t) (h1 := (digSt m sg (z :: zs)).h) (n1 := 1) (by simp only [go_sem, digSt, List.map_cons]) (fun i hi => rfl) (hHOk _) (Nat.le_refl _) (by omega) (by simp only [go_sem, digSt, List.map_cons]; omega)) ?_
         refine AW.seq ?_
         refine AW.rev (j := 5) (k := 0) (zs := z :: zs) rfl rfl rfl rfl rfl rfl (by decide) (by decide) rfl (by simp) rfl (Nat.le_refl _) (by simp only [digSt, fr_len, List.length_replicate]; decide) (by simp only [List.length_cons]; omega) (dig_slots m sg (z :: zs)) ?_
         show AW Tryd.prog Ft.no.tb [] _ _ _
         refine AW.of_X (E := EqT.no _) 4000 (by simp [digSt, fr_len]) ?_
         rw [hE]
         repeat' (first | (with_reducible first | refine XG_split (fun hq => ?_) (fun hq => ?_) | refine MX1.of 4000 (by simp) ?_ | refine MX2.of 4000 (by simp) ?_ | refine And.intro ?_ ?_) | ((with_reducible first | refine Or.inl (And.intro (And.intro mixedP ?_) ?_) | refine Or.inl (And.intro mixedP ?_)); kernel_rfl) | simp only [go_sem,Nat.reduceEqDiff,Nat.reduceAdd,Nat.reduceMul,Nat.reduceLeDiff,Int.reduceBEq,digSt,byteRows_u8])
         all_goals try simp only [strOf_size]
         all_goals first | omega | (unfold maxLen; omega) | (right; omega) | (left; simp; done) | (simp only [wk3,wkL2,wk2,wkL,wk1_d,wk1_own,wk1_nil,and_self]; done) | (intro i hi; simp only [upd]; (repeat' split); all_goals first | rfl | omega) | skip
         all_goals exact wk_v (congrArg Value.string htxt.symm)
       · have dm : decide (0 < m) = true := decide_eq_true (by omega)
         rw [if_neg hmz] at hE
         repeat' (first | (with_reducible first | refine XG_split (fun hq => ?_) (fun hq => ?_) | refine MX1.of 4000 (by simp) ?_ | refine MX2.of 4000 (by simp) ?_ | refine And.intro ?_ ?_) | ((with_reducible first | refine Or.inl (And.intro (And.intro mixedP ?_) ?_) | refine Or.inl (And.intro mixedP ?_)); kernel_rfl) | simp only [go_sem,Nat.reduceEqDiff,Nat.reduceAdd,Nat.reduceMul,Nat.reduceLeDiff,Int.reduceBEq,List.map_cons,List.map_nil,digSt,w1,w2,w3,dm,dl])
         all_goals first | omega | (unfold maxLen; omega) | (right; omega) | (left; simp; done) | (simp only [wk3,wkL2,wk2,wkL,wk1_d,wk1_own,wk1_nil,and_self]; done) | (intro i hi; simp only [upd]; (repeat' split); all_goals first | rfl | omega) | skip
         refine ⟨(m / 10, z :: zs ++ [48 + ((m % 10 : Nat) : Int)]), ⟨by show m / 10 ≤ m0; omega, fun h => (by simp at h), fun _ => ?_⟩, Wk.of (by simp only [go_sem, digSt, List.map_cons, List.map_nil, List.map_append, u8Row]) (by intro i hi; simp only [upd, digSt, List.length_cons, List.length_nil, List.length_append]; (repeat' split); all_goals first | rfl | omega) (hHOk _) (by omega) (by omega) (by simp only [go_sem, digSt]; omega), by simp; omega⟩
         show (if m / 10 = 0 then [] else decL (m / 10)) ++ (z :: zs ++ [48 + ((m % 10 : Nat) : Int)]).reverse = decL m0
         rw [← hE, List.reverse_append]
         by_cases h10 : m / 10 = 0
         · rw [if_pos h10, decL_last m h10]; rfl
         · rw [if_neg h10, decL_step m (by omega)]
           simp
abbrev digitsS : Fs := .pureIf (g1p aI64 i64) (g1 aI64 fun n => vS (numText n))
theorem digits_ok : FsOk Tryd.prog 88 digitsS := by
 intro c h n w vals args K hw hl hr hS
 obtain ⟨hpre, hS⟩ := hS
 obtain ⟨q, hq, hK⟩ := onO_iff hS
 simp only [Fs.pureIf] at hq hpre
 cases hg : g1 aI64 (fun n => vS (numText n)) args with
 | none => simp [hg] at hq
 | some r =>
   simp only [hg, Option.map_some, Option.some.injEq] at hq
   subst hq
   obtain ⟨x, v, rfl, hx, rfl⟩ := g1_eq hg
   obtain ⟨u, hu⟩ : ∃ u, vals = [u] := by
    match vals, hl with
    | [u], _ => exact ⟨u, rfl⟩
   subst hu
   have hxv : x = vI v := by
    unfold aI64 at hx
    split at hx
    · cases hx; rfl
    · cases hx
   subst hxv
   have hru := hr 0 u _ rfl rfl
   obtain rfl := cval_rep hru rfl
   let cF : Cx := ⟨fun b => if b < w.heap.size then none else some 0, fun _ => 0, fun _ => (none, 0)⟩
   have hwF : Wd cF (fun _ => .no) 0 w := ⟨fun i cs hi => (by cases hi), fun i m z cap hi _ => (by cases hi), fun i m z a cap hi _ => (by cases hi), fun i j b _ hi _ => (by cases hi), fun b hb => if_neg (Nat.not_lt.2 hb), fun _ _ => rfl, fun p hp => ⟨if_pos (all_lt hw (hw.glob p hp).1), (hw.glob p hp).2⟩⟩
   have hrF : ∀ (j : Nat) u x, [(.int .i64 v : Value)][j]? = some u → [vI v][j]? = some x → ARep cF (fun _ => .no) w u x := fun j u x hu hx => by
    match j with
    | 0 =>
      simp only [List.getElem?_cons_zero, Option.some.injEq] at hu hx
      subst hu; subst hx
      exact .d _ _ (.v _ rfl)
    | j + 1 => simp at hu
   obtain ⟨hent, hcalls⟩ := digits0_ok cF (fun _ => .no) 0 w [.int .i64 v] [vI v] (fun r _ _ => r = vS (numText v)) hwF rfl hrF ⟨⟨hpre, rfl, rfl⟩, by
    show onO ((g1 aI64 (fun n => vS (numText n)) [vI v]).map fun r => (r, (fun _ => AO.no), 0)) _
    rw [hg]
    exact rfl⟩
   refine ⟨hent, hcalls.mono fun e w' he => ?_⟩
   obtain ⟨y, r, c', h', n', rfl, r1, r2, r3, r4, r5, rfl⟩ := he
   obtain rfl := cval_rep r4 rfl
   have hb : Below w.heap.size w w' := ⟨r2.os, r2.tape, r2.output, r2.size, fun b hb => (r2.all b (if_pos hb)).2⟩
   obtain ⟨g1, g2⟩ := wd_same hw hb
   exact ⟨_, _, c, h, n, rfl, g1, g2, ⟨fun b hbl _ => hb.block b hbl, fun i b q _ => q⟩, .d _ _ (.v _ rfl), Nat.le_refl n, hK⟩
end Go.Proofs.YtfhpecgknmfnnaaDoor.M
end
section
namespace Go.Proofs.YtfhpecgknmfnnaaDoor.M
open Go.R
theorem of_rep {P : Program} {f : FuncId} {fn : Func} {code : Code} {g : List AV → Option AV} {pre : List AV → Prop} (hf : P.funcs[f]? = some fn) (hbody : fn.body = some code) (hn : (fn.name == "runtime.NumGoroutine") = false)
 (H : ∀ (args : List AV) (r : AV) (c : Cx) (h : AH) (n : Nat) (w : World) (vals : List Value), pre args → g args = some r → Wd c h n w → vals.length = args.length → (∀ (j : Nat) v x, vals[j]? = some v → args[j]? = some x → ARep c h w v x) → ∃ x, (∀ c h w, ARep c h w x r) ∧ Calls P f vals.toArray w fun e w' => e = .returned x ∧ Go.RowKit.Below w.heap.size w w') : FsOk P f (.pureIf pre g) := by
 intro c h n w vals args K hw hl hr hS
 obtain ⟨hpre, hS⟩ := hS
 obtain ⟨q, hq, hK⟩ := onO_iff hS
 refine ⟨Entered.of hf hbody hn, ?_⟩
 simp only [Fs.pureIf] at hq hpre
 cases hg : g args with
 | none => simp [hg] at hq
 | some r =>
   simp only [hg, Option.map_some, Option.some.injEq] at hq
   subst hq
   obtain ⟨x, h2, h3⟩ := H args r c h n w vals hpre hg hw hl hr
   refine h3.mono fun e w' ⟨he, hb⟩ => ?_
   obtain ⟨g1, g2⟩ := wd_same hw hb
   exact ⟨x, r, c, h, n, he, g1, g2, ⟨fun b hbl _ => hb.block b hbl, fun i b q _ => q⟩, h2 c h w', Nat.le_refl n, hK⟩
def aStrs (x : AV) : Option (List ByteArray) := match rowsOf 1 x with
 | some xs => dRows cStr xs
 | none => none
attribute [go_sem] aStrs
theorem ext_data {a b : ByteArray} (h : a.data.toList = b.data.toList) : a = b := by
 obtain ⟨⟨x⟩⟩ := a
 obtain ⟨⟨y⟩⟩ := b
 simp only at h
 rw [h]
def joinL (xs : List ByteArray) (sep : ByteArray) : List UInt8 := Go.Lib.join (xs.map (·.data.toList)) sep.data.toList
def joinB (xs : List ByteArray) (sep : ByteArray) : ByteArray := ⟨(joinL xs sep).toArray⟩
abbrev joinS : Fs := .pureIf (g2p aStrs aStr fun xs sep => xs.length ≤ 1099511627776 ∧ (joinL xs sep).length ≤ 140737488355328) (g2 aStrs aStr fun xs sep => vS (joinB xs sep))
theorem strJoin_ok : FsOk Tryd.prog 46 joinS := by
 refine of_rep Tryd.func46 rfl (by kernel_rfl) ?_
 intro args r c h n w vals hp hg hw hl hr
 obtain ⟨x, y, xs, sep, rfl, hx, hy, rfl⟩ := g2_eq hg
 obtain ⟨hmax, hp⟩ := hp xs hx sep hy
 obtain rfl := aStr_eq hy
 refine ⟨.string (joinB xs sep), fun _ _ _ => .d _ _ (.v _ rfl), ?_⟩
 match vals, hl with
 | [v, u], _ =>
   have hu := hr 1 u _ rfl rfl
   obtain rfl := cval_rep hu rfl
   have hv := hr 0 v _ rfl rfl
   unfold aStrs at hx
   cases hrow : rowsOf 1 x with
   | none => simp [hrow] at hx
   | some rows =>
     simp only [hrow] at hx
     obtain rfl := dRows_eq (fun c x => cStr_eq) hx
     obtain ⟨A, cap, rfl, hd⟩ := rowsOf_rep hv hrow
     rw [List.length_map] at hd ⊢
     cases xs with
     | nil => exact (Go.Proofs.Tryd.strings_Join_none A cap sep w).mono fun e w' ⟨he, hw'⟩ => ⟨he, by subst hw'; exact Go.RowKit.Below.refl _ _⟩
     | cons s0 rest =>
       generalize hxs : s0 :: rest = xs at hd hp hmax
       have hpos : 0 < xs.length := by rw [← hxs]; simp
       have hlen : ((xs.map strRow).length) = xs.length := List.length_map _
       rw [← hlen] at hd
       generalize hz : (.sl 1 (xs.map strRow) : DV) = z at hd
       generalize hvv : (.slice A (xs.map strRow).length cap : Value) = vv at hd
       cases hd with
       | v x h1 => cases hz
       | sl A' cap' z' rows f hc hz' hA hN hcell hrep =>
         cases hz
         have hvv := hvv
         simp only [Value.slice.injEq] at hvv
         obtain ⟨rfl, _, rfl⟩ := hvv
         cases A with
         | none =>
           have := (hN rfl).1
           rw [← hxs] at this
           simp at this
         | some a =>
           have hsp := (hA a rfl).resolve_right (by have := hc; rw [hlen] at this; omega)
           obtain ⟨bk, off, sp⟩ := a
           simp only at hsp
           subst hsp
           have hrow' : ∀ (j : Nat) s, xs[j]? = some s → (xs.map strRow)[j]? = some (strRow s) := fun j s hj => by rw [List.getElem?_map, hj]; rfl
           have hcells : ∀ (j : Nat) s, xs[j]? = some s → w.cell? ⟨bk, off + j, none⟩ = some (.string s) ∧ c.lo bk (off + j) := fun j s hj => by
            have h1 := hcell _ rfl j 0 (strRow s) (.v (.string s)) (hrow' j s hj) rfl
            have h2 := hrep j 0 (strRow s) (.v (.string s)) (hrow' j s hj) rfl
            have e : f j 0 = .string s := by
             generalize f j 0 = q at h2
             cases h2
             rfl
            rw [e] at h1
            simpa [Nat.mul_one] using h1
           have hlo : bk < w.heap.size := lo_lt hw (hcells 0 _ (List.getElem?_eq_getElem hpos)).2
           exact (Go.Proofs.Tryd.strings_Join bk off cap xs sep w (fun j s hj => (hcells j s hj).1) hlo (by omega) (by rw [hlen] at hc; exact hc) hp).mono fun e w' ⟨he, hb⟩ => ⟨he, hb⟩
abbrev ptextS : Fs := .pureIf (g1p aVal fun v => i64 v.num) (g1 aVal fun v => .tup [vS (textB v), vB (goodV v)])
abbrev showTermS : Fs := .pureIf (g1p aTerm fun t => i64 t.val.num) (g1 aTerm fun t => vS (termText t))
abbrev showS : Fs := .pureIf (g1p aLit fun l => literalB l = true ∧ litI l) (g1 aLit fun l => vS (litText l))
abbrev pprintS : Fs := .pureIf (g1p aClause fun c => clauseI c ∧ szC c) (g1 aClause fun c => .tup [vS (printB c).1, vI (printB c).2])
abbrev pprintLitS : Fs := .pureIf (g1p aLit fun l => litI l ∧ szL l) (g1 aLit fun l => .tup [vS (printLitB l).1, vI (printLitB l).2])
theorem joinB_cons (x : ByteArray) (r : List ByteArray) (sep : ByteArray) : (joinB (x :: r) sep).data.toList = x.data.toList ++ Go.Lib.joinTail sep.data.toList (r.map (·.data.toList)) := by
 unfold joinB joinL
 rw [List.map_cons, Go.Lib.join_cons]
theorem joinB_two (a b sep : ByteArray) : joinB [a, b] sep = a ++ sep ++ b := by
 have h := joinB_cons a [b] sep
 refine ext_data ?_
 rw [h]
 simp [Go.Lib.joinTail, ByteArray.data_append]
theorem args_join : ∀ (r : List Term) (k : Nat) (out : ByteArray), (argsGo (k + 1) out r).data.toList = out.data.toList ++ Go.Lib.joinTail [44, 32] ((r.map termText).map (·.data.toList))
 | [], k, out => by simp [argsGo, Go.Lib.joinTail]
 | t :: r, k, out => by
   rw [argsGo, args_join r (k + 1)]
   simp [Go.Lib.joinTail, ByteArray.data_append]
theorem args_join0 (t : Term) (r : List Term) (out : ByteArray) : argsGo 0 out (t :: r) = out ++ (⟨#[40]⟩ : ByteArray) ++ joinB ((t :: r).map termText) ⟨#[44, 32]⟩ := by
 refine ext_data ?_
 rw [argsGo, args_join r 0]
 simp only [ByteArray.data_append, Array.toList_append, List.map_cons, joinB_cons, List.append_assoc]
theorem size_data (x : ByteArray) : x.data.toList.length = x.size := Array.length_toList
theorem joinL_le (ts : List ByteArray) (sep : ByteArray) (m : Nat) (h : ∀ t ∈ ts, t.size ≤ m) : (joinL ts sep).length ≤ ts.length * (m + sep.size) := by
 have key : ∀ r : List ByteArray, (∀ t ∈ r, t.size ≤ m) → (Go.Lib.joinTail sep.data.toList (r.map (·.data.toList))).length ≤ r.length * (m + sep.size) := by
  intro r
  induction r with
  | nil => intro _; simp [Go.Lib.joinTail]
  | cons x r ih =>
    intro hr
    have := ih fun t ht => hr t (List.mem_cons_of_mem _ ht)
    have hx := hr x (List.mem_cons_self ..)
    simp only [Go.Lib.joinTail, List.map_cons, List.flatten_cons, List.length_append, List.length_cons] at this ⊢
    have e1 := size_data x
    have e2 := size_data sep
    rw [e1, e2, Nat.succ_mul]
    omega
 cases ts with
 | nil => simp [joinL, Go.Lib.join_nil]
 | cons x r =>
   unfold joinL
   rw [List.map_cons, Go.Lib.join_cons, List.length_append]
   have := key r fun t ht => h t (List.mem_cons_of_mem _ ht)
   have hx := h x (List.mem_cons_self ..)
   have e1 := size_data x
   rw [e1, List.length_cons, Nat.succ_mul]
   omega
theorem joinB_size (ts : List ByteArray) (sep : ByteArray) : (joinB ts sep).size = (joinL ts sep).length := by rw [← size_data]; rfl
set_option maxRecDepth 10000 in
set_option maxHeartbeats 4000000 in
theorem ptext_ok : FsOk Tryd.prog 67 ptextS := by
 refine of_Y1 (E := EqT.no _) (F := (Ft.no.put 86 goodS).put 88 digitsS) Val.av (fun _ _ => aVal_le) Tryd.func67 rfl (by kernel_rfl) [.tmp 2, .tmp 3] rfl Tryd.ntmps67 (by decide) (((FtOk.no _).put good_ok).put digits_ok) ?_
 intro v h n hp hok
 cases hg : goodV v with
 | false =>
   have hT : textB v = ⟨#[]⟩ := by unfold textB; rw [hg]; rfl
   repeat' (first | (with_reducible first | refine XG_split (fun hq => ?_) (fun hq => ?_) | refine MX1.of 4000 (by simp) ?_ | refine MX2.of 4000 (by simp) ?_ | refine And.intro ?_ ?_) | ((with_reducible first | refine Or.inl (And.intro (And.intro mixedP ?_) ?_) | refine Or.inl (And.intro mixedP ?_)); kernel_rfl) | simp only [go_sem,Nat.reduceEqDiff,Nat.reduceAdd,Nat.reduceMul,Nat.reduceLeDiff,Int.reduceBEq,Val.av,empty_str,hg,hT])
   all_goals first | exact hp | skip
   all_goals first | omega | (unfold maxLen; omega) | (right; omega) | (left; simp; done) | (simp only [wk3,wkL2,wk2,wkL,wk1_d,wk1_own,wk1_nil,and_self]; done) | (intro i hi; simp only [upd]; (repeat' split); all_goals first | rfl | omega) | skip
 | true =>
   cases hs : v.sym.size == 0 with
   | false =>
     have hT : textB v = v.sym := by unfold textB; rw [hg, if_pos rfl, if_pos (by have := beq_eq_false_iff_ne.1 hs; omega)]
     repeat' (first | (with_reducible first | refine XG_split (fun hq => ?_) (fun hq => ?_) | refine MX1.of 4000 (by simp) ?_ | refine MX2.of 4000 (by simp) ?_ | refine And.intro ?_ ?_) | ((with_reducible first | refine Or.inl (And.intro (And.intro mixedP ?_) ?_) | refine Or.inl (And.intro mixedP ?_)); kernel_rfl) | simp only [go_sem,Nat.reduceEqDiff,Nat.reduceAdd,Nat.reduceMul,Nat.reduceLeDiff,Int.reduceBEq,Val.av,empty_str,hg,hs,hT])
     all_goals first | exact hp | skip
     all_goals first | omega | (unfold maxLen; omega) | (right; omega) | (left; simp; done) | (simp only [wk3,wkL2,wk2,wkL,wk1_d,wk1_own,wk1_nil,and_self]; done) | (intro i hi; simp only [upd]; (repeat' split); all_goals first | rfl | omega) | skip
   | true =>
     have hT : textB v = numText v.num := by unfold textB; rw [hg, if_pos rfl, if_neg (by have := beq_iff_eq.1 hs; omega)]
     repeat' (first | (with_reducible first | refine XG_split (fun hq => ?_) (fun hq => ?_) | refine MX1.of 4000 (by simp) ?_ | refine MX2.of 4000 (by simp) ?_ | refine And.intro ?_ ?_) | ((with_reducible first | refine Or.inl (And.intro (And.intro mixedP ?_) ?_) | refine Or.inl (And.intro mixedP ?_)); kernel_rfl) | simp only [go_sem,Nat.reduceEqDiff,Nat.reduceAdd,Nat.reduceMul,Nat.reduceLeDiff,Int.reduceBEq,Val.av,empty_str,hg,hs,hT])
     all_goals first | exact hp | skip
     all_goals first | omega | (unfold maxLen; omega) | (right; omega) | (left; simp; done) | (simp only [wk3,wkL2,wk2,wkL,wk1_d,wk1_own,wk1_nil,and_self]; done) | (intro i hi; simp only [upd]; (repeat' split); all_goals first | rfl | omega) | skip
set_option maxRecDepth 10000 in
set_option maxHeartbeats 4000000 in
theorem showTerm_ok : FsOk Tryd.prog 45 showTermS := by
 refine of_Y1 (E := EqT.no _) (F := Ft.no.put 67 ptextS) Term.av (fun _ _ => aTerm_le) Tryd.func45 rfl (by kernel_rfl) [.tmp 2] rfl Tryd.ntmps45 (by decide) ((FtOk.no _).put ptext_ok) ?_
 intro t h n hp hok
 cases hs : t.var.size == 0 with
 | false =>
   have hT : termText t = t.var := by unfold termText; rw [if_pos (by have := beq_eq_false_iff_ne.1 hs; omega)]
   repeat' (first | (with_reducible first | refine XG_split (fun hq => ?_) (fun hq => ?_) | refine MX1.of 4000 (by simp) ?_ | refine MX2.of 4000 (by simp) ?_ | refine And.intro ?_ ?_) | ((with_reducible first | refine Or.inl (And.intro (And.intro mixedP ?_) ?_) | refine Or.inl (And.intro mixedP ?_)); kernel_rfl) | simp only [go_sem,Nat.reduceEqDiff,Nat.reduceAdd,Nat.reduceMul,Nat.reduceLeDiff,Int.reduceBEq,Term.av,Val.av,empty_str,hs,hT])
   all_goals first | exact hp | skip
   all_goals first | omega | (unfold maxLen; omega) | (right; omega) | (left; simp; done) | (simp only [wk3,wkL2,wk2,wkL,wk1_d,wk1_own,wk1_nil,and_self]; done) | (intro i hi; simp only [upd]; (repeat' split); all_goals first | rfl | omega) | skip
 | true =>
   have hT : termText t = textB t.val := by unfold termText; rw [if_neg (by have := beq_iff_eq.1 hs; omega)]
   repeat' (first | (with_reducible first | refine XG_split (fun hq => ?_) (fun hq => ?_) | refine MX1.of 4000 (by simp) ?_ | refine MX2.of 4000 (by simp) ?_ | refine And.intro ?_ ?_) | ((with_reducible first | refine Or.inl (And.intro (And.intro mixedP ?_) ?_) | refine Or.inl (And.intro mixedP ?_)); kernel_rfl) | simp only [go_sem,Nat.reduceEqDiff,Nat.reduceAdd,Nat.reduceMul,Nat.reduceLeDiff,Int.reduceBEq,Term.av,Val.av,empty_str,hs,hT])
   all_goals first | exact hp | skip
   all_goals first | omega | (unfold maxLen; omega) | (right; omega) | (left; simp; done) | (simp only [wk3,wkL2,wk2,wkL,wk1_d,wk1_own,wk1_nil,and_self]; done) | (intro i hi; simp only [upd]; (repeat' split); all_goals first | rfl | omega) | skip
def showSt (l : Lit) (h : AH) (n k : Nat) : St := match k with
 | 0 => ⟨fr [(1, .p n 0), (3, .d (.v (.slice none 0 0))), (8, .d (.sl 3 (l.args.map Term.cells))), (9, vI l.args.length), (10, vI 0)] (List.replicate 57 .any), upd h n (.box l.bx), n, n + 1⟩
 | k + 1 => ⟨fr [(1, .p n 0), (3, .own (n + 1 + 1) 1 (((l.args.take (k + 1)).map termText).map strRow)), (8, .d (.sl 3 (l.args.map Term.cells))), (9, vI l.args.length), (10, vI (k + 1 : Nat))] (List.replicate 57 .any),
     upd (upd (upd h n (.box l.bx)) (n + 1) (.box ((l.args.headD Term.z).cells.map AV.d))) (n + 1 + 1) (.tok (k + 1) 1), n, n + 1 + 1 + 1⟩
set_option maxRecDepth 10000 in
set_option maxHeartbeats 4000000 in
theorem show_ok : FsOk Tryd.prog 27 showS := by
 refine of_Y1 (E := eqT) (F := (Ft.no.put 45 showTermS).put 46 joinS) Lit.av (fun _ _ => aLit_le) Tryd.func27 rfl (by kernel_rfl) [.tmp 2] rfl Tryd.ntmps27 (by decide) (((FtOk.no _).put showTerm_ok).put strJoin_ok) ?_
 intro l h n hp hok
 obtain ⟨hg, hw, hi⟩ := hp
 have hlen : l.args.length ≤ 4 := by
  unfold literalB at hg
  split at hg
  · unfold saidB at hg
    simp only [Bool.and_eq_true, decide_eq_true_eq] at hg
    exact hg.1.2
  · simp only [Bool.and_eq_true, beq_iff_eq] at hg
    omega
 have hts : termsB l.args = true := by
  unfold literalB at hg
  split at hg
  · unfold saidB at hg
    simp only [Bool.and_eq_true] at hg
    exact hg.2
  · simp only [Bool.and_eq_true] at hg
    exact hg.2
 have hsz : ∀ t ∈ l.args, (termText t).size ≤ 20 := fun t ht => termText_size (hi t ht) (by unfold termsB at hts; rw [List.all_eq_true] at hts; exact hts t ht)
 have hszm : ∀ s ∈ l.args.map termText, s.size ≤ 20 := fun s hs => by
  obtain ⟨t, ht, rfl⟩ := List.mem_map.1 hs
  exact hsz t ht
 have hjl : ∀ sep : ByteArray, sep.size ≤ 4 → (joinL (l.args.map termText) sep).length ≤ 96 := fun sep hsep => by
  have := joinL_le (l.args.map termText) sep 20 hszm
  rw [List.length_map] at this
  have h2 : l.args.length * (20 + sep.size) ≤ 4 * 24 := Nat.mul_le_mul hlen (by omega)
  omega
 have hok' : HOk (n + 1) (upd h n (.box l.bx)) := (hok.mono (Nat.le_succ n)).upd_box (Nat.lt_succ_self n) (by simp only [go_sem, Lit.bx])
 repeat' (first | (with_reducible first | refine XG_split (fun hq => ?_) (fun hq => ?_) | refine MX1.of 4000 (by simp) ?_ | refine MX2.of 4000 (by simp) ?_ | refine And.intro ?_ ?_) | ((with_reducible first | refine Or.inl (And.intro (And.intro mixedP ?_) ?_) | refine Or.inl (And.intro mixedP ?_)); kernel_rfl) | simp only [go_sem,Nat.reduceEqDiff,Nat.reduceAdd,Nat.reduceMul,Nat.reduceLeDiff,Int.reduceBEq,Lit.av,Lit.bx,showSt,Term.av])
 all_goals first | omega | (unfold maxLen; omega) | (right; omega) | (left; simp; done) | (simp only [wk3,wkL2,wk2,wkL,wk1_d,wk1_own,wk1_nil,and_self]; done) | (intro i hi; simp only [upd]; (repeat' split); all_goals first | rfl | omega) | skip
 refine AW.loopJ (E := eqT) (S := showSt l h n) (I := fun k => k ≤ l.args.length) (μ := fun k => l.args.length - k) 0 (Nat.zero_le _) ?_ 4000 (fun k => by cases k <;> simp only [showSt, fr_len, List.length_replicate] <;> decide) ?_
 · exact Wk.same (by simp only [go_sem, showSt, Lit.bx]) hok' (Nat.le_succ _) (by simp only [go_sem, showSt]; omega)
 · intro k hk
   rcases Nat.lt_or_ge k l.args.length with hkl | hkl
   · have hti := hi _ (List.getElem_mem hkl)
     cases k with
     | zero =>
       have hhd : l.args.headD Term.z = l.args[0] := by
        rw [List.headD_eq_head?_getD, List.head?_eq_getElem?, List.getElem?_eq_getElem hkl]
        rfl
       have hrow : ((l.args.take 1).map termText).map strRow = [strRow (termText l.args[0])] := by
        rw [List.take_succ_eq_append_getElem hkl]
        simp
       repeat' (first | (with_reducible first | refine XG_split (fun hq => ?_) (fun hq => ?_) | refine MX1.of 4000 (by simp) ?_ | refine MX2.of 4000 (by simp) ?_ | refine And.intro ?_ ?_) | ((with_reducible first | refine Or.inl (And.intro (And.intro mixedP ?_) ?_) | refine Or.inl (And.intro mixedP ?_)); kernel_rfl) | simp only [go_sem,Nat.reduceEqDiff,Nat.reduceAdd,Nat.reduceMul,Nat.reduceLeDiff,Int.reduceBEq,Lit.av,Lit.bx,showSt,Term.av,decide_eq_true hkl,List.getElem?_eq_getElem hkl,toNat1])
       all_goals first | exact hti | skip
       all_goals first | omega | (unfold maxLen; omega) | (right; omega) | (left; simp; done) | (simp only [wk3,wkL2,wk2,wkL,wk1_d,wk1_own,wk1_nil,and_self]; done) | (intro i hi; simp only [upd]; (repeat' split); all_goals first | rfl | omega) | skip
       refine ⟨1, hkl, Wk.of (by simp only [go_sem, hrow, strRow]) ?_ ?_ (by omega) (by omega) (by simp only [go_sem]; omega), by omega⟩
       · intro i hi
         simp only [upd, hhd, Term.ds]
         (repeat' split)
         all_goals first | rfl | omega
       · exact ((hok'.mono (by omega)).upd_box (by omega) (by simp only [go_sem])).upd_tok (by omega)
     | succ k =>
       have hdec : decide (((k + 1 : Nat) : Int) < (l.args.length : Int)) = true := decide_eq_true (by omega)
       have hlt : (l.args.take (k + 1)).length = k + 1 := by rw [List.length_take]; omega
       have hrow : ((l.args.take (k + 1 + 1)).map termText).map strRow = ((l.args.take (k + 1)).map termText).map strRow ++ [strRow (termText l.args[k + 1])] := by
        rw [List.take_succ_eq_append_getElem hkl, List.map_append, List.map_append]
        rfl
       repeat' (first | (with_reducible first | refine XG_split (fun hq => ?_) (fun hq => ?_) | refine MX1.of 4000 (by simp) ?_ | refine MX2.of 4000 (by simp) ?_ | refine And.intro ?_ ?_) | ((with_reducible first | refine Or.inl (And.intro (And.intro mixedP ?_) ?_) | refine Or.inl (And.intro mixedP ?_)); kernel_rfl) | simp only [go_sem,Nat.reduceEqDiff,Nat.reduceAdd,Nat.reduceMul,Nat.reduceLeDiff,Int.reduceBEq,Lit.av,Lit.bx,showSt,Term.av,dnat1 hkl,toNat1,List.getElem?_eq_getElem hkl,hlt])
       all_goals first | exact hti | skip
       all_goals first | omega | (unfold maxLen; omega) | (right; omega) | (left; simp; done) | (simp only [wk3,wkL2,wk2,wkL,wk1_d,wk1_own,wk1_nil,and_self]; done) | (intro i hi; simp only [upd]; (repeat' split); all_goals first | rfl | omega) | skip
       refine ⟨k + 1 + 1, hkl, Wk.of (by simp only [go_sem, hrow, strRow]) ?_ ?_ (by omega) (by omega) (by simp only [go_sem]; omega), by omega⟩
       · intro i hi
         simp only [upd]
         (repeat' split)
         all_goals first | rfl | omega
       · exact ((hok'.mono (by omega)).upd_box (by omega) (by simp only [go_sem])).upd_tok (by omega)
   · obtain rfl : k = l.args.length := by omega
     have htk : l.args.take l.args.length = l.args := List.take_of_length_le (Nat.le_refl _)
     have s1 : #[(32 : UInt8), 60, 32].size = 3 := rfl
     have s2 : #[(32 : UInt8), 33, 61, 32].size = 4 := rfl
     have s3 : #[(44 : UInt8), 32].size = 2 := rfl
     have s4 : #[(40 : UInt8)].size = 1 := rfl
     have s5 : #[(41 : UInt8)].size = 1 := rfl
     have s6 : #[(32 : UInt8), 115, 97, 121, 115, 32].size = 6 := rfl
     have s7 : #[(110 : UInt8), 111, 116, 32].size = 4 := rfl
     have j1 := hjl ⟨#[32, 60, 32]⟩ (by decide)
     have j2 := hjl ⟨#[32, 33, 61, 32]⟩ (by decide)
     have j3 := hjl ⟨#[44, 32]⟩ (by decide)
     have j3' := joinB_size (l.args.map termText) ⟨#[44, 32]⟩
     have hown : (l.who.var.size == 0 && (l.who.val.sym.size == 0 && l.who.val.num == 0)) = ownT l.who := by unfold ownT; rw [Bool.and_assoc]
     by_cases k3 : l.kind = 3
     · have c3 : (l.kind == 3) = true := by simp [k3]
       obtain ⟨a, b, hab⟩ : ∃ a b, l.args = [a, b] := by
        have : l.args.length = 2 := by
         simp [literalB, k3] at hg
         exact hg.1.2
        match hq : l.args, this with
        | [a, b], _ => exact ⟨a, b, rfl⟩
       have hT : litText l = joinB (l.args.map termText) ⟨#[32, 60, 32]⟩ := by
        unfold litText
        rw [c3, if_pos rfl, hab]
        simp only [List.map_cons, List.map_nil, joinB_two]
        rfl
       have hl2 : l.args.length = 1 + 1 := by rw [hab]; rfl
       rw [hl2] at htk ⊢
       repeat' (first | (with_reducible first | refine XG_split (fun hq => ?_) (fun hq => ?_) | refine MX1.of 4000 (by simp) ?_ | refine MX2.of 4000 (by simp) ?_ | refine And.intro ?_ ?_) | ((with_reducible first | refine Or.inl (And.intro (And.intro mixedP ?_) ?_) | refine Or.inl (And.intro mixedP ?_)); kernel_rfl) | simp only [go_sem,Nat.reduceEqDiff,Nat.reduceAdd,Nat.reduceMul,Nat.reduceLeDiff,Int.reduceBEq,Lit.av,Lit.bx,showSt,Term.av,Int.lt_irrefl,decide_false,dStrs,List.length_map,htk,hl2,c3,hT])
       all_goals first | exact ⟨by rw [List.length_map]; omega, by omega⟩ | skip
       all_goals first | omega | (unfold maxLen; omega) | (right; omega) | (left; simp; done) | (simp only [wk3,wkL2,wk2,wkL,wk1_d,wk1_own,wk1_nil,and_self]; done) | (intro i hi; simp only [upd]; (repeat' split); all_goals first | rfl | omega) | skip
     by_cases k4 : l.kind = 4
     · have c3 : (l.kind == 3) = false := by simp [k3]
       have c4 : (l.kind == 4) = true := by simp [k4]
       obtain ⟨a, b, hab⟩ : ∃ a b, l.args = [a, b] := by
        have : l.args.length = 2 := by
         simp [literalB, k4] at hg
         exact hg.1.2
        match hq : l.args, this with
        | [a, b], _ => exact ⟨a, b, rfl⟩
       have hT : litText l = joinB (l.args.map termText) ⟨#[32, 33, 61, 32]⟩ := by
        unfold litText
        rw [c3, c4, if_neg (by simp), if_pos rfl, hab]
        simp only [List.map_cons, List.map_nil, joinB_two]
        rfl
       have hl2 : l.args.length = 1 + 1 := by rw [hab]; rfl
       rw [hl2] at htk ⊢
       repeat' (first | (with_reducible first | refine XG_split (fun hq => ?_) (fun hq => ?_) | refine MX1.of 4000 (by simp) ?_ | refine MX2.of 4000 (by simp) ?_ | refine And.intro ?_ ?_) | ((with_reducible first | refine Or.inl (And.intro (And.intro mixedP ?_) ?_) | refine Or.inl (And.intro mixedP ?_)); kernel_rfl) | simp only [go_sem,Nat.reduceEqDiff,Nat.reduceAdd,Nat.reduceMul,Nat.reduceLeDiff,Int.reduceBEq,Lit.av,Lit.bx,showSt,Term.av,Int.lt_irrefl,decide_false,dStrs,List.length_map,htk,hl2,c3,c4,hT])
       all_goals first | exact ⟨by rw [List.length_map]; omega, by omega⟩ | skip
       all_goals first | omega | (unfold maxLen; omega) | (right; omega) | (left; simp; done) | (simp only [wk3,wkL2,wk2,wkL,wk1_d,wk1_own,wk1_nil,and_self]; done) | (intro i hi; simp only [upd]; (repeat' split); all_goals first | rfl | omega) | skip
     have c3 : (l.kind == 3) = false := by simp [k3]
     have c4 : (l.kind == 4) = false := by simp [k4]
     have hsd : saidB l = true := by
      unfold literalB at hg
      rw [c3, c4] at hg
      split at hg
      · exact hg
      · simp at hg
     have hpred : l.pred.size ≤ 16 := by
      unfold saidB at hsd
      simp only [Bool.and_eq_true] at hsd
      exact nameB_size hsd.1.1.2
     have hwho : ownT l.who = false → (termText l.who).size ≤ 20 := fun e => by
      unfold saidB at hsd
      simp only [Bool.and_eq_true, e, Bool.false_or] at hsd
      exact termText_size hw hsd.1.1.1.1
     have hT : litText l = (if l.kind == 2 then (⟨#[110, 111, 116, 32]⟩ : ByteArray) else ⟨#[]⟩) ++ ((if ownT l.who then (⟨#[]⟩ : ByteArray) else termText l.who ++ ⟨#[32, 115, 97, 121, 115, 32]⟩) ++ (l.pred ++ (if 0 < l.args.length then (⟨#[40]⟩ : ByteArray) ++ joinB (l.args.map termText) ⟨#[44, 32]⟩ ++ ⟨#[41]⟩ else ⟨#[]⟩))) := by
      unfold litText
      rw [c3, c4, if_neg (by simp), if_neg (by simp)]
      have hah : litAhead l = (if l.kind == 2 then (⟨#[110, 111, 116, 32]⟩ : ByteArray) else ⟨#[]⟩) ++ (if ownT l.who then (⟨#[]⟩ : ByteArray) else termText l.who ++ ⟨#[32, 115, 97, 121, 115, 32]⟩) ++ l.pred := by
       unfold litAhead
       cases ownT l.who <;> (refine ext_data ?_; simp [ByteArray.data_append])
      unfold litBehind
      cases hq : l.args with
      | nil =>
        rw [hah]
        refine ext_data ?_
        simp [argsGo, ByteArray.data_append]
      | cons t r =>
        rw [args_join0, hah]
        refine ext_data ?_
        simp [ByteArray.data_append]
     cases ho : ownT l.who with
     | true =>
       rw [ho] at hown hT
       simp only [if_true] at hT
       cases k2 : (l.kind == 2) with
       | true =>
         rw [k2] at hT
         rcases Nat.eq_zero_or_pos l.args.length with hz | hz
         · have hnil : l.args = [] := List.eq_nil_of_length_eq_zero hz
           rw [hz] at hT
           simp only [Nat.lt_irrefl, if_false, if_true, Bool.false_eq_true] at hT
           rw [hz]
           repeat' (first | (with_reducible first | refine XG_split (fun hq => ?_) (fun hq => ?_) | refine MX1.of 4000 (by simp) ?_ | refine MX2.of 4000 (by simp) ?_ | refine And.intro ?_ ?_) | ((with_reducible first | refine Or.inl (And.intro (And.intro mixedP ?_) ?_) | refine Or.inl (And.intro mixedP ?_)); kernel_rfl) | simp only [go_sem,Nat.reduceEqDiff,Nat.reduceAdd,Nat.reduceMul,Nat.reduceLeDiff,Int.reduceBEq,Lit.av,Lit.bx,showSt,Term.av,Int.lt_irrefl,decide_false,hz,hnil,empty_str,cvals,cval,c3,c4,k2,hown,List.map_nil])
           all_goals first | exact hw | skip
           all_goals try simp only [ByteArray.size_append, s1, s2, s3, s4, s5, s6, s7, j3', Int.natCast_add]
           all_goals first | omega | (unfold maxLen; omega) | (right; omega) | (left; simp; done) | (simp only [wk3,wkL2,wk2,wkL,wk1_d,wk1_own,wk1_nil,and_self]; done) | (intro i hi; simp only [upd]; (repeat' split); all_goals first | rfl | omega) | skip
           all_goals first | (refine wk_v (congrArg Value.string ?_); rw [hT]; done) | (refine wk_v (congrArg Value.string ?_); rw [hT]; refine ext_data ?_; simp [ByteArray.data_append]; done)
         · obtain ⟨m, hm⟩ : ∃ m, l.args.length = m + 1 := ⟨l.args.length - 1, by omega⟩
           rw [if_pos hz] at hT
           simp only [if_true, if_false, Bool.false_eq_true] at hT
           rw [hm] at htk ⊢
           have hd0 : decide ((0 : Int) < (m : Int) + 1) = true := decide_eq_true (by omega)
           repeat' (first | (with_reducible first | refine XG_split (fun hq => ?_) (fun hq => ?_) | refine MX1.of 4000 (by simp) ?_ | refine MX2.of 4000 (by simp) ?_ | refine And.intro ?_ ?_) | ((with_reducible first | refine Or.inl (And.intro (And.intro mixedP ?_) ?_) | refine Or.inl (And.intro mixedP ?_)); kernel_rfl) | simp only [go_sem,Nat.reduceEqDiff,Nat.reduceAdd,Nat.reduceMul,Nat.reduceLeDiff,Int.reduceBEq,Lit.av,Lit.bx,showSt,Term.av,Int.lt_irrefl,decide_false,dStrs,List.length_map,htk,hm,hd0,empty_str,cvals,cval,c3,c4,k2,hown])
           all_goals first | exact hw | exact ⟨by rw [List.length_map]; omega, by omega⟩ | skip
           all_goals try simp only [ByteArray.size_append, s1, s2, s3, s4, s5, s6, s7, j3', Int.natCast_add]
           all_goals first | omega | (unfold maxLen; omega) | (right; omega) | (left; simp; done) | (simp only [wk3,wkL2,wk2,wkL,wk1_d,wk1_own,wk1_nil,and_self]; done) | (intro i hi; simp only [upd]; (repeat' split); all_goals first | rfl | omega) | skip
           all_goals first | (refine wk_v (congrArg Value.string ?_); rw [hT]; done) | (refine wk_v (congrArg Value.string ?_); rw [hT]; refine ext_data ?_; simp [ByteArray.data_append]; done)
       | false =>
         rw [k2] at hT
         rcases Nat.eq_zero_or_pos l.args.length with hz | hz
         · have hnil : l.args = [] := List.eq_nil_of_length_eq_zero hz
           rw [hz] at hT
           simp only [Nat.lt_irrefl, if_false, if_true, Bool.false_eq_true] at hT
           rw [hz]
           repeat' (first | (with_reducible first | refine XG_split (fun hq => ?_) (fun hq => ?_) | refine MX1.of 4000 (by simp) ?_ | refine MX2.of 4000 (by simp) ?_ | refine And.intro ?_ ?_) | ((with_reducible first | refine Or.inl (And.intro (And.intro mixedP ?_) ?_) | refine Or.inl (And.intro mixedP ?_)); kernel_rfl) | simp only [go_sem,Nat.reduceEqDiff,Nat.reduceAdd,Nat.reduceMul,Nat.reduceLeDiff,Int.reduceBEq,Lit.av,Lit.bx,showSt,Term.av,Int.lt_irrefl,decide_false,hz,hnil,empty_str,cvals,cval,c3,c4,k2,hown,List.map_nil])
           all_goals first | exact hw | skip
           all_goals try simp only [ByteArray.size_append, s1, s2, s3, s4, s5, s6, s7, j3', Int.natCast_add]
           all_goals first | omega | (unfold maxLen; omega) | (right; omega) | (left; simp; done) | (simp only [wk3,wkL2,wk2,wkL,wk1_d,wk1_own,wk1_nil,and_self]; done) | (intro i hi; simp only [upd]; (repeat' split); all_goals first | rfl | omega) | skip
           all_goals first | (refine wk_v (congrArg Value.string ?_); rw [hT]; done) | (refine wk_v (congrArg Value.string ?_); rw [hT]; refine ext_data ?_; simp [ByteArray.data_append]; done)
         · obtain ⟨m, hm⟩ : ∃ m, l.args.length = m + 1 := ⟨l.args.length - 1, by omega⟩
           rw [if_pos hz] at hT
           simp only [if_true, if_false, Bool.false_eq_true] at hT
           rw [hm] at htk ⊢
           have hd0 : decide ((0 : Int) < (m : Int) + 1) = true := decide_eq_true (by omega)
           repeat' (first | (with_reducible first | refine XG_split (fun hq => ?_) (fun hq => ?_) | refine MX1.of 4000 (by simp) ?_ | refine MX2.of 4000 (by simp) ?_ | refine And.intro ?_ ?_) | ((with_reducible first | refine Or.inl (And.intro (And.intro mixedP ?_) ?_) | refine Or.inl (And.intro mixedP ?_)); kernel_rfl) | simp only [go_sem,Nat.reduceEqDiff,Nat.reduceAdd,Nat.reduceMul,Nat.reduceLeDiff,Int.reduceBEq,Lit.av,Lit.bx,showSt,Term.av,Int.lt_irrefl,decide_false,dStrs,List.length_map,htk,hm,hd0,empty_str,cvals,cval,c3,c4,k2,hown])
           all_goals first | exact hw | exact ⟨by rw [List.length_map]; omega, by omega⟩ | skip
           all_goals try simp only [ByteArray.size_append, s1, s2, s3, s4, s5, s6, s7, j3', Int.natCast_add]
           all_goals first | omega | (unfold maxLen; omega) | (right; omega) | (left; simp; done) | (simp only [wk3,wkL2,wk2,wkL,wk1_d,wk1_own,wk1_nil,and_self]; done) | (intro i hi; simp only [upd]; (repeat' split); all_goals first | rfl | omega) | skip
           all_goals first | (refine wk_v (congrArg Value.string ?_); rw [hT]; done) | (refine wk_v (congrArg Value.string ?_); rw [hT]; refine ext_data ?_; simp [ByteArray.data_append]; done)
     | false =>
       rw [ho] at hown hT
       have hw20 := hwho ho
       simp only [Bool.false_eq_true, if_false] at hT
       cases k2 : (l.kind == 2) with
       | true =>
         rw [k2] at hT
         rcases Nat.eq_zero_or_pos l.args.length with hz | hz
         · have hnil : l.args = [] := List.eq_nil_of_length_eq_zero hz
           rw [hz] at hT
           simp only [Nat.lt_irrefl, if_false, if_true, Bool.false_eq_true] at hT
           rw [hz]
           repeat' (first | (with_reducible first | refine XG_split (fun hq => ?_) (fun hq => ?_) | refine MX1.of 4000 (by simp) ?_ | refine MX2.of 4000 (by simp) ?_ | refine And.intro ?_ ?_) | ((with_reducible first | refine Or.inl (And.intro (And.intro mixedP ?_) ?_) | refine Or.inl (And.intro mixedP ?_)); kernel_rfl) | simp only [go_sem,Nat.reduceEqDiff,Nat.reduceAdd,Nat.reduceMul,Nat.reduceLeDiff,Int.reduceBEq,Lit.av,Lit.bx,showSt,Term.av,Int.lt_irrefl,decide_false,hz,hnil,empty_str,cvals,cval,c3,c4,k2,hown,List.map_nil])
           all_goals first | exact hw | skip
           all_goals try simp only [ByteArray.size_append, s1, s2, s3, s4, s5, s6, s7, j3', Int.natCast_add]
           all_goals first | omega | (unfold maxLen; omega) | (right; omega) | (left; simp; done) | (simp only [wk3,wkL2,wk2,wkL,wk1_d,wk1_own,wk1_nil,and_self]; done) | (intro i hi; simp only [upd]; (repeat' split); all_goals first | rfl | omega) | skip
           all_goals first | (refine wk_v (congrArg Value.string ?_); rw [hT]; done) | (refine wk_v (congrArg Value.string ?_); rw [hT]; refine ext_data ?_; simp [ByteArray.data_append]; done)
         · obtain ⟨m, hm⟩ : ∃ m, l.args.length = m + 1 := ⟨l.args.length - 1, by omega⟩
           rw [if_pos hz] at hT
           simp only [if_true, if_false, Bool.false_eq_true] at hT
           rw [hm] at htk ⊢
           have hd0 : decide ((0 : Int) < (m : Int) + 1) = true := decide_eq_true (by omega)
           repeat' (first | (with_reducible first | refine XG_split (fun hq => ?_) (fun hq => ?_) | refine MX1.of 4000 (by simp) ?_ | refine MX2.of 4000 (by simp) ?_ | refine And.intro ?_ ?_) | ((with_reducible first | refine Or.inl (And.intro (And.intro mixedP ?_) ?_) | refine Or.inl (And.intro mixedP ?_)); kernel_rfl) | simp only [go_sem,Nat.reduceEqDiff,Nat.reduceAdd,Nat.reduceMul,Nat.reduceLeDiff,Int.reduceBEq,Lit.av,Lit.bx,showSt,Term.av,Int.lt_irrefl,decide_false,dStrs,List.length_map,htk,hm,hd0,empty_str,cvals,cval,c3,c4,k2,hown])
           all_goals first | exact hw | exact ⟨by rw [List.length_map]; omega, by omega⟩ | skip
           all_goals try simp only [ByteArray.size_append, s1, s2, s3, s4, s5, s6, s7, j3', Int.natCast_add]
           all_goals first | omega | (unfold maxLen; omega) | (right; omega) | (left; simp; done) | (simp only [wk3,wkL2,wk2,wkL,wk1_d,wk1_own,wk1_nil,and_self]; done) | (intro i hi; simp only [upd]; (repeat' split); all_goals first | rfl | omega) | skip
           all_goals first | (refine wk_v (congrArg Value.string ?_); rw [hT]; done) | (refine wk_v (congrArg Value.string ?_); rw [hT]; refine ext_data ?_; simp [ByteArray.data_append]; done)
       | false =>
         rw [k2] at hT
         rcases Nat.eq_zero_or_pos l.args.length with hz | hz
         · have hnil : l.args = [] := List.eq_nil_of_length_eq_zero hz
           rw [hz] at hT
           simp only [Nat.lt_irrefl, if_false, if_true, Bool.false_eq_true] at hT
           rw [hz]
           repeat' (first | (with_reducible first | refine XG_split (fun hq => ?_) (fun hq => ?_) | refine MX1.of 4000 (by simp) ?_ | refine MX2.of 4000 (by simp) ?_ | refine And.intro ?_ ?_) | ((with_reducible first | refine Or.inl (And.intro (And.intro mixedP ?_) ?_) | refine Or.inl (And.intro mixedP ?_)); kernel_rfl) | simp only [go_sem,Nat.reduceEqDiff,Nat.reduceAdd,Nat.reduceMul,Nat.reduceLeDiff,Int.reduceBEq,Lit.av,Lit.bx,showSt,Term.av,Int.lt_irrefl,decide_false,hz,hnil,empty_str,cvals,cval,c3,c4,k2,hown,List.map_nil])
           all_goals first | exact hw | skip
           all_goals try simp only [ByteArray.size_append, s1, s2, s3, s4, s5, s6, s7, j3', Int.natCast_add]
           all_goals first | omega | (unfold maxLen; omega) | (right; omega) | (left; simp; done) | (simp only [wk3,wkL2,wk2,wkL,wk1_d,wk1_own,wk1_nil,and_self]; done) | (intro i hi; simp only [upd]; (repeat' split); all_goals first | rfl | omega) | skip
           all_goals first | (refine wk_v (congrArg Value.string ?_); rw [hT]; done) | (refine wk_v (congrArg Value.string ?_); rw [hT]; refine ext_data ?_; simp [ByteArray.data_append]; done)
         · obtain ⟨m, hm⟩ : ∃ m, l.args.length = m + 1 := ⟨l.args.length - 1, by omega⟩
           rw [if_pos hz] at hT
           simp only [if_true, if_false, Bool.false_eq_true] at hT
           rw [hm] at htk ⊢
           have hd0 : decide ((0 : Int) < (m : Int) + 1) = true := decide_eq_true (by omega)
           repeat' (first | (with_reducible first | refine XG_split (fun hq => ?_) (fun hq => ?_) | refine MX1.of 4000 (by simp) ?_ | refine MX2.of 4000 (by simp) ?_ | refine And.intro ?_ ?_) | ((with_reducible first | refine Or.inl (And.intro (And.intro mixedP ?_) ?_) | refine Or.inl (And.intro mixedP ?_)); kernel_rfl) | simp only [go_sem,Nat.reduceEqDiff,Nat.reduceAdd,Nat.reduceMul,Nat.reduceLeDiff,Int.reduceBEq,Lit.av,Lit.bx,showSt,Term.av,Int.lt_irrefl,decide_false,dStrs,List.length_map,htk,hm,hd0,empty_str,cvals,cval,c3,c4,k2,hown])
           all_goals first | exact hw | exact ⟨by rw [List.length_map]; omega, by omega⟩ | skip
           all_goals try simp only [ByteArray.size_append, s1, s2, s3, s4, s5, s6, s7, j3', Int.natCast_add]
           all_goals first | omega | (unfold maxLen; omega) | (right; omega) | (left; simp; done) | (simp only [wk3,wkL2,wk2,wkL,wk1_d,wk1_own,wk1_nil,and_self]; done) | (intro i hi; simp only [upd]; (repeat' split); all_goals first | rfl | omega) | skip
           all_goals first | (refine wk_v (congrArg Value.string ?_); rw [hT]; done) | (refine wk_v (congrArg Value.string ?_); rw [hT]; refine ext_data ?_; simp [ByteArray.data_append]; done)
end Go.Proofs.YtfhpecgknmfnnaaDoor.M
end
section
namespace Go.Proofs.YtfhpecgknmfnnaaDoor.M
open Go.R
set_option maxRecDepth 10000 in
set_option maxHeartbeats 8000000 in
theorem pprintLit_ok : FsOk Tryd.prog 14 pprintLitS := by
 refine of_Y1 (E := EqT.no _) (F := (Ft.no.put 26 pcheckLitS).put 27 showS) Lit.av (fun _ _ => aLit_le) Tryd.func14 rfl (by kernel_rfl) [.tmp 2, .tmp 3] rfl Tryd.ntmps14 (by decide) (((FtOk.no _).put pcheckLit_ok).put show_ok) ?_
 intro l h n hp hok
 obtain ⟨hi, hz⟩ := hp
 cases hck : checkLitB l with
 | false =>
   have hS : printLitB l = (⟨#[]⟩, 1) := by unfold printLitB; rw [hck]; rfl
   repeat' (first | (with_reducible first | refine XG_split (fun hq => ?_) (fun hq => ?_) | refine MX1.of 4000 (by simp) ?_ | refine MX2.of 4000 (by simp) ?_ | refine And.intro ?_ ?_) | ((with_reducible first | refine Or.inl (And.intro (And.intro mixedP ?_) ?_) | refine Or.inl (And.intro mixedP ?_)); kernel_rfl) | simp only [go_sem,Nat.reduceEqDiff,Nat.reduceAdd,Nat.reduceMul,Nat.reduceLeDiff,Int.reduceBEq,Lit.av,hck,hS])
   all_goals first | exact hz | exact hi | skip
   all_goals first | omega | (unfold maxLen; omega) | (right; omega) | (left; simp; done) | (simp only [wk3,wkL2,wk2,wkL,wk1_d,wk1_own,wk1_nil,and_self]; done) | (intro i hi; simp only [upd]; (repeat' split); all_goals first | rfl | omega) | skip
 | true =>
   have hS : printLitB l = (litText l, 0) := by unfold printLitB; rw [hck]; rfl
   have hg := checkLit_literal hck
   repeat' (first | (with_reducible first | refine XG_split (fun hq => ?_) (fun hq => ?_) | refine MX1.of 4000 (by simp) ?_ | refine MX2.of 4000 (by simp) ?_ | refine And.intro ?_ ?_) | ((with_reducible first | refine Or.inl (And.intro (And.intro mixedP ?_) ?_) | refine Or.inl (And.intro mixedP ?_)); kernel_rfl) | simp only [go_sem,Nat.reduceEqDiff,Nat.reduceAdd,Nat.reduceMul,Nat.reduceLeDiff,Int.reduceBEq,Lit.av,hck,hS])
   all_goals first | exact hz | exact hi | exact hg | skip
   all_goals first | omega | (unfold maxLen; omega) | (right; omega) | (left; simp; done) | (simp only [wk3,wkL2,wk2,wkL,wk1_d,wk1_own,wk1_nil,and_self]; done) | (intro i hi; simp only [upd]; (repeat' split); all_goals first | rfl | omega) | skip
set_option maxRecDepth 10000 in
set_option maxHeartbeats 8000000 in
theorem pprint_ok : FsOk Tryd.prog 11 pprintS := by
 refine of_Y1 (E := EqT.no _) (F := (Ft.no.put 25 pcheckS).put 27 showS) Clause.av (fun _ _ => aClause_le) Tryd.func11 rfl (by kernel_rfl) [.tmp 2, .tmp 3] rfl Tryd.ntmps11 (by decide) (((FtOk.no _).put pcheck_ok).put show_ok) ?_
 intro c h n hp hok
 obtain ⟨⟨hp1, hp2⟩, hz⟩ := hp
 cases hck : checkB c with
 | false =>
   have hS : printB c = (⟨#[]⟩, 1) := by unfold printB; rw [hck]; rfl
   repeat' (first | (with_reducible first | refine XG_split (fun hq => ?_) (fun hq => ?_) | refine MX1.of 4000 (by simp) ?_ | refine MX2.of 4000 (by simp) ?_ | refine And.intro ?_ ?_) | ((with_reducible first | refine Or.inl (And.intro (And.intro mixedP ?_) ?_) | refine Or.inl (And.intro mixedP ?_)); kernel_rfl) | simp only [go_sem,Nat.reduceEqDiff,Nat.reduceAdd,Nat.reduceMul,Nat.reduceLeDiff,Int.reduceBEq,Clause.av,hck,hS])
   all_goals first | exact hz | skip
   all_goals first | omega | (unfold maxLen; omega) | (right; omega) | (left; simp; done) | (simp only [wk3,wkL2,wk2,wkL,wk1_d,wk1_own,wk1_nil,and_self]; done) | (intro i hi; simp only [upd]; (repeat' split); all_goals first | rfl | omega) | skip
 | true =>
   have hS : printB c = (clauseText c, 0) := by unfold printB; rw [hck]; rfl
   have hc := hck
   simp only [checkB, Bool.and_eq_true, decide_eq_true_eq] at hc
   obtain ⟨⟨⟨hc1, hc2⟩, hc3⟩, hc4⟩ := hc
   have hgh := checkLit_literal hc1
   have hz0 := litText_size hp1 hgh
   have hok' : HOk (n + 1) (upd h n (.box c.ds)) := (hok.mono (Nat.le_succ n)).upd_box (Nat.lt_succ_self n) (by simp only [go_sem, Clause.ds])
   have f1 : #[(32 : UInt8), 58, 45, 32].size = 4 := rfl
   have f2 : #[(44 : UInt8), 32].size = 2 := rfl
   have f3 : #[(46 : UInt8)].size = 1 := rfl
   have g1 : (⟨#[32, 58, 45, 32]⟩ : ByteArray).size = 4 := rfl
   have g2 : (⟨#[44, 32]⟩ : ByteArray).size = 2 := rfl
   have g3 : (⟨#[46]⟩ : ByteArray).size = 1 := rfl
   repeat' (first | (with_reducible first | refine XG_split (fun hq => ?_) (fun hq => ?_) | refine MX1.of 4000 (by simp) ?_ | refine MX2.of 4000 (by simp) ?_ | refine And.intro ?_ ?_) | ((with_reducible first | refine Or.inl (And.intro (And.intro mixedP ?_) ?_) | refine Or.inl (And.intro mixedP ?_)); kernel_rfl) | simp only [go_sem,Nat.reduceEqDiff,Nat.reduceAdd,Nat.reduceMul,Nat.reduceLeDiff,Int.reduceBEq,Clause.av,Clause.ds,Lit.av,hck])
   all_goals first | exact hz | exact hp1 | exact hgh | skip
   all_goals first | omega | (unfold maxLen; omega) | (right; omega) | (left; simp; done) | (simp only [wk3,wkL2,wk2,wkL,wk1_d,wk1_own,wk1_nil,and_self]; done) | (intro i hi; simp only [upd]; (repeat' split); all_goals first | rfl | omega) | skip
   refine AW.loopJ (E := EqT.no _) (S := fun x : Nat × ByteArray => ⟨fr [(1, .p n 0), (4, vS x.2), (14, .d (.sl 6 (c.body.map Lit.cells))), (15, vI c.body.length), (16, vI x.1)] (List.replicate 35 .any), upd h n (.box c.ds), n, n + 1⟩)
    (I := fun x => x.1 ≤ c.body.length ∧ x.2.size ≤ 200 + 300 * x.1 ∧ bodyGo x.1 x.2 (c.body.drop x.1) = bodyGo 0 (litText c.head) c.body) (μ := fun x => c.body.length - x.1) (0, litText c.head) ⟨Nat.zero_le _, by simp only; omega, rfl⟩ ?_ 4000 (fun _ => by simp only [fr_len, List.length_replicate]; decide) ?_
   · exact Wk.same (by simp only [go_sem, Clause.ds]) hok' (Nat.le_succ n) (by simp only [go_sem]; omega)
   · rintro ⟨k, out⟩ ⟨hk, hsz, hI⟩
     have hk : k ≤ c.body.length := hk
     have hsz : out.size ≤ 200 + 300 * k := hsz
     have hI : bodyGo k out (c.body.drop k) = bodyGo 0 (litText c.head) c.body := hI
     rcases Nat.lt_or_ge k c.body.length with hkl | hkl
     · have hin := List.getElem_mem hkl
       have ht := hp2 _ hin
       have hg : literalB c.body[k] = true := by rw [List.all_eq_true] at hc4; exact hc4 _ hin
       have hzl := litText_size ht hg
       rw [List.drop_eq_getElem_cons hkl] at hI
       cases k with
       | zero =>
         have hI' : bodyGo (0 + 1) (out ++ ((⟨#[32, 58, 45, 32]⟩ : ByteArray) ++ litText c.body[0])) (c.body.drop (0 + 1)) = bodyGo 0 (litText c.head) c.body := by
          rw [← hI, bodyGo, ByteArray.append_assoc]
         have m0 : (if (1 : Int) < 0 then (1 : Int) else 0) = 0 := rfl
         have m1 : (1 : Int) - 0 = 1 := rfl
         repeat' (first | (with_reducible refine Or.inr (AW.treeX (E := EqT.no _) [] [0,2,3,4,7] (.two 1 (.two 5 (.two 6 (.one 8 (.one 9 (.one 10 (.one 11 .fin)))) 8 (.one 6 (.one 9 (.one 10 (.one 11 .fin))))) 8 (.one 5 (.one 6 (.one 9 (.one 10 (.one 11 .fin)))))) 8 (.one 1 (.one 5 (.one 6 (.one 9 (.one 10 (.one 11 .fin))))))) mixedP ?_ ?_ ?_ ?_); decide +kernel; (simp only [List.length_cons,List.length_nil]; decide); (intro j hj; exact absurd hj List.not_mem_nil)) | (with_reducible refine (AW.treeX (E := EqT.no _) [] [0,2,3,4,7] (.two 1 (.two 5 (.two 6 (.one 8 (.one 9 (.one 10 (.one 11 .fin)))) 8 (.one 6 (.one 9 (.one 10 (.one 11 .fin))))) 8 (.one 5 (.one 6 (.one 9 (.one 10 (.one 11 .fin)))))) 8 (.one 1 (.one 5 (.one 6 (.one 9 (.one 10 (.one 11 .fin))))))) mixedP ?_ ?_ ?_ ?_); decide +kernel; (simp only [List.length_cons,List.length_nil]; decide); (intro j hj; exact absurd hj List.not_mem_nil)) | (with_reducible refine MTq.of 4000 (by simp) ?_ ?_) | (with_reducible refine MTq.nil ?_) | (with_reducible refine MT.one 4000 (by simp) ?_) | (with_reducible refine MT.two 4000 (by simp) ?_ ?_) | (with_reducible refine MT.fin ?_) | (with_reducible first | refine XG_split (fun hq => ?_) (fun hq => ?_) | refine MX1.of 4000 (by simp) ?_ | refine MX2.of 4000 (by simp) ?_ | refine And.intro ?_ ?_) | ((with_reducible first | refine Or.inl (And.intro (And.intro mixedP ?_) ?_) | refine Or.inl (And.intro mixedP ?_)); kernel_rfl) | simp only [go_sem,ldK,ldW,blindK,List.mem_singleton,List.not_mem_nil,Nat.reduceEqDiff,Nat.reduceAdd,Nat.reduceMul,Nat.reduceLeDiff,Int.reduceBEq,Clause.ds,Lit.av,decide_eq_true hkl,List.getElem?_eq_getElem hkl,m0,m1,Int.zero_add])
         all_goals first | exact ht | exact hg | skip
         all_goals try simp only [ByteArray.size_append, f1, f2, g1, g2, Int.natCast_add]
         all_goals first | omega | (unfold maxLen; omega) | (right; omega) | (left; simp; done) | (simp only [wk3,wkL2,wk2,wkL,wk1_d,wk1_own,wk1_nil,and_self]; done) | (intro i hi; simp only [upd]; (repeat' split); all_goals first | rfl | omega) | skip
         all_goals exact ⟨((0 + 1, out ++ ((⟨#[32, 58, 45, 32]⟩ : ByteArray) ++ litText c.body[0])) : Nat × ByteArray), ⟨by show 0 + 1 ≤ _; omega, by simp only [ByteArray.size_append, g1]; omega, hI'⟩, Wk.of (by simp only [go_sem]) (by intro i hi; simp only [upd]; (repeat' split); all_goals first | rfl | omega) hok' (by omega) (by omega) (by simp only [go_sem]; omega), by simp only; omega⟩
       | succ k =>
         have hI' : bodyGo (k + 1 + 1) (out ++ ((⟨#[44, 32]⟩ : ByteArray) ++ litText c.body[k + 1])) (c.body.drop (k + 1 + 1)) = bodyGo 0 (litText c.head) c.body := by
          rw [← hI, bodyGo, ByteArray.append_assoc]
         have m0 : (if (1 : Int) < (k : Int) + 1 then (1 : Int) else (k : Int) + 1) = 1 := by split <;> omega
         have m1 : (1 : Int) - 1 = 0 := rfl
         repeat' (first | (with_reducible refine Or.inr (AW.treeX (E := EqT.no _) [] [0,2,3,4,7] (.two 1 (.two 5 (.two 6 (.one 8 (.one 9 (.one 10 (.one 11 .fin)))) 8 (.one 6 (.one 9 (.one 10 (.one 11 .fin))))) 8 (.one 5 (.one 6 (.one 9 (.one 10 (.one 11 .fin)))))) 8 (.one 1 (.one 5 (.one 6 (.one 9 (.one 10 (.one 11 .fin))))))) mixedP ?_ ?_ ?_ ?_); decide +kernel; (simp only [List.length_cons,List.length_nil]; decide); (intro j hj; exact absurd hj List.not_mem_nil)) | (with_reducible refine (AW.treeX (E := EqT.no _) [] [0,2,3,4,7] (.two 1 (.two 5 (.two 6 (.one 8 (.one 9 (.one 10 (.one 11 .fin)))) 8 (.one 6 (.one 9 (.one 10 (.one 11 .fin))))) 8 (.one 5 (.one 6 (.one 9 (.one 10 (.one 11 .fin)))))) 8 (.one 1 (.one 5 (.one 6 (.one 9 (.one 10 (.one 11 .fin))))))) mixedP ?_ ?_ ?_ ?_); decide +kernel; (simp only [List.length_cons,List.length_nil]; decide); (intro j hj; exact absurd hj List.not_mem_nil)) | (with_reducible refine MTq.of 4000 (by simp) ?_ ?_) | (with_reducible refine MTq.nil ?_) | (with_reducible refine MT.one 4000 (by simp) ?_) | (with_reducible refine MT.two 4000 (by simp) ?_ ?_) | (with_reducible refine MT.fin ?_) | (with_reducible first | refine XG_split (fun hq => ?_) (fun hq => ?_) | refine MX1.of 4000 (by simp) ?_ | refine MX2.of 4000 (by simp) ?_ | refine And.intro ?_ ?_) | ((with_reducible first | refine Or.inl (And.intro (And.intro mixedP ?_) ?_) | refine Or.inl (And.intro mixedP ?_)); kernel_rfl) | simp only [go_sem,ldK,ldW,blindK,List.mem_singleton,List.not_mem_nil,Nat.reduceEqDiff,Nat.reduceAdd,Nat.reduceMul,Nat.reduceLeDiff,Int.reduceBEq,Clause.ds,Lit.av,dnat1 hkl,toNat1,List.getElem?_eq_getElem hkl,m0,m1])
         all_goals first | exact ht | exact hg | skip
         all_goals try simp only [ByteArray.size_append, f1, f2, g1, g2, Int.natCast_add]
         all_goals first | omega | (unfold maxLen; omega) | (right; omega) | (left; simp; done) | (simp only [wk3,wkL2,wk2,wkL,wk1_d,wk1_own,wk1_nil,and_self]; done) | (intro i hi; simp only [upd]; (repeat' split); all_goals first | rfl | omega) | skip
         all_goals exact ⟨((k + 1 + 1, out ++ ((⟨#[44, 32]⟩ : ByteArray) ++ litText c.body[k + 1])) : Nat × ByteArray), ⟨by show k + 1 + 1 ≤ _; omega, by simp only [ByteArray.size_append, g2]; omega, hI'⟩, Wk.of (by simp only [go_sem]) (by intro i hi; simp only [upd]; (repeat' split); all_goals first | rfl | omega) hok' (by omega) (by omega) (by simp only [go_sem]; omega), by simp only; omega⟩
     · obtain rfl : k = c.body.length := by omega
       rw [List.drop_length] at hI
       have hout : out = bodyGo 0 (litText c.head) c.body := by
        rw [← hI]
        cases c.body.length <;> rfl
       repeat' (first | (with_reducible first | refine XG_split (fun hq => ?_) (fun hq => ?_) | refine MX1.of 4000 (by simp) ?_ | refine MX2.of 4000 (by simp) ?_ | refine And.intro ?_ ?_) | ((with_reducible first | refine Or.inl (And.intro (And.intro mixedP ?_) ?_) | refine Or.inl (And.intro mixedP ?_)); kernel_rfl) | simp only [go_sem,Nat.reduceEqDiff,Nat.reduceAdd,Nat.reduceMul,Nat.reduceLeDiff,Int.reduceBEq,Clause.ds,Nat.lt_irrefl,Int.lt_irrefl,decide_false])
       all_goals try simp only [ByteArray.size_append, f3, Int.natCast_add]
       all_goals first | omega | (unfold maxLen; omega) | (right; omega) | (left; simp; done) | (simp only [wk3,wkL2,wk2,wkL,wk1_d,wk1_own,wk1_nil,and_self]; done) | (intro i hi; simp only [upd]; (repeat' split); all_goals first | rfl | omega) | skip
       all_goals (refine wk3_eq ?_; simp [hS, clauseText, hout])
end Go.Proofs.YtfhpecgknmfnnaaDoor.M
end
section
namespace Go.Proofs.YtfhpecgknmfnnaaDoor.M
open Go.R
def noneB (l : Lit) : Bool := l.kind == 0 && (l.pred.size == 0 && ((l.who.var.size == 0 && (l.who.val.sym.size == 0 && l.who.val.num == 0)) && l.args.length == 0))
def bareB (q : Req) : Bool := q.label.size == 0 && (q.life == 0 && (q.no == 0 && (noneB q.lit && (noneB q.clause.head && q.clause.body.length == 0))))
abbrev maxTick : Int := 1099511627776
def checkQ (q : Req) : Bool :=
 if (q.kind == 1) = true then bareB { q with label := noStr, life := 0, clause := Clause.z } && (nameB q.label && (decide (0 ≤ q.life) && (decide (q.life ≤ maxTick) && checkB q.clause)))
 else if (q.kind == 2) = true then bareB { q with no := 0 } && (decide (1 ≤ q.no) && decide (q.no ≤ maxTick))
 else if (q.kind == 3 || q.kind == 4) = true then bareB { q with lit := Lit.z } && checkLitB q.lit
 else if (q.kind == 5) = true then bareB q else false
abbrev noneS : Fs := .pure (g1 aLit fun l => vB (noneB l))
abbrev bareS : Fs := .pure (g1 aReq fun q => vB (bareB q))
@[go_sem] theorem dNoT : dRows cTerm [] = some [] := rfl
@[go_sem] theorem dNoL : dRows cLit [] = some [] := rfl
def szQ (q : Req) : Prop := szC q.clause ∧ szL q.lit
abbrev checkQS : Fs := .pureIf (g1p aReq szQ) (g1 aReq fun q => vB (checkQ q))
set_option maxRecDepth 20000 in
set_option maxHeartbeats 8000000 in
theorem none_ok : FsOk Tryd.prog 40 noneS := by
 refine of_X1 (E := eqT) (F := Ft.no) Lit.av (fun _ _ => aLit_le) Tryd.func40 rfl (by kernel_rfl) [.tmp 2] rfl Tryd.ntmps40 (by decide) (FtOk.no _) ?_
 intro l h n hok
 have hl : ((l.args.length : Int) == 0) = (l.args.length == 0) := by rw [Bool.eq_iff_iff]; simp
 have hT : (l.who.var.size == 0 && (l.who.val.sym.size == 0 && l.who.val.num == 0)) = (l.who.var.toList == noStr.toList && (l.who.val.sym.toList == noStr.toList && l.who.val.num == 0)) := by rw [toList_eq_beq_no, toList_eq_beq_no]
 obtain ⟨x, hx⟩ : ∃ x, (l.who.var.size == 0 && (l.who.val.sym.size == 0 && l.who.val.num == 0)) = x := ⟨_, rfl⟩
 have hN : noneB l = (l.kind == 0 && (l.pred.size == 0 && (x && l.args.length == 0))) := by unfold noneB; rw [hx]
 cases h1 : l.kind == 0 <;> cases h2 : l.pred.size == 0 <;> cases x <;> cases h4 : l.args.length == 0
 all_goals
  rw [h1, h2, h4] at hN
  repeat' (first | (with_reducible first | refine XG_split (fun hq => ?_) (fun hq => ?_) | refine MX1.of 4000 (by simp) ?_ | refine MX2.of 4000 (by simp) ?_ | refine And.intro ?_ ?_) | ((with_reducible first | refine Or.inl (And.intro (And.intro mixedP ?_) ?_) | refine Or.inl (And.intro mixedP ?_)); kernel_rfl) | simp only [go_sem,Nat.reduceEqDiff,Nat.reduceAdd,Nat.reduceMul,Nat.reduceLeDiff,Int.reduceBEq,Lit.av,Lit.ds,h1,h2,hx,hl,h4,List.length_map])
  all_goals first | omega | (unfold maxLen; omega) | (right; omega) | (left; simp; done) | (simp only [wk3,wkL2,wk2,wkL,wk1_d,wk1_own,wk1_nil,and_self]; done) | (intro i hi; simp only [upd]; (repeat' split); all_goals first | rfl | omega) | skip
  all_goals first | (rw [hN]; exact wk3_eq rfl) | trace_state
set_option maxRecDepth 20000 in
set_option maxHeartbeats 8000000 in
theorem bare_ok : FsOk Tryd.prog 23 bareS := by
 refine of_X1 (E := EqT.no _) (F := Ft.no.put 40 noneS) Req.av (fun _ _ => aReq_le) Tryd.func23 rfl (by kernel_rfl) [.tmp 2] rfl Tryd.ntmps23 (by decide) ((FtOk.no _).put none_ok) ?_
 intro q h n hok
 have hl : ((q.clause.body.length : Int) == 0) = (q.clause.body.length == 0) := by rw [Bool.eq_iff_iff]; simp
 have hN : bareB q = (q.label.size == 0 && (q.life == 0 && (q.no == 0 && (noneB q.lit && (noneB q.clause.head && q.clause.body.length == 0))))) := rfl
 have a1 : (⟨q.lit.kind, ⟨q.lit.who.var, ⟨q.lit.who.val.sym, q.lit.who.val.num⟩⟩, q.lit.pred, q.lit.args⟩ : Lit) = q.lit := rfl
 have a2 : (⟨q.clause.head.kind, ⟨q.clause.head.who.var, ⟨q.clause.head.who.val.sym, q.clause.head.who.val.num⟩⟩, q.clause.head.pred, q.clause.head.args⟩ : Lit) = q.clause.head := rfl
 cases h1 : q.label.size == 0 with
 | false =>
   rw [h1] at hN
   repeat' (first | (with_reducible first | refine XG_split (fun hq => ?_) (fun hq => ?_) | refine MX1.of 4000 (by simp) ?_ | refine MX2.of 4000 (by simp) ?_ | refine And.intro ?_ ?_) | ((with_reducible first | refine Or.inl (And.intro (And.intro mixedP ?_) ?_) | refine Or.inl (And.intro mixedP ?_)); kernel_rfl) | simp only [go_sem,Nat.reduceEqDiff,Nat.reduceAdd,Nat.reduceMul,Nat.reduceLeDiff,Int.reduceBEq,Req.av,Req.ds,Lit.av,Lit.ds,hl,a1,a2,List.length_map,h1])
   all_goals first | omega | (unfold maxLen; omega) | (right; omega) | (left; simp; done) | (simp only [wk3,wkL2,wk2,wkL,wk1_d,wk1_own,wk1_nil,and_self]; done) | (intro i hi; simp only [upd]; (repeat' split); all_goals first | rfl | omega) | skip
   all_goals first | (rw [hN]; exact wk3_eq rfl) | trace_state
 | true =>
   cases h2 : q.life == 0 with
   | false =>
     rw [h1, h2] at hN
     repeat' (first | (with_reducible first | refine XG_split (fun hq => ?_) (fun hq => ?_) | refine MX1.of 4000 (by simp) ?_ | refine MX2.of 4000 (by simp) ?_ | refine And.intro ?_ ?_) | ((with_reducible first | refine Or.inl (And.intro (And.intro mixedP ?_) ?_) | refine Or.inl (And.intro mixedP ?_)); kernel_rfl) | simp only [go_sem,Nat.reduceEqDiff,Nat.reduceAdd,Nat.reduceMul,Nat.reduceLeDiff,Int.reduceBEq,Req.av,Req.ds,Lit.av,Lit.ds,hl,a1,a2,List.length_map,h1,h2])
     all_goals first | omega | (unfold maxLen; omega) | (right; omega) | (left; simp; done) | (simp only [wk3,wkL2,wk2,wkL,wk1_d,wk1_own,wk1_nil,and_self]; done) | (intro i hi; simp only [upd]; (repeat' split); all_goals first | rfl | omega) | skip
     all_goals first | (rw [hN]; exact wk3_eq rfl) | trace_state
   | true =>
     cases h3 : q.no == 0 with
     | false =>
       rw [h1, h2, h3] at hN
       repeat' (first | (with_reducible first | refine XG_split (fun hq => ?_) (fun hq => ?_) | refine MX1.of 4000 (by simp) ?_ | refine MX2.of 4000 (by simp) ?_ | refine And.intro ?_ ?_) | ((with_reducible first | refine Or.inl (And.intro (And.intro mixedP ?_) ?_) | refine Or.inl (And.intro mixedP ?_)); kernel_rfl) | simp only [go_sem,Nat.reduceEqDiff,Nat.reduceAdd,Nat.reduceMul,Nat.reduceLeDiff,Int.reduceBEq,Req.av,Req.ds,Lit.av,Lit.ds,hl,a1,a2,List.length_map,h1,h2,h3])
       all_goals first | omega | (unfold maxLen; omega) | (right; omega) | (left; simp; done) | (simp only [wk3,wkL2,wk2,wkL,wk1_d,wk1_own,wk1_nil,and_self]; done) | (intro i hi; simp only [upd]; (repeat' split); all_goals first | rfl | omega) | skip
       all_goals first | (rw [hN]; exact wk3_eq rfl) | trace_state
     | true =>
       cases h4 : noneB q.lit with
       | false =>
         rw [h1, h2, h3, h4] at hN
         repeat' (first | (with_reducible first | refine XG_split (fun hq => ?_) (fun hq => ?_) | refine MX1.of 4000 (by simp) ?_ | refine MX2.of 4000 (by simp) ?_ | refine And.intro ?_ ?_) | ((with_reducible first | refine Or.inl (And.intro (And.intro mixedP ?_) ?_) | refine Or.inl (And.intro mixedP ?_)); kernel_rfl) | simp only [go_sem,Nat.reduceEqDiff,Nat.reduceAdd,Nat.reduceMul,Nat.reduceLeDiff,Int.reduceBEq,Req.av,Req.ds,Lit.av,Lit.ds,hl,a1,a2,List.length_map,h1,h2,h3,h4])
         all_goals first | omega | (unfold maxLen; omega) | (right; omega) | (left; simp; done) | (simp only [wk3,wkL2,wk2,wkL,wk1_d,wk1_own,wk1_nil,and_self]; done) | (intro i hi; simp only [upd]; (repeat' split); all_goals first | rfl | omega) | skip
         all_goals first | (rw [hN]; exact wk3_eq rfl) | trace_state
       | true =>
         cases h5 : noneB q.clause.head with
         | false =>
           rw [h1, h2, h3, h4, h5] at hN
           repeat' (first | (with_reducible first | refine XG_split (fun hq => ?_) (fun hq => ?_) | refine MX1.of 4000 (by simp) ?_ | refine MX2.of 4000 (by simp) ?_ | refine And.intro ?_ ?_) | ((with_reducible first | refine Or.inl (And.intro (And.intro mixedP ?_) ?_) | refine Or.inl (And.intro mixedP ?_)); kernel_rfl) | simp only [go_sem,Nat.reduceEqDiff,Nat.reduceAdd,Nat.reduceMul,Nat.reduceLeDiff,Int.reduceBEq,Req.av,Req.ds,Lit.av,Lit.ds,hl,a1,a2,List.length_map,h1,h2,h3,h4,h5])
           all_goals first | omega | (unfold maxLen; omega) | (right; omega) | (left; simp; done) | (simp only [wk3,wkL2,wk2,wkL,wk1_d,wk1_own,wk1_nil,and_self]; done) | (intro i hi; simp only [upd]; (repeat' split); all_goals first | rfl | omega) | skip
           all_goals first | (rw [hN]; exact wk3_eq rfl) | trace_state
         | true =>
           cases h6 : q.clause.body.length == 0 with
           | false =>
             rw [h1, h2, h3, h4, h5, h6] at hN
             repeat' (first | (with_reducible first | refine XG_split (fun hq => ?_) (fun hq => ?_) | refine MX1.of 4000 (by simp) ?_ | refine MX2.of 4000 (by simp) ?_ | refine And.intro ?_ ?_) | ((with_reducible first | refine Or.inl (And.intro (And.intro mixedP ?_) ?_) | refine Or.inl (And.intro mixedP ?_)); kernel_rfl) | simp only [go_sem,Nat.reduceEqDiff,Nat.reduceAdd,Nat.reduceMul,Nat.reduceLeDiff,Int.reduceBEq,Req.av,Req.ds,Lit.av,Lit.ds,hl,a1,a2,List.length_map,h1,h2,h3,h4,h5,h6])
             all_goals first | omega | (unfold maxLen; omega) | (right; omega) | (left; simp; done) | (simp only [wk3,wkL2,wk2,wkL,wk1_d,wk1_own,wk1_nil,and_self]; done) | (intro i hi; simp only [upd]; (repeat' split); all_goals first | rfl | omega) | skip
             all_goals first | (rw [hN]; exact wk3_eq rfl) | trace_state
           | true =>
             rw [h1, h2, h3, h4, h5, h6] at hN
             repeat' (first | (with_reducible first | refine XG_split (fun hq => ?_) (fun hq => ?_) | refine MX1.of 4000 (by simp) ?_ | refine MX2.of 4000 (by simp) ?_ | refine And.intro ?_ ?_) | ((with_reducible first | refine Or.inl (And.intro (And.intro mixedP ?_) ?_) | refine Or.inl (And.intro mixedP ?_)); kernel_rfl) | simp only [go_sem,Nat.reduceEqDiff,Nat.reduceAdd,Nat.reduceMul,Nat.reduceLeDiff,Int.reduceBEq,Req.av,Req.ds,Lit.av,Lit.ds,hl,a1,a2,List.length_map,h1,h2,h3,h4,h5,h6])
             all_goals first | omega | (unfold maxLen; omega) | (right; omega) | (left; simp; done) | (simp only [wk3,wkL2,wk2,wkL,wk1_d,wk1_own,wk1_nil,and_self]; done) | (intro i hi; simp only [upd]; (repeat' split); all_goals first | rfl | omega) | skip
             all_goals first | (rw [hN]; exact wk3_eq rfl) | trace_state
set_option maxRecDepth 20000 in
set_option maxHeartbeats 8000000 in
theorem checkQ_ok : FsOk Tryd.prog 10 checkQS := by
 refine of_Y1 (E := EqT.no _) (F := (((Ft.no.put 23 bareS).put 24 nameS).put 25 pcheckS).put 26 pcheckLitS) Req.av (fun _ _ => aReq_le) Tryd.func10 rfl (by kernel_rfl) [.tmp 2] rfl Tryd.ntmps10 (by decide) (((((FtOk.no _).put bare_ok).put name_ok).put pcheck_ok).put pcheckLit_ok) ?_
 intro q h n hp hok
 obtain ⟨hp1, hp2⟩ := hp
 have a1 : (⟨q.lit.kind, ⟨q.lit.who.var, ⟨q.lit.who.val.sym, q.lit.who.val.num⟩⟩, q.lit.pred, q.lit.args⟩ : Lit) = q.lit := rfl
 have a2 : (⟨⟨q.clause.head.kind, ⟨q.clause.head.who.var, ⟨q.clause.head.who.val.sym, q.clause.head.who.val.num⟩⟩, q.clause.head.pred, q.clause.head.args⟩, q.clause.body⟩ : Clause) = q.clause := rfl
 cases k1 : q.kind == 1 with
 | true =>
   have hN : checkQ q = (bareB { q with label := noStr, life := 0, clause := Clause.z } && (nameB q.label && (decide (0 ≤ q.life) && (decide (q.life ≤ maxTick) && checkB q.clause)))) := by unfold checkQ; rw [k1, if_pos rfl]
   obtain ⟨b, hb⟩ : ∃ b, bareB { q with label := noStr, life := 0, clause := Clause.z } = b := ⟨_, rfl⟩
   have hb' : bareB ⟨q.kind, ⟨#[]⟩, 0, ⟨⟨0, ⟨⟨#[]⟩, ⟨⟨#[]⟩, 0⟩⟩, ⟨#[]⟩, []⟩, []⟩, q.no, q.lit⟩ = b := hb
   rw [hb] at hN
   cases b with
   | false =>
     repeat' (first | (with_reducible first | refine XG_split (fun hq => ?_) (fun hq => ?_) | refine MX1.of 4000 (by simp) ?_ | refine MX2.of 4000 (by simp) ?_ | refine And.intro ?_ ?_) | ((with_reducible first | refine Or.inl (And.intro (And.intro mixedP ?_) ?_) | refine Or.inl (And.intro mixedP ?_)); kernel_rfl) | simp only [go_sem,Nat.reduceEqDiff,Nat.reduceAdd,Nat.reduceMul,Nat.reduceLeDiff,Int.reduceBEq,Req.av,Req.ds,Lit.av,Lit.ds,Clause.av,Clause.ds,a1,a2,k1,List.length_map,hb'])
     all_goals first | omega | (unfold maxLen; omega) | (right; omega) | (left; simp; done) | (simp only [wk3,wkL2,wk2,wkL,wk1_d,wk1_own,wk1_nil,and_self]; done) | (intro i hi; simp only [upd]; (repeat' split); all_goals first | rfl | omega) | skip
     all_goals first | (rw [hN]; exact wk3_eq rfl) | trace_state
   | true =>
     cases h1 : nameB q.label with
     | false =>
       rw [h1] at hN
       repeat' (first | (with_reducible first | refine XG_split (fun hq => ?_) (fun hq => ?_) | refine MX1.of 4000 (by simp) ?_ | refine MX2.of 4000 (by simp) ?_ | refine And.intro ?_ ?_) | ((with_reducible first | refine Or.inl (And.intro (And.intro mixedP ?_) ?_) | refine Or.inl (And.intro mixedP ?_)); kernel_rfl) | simp only [go_sem,Nat.reduceEqDiff,Nat.reduceAdd,Nat.reduceMul,Nat.reduceLeDiff,Int.reduceBEq,Req.av,Req.ds,Lit.av,Lit.ds,Clause.av,Clause.ds,a1,a2,k1,List.length_map,hb',h1])
       all_goals first | omega | (unfold maxLen; omega) | (right; omega) | (left; simp; done) | (simp only [wk3,wkL2,wk2,wkL,wk1_d,wk1_own,wk1_nil,and_self]; done) | (intro i hi; simp only [upd]; (repeat' split); all_goals first | rfl | omega) | skip
       all_goals first | (rw [hN]; exact wk3_eq rfl) | trace_state
     | true =>
       cases h2 : decide (0 ≤ q.life) with
       | false =>
         rw [h1, h2] at hN
         repeat' (first | (with_reducible first | refine XG_split (fun hq => ?_) (fun hq => ?_) | refine MX1.of 4000 (by simp) ?_ | refine MX2.of 4000 (by simp) ?_ | refine And.intro ?_ ?_) | ((with_reducible first | refine Or.inl (And.intro (And.intro mixedP ?_) ?_) | refine Or.inl (And.intro mixedP ?_)); kernel_rfl) | simp only [go_sem,Nat.reduceEqDiff,Nat.reduceAdd,Nat.reduceMul,Nat.reduceLeDiff,Int.reduceBEq,Req.av,Req.ds,Lit.av,Lit.ds,Clause.av,Clause.ds,a1,a2,k1,List.length_map,hb',h1,h2])
         all_goals first | omega | (unfold maxLen; omega) | (right; omega) | (left; simp; done) | (simp only [wk3,wkL2,wk2,wkL,wk1_d,wk1_own,wk1_nil,and_self]; done) | (intro i hi; simp only [upd]; (repeat' split); all_goals first | rfl | omega) | skip
         all_goals first | (rw [hN]; exact wk3_eq rfl) | trace_state
       | true =>
         cases h3 : decide (q.life ≤ 1099511627776) with
         | false =>
           rw [h1, h2, h3] at hN
           repeat' (first | (with_reducible first | refine XG_split (fun hq => ?_) (fun hq => ?_) | refine MX1.of 4000 (by simp) ?_ | refine MX2.of 4000 (by simp) ?_ | refine And.intro ?_ ?_) | ((with_reducible first | refine Or.inl (And.intro (And.intro mixedP ?_) ?_) | refine Or.inl (And.intro mixedP ?_)); kernel_rfl) | simp only [go_sem,Nat.reduceEqDiff,Nat.reduceAdd,Nat.reduceMul,Nat.reduceLeDiff,Int.reduceBEq,Req.av,Req.ds,Lit.av,Lit.ds,Clause.av,Clause.ds,a1,a2,k1,List.length_map,hb',h1,h2,h3])
           all_goals first | omega | (unfold maxLen; omega) | (right; omega) | (left; simp; done) | (simp only [wk3,wkL2,wk2,wkL,wk1_d,wk1_own,wk1_nil,and_self]; done) | (intro i hi; simp only [upd]; (repeat' split); all_goals first | rfl | omega) | skip
           all_goals first | (rw [hN]; exact wk3_eq rfl) | trace_state
         | true =>
           rw [h1, h2, h3] at hN
           repeat' (first | (with_reducible first | refine XG_split (fun hq => ?_) (fun hq => ?_) | refine MX1.of 4000 (by simp) ?_ | refine MX2.of 4000 (by simp) ?_ | refine And.intro ?_ ?_) | ((with_reducible first | refine Or.inl (And.intro (And.intro mixedP ?_) ?_) | refine Or.inl (And.intro mixedP ?_)); kernel_rfl) | simp only [go_sem,Nat.reduceEqDiff,Nat.reduceAdd,Nat.reduceMul,Nat.reduceLeDiff,Int.reduceBEq,Req.av,Req.ds,Lit.av,Lit.ds,Clause.av,Clause.ds,a1,a2,k1,List.length_map,hb',h1,h2,h3])
           all_goals first | exact hp1 | exact hp2 | skip
           all_goals first | omega | (unfold maxLen; omega) | (right; omega) | (left; simp; done) | (simp only [wk3,wkL2,wk2,wkL,wk1_d,wk1_own,wk1_nil,and_self]; done) | (intro i hi; simp only [upd]; (repeat' split); all_goals first | rfl | omega) | skip
           all_goals first | (rw [hN]; exact wk3_eq rfl) | trace_state
 | false =>
   cases k2 : q.kind == 2 with
   | true =>
     have hN : checkQ q = (bareB { q with no := 0 } && (decide (1 ≤ q.no) && decide (q.no ≤ maxTick))) := by unfold checkQ; rw [k1, k2]; rfl
     obtain ⟨b, hb⟩ : ∃ b, bareB { q with no := 0 } = b := ⟨_, rfl⟩
     have hb' : bareB ⟨q.kind, q.label, q.life, q.clause, 0, q.lit⟩ = b := hb
     rw [hb] at hN
     cases b <;> cases h2 : decide (1 ≤ q.no) <;> cases h3 : decide (q.no ≤ 1099511627776)
     all_goals
      rw [h2, h3] at hN
      repeat' (first | (with_reducible first | refine XG_split (fun hq => ?_) (fun hq => ?_) | refine MX1.of 4000 (by simp) ?_ | refine MX2.of 4000 (by simp) ?_ | refine And.intro ?_ ?_) | ((with_reducible first | refine Or.inl (And.intro (And.intro mixedP ?_) ?_) | refine Or.inl (And.intro mixedP ?_)); kernel_rfl) | simp only [go_sem,Nat.reduceEqDiff,Nat.reduceAdd,Nat.reduceMul,Nat.reduceLeDiff,Int.reduceBEq,Req.av,Req.ds,Lit.av,Lit.ds,Clause.av,Clause.ds,a1,a2,k1,List.length_map,hb',h2,h3,k2])
      all_goals first | omega | (unfold maxLen; omega) | (right; omega) | (left; simp; done) | (simp only [wk3,wkL2,wk2,wkL,wk1_d,wk1_own,wk1_nil,and_self]; done) | (intro i hi; simp only [upd]; (repeat' split); all_goals first | rfl | omega) | skip
      all_goals first | (rw [hN]; exact wk3_eq rfl) | trace_state
   | false =>
     cases k3 : q.kind == 3 || q.kind == 4 with
     | true =>
       have hN : checkQ q = (bareB { q with lit := Lit.z } && checkLitB q.lit) := by unfold checkQ; rw [k1, k2, k3]; rfl
       obtain ⟨b, hb⟩ : ∃ b, bareB { q with lit := Lit.z } = b := ⟨_, rfl⟩
       have hb' : bareB ⟨q.kind, q.label, q.life, q.clause, q.no, ⟨0, ⟨⟨#[]⟩, ⟨⟨#[]⟩, 0⟩⟩, ⟨#[]⟩, []⟩⟩ = b := hb
       rw [hb] at hN
       cases k4 : q.kind == 3 with
       | true =>
         cases b
         all_goals
          repeat' (first | (with_reducible first | refine XG_split (fun hq => ?_) (fun hq => ?_) | refine MX1.of 4000 (by simp) ?_ | refine MX2.of 4000 (by simp) ?_ | refine And.intro ?_ ?_) | ((with_reducible first | refine Or.inl (And.intro (And.intro mixedP ?_) ?_) | refine Or.inl (And.intro mixedP ?_)); kernel_rfl) | simp only [go_sem,Nat.reduceEqDiff,Nat.reduceAdd,Nat.reduceMul,Nat.reduceLeDiff,Int.reduceBEq,Req.av,Req.ds,Lit.av,Lit.ds,Clause.av,Clause.ds,a1,a2,k1,List.length_map,hb',k2,k4])
          all_goals first | exact hp1 | exact hp2 | skip
          all_goals first | omega | (unfold maxLen; omega) | (right; omega) | (left; simp; done) | (simp only [wk3,wkL2,wk2,wkL,wk1_d,wk1_own,wk1_nil,and_self]; done) | (intro i hi; simp only [upd]; (repeat' split); all_goals first | rfl | omega) | skip
          all_goals first | (rw [hN]; exact wk3_eq rfl) | trace_state
       | false =>
         have k5 : (q.kind == 4) = true := by rw [k4] at k3; exact k3
         cases b
         all_goals
          repeat' (first | (with_reducible first | refine XG_split (fun hq => ?_) (fun hq => ?_) | refine MX1.of 4000 (by simp) ?_ | refine MX2.of 4000 (by simp) ?_ | refine And.intro ?_ ?_) | ((with_reducible first | refine Or.inl (And.intro (And.intro mixedP ?_) ?_) | refine Or.inl (And.intro mixedP ?_)); kernel_rfl) | simp only [go_sem,Nat.reduceEqDiff,Nat.reduceAdd,Nat.reduceMul,Nat.reduceLeDiff,Int.reduceBEq,Req.av,Req.ds,Lit.av,Lit.ds,Clause.av,Clause.ds,a1,a2,k1,List.length_map,hb',k2,k4,k5])
          all_goals first | exact hp1 | exact hp2 | skip
          all_goals first | omega | (unfold maxLen; omega) | (right; omega) | (left; simp; done) | (simp only [wk3,wkL2,wk2,wkL,wk1_d,wk1_own,wk1_nil,and_self]; done) | (intro i hi; simp only [upd]; (repeat' split); all_goals first | rfl | omega) | skip
          all_goals first | (rw [hN]; exact wk3_eq rfl) | trace_state
     | false =>
       have k4 : (q.kind == 3) = false := by revert k3; cases q.kind == 3 <;> simp
       have k5 : (q.kind == 4) = false := by revert k3; cases q.kind == 4 <;> simp
       cases k6 : q.kind == 5 with
       | true =>
         have hN : checkQ q = bareB q := by unfold checkQ; rw [k1, k2, k3, k6]; rfl
         have hb' : bareB ⟨q.kind, q.label, q.life, q.clause, q.no, q.lit⟩ = bareB q := rfl
         repeat' (first | (with_reducible first | refine XG_split (fun hq => ?_) (fun hq => ?_) | refine MX1.of 4000 (by simp) ?_ | refine MX2.of 4000 (by simp) ?_ | refine And.intro ?_ ?_) | ((with_reducible first | refine Or.inl (And.intro (And.intro mixedP ?_) ?_) | refine Or.inl (And.intro mixedP ?_)); kernel_rfl) | simp only [go_sem,Nat.reduceEqDiff,Nat.reduceAdd,Nat.reduceMul,Nat.reduceLeDiff,Int.reduceBEq,Req.av,Req.ds,Lit.av,Lit.ds,Clause.av,Clause.ds,a1,a2,k1,List.length_map,hb',k2,k4,k5,k6])
         all_goals first | omega | (unfold maxLen; omega) | (right; omega) | (left; simp; done) | (simp only [wk3,wkL2,wk2,wkL,wk1_d,wk1_own,wk1_nil,and_self]; done) | (intro i hi; simp only [upd]; (repeat' split); all_goals first | rfl | omega) | skip
         all_goals first | (rw [hN]; exact wk3_eq rfl) | trace_state
       | false =>
         have hN : checkQ q = false := by unfold checkQ; rw [k1, k2, k3, k6]; rfl
         repeat' (first | (with_reducible first | refine XG_split (fun hq => ?_) (fun hq => ?_) | refine MX1.of 4000 (by simp) ?_ | refine MX2.of 4000 (by simp) ?_ | refine And.intro ?_ ?_) | ((with_reducible first | refine Or.inl (And.intro (And.intro mixedP ?_) ?_) | refine Or.inl (And.intro mixedP ?_)); kernel_rfl) | simp only [go_sem,Nat.reduceEqDiff,Nat.reduceAdd,Nat.reduceMul,Nat.reduceLeDiff,Int.reduceBEq,Req.av,Req.ds,Lit.av,Lit.ds,Clause.av,Clause.ds,a1,a2,k1,List.length_map,k2,k4,k5,k6])
         all_goals first | omega | (unfold maxLen; omega) | (right; omega) | (left; simp; done) | (simp only [wk3,wkL2,wk2,wkL,wk1_d,wk1_own,wk1_nil,and_self]; done) | (intro i hi; simp only [upd]; (repeat' split); all_goals first | rfl | omega) | skip
         all_goals first | (rw [hN]; exact wk3_eq rfl) | trace_state
end Go.Proofs.YtfhpecgknmfnnaaDoor.M
end
section
namespace Go.Proofs.YtfhpecgknmfnnaaDoor.M
open Go.R Go.RowKit
theorem aI64_eq {x : AV} {n : Int} (h : aI64 x = some n) : x = vI n := by
 unfold aI64 at h
 split at h
 · cases h; rfl
 · cases h
theorem ba_app (a b : List UInt8) : (⟨(a ++ b).toArray⟩ : ByteArray) = ⟨a.toArray⟩ ++ ⟨b.toArray⟩ := by
 apply ByteArray.ext
 rw [ByteArray.data_append]
 simp
theorem str_one (k : Nat) : strOf [48 + (k : Int)] = ⟨[UInt8.ofNat (48 + k)].toArray⟩ := by
 have : (48 + (k : Int)).toNat = 48 + k := by omega
 unfold strOf
 rw [List.foldl_cons, List.foldl_nil, this]
 rfl
theorem dec_digits (u : Nat) : strOf (decL u) = ⟨(Lib.decDigits u).toArray⟩ := by
 induction u using Nat.strongRecOn with
 | _ u ih =>
   by_cases h : u < 10
   · rw [decL, dif_pos h, Lib.decDigits, dif_pos h, str_one]
   · rw [decL, dif_neg h, Lib.decDigits, dif_neg h, strOf_append, ih _ (by omega), str_one, ba_app]
theorem below_grow {w : World} {k : Nat} {os : Array Obj} : Below w.heap.size w (Sort.grow (w.drewN k) os) :=
 ⟨rfl, rfl, rfl, by simp [Sort.grow], fun b hb => by simp [Sort.grow, Array.getElem?_append, hb]⟩
theorem itoa_num (n : Int) : (⟨(Lib.itoa n).toArray⟩ : ByteArray) = numText n := by
 unfold Lib.itoa numText
 split
 · rw [show (45 :: decL (-n).toNat) = [45] ++ decL (-n).toNat from rfl, strOf_append, dec_digits, show (45 :: Lib.decDigits n.natAbs) = [45] ++ Lib.decDigits n.natAbs from rfl, ba_app, show n.natAbs = (-n).toNat from by omega]
   rfl
 · rw [dec_digits]
abbrev fmtS : Fs := .pureIf (g2p aI64 aI64 fun n b => i64 n ∧ b = 10) (g2 aI64 aI64 fun n b => vS (numText n))
theorem tab_is {c : Cx} {h : AH} {n : Nat} {w : World} (hw : Wd c h n w) : Lib.TabIs Tryd.prog w "internal/strconv.uint64pow10" .u64 Lib.pow10Tab :=
 (hw.glob _ (List.mem_singleton.2 rfl)).2 w rfl
theorem fmt60_ok : FsOk Tryd.prog 28 fmtS := by
 refine of_hold Tryd.func28 rfl (by kernel_rfl) ?_
 intro args r c h n w vals hp hg hw hl hr
 obtain ⟨x, y, k, b, rfl, hx, hy, rfl⟩ := g2_eq hg
 obtain ⟨hk, rfl⟩ := hp k hx b hy
 obtain rfl := aI64_eq hx
 obtain rfl := aI64_eq hy
 match vals, hl with
 | [v, u], _ =>
   have hv := hr 0 v _ rfl rfl
   obtain rfl := cval_rep hv rfl
   have hu := hr 1 u _ rfl rfl
   obtain rfl := cval_rep hu rfl
   refine (Any.internal_strconv_FormatInt_10 (P := Tryd.prog) { Tryd.laysM171 with } k hk.1 hk.2 w (tab_is hw)).mono fun e w' hq => ?_
   obtain ⟨rfl, q, os, rfl⟩ := hq
   exact ⟨_, rfl, below_grow, by rw [itoa_num]; exact rep_v _ rfl⟩
abbrev itoaS : Fs := .pureIf (g1p aI64 i64) (g1 aI64 fun n => vS (numText n))
theorem itoa_ok : FsOk Tryd.prog 13 itoaS := by
 refine of_hold Tryd.func13 rfl (by kernel_rfl) ?_
 intro args r c h n w vals hp hg hw hl hr
 obtain ⟨x, k, rfl, hx, rfl⟩ := g1_eq hg
 have hk := hp k hx
 obtain rfl := aI64_eq hx
 match vals, hl with
 | [v], _ =>
   have hv := hr 0 v _ rfl rfl
   obtain rfl := cval_rep hv rfl
   refine (Tryd.strconv_Itoa k hk.1 hk.2 w (tab_is hw)).mono fun e w' hq => ?_
   obtain ⟨rfl, q, os, rfl⟩ := hq
   exact ⟨_, rfl, below_grow, by rw [itoa_num]; exact rep_v _ rfl⟩
set_option maxRecDepth 20000 in
set_option maxHeartbeats 4000000 in
theorem fmt_ok : FsOk Tryd.prog 12 fmtS := by
 refine of_Y2 (E := EqT.no _) (F := Ft.no.put 28 fmtS) vI vI (fun _ _ => aI64_le) (fun _ _ => aI64_le) Tryd.func12 rfl (by kernel_rfl) [.tmp 4] rfl Tryd.ntmps12 (by decide) ((FtOk.no _).put fmt60_ok) ?_
 intro k b h n hp hok
 repeat' (first | (with_reducible first | refine XG_split (fun hq => ?_) (fun hq => ?_) | refine MX1.of 4000 (by simp) ?_ | refine MX2.of 4000 (by simp) ?_ | refine And.intro ?_ ?_) | ((with_reducible first | refine Or.inl (And.intro (And.intro mixedP ?_) ?_) | refine Or.inl (And.intro mixedP ?_)); kernel_rfl) | simp only [go_sem,Nat.reduceEqDiff,Nat.reduceAdd,Nat.reduceMul,Nat.reduceLeDiff,Int.reduceBEq])
 all_goals first | exact hp | exact hp.1 | exact hp.2 | skip
 all_goals first | omega | (unfold maxLen; omega) | (right; omega) | (left; simp; done) | (simp only [wk3,wkL2,wk2,wkL,wk1_d,wk1_own,wk1_nil,and_self]; done) | (intro i hi; simp only [upd]; (repeat' split); all_goals first | rfl | omega) | skip
end Go.Proofs.YtfhpecgknmfnnaaDoor.M
end
section
namespace Go.Proofs.YtfhpecgknmfnnaaDoor.M
open Go.R
def textQ (q : Req) : ByteArray :=
 if (q.kind == 1) = true then (if decide (0 < q.life) = true then (⟨#[97, 115, 115, 101, 114, 116, 32]⟩ : ByteArray) ++ q.label ++ (⟨#[32]⟩ : ByteArray) ++ ((⟨#[102, 111, 114, 32]⟩ : ByteArray) ++ numText q.life ++ (⟨#[32]⟩ : ByteArray)) ++ (printB q.clause).1 else (⟨#[97, 115, 115, 101, 114, 116, 32]⟩ : ByteArray) ++ q.label ++ (⟨#[32]⟩ : ByteArray) ++ (printB q.clause).1)
 else if (q.kind == 2) = true then (⟨#[114, 101, 118, 111, 107, 101, 32]⟩ : ByteArray) ++ numText q.no
 else if (q.kind == 3) = true then (⟨#[113, 117, 101, 114, 121, 32]⟩ : ByteArray) ++ (printLitB q.lit).1
 else if (q.kind == 4) = true then (⟨#[112, 114, 111, 118, 101, 32]⟩ : ByteArray) ++ (printLitB q.lit).1
 else if (q.kind == 5) = true then (⟨#[97, 117, 100, 105, 116]⟩ : ByteArray) else noStr
def outQ (s : ByteArray) : ByteArray × Int := if decide (4096 < (s.size : Int)) = true then (noStr, 2) else (s, 0)
def printQ (q : Req) : ByteArray × Int := if checkQ q = true then outQ (textQ q) else (noStr, 1)
def reqI (q : Req) : Prop := clauseI q.clause ∧ litI q.lit ∧ i64 q.life ∧ i64 q.no
abbrev printQS : Fs := .pureIf (g1p aReq fun q => reqI q ∧ szQ q) (g1 aReq fun q => .tup [vS (printQ q).1, vI (printQ q).2])
theorem bodyQ_size : ∀ (l : List Lit) (k : Nat) (out : ByteArray), (∀ t ∈ l, litI t) → l.all literalB = true → (bodyGo k out l).size ≤ out.size + 204 * l.length
 | [], k, out, _, _ => by cases k <;> simp [bodyGo]
 | t :: r, k, out, hi, hb => by
   simp only [List.all_cons, Bool.and_eq_true] at hb
   have h1 := litText_size (hi t (by simp)) hb.1
   have g1 : (⟨#[32, 58, 45, 32]⟩ : ByteArray).size = 4 := rfl
   have g2 : (⟨#[44, 32]⟩ : ByteArray).size = 2 := rfl
   have hi' : ∀ u ∈ r, litI u := fun u hu => hi u (by simp [hu])
   cases k with
   | zero =>
     have := bodyQ_size r 1 (out ++ ⟨#[32, 58, 45, 32]⟩ ++ litText t) hi' hb.2
     simp only [bodyGo, ByteArray.size_append, List.length_cons] at this ⊢
     omega
   | succ k =>
     have := bodyQ_size r (k + 2) (out ++ ⟨#[44, 32]⟩ ++ litText t) hi' hb.2
     simp only [bodyGo, ByteArray.size_append, List.length_cons] at this ⊢
     omega
theorem printB_size {c : Clause} (h : clauseI c) : (printB c).1.size ≤ 2000 := by
 unfold printB
 split
 · rename_i hc
   unfold checkB at hc
   simp only [Bool.and_eq_true, decide_eq_true_eq] at hc
   obtain ⟨⟨⟨h1, h2⟩, h3⟩, h4⟩ := hc
   have e1 := litText_size h.1 (checkLit_literal h1)
   have e2 := bodyQ_size c.body 0 (litText c.head) h.2 h4
   have g1 : (⟨#[46]⟩ : ByteArray).size = 1 := rfl
   unfold clauseText
   rw [ByteArray.size_append]
   omega
 · exact Nat.zero_le _
theorem printLitB_size {l : Lit} (h : litI l) : (printLitB l).1.size ≤ 2000 := by
 unfold printLitB
 split
 · rename_i hc
   have e1 := litText_size h (checkLit_literal hc)
   show (litText l).size ≤ 2000
   omega
 · exact Nat.zero_le _
theorem check_label {q : Req} (h : checkQ q = true) (k : (q.kind == 1) = true) : q.label.size ≤ 16 := by
 unfold checkQ at h
 rw [k, if_pos rfl] at h
 simp only [Bool.and_eq_true] at h
 exact nameB_size h.2.1
set_option maxRecDepth 20000 in
set_option maxHeartbeats 8000000 in
theorem printQ_ok : FsOk Tryd.prog 6 printQS := by
 refine of_Y1 (E := EqT.no _) (F := ((((Ft.no.put 10 checkQS).put 11 pprintS).put 14 pprintLitS).put 12 fmtS).put 13 itoaS) Req.av (fun _ _ => aReq_le) Tryd.func6 rfl (by kernel_rfl) [.tmp 2, .tmp 3] rfl Tryd.ntmps6 (by decide) ((((((FtOk.no _).put checkQ_ok).put pprint_ok).put pprintLit_ok).put fmt_ok).put itoa_ok) ?_
 intro q h n hp hok
 obtain ⟨⟨hi1, hi2, hi3, hi4⟩, hz⟩ := hp
 obtain ⟨hz1, hz2⟩ := hz
 have a0 : (⟨q.kind, q.label, q.life, ⟨⟨q.clause.head.kind, ⟨q.clause.head.who.var, ⟨q.clause.head.who.val.sym, q.clause.head.who.val.num⟩⟩, q.clause.head.pred, q.clause.head.args⟩, q.clause.body⟩, q.no, ⟨q.lit.kind, ⟨q.lit.who.var, ⟨q.lit.who.val.sym, q.lit.who.val.num⟩⟩, q.lit.pred, q.lit.args⟩⟩ : Req) = q := rfl
 have a1 : (⟨q.lit.kind, ⟨q.lit.who.var, ⟨q.lit.who.val.sym, q.lit.who.val.num⟩⟩, q.lit.pred, q.lit.args⟩ : Lit) = q.lit := rfl
 have a2 : (⟨⟨q.clause.head.kind, ⟨q.clause.head.who.var, ⟨q.clause.head.who.val.sym, q.clause.head.who.val.num⟩⟩, q.clause.head.pred, q.clause.head.args⟩, q.clause.body⟩ : Clause) = q.clause := rfl
 have s1 := printB_size hi1
 have s2 := printLitB_size hi2
 have s3 := numText_size hi3
 have s4 := numText_size hi4
 have g1 : (⟨#[97, 115, 115, 101, 114, 116, 32]⟩ : ByteArray).size = 7 := rfl
 have g2 : (⟨#[114, 101, 118, 111, 107, 101, 32]⟩ : ByteArray).size = 7 := rfl
 have g3 : (⟨#[113, 117, 101, 114, 121, 32]⟩ : ByteArray).size = 6 := rfl
 have g4 : (⟨#[112, 114, 111, 118, 101, 32]⟩ : ByteArray).size = 6 := rfl
 have g5 : (⟨#[102, 111, 114, 32]⟩ : ByteArray).size = 4 := rfl
 have g6 : (⟨#[32]⟩ : ByteArray).size = 1 := rfl
 have f1 : #[(97 : UInt8), 115, 115, 101, 114, 116, 32].size = 7 := rfl
 have f2 : #[(114 : UInt8), 101, 118, 111, 107, 101, 32].size = 7 := rfl
 have f3 : #[(113 : UInt8), 117, 101, 114, 121, 32].size = 6 := rfl
 have f4 : #[(112 : UInt8), 114, 111, 118, 101, 32].size = 6 := rfl
 have f5 : #[(102 : UInt8), 111, 114, 32].size = 4 := rfl
 have f6 : #[(32 : UInt8)].size = 1 := rfl
 have f7 : #[(97 : UInt8), 117, 100, 105, 116].size = 5 := rfl
 have hout : ∀ s, outQ s = if decide (4096 < (s.size : Int)) = true then (noStr, 2) else (s, 0) := fun _ => rfl
 cases hc : checkQ q with
 | false =>
   have hN : printQ q = (noStr, 1) := by unfold printQ; rw [hc]; rfl
   repeat' (first | (with_reducible first | refine XG_split (fun hq => ?_) (fun hq => ?_) | refine MX1.of 4000 (by simp) ?_ | refine MX2.of 4000 (by simp) ?_ | refine And.intro ?_ ?_) | ((with_reducible first | refine Or.inl (And.intro (And.intro mixedP ?_) ?_) | refine Or.inl (And.intro mixedP ?_)); kernel_rfl) | simp only [go_sem,Nat.reduceEqDiff,Nat.reduceAdd,Nat.reduceMul,Nat.reduceLeDiff,Int.reduceBEq,Req.av,Req.ds,Lit.av,Lit.ds,Clause.av,Clause.ds,a1,a2,List.length_map,a0,hc])
   all_goals first | omega | exact ⟨hz1,hz2⟩ | exact ⟨hi1,hz1⟩ | exact ⟨hi2,hz2⟩ | exact ⟨hi3,rfl⟩ | exact hi3 | exact hi4 | exact hi1 | exact hi2 | exact hz1 | exact hz2 | exact ⟨hi3.1,hi3.2⟩ | skip
   all_goals first | omega | (unfold maxLen; omega) | (right; omega) | (left; simp; done) | (simp only [wk3,wkL2,wk2,wkL,wk1_d,wk1_own,wk1_nil,and_self]; done) | (intro i hi; simp only [upd]; (repeat' split); all_goals first | rfl | omega) | skip
   all_goals first | (rw [hN]; exact wk3_eq rfl) | trace_state
 | true =>
   have hN : printQ q = outQ (textQ q) := by unfold printQ; rw [hc, if_pos rfl]
   have hlab := check_label hc
   cases k1 : q.kind == 1 with
   | true =>
     have hl := hlab k1
     obtain ⟨t, ht⟩ : ∃ t, (printB q.clause).1 = t := ⟨_, rfl⟩
     rw [ht] at s1
     cases k2 : decide (0 < q.life) with
     | true =>
       have hT : textQ q = (⟨#[97, 115, 115, 101, 114, 116, 32]⟩ : ByteArray) ++ q.label ++ (⟨#[32]⟩ : ByteArray) ++ ((⟨#[102, 111, 114, 32]⟩ : ByteArray) ++ numText q.life ++ (⟨#[32]⟩ : ByteArray)) ++ t := by unfold textQ; rw [k1, k2, ht]; rfl
       cases hd : decide (4096 < ((textQ q).size : Int)) with
       | true =>
         have hN2 : printQ q = (noStr, 2) := by rw [hN, hout, hd]; rfl
         rw [hT] at hd
         try rw [hT] at hN2
         repeat' (first | (with_reducible first | refine XG_split (fun hq => ?_) (fun hq => ?_) | refine MX1.of 4000 (by simp) ?_ | refine MX2.of 4000 (by simp) ?_ | refine And.intro ?_ ?_) | ((with_reducible first | refine Or.inl (And.intro (And.intro mixedP ?_) ?_) | refine Or.inl (And.intro mixedP ?_)); kernel_rfl) | simp only [go_sem,Nat.reduceEqDiff,Nat.reduceAdd,Nat.reduceMul,Nat.reduceLeDiff,Int.reduceBEq,Req.av,Req.ds,Lit.av,Lit.ds,Clause.av,Clause.ds,a1,a2,List.length_map,a0,hc,k1,k2,hd,ht])
         all_goals try simp only [f1, f2, f3, f4, f5, f6, ByteArray.size_append, Int.natCast_add, g1, g2, g3, g4, g5, g6]
         all_goals first | omega | exact ⟨hz1,hz2⟩ | exact ⟨hi1,hz1⟩ | exact ⟨hi2,hz2⟩ | exact ⟨hi3,rfl⟩ | exact hi3 | exact hi4 | exact hi1 | exact hi2 | exact hz1 | exact hz2 | exact ⟨hi3.1,hi3.2⟩ | skip
         all_goals first | omega | (unfold maxLen; omega) | (right; omega) | (left; simp; done) | (simp only [wk3,wkL2,wk2,wkL,wk1_d,wk1_own,wk1_nil,and_self]; done) | (intro i hi; simp only [upd]; (repeat' split); all_goals first | rfl | omega) | skip
         all_goals first | (rw [hN2]; exact wk3_eq rfl) | (exfalso; simp only [ByteArray.size_append, Int.natCast_add, f1, f2, f3, f4, f5, f6, g1, g2, g3, g4, g5, g6, decide_eq_true_eq, decide_eq_false_iff_not] at hd hq; omega) | trace_state
       | false =>
         have hN2 : printQ q = (textQ q, 0) := by rw [hN, hout, hd]; rfl
         rw [hT] at hd
         try rw [hT] at hN2
         repeat' (first | (with_reducible first | refine XG_split (fun hq => ?_) (fun hq => ?_) | refine MX1.of 4000 (by simp) ?_ | refine MX2.of 4000 (by simp) ?_ | refine And.intro ?_ ?_) | ((with_reducible first | refine Or.inl (And.intro (And.intro mixedP ?_) ?_) | refine Or.inl (And.intro mixedP ?_)); kernel_rfl) | simp only [go_sem,Nat.reduceEqDiff,Nat.reduceAdd,Nat.reduceMul,Nat.reduceLeDiff,Int.reduceBEq,Req.av,Req.ds,Lit.av,Lit.ds,Clause.av,Clause.ds,a1,a2,List.length_map,a0,hc,k1,k2,hd,ht])
         all_goals try simp only [f1, f2, f3, f4, f5, f6, ByteArray.size_append, Int.natCast_add, g1, g2, g3, g4, g5, g6]
         all_goals first | omega | exact ⟨hz1,hz2⟩ | exact ⟨hi1,hz1⟩ | exact ⟨hi2,hz2⟩ | exact ⟨hi3,rfl⟩ | exact hi3 | exact hi4 | exact hi1 | exact hi2 | exact hz1 | exact hz2 | exact ⟨hi3.1,hi3.2⟩ | skip
         all_goals first | omega | (unfold maxLen; omega) | (right; omega) | (left; simp; done) | (simp only [wk3,wkL2,wk2,wkL,wk1_d,wk1_own,wk1_nil,and_self]; done) | (intro i hi; simp only [upd]; (repeat' split); all_goals first | rfl | omega) | skip
         all_goals first | (rw [hN2]; exact wk3_eq rfl) | (exfalso; simp only [ByteArray.size_append, Int.natCast_add, f1, f2, f3, f4, f5, f6, g1, g2, g3, g4, g5, g6, decide_eq_true_eq, decide_eq_false_iff_not] at hd hq; omega) | trace_state
     | false =>
       have hT : textQ q = (⟨#[97, 115, 115, 101, 114, 116, 32]⟩ : ByteArray) ++ q.label ++ (⟨#[32]⟩ : ByteArray) ++ t := by unfold textQ; rw [k1, k2, ht]; rfl
       cases hd : decide (4096 < ((textQ q).size : Int)) with
       | true =>
         have hN2 : printQ q = (noStr, 2) := by rw [hN, hout, hd]; rfl
         rw [hT] at hd
         try rw [hT] at hN2
         repeat' (first | (with_reducible first | refine XG_split (fun hq => ?_) (fun hq => ?_) | refine MX1.of 4000 (by simp) ?_ | refine MX2.of 4000 (by simp) ?_ | refine And.intro ?_ ?_) | ((with_reducible first | refine Or.inl (And.intro (And.intro mixedP ?_) ?_) | refine Or.inl (And.intro mixedP ?_)); kernel_rfl) | simp only [go_sem,Nat.reduceEqDiff,Nat.reduceAdd,Nat.reduceMul,Nat.reduceLeDiff,Int.reduceBEq,Req.av,Req.ds,Lit.av,Lit.ds,Clause.av,Clause.ds,a1,a2,List.length_map,a0,hc,k1,k2,hd,ht])
         all_goals try simp only [f1, f2, f3, f4, f5, f6, ByteArray.size_append, Int.natCast_add, g1, g2, g3, g4, g5, g6]
         all_goals first | omega | exact ⟨hz1,hz2⟩ | exact ⟨hi1,hz1⟩ | exact ⟨hi2,hz2⟩ | exact ⟨hi3,rfl⟩ | exact hi3 | exact hi4 | exact hi1 | exact hi2 | exact hz1 | exact hz2 | exact ⟨hi3.1,hi3.2⟩ | skip
         all_goals first | omega | (unfold maxLen; omega) | (right; omega) | (left; simp; done) | (simp only [wk3,wkL2,wk2,wkL,wk1_d,wk1_own,wk1_nil,and_self]; done) | (intro i hi; simp only [upd]; (repeat' split); all_goals first | rfl | omega) | skip
         all_goals first | (rw [hN2]; exact wk3_eq rfl) | (exfalso; simp only [ByteArray.size_append, Int.natCast_add, f1, f2, f3, f4, f5, f6, g1, g2, g3, g4, g5, g6, decide_eq_true_eq, decide_eq_false_iff_not] at hd hq; omega) | trace_state
       | false =>
         have hN2 : printQ q = (textQ q, 0) := by rw [hN, hout, hd]; rfl
         rw [hT] at hd
         try rw [hT] at hN2
         repeat' (first | (with_reducible first | refine XG_split (fun hq => ?_) (fun hq => ?_) | refine MX1.of 4000 (by simp) ?_ | refine MX2.of 4000 (by simp) ?_ | refine And.intro ?_ ?_) | ((with_reducible first | refine Or.inl (And.intro (And.intro mixedP ?_) ?_) | refine Or.inl (And.intro mixedP ?_)); kernel_rfl) | simp only [go_sem,Nat.reduceEqDiff,Nat.reduceAdd,Nat.reduceMul,Nat.reduceLeDiff,Int.reduceBEq,Req.av,Req.ds,Lit.av,Lit.ds,Clause.av,Clause.ds,a1,a2,List.length_map,a0,hc,k1,k2,hd,ht])
         all_goals try simp only [f1, f2, f3, f4, f5, f6, ByteArray.size_append, Int.natCast_add, g1, g2, g3, g4, g5, g6]
         all_goals first | omega | exact ⟨hz1,hz2⟩ | exact ⟨hi1,hz1⟩ | exact ⟨hi2,hz2⟩ | exact ⟨hi3,rfl⟩ | exact hi3 | exact hi4 | exact hi1 | exact hi2 | exact hz1 | exact hz2 | exact ⟨hi3.1,hi3.2⟩ | skip
         all_goals first | omega | (unfold maxLen; omega) | (right; omega) | (left; simp; done) | (simp only [wk3,wkL2,wk2,wkL,wk1_d,wk1_own,wk1_nil,and_self]; done) | (intro i hi; simp only [upd]; (repeat' split); all_goals first | rfl | omega) | skip
         all_goals first | (rw [hN2]; exact wk3_eq rfl) | (exfalso; simp only [ByteArray.size_append, Int.natCast_add, f1, f2, f3, f4, f5, f6, g1, g2, g3, g4, g5, g6, decide_eq_true_eq, decide_eq_false_iff_not] at hd hq; omega) | trace_state
   | false =>
     cases k2 : q.kind == 2 with
     | true =>
       have hT : textQ q = (⟨#[114, 101, 118, 111, 107, 101, 32]⟩ : ByteArray) ++ numText q.no := by unfold textQ; rw [k1, k2]; rfl
       cases hd : decide (4096 < ((textQ q).size : Int)) with
       | true =>
         have hN2 : printQ q = (noStr, 2) := by rw [hN, hout, hd]; rfl
         rw [hT] at hd
         try rw [hT] at hN2
         repeat' (first | (with_reducible first | refine XG_split (fun hq => ?_) (fun hq => ?_) | refine MX1.of 4000 (by simp) ?_ | refine MX2.of 4000 (by simp) ?_ | refine And.intro ?_ ?_) | ((with_reducible first | refine Or.inl (And.intro (And.intro mixedP ?_) ?_) | refine Or.inl (And.intro mixedP ?_)); kernel_rfl) | simp only [go_sem,Nat.reduceEqDiff,Nat.reduceAdd,Nat.reduceMul,Nat.reduceLeDiff,Int.reduceBEq,Req.av,Req.ds,Lit.av,Lit.ds,Clause.av,Clause.ds,a1,a2,List.length_map,a0,hc,k1,k2,hd])
         all_goals try simp only [f1, f2, f3, f4, f5, f6, ByteArray.size_append, Int.natCast_add, g1, g2, g3, g4, g5, g6]
         all_goals first | omega | exact ⟨hz1,hz2⟩ | exact ⟨hi1,hz1⟩ | exact ⟨hi2,hz2⟩ | exact ⟨hi3,rfl⟩ | exact hi3 | exact hi4 | exact hi1 | exact hi2 | exact hz1 | exact hz2 | exact ⟨hi3.1,hi3.2⟩ | skip
         all_goals first | omega | (unfold maxLen; omega) | (right; omega) | (left; simp; done) | (simp only [wk3,wkL2,wk2,wkL,wk1_d,wk1_own,wk1_nil,and_self]; done) | (intro i hi; simp only [upd]; (repeat' split); all_goals first | rfl | omega) | skip
         all_goals first | (rw [hN2]; exact wk3_eq rfl) | (exfalso; simp only [ByteArray.size_append, Int.natCast_add, f1, f2, f3, f4, f5, f6, g1, g2, g3, g4, g5, g6, decide_eq_true_eq, decide_eq_false_iff_not] at hd hq; omega) | trace_state
       | false =>
         have hN2 : printQ q = (textQ q, 0) := by rw [hN, hout, hd]; rfl
         rw [hT] at hd
         try rw [hT] at hN2
         repeat' (first | (with_reducible first | refine XG_split (fun hq => ?_) (fun hq => ?_) | refine MX1.of 4000 (by simp) ?_ | refine MX2.of 4000 (by simp) ?_ | refine And.intro ?_ ?_) | ((with_reducible first | refine Or.inl (And.intro (And.intro mixedP ?_) ?_) | refine Or.inl (And.intro mixedP ?_)); kernel_rfl) | simp only [go_sem,Nat.reduceEqDiff,Nat.reduceAdd,Nat.reduceMul,Nat.reduceLeDiff,Int.reduceBEq,Req.av,Req.ds,Lit.av,Lit.ds,Clause.av,Clause.ds,a1,a2,List.length_map,a0,hc,k1,k2,hd])
         all_goals try simp only [f1, f2, f3, f4, f5, f6, ByteArray.size_append, Int.natCast_add, g1, g2, g3, g4, g5, g6]
         all_goals first | omega | exact ⟨hz1,hz2⟩ | exact ⟨hi1,hz1⟩ | exact ⟨hi2,hz2⟩ | exact ⟨hi3,rfl⟩ | exact hi3 | exact hi4 | exact hi1 | exact hi2 | exact hz1 | exact hz2 | exact ⟨hi3.1,hi3.2⟩ | skip
         all_goals first | omega | (unfold maxLen; omega) | (right; omega) | (left; simp; done) | (simp only [wk3,wkL2,wk2,wkL,wk1_d,wk1_own,wk1_nil,and_self]; done) | (intro i hi; simp only [upd]; (repeat' split); all_goals first | rfl | omega) | skip
         all_goals first | (rw [hN2]; exact wk3_eq rfl) | (exfalso; simp only [ByteArray.size_append, Int.natCast_add, f1, f2, f3, f4, f5, f6, g1, g2, g3, g4, g5, g6, decide_eq_true_eq, decide_eq_false_iff_not] at hd hq; omega) | trace_state
     | false =>
       cases k3 : q.kind == 3 with
       | true =>
         have k4 : (q.kind == 4) = false := by rw [beq_iff_eq] at k3; rw [k3]; rfl
         obtain ⟨t, ht⟩ : ∃ t, (printLitB q.lit).1 = t := ⟨_, rfl⟩
         rw [ht] at s2
         have hT : textQ q = (⟨#[113, 117, 101, 114, 121, 32]⟩ : ByteArray) ++ t := by unfold textQ; rw [k1, k2, k3, ht]; rfl
         cases hd : decide (4096 < ((textQ q).size : Int)) with
         | true =>
           have hN2 : printQ q = (noStr, 2) := by rw [hN, hout, hd]; rfl
           rw [hT] at hd
           try rw [hT] at hN2
           repeat' (first | (with_reducible first | refine XG_split (fun hq => ?_) (fun hq => ?_) | refine MX1.of 4000 (by simp) ?_ | refine MX2.of 4000 (by simp) ?_ | refine And.intro ?_ ?_) | ((with_reducible first | refine Or.inl (And.intro (And.intro mixedP ?_) ?_) | refine Or.inl (And.intro mixedP ?_)); kernel_rfl) | simp only [go_sem,Nat.reduceEqDiff,Nat.reduceAdd,Nat.reduceMul,Nat.reduceLeDiff,Int.reduceBEq,Req.av,Req.ds,Lit.av,Lit.ds,Clause.av,Clause.ds,a1,a2,List.length_map,a0,hc,k1,k2,k3,k4,hd,ht])
           all_goals try simp only [f1, f2, f3, f4, f5, f6, ByteArray.size_append, Int.natCast_add, g1, g2, g3, g4, g5, g6]
           all_goals first | omega | exact ⟨hz1,hz2⟩ | exact ⟨hi1,hz1⟩ | exact ⟨hi2,hz2⟩ | exact ⟨hi3,rfl⟩ | exact hi3 | exact hi4 | exact hi1 | exact hi2 | exact hz1 | exact hz2 | exact ⟨hi3.1,hi3.2⟩ | skip
           all_goals first | omega | (unfold maxLen; omega) | (right; omega) | (left; simp; done) | (simp only [wk3,wkL2,wk2,wkL,wk1_d,wk1_own,wk1_nil,and_self]; done) | (intro i hi; simp only [upd]; (repeat' split); all_goals first | rfl | omega) | skip
           all_goals first | (rw [hN2]; exact wk3_eq rfl) | (exfalso; simp only [ByteArray.size_append, Int.natCast_add, f1, f2, f3, f4, f5, f6, g1, g2, g3, g4, g5, g6, decide_eq_true_eq, decide_eq_false_iff_not] at hd hq; omega) | trace_state
         | false =>
           have hN2 : printQ q = (textQ q, 0) := by rw [hN, hout, hd]; rfl
           rw [hT] at hd
           try rw [hT] at hN2
           repeat' (first | (with_reducible first | refine XG_split (fun hq => ?_) (fun hq => ?_) | refine MX1.of 4000 (by simp) ?_ | refine MX2.of 4000 (by simp) ?_ | refine And.intro ?_ ?_) | ((with_reducible first | refine Or.inl (And.intro (And.intro mixedP ?_) ?_) | refine Or.inl (And.intro mixedP ?_)); kernel_rfl) | simp only [go_sem,Nat.reduceEqDiff,Nat.reduceAdd,Nat.reduceMul,Nat.reduceLeDiff,Int.reduceBEq,Req.av,Req.ds,Lit.av,Lit.ds,Clause.av,Clause.ds,a1,a2,List.length_map,a0,hc,k1,k2,k3,k4,hd,ht])
           all_goals try simp only [f1, f2, f3, f4, f5, f6, ByteArray.size_append, Int.natCast_add, g1, g2, g3, g4, g5, g6]
           all_goals first | omega | exact ⟨hz1,hz2⟩ | exact ⟨hi1,hz1⟩ | exact ⟨hi2,hz2⟩ | exact ⟨hi3,rfl⟩ | exact hi3 | exact hi4 | exact hi1 | exact hi2 | exact hz1 | exact hz2 | exact ⟨hi3.1,hi3.2⟩ | skip
           all_goals first | omega | (unfold maxLen; omega) | (right; omega) | (left; simp; done) | (simp only [wk3,wkL2,wk2,wkL,wk1_d,wk1_own,wk1_nil,and_self]; done) | (intro i hi; simp only [upd]; (repeat' split); all_goals first | rfl | omega) | skip
           all_goals first | (rw [hN2]; exact wk3_eq rfl) | (exfalso; simp only [ByteArray.size_append, Int.natCast_add, f1, f2, f3, f4, f5, f6, g1, g2, g3, g4, g5, g6, decide_eq_true_eq, decide_eq_false_iff_not] at hd hq; omega) | trace_state
       | false =>
         cases k4 : q.kind == 4 with
         | true =>
           obtain ⟨t, ht⟩ : ∃ t, (printLitB q.lit).1 = t := ⟨_, rfl⟩
           rw [ht] at s2
           have hT : textQ q = (⟨#[112, 114, 111, 118, 101, 32]⟩ : ByteArray) ++ t := by unfold textQ; rw [k1, k2, k3, k4, ht]; rfl
           cases hd : decide (4096 < ((textQ q).size : Int)) with
           | true =>
             have hN2 : printQ q = (noStr, 2) := by rw [hN, hout, hd]; rfl
             rw [hT] at hd
             try rw [hT] at hN2
             repeat' (first | (with_reducible first | refine XG_split (fun hq => ?_) (fun hq => ?_) | refine MX1.of 4000 (by simp) ?_ | refine MX2.of 4000 (by simp) ?_ | refine And.intro ?_ ?_) | ((with_reducible first | refine Or.inl (And.intro (And.intro mixedP ?_) ?_) | refine Or.inl (And.intro mixedP ?_)); kernel_rfl) | simp only [go_sem,Nat.reduceEqDiff,Nat.reduceAdd,Nat.reduceMul,Nat.reduceLeDiff,Int.reduceBEq,Req.av,Req.ds,Lit.av,Lit.ds,Clause.av,Clause.ds,a1,a2,List.length_map,a0,hc,k1,k2,k3,k4,hd,ht])
             all_goals try simp only [f1, f2, f3, f4, f5, f6, ByteArray.size_append, Int.natCast_add, g1, g2, g3, g4, g5, g6]
             all_goals first | omega | exact ⟨hz1,hz2⟩ | exact ⟨hi1,hz1⟩ | exact ⟨hi2,hz2⟩ | exact ⟨hi3,rfl⟩ | exact hi3 | exact hi4 | exact hi1 | exact hi2 | exact hz1 | exact hz2 | exact ⟨hi3.1,hi3.2⟩ | skip
             all_goals first | omega | (unfold maxLen; omega) | (right; omega) | (left; simp; done) | (simp only [wk3,wkL2,wk2,wkL,wk1_d,wk1_own,wk1_nil,and_self]; done) | (intro i hi; simp only [upd]; (repeat' split); all_goals first | rfl | omega) | skip
             all_goals first | (rw [hN2]; exact wk3_eq rfl) | (exfalso; simp only [ByteArray.size_append, Int.natCast_add, f1, f2, f3, f4, f5, f6, g1, g2, g3, g4, g5, g6, decide_eq_true_eq, decide_eq_false_iff_not] at hd hq; omega) | trace_state
           | false =>
             have hN2 : printQ q = (textQ q, 0) := by rw [hN, hout, hd]; rfl
             rw [hT] at hd
             try rw [hT] at hN2
             repeat' (first | (with_reducible first | refine XG_split (fun hq => ?_) (fun hq => ?_) | refine MX1.of 4000 (by simp) ?_ | refine MX2.of 4000 (by simp) ?_ | refine And.intro ?_ ?_) | ((with_reducible first | refine Or.inl (And.intro (And.intro mixedP ?_) ?_) | refine Or.inl (And.intro mixedP ?_)); kernel_rfl) | simp only [go_sem,Nat.reduceEqDiff,Nat.reduceAdd,Nat.reduceMul,Nat.reduceLeDiff,Int.reduceBEq,Req.av,Req.ds,Lit.av,Lit.ds,Clause.av,Clause.ds,a1,a2,List.length_map,a0,hc,k1,k2,k3,k4,hd,ht])
             all_goals try simp only [f1, f2, f3, f4, f5, f6, ByteArray.size_append, Int.natCast_add, g1, g2, g3, g4, g5, g6]
             all_goals first | omega | exact ⟨hz1,hz2⟩ | exact ⟨hi1,hz1⟩ | exact ⟨hi2,hz2⟩ | exact ⟨hi3,rfl⟩ | exact hi3 | exact hi4 | exact hi1 | exact hi2 | exact hz1 | exact hz2 | exact ⟨hi3.1,hi3.2⟩ | skip
             all_goals first | omega | (unfold maxLen; omega) | (right; omega) | (left; simp; done) | (simp only [wk3,wkL2,wk2,wkL,wk1_d,wk1_own,wk1_nil,and_self]; done) | (intro i hi; simp only [upd]; (repeat' split); all_goals first | rfl | omega) | skip
             all_goals first | (rw [hN2]; exact wk3_eq rfl) | (exfalso; simp only [ByteArray.size_append, Int.natCast_add, f1, f2, f3, f4, f5, f6, g1, g2, g3, g4, g5, g6, decide_eq_true_eq, decide_eq_false_iff_not] at hd hq; omega) | trace_state
         | false =>
           cases k5 : q.kind == 5 with
           | true =>
             have hT : textQ q = (⟨#[97, 117, 100, 105, 116]⟩ : ByteArray) := by unfold textQ; rw [k1, k2, k3, k4, k5]; rfl
             have hN2 : printQ q = ((⟨#[97, 117, 100, 105, 116]⟩ : ByteArray), 0) := by rw [hN, hT]; rfl
             repeat' (first | (with_reducible first | refine XG_split (fun hq => ?_) (fun hq => ?_) | refine MX1.of 4000 (by simp) ?_ | refine MX2.of 4000 (by simp) ?_ | refine And.intro ?_ ?_) | ((with_reducible first | refine Or.inl (And.intro (And.intro mixedP ?_) ?_) | refine Or.inl (And.intro mixedP ?_)); kernel_rfl) | simp only [go_sem,Nat.reduceEqDiff,Nat.reduceAdd,Nat.reduceMul,Nat.reduceLeDiff,Int.reduceBEq,Req.av,Req.ds,Lit.av,Lit.ds,Clause.av,Clause.ds,a1,a2,List.length_map,a0,hc,k1,k2,k3,k4,k5])
             all_goals first | omega | exact ⟨hz1,hz2⟩ | exact ⟨hi1,hz1⟩ | exact ⟨hi2,hz2⟩ | exact ⟨hi3,rfl⟩ | exact hi3 | exact hi4 | exact hi1 | exact hi2 | exact hz1 | exact hz2 | exact ⟨hi3.1,hi3.2⟩ | skip
             all_goals first | omega | (unfold maxLen; omega) | (right; omega) | (left; simp; done) | (simp only [wk3,wkL2,wk2,wkL,wk1_d,wk1_own,wk1_nil,and_self]; done) | (intro i hi; simp only [upd]; (repeat' split); all_goals first | rfl | omega) | skip
             all_goals first | (exfalso; simp only [f7, decide_eq_true_eq] at hq; omega) | (rw [hN2]; exact wk3_eq rfl) | trace_state
           | false =>
             exfalso
             unfold checkQ at hc
             rw [k1, k2, k3, k4, k5] at hc
             cases hc
end Go.Proofs.YtfhpecgknmfnnaaDoor.M
end
section
namespace Go.Proofs.YtfhpecgknmfnnaaDoor.M
open Go.R
def restQ (q : Req) : Req :=
 if (q.kind == 1) = true then ⟨q.kind, q.label, q.life, q.clause, 0, Lit.z⟩
 else if (q.kind == 2) = true then ⟨q.kind, noStr, 0, Clause.z, q.no, Lit.z⟩
 else if (q.kind == 3 || q.kind == 4) = true then ⟨q.kind, noStr, 0, Clause.z, 0, q.lit⟩
 else ⟨q.kind, noStr, 0, Clause.z, 0, Lit.z⟩
def mayQ (q : Req) : Bool :=
 if (q.kind == 1) = true then checkB q.clause && (nameB q.label && (decide (0 ≤ q.life) && decide (q.life ≤ maxTick)))
 else if (q.kind == 2) = true then decide (1 ≤ q.no) && decide (q.no ≤ maxTick)
 else if (q.kind == 3 || q.kind == 4) = true then checkLitB q.lit
 else if (q.kind == 5) = true then true else false
theorem noneB_iff (l : Lit) : noneB l = true ↔ l = Lit.z := by
 obtain ⟨k, ⟨v, ⟨a, m⟩⟩, p, l⟩ := l
 unfold noneB Lit.z Term.z Val.z
 simp only [Bool.and_eq_true, beq_iff_eq, Lit.mk.injEq, Term.mk.injEq, Val.mk.injEq, List.length_eq_zero_iff]
 have e : ∀ s : ByteArray, s.size = 0 ↔ s = noStr := fun s => ⟨fun h => ByteArray.ext (Array.eq_empty_of_size_eq_zero h), fun h => by rw [h]; rfl⟩
 rw [e, e, e]
 constructor
 · rintro ⟨h1, h2, ⟨h3, h4, h5⟩, h6⟩
   exact ⟨h1, ⟨h3, h4, h5⟩, h2, h6⟩
 · rintro ⟨h1, ⟨h3, h4, h5⟩, h2, h6⟩
   exact ⟨h1, h2, ⟨h3, h4, h5⟩, h6⟩
theorem size_zero (s : ByteArray) : s.size = 0 ↔ s = noStr := by
 exact ⟨fun h => ByteArray.ext (Array.eq_empty_of_size_eq_zero h), fun h => by rw [h]; rfl⟩
theorem bareB_iff (q : Req) : bareB q = true ↔ q.label = noStr ∧ q.life = 0 ∧ q.no = 0 ∧ q.lit = Lit.z ∧ q.clause.head = Lit.z ∧ q.clause.body = [] := by
 unfold bareB
 simp only [Bool.and_eq_true, noneB_iff, beq_iff_eq, List.length_eq_zero_iff, size_zero]
theorem eqB_iff {α : Type} (a b : α) : eqB a b = true ↔ a = b := by
 constructor
 · intro h
   by_cases e : a = b
   · exact e
   · rw [eqB_false e] at h; cases h
 · intro h
   rw [h, eqB_true rfl]
theorem check_may (q : Req) : (mayQ q && eqB q (restQ q)) = checkQ q := by
 rw [Bool.eq_iff_iff, Bool.and_eq_true, eqB_iff]
 obtain ⟨k, l, f, c, m, t⟩ := q
 unfold mayQ restQ checkQ
 cases k1 : k == 1 with
 | true =>
   simp only [k1, if_true, Bool.and_eq_true, bareB_iff, Req.mk.injEq]
   constructor
   · rintro ⟨⟨h1, h2, h3, h4⟩, -, -, -, -, h5, h6⟩
     exact ⟨⟨(by trivial), (by trivial), h5, h6, (by trivial), (by trivial)⟩, h2, h3, h4, h1⟩
   · rintro ⟨⟨-, -, h5, h6, -, -⟩, h2, h3, h4, h1⟩
     exact ⟨⟨h1, h2, h3, h4⟩, (by trivial), (by trivial), (by trivial), (by trivial), h5, h6⟩
 | false =>
   cases k2 : k == 2 with
   | true =>
     simp only [k1, k2, if_true, Bool.false_eq_true, if_false, Bool.and_eq_true, bareB_iff, Req.mk.injEq]
     constructor
     · rintro ⟨⟨h1, h2⟩, -, rfl, rfl, rfl, -, rfl⟩
       exact ⟨⟨(by trivial), (by trivial), (by trivial), (by trivial), (by trivial), (by trivial)⟩, h1, h2⟩
     · rintro ⟨⟨rfl, rfl, -, rfl, h5, h6⟩, h1, h2⟩
       refine ⟨⟨h1, h2⟩, (by trivial), (by trivial), (by trivial), ?_, (by trivial), (by trivial)⟩
       obtain ⟨a, b⟩ := c
       simp only at h5 h6
       rw [h5, h6]
       rfl
   | false =>
     cases k3 : k == 3 || k == 4 with
     | true =>
       simp only [k1, k2, k3, if_true, Bool.false_eq_true, if_false, Bool.and_eq_true, bareB_iff, Req.mk.injEq]
       constructor
       · rintro ⟨h1, -, rfl, rfl, rfl, rfl, -⟩
         exact ⟨⟨(by trivial), (by trivial), (by trivial), (by trivial), (by trivial), (by trivial)⟩, h1⟩
       · rintro ⟨⟨rfl, rfl, rfl, -, h5, h6⟩, h1⟩
         refine ⟨h1, (by trivial), (by trivial), (by trivial), ?_, (by trivial), (by trivial)⟩
         obtain ⟨a, b⟩ := c
         simp only at h5 h6
         rw [h5, h6]
         rfl
     | false =>
       cases k5 : k == 5 with
       | true =>
         simp only [k1, k2, k3, k5, if_true, Bool.false_eq_true, if_false, Bool.and_eq_true, bareB_iff, Req.mk.injEq]
         constructor
         · rintro ⟨-, -, rfl, rfl, rfl, rfl, rfl⟩
           exact ⟨(by trivial), (by trivial), (by trivial), (by trivial), (by trivial), (by trivial)⟩
         · rintro ⟨rfl, rfl, rfl, rfl, h5, h6⟩
           refine ⟨trivial, (by trivial), (by trivial), (by trivial), ?_, (by trivial), (by trivial)⟩
           obtain ⟨a, b⟩ := c
           simp only at h5 h6
           rw [h5, h6]
           rfl
       | false =>
         simp only [k1, k2, k3, k5, Bool.false_eq_true, if_false, false_and]
end Go.Proofs.YtfhpecgknmfnnaaDoor.M
end
section
namespace Go.Proofs.YtfhpecgknmfnnaaDoor.M
open Go.R
section
variable {P : Program} {E : EqT P} {F : Ft}
theorem of_Y0 {r : AV} {f : FuncId} {fn : Func} {code : Code} (hf : P.funcs[f]? = some fn) (hbody : fn.body = some code) (hn : (fn.name == "runtime.NumGoroutine") = false)
 (rs : List ResultVar) {nt : Nat} (hrs : fn.results = rs.toArray) (hnt : fn.ntmps = nt) (hl : nt ≤ 900000) (hF : FtOk P F)
 (H : ∀ h n, HOk n h → X E F [] (FinP P rs n h r) 4000 (.code code) [] ⟨List.replicate nt .any, h, n, n⟩) : FsOk P f (.pure (g0 r)) := by
 refine FsOk.of_XP (E := E) _ hf hbody hn hrs hnt hF (fun _ _ _ => rfl) ?_
 intro args h n r' hp hS hok
 cases args with
 | nil =>
   cases hS
   exact ⟨[], trivial, ⟨hl, by simp⟩, H h n hok⟩
 | cons a l => cases hS
end
abbrev fixedS : Fs := .pure (g0 (vB true))
theorem tup_of {α : Type} {x : α × Int × Int} {p q : Int} (h : x.2 = (p, q)) : x = (x.1, p, q) := by
 obtain ⟨a, b, c⟩ := x
 cases h
 rfl
theorem fx1 : ∃ q, reqA (⟨#[97, 115, 115, 101, 114, 116, 32, 108, 111, 119, 32, 102, 111, 114, 32, 53, 32, 112, 40, 97, 41, 46]⟩ : ByteArray) = (q, 0, 0) ∧ q.life = 5 ∧ q.clause.head.pred = (⟨#[112]⟩ : ByteArray) ∧ printQ q = ((⟨#[97, 115, 115, 101, 114, 116, 32, 108, 111, 119, 32, 102, 111, 114, 32, 53, 32, 112, 40, 97, 41, 46]⟩ : ByteArray), 0) ∧ checkQ q = true ∧ reqI q ∧ szQ q := by
 refine ⟨_, tup_of (by decide +kernel), by decide +kernel, by decide +kernel, by decide +kernel, by decide +kernel, ?_, ?_⟩
 · unfold reqI clauseI litI tI i64
   decide +kernel
 · unfold szQ szC szL szT szS
   decide +kernel
theorem fx2 : ∃ q, reqA (⟨#[97, 115, 115, 101, 114, 116, 32, 108, 111, 119, 32, 102, 111, 114, 40, 88, 41, 32, 58, 45, 32, 112, 40, 88, 41, 46]⟩ : ByteArray) = (q, 0, 0) ∧ q.clause.head.pred = (⟨#[102, 111, 114]⟩ : ByteArray) := ⟨_, tup_of (by decide +kernel), by decide +kernel⟩
theorem fx3 : ∃ q, reqA (⟨#[113, 117, 101, 114, 121, 32, 112, 40, 88]⟩ : ByteArray) = (q, 9, 6) := ⟨_, tup_of (by decide +kernel)⟩
theorem fx4 : ∃ q, reqA (⟨#[114, 101, 118, 111, 107, 101, 32, 48]⟩ : ByteArray) = (q, 7, 6) := ⟨_, tup_of (by decide +kernel)⟩
theorem fx5 : ∃ q, reqA (⟨#[97, 117, 100, 105, 116, 32, 110, 111, 119]⟩ : ByteArray) = (q, 6, 6) := ⟨_, tup_of (by decide +kernel)⟩
set_option maxRecDepth 20000 in
set_option maxHeartbeats 8000000 in
theorem fixed_ok : FsOk Tryd.prog 5 fixedS := by
 refine of_Y0 (E := EqT.no _) (F := ((Ft.no.put 8 preqS).put 6 printQS).put 10 checkQS) Tryd.func5 rfl (by kernel_rfl) [.tmp 0] rfl Tryd.ntmps5 (by decide) ((((FtOk.no _).put preq_ok).put printQ_ok).put checkQ_ok) ?_
 intro h n hok
 obtain ⟨q1, h1, l1, d1, p1, k1, i1, z1⟩ := fx1
 obtain ⟨q2, h2, d2⟩ := fx2
 obtain ⟨q3, h3⟩ := fx3
 obtain ⟨q4, h4⟩ := fx4
 obtain ⟨q5, h5⟩ := fx5
 have a0 : (⟨q1.kind, q1.label, 5, ⟨⟨q1.clause.head.kind, ⟨q1.clause.head.who.var, ⟨q1.clause.head.who.val.sym, q1.clause.head.who.val.num⟩⟩, (⟨#[112]⟩ : ByteArray), q1.clause.head.args⟩, q1.clause.body⟩, q1.no, ⟨q1.lit.kind, ⟨q1.lit.who.var, ⟨q1.lit.who.val.sym, q1.lit.who.val.num⟩⟩, q1.lit.pred, q1.lit.args⟩⟩ : Req) = q1 := by
  rw [← l1, ← d1]
 repeat' (first | (with_reducible first | refine XG_split (fun hq => ?_) (fun hq => ?_) | refine MX1.of 4000 (by simp) ?_ | refine MX2.of 4000 (by simp) ?_ | refine And.intro ?_ ?_) | ((with_reducible first | refine Or.inl (And.intro (And.intro mixedP ?_) ?_) | refine Or.inl (And.intro mixedP ?_)); kernel_rfl) | simp only [go_sem,Nat.reduceEqDiff,Nat.reduceAdd,Nat.reduceMul,Nat.reduceLeDiff,Int.reduceBEq,Req.av,Req.ds,h1,l1,d1,p1,k1,a0,h2,d2,h3,h4,h5,beq_self_eq_true])
 all_goals first | exact ⟨i1, z1⟩ | exact z1 | (show (_ : Int) ≤ _; decide) | skip
 all_goals try refine agree.upd (by omega) ?_
 all_goals first | omega | (unfold maxLen; omega) | (right; omega) | (left; simp; done) | (simp only [wk3,wkL2,wk2,wkL,wk1_d,wk1_own,wk1_nil,and_self]; done) | (intro i hi; simp only [upd]; (repeat' split); all_goals first | rfl | omega) | skip
theorem clauseA_small (s : ByteArray) : smallC (clauseA s).1 := by
 unfold clauseA
 cases h : parseP s with
 | error q =>
   obtain ⟨p, x⟩ := q
   exact ⟨Nat.zero_le _, Nat.zero_le _, fun l hl => absurd hl List.not_mem_nil⟩
 | ok c =>
   obtain ⟨h1, h2, h3⟩ := parse_small h
   have h1 : c.body.length ≤ 6 := h1
   have h2 : c.head.args.length ≤ 4 := h2
   exact ⟨by show c.body.length ≤ _; omega, by show c.head.args.length ≤ _; omega, fun l hl => by have := h3 l hl; omega⟩
theorem litA_small (s : ByteArray) : (litA s).1.args.length ≤ 4611686018427387904 := by
 unfold litA
 cases h : parseLitP s with
 | error q =>
   obtain ⟨p, x⟩ := q
   exact Nat.zero_le _
 | ok r =>
   have h1 := parseLit_small h
   show r.2.2.length ≤ _
   omega
theorem z_small : smallC Clause.z := ⟨Nat.zero_le _, Nat.zero_le _, fun l hl => absurd hl List.not_mem_nil⟩
theorem zR_small : smallR Req.z := ⟨z_small, Nat.zero_le _⟩
theorem li_small (k : Int) (T : List Tok) (s : ByteArray) : smallR (liT k T s).1 := by
 unfold liT
 split
 · exact zR_small
 · exact ⟨z_small, litA_small _⟩
theorem as1_small (T : List Tok) (l s : ByteArray) (f p : Int) : smallR (asAns l f p (clauseA s)).1 := by
 unfold asAns
 split
 · exact zR_small
 · exact ⟨clauseA_small _, Nat.zero_le _⟩
theorem as_small (T : List Tok) (s : ByteArray) : smallR (asT T s).1 := by
 unfold asT
 split
 · exact zR_small
 · split
   · split
     · exact zR_small
     · exact as1_small T _ _ _ _
   · exact as1_small T _ _ _ _
theorem req_small (s : ByteArray) : smallR (reqA s).1 := by
 unfold reqA
 split
 · exact zR_small
 · unfold reqT
   split
   · exact as_small _ _
   · split
     · unfold reT
       split
       · exact zR_small
       · split
         · exact zR_small
         · exact ⟨z_small, Nat.zero_le _⟩
     · split
       · exact li_small _ _ _
       · split
         · exact li_small _ _ _
         · split
           · unfold auT
             split
             · exact zR_small
             · exact ⟨z_small, Nat.zero_le _⟩
           · exact zR_small
theorem eqB_self {α : Type} (a : α) : eqB a a = true := eqB_true rfl
def allQ (q : Req) : Prop := copyR q ∧ reqI q ∧ szQ q ∧ q.label.size ≤ 1099511627776
theorem all_small {q : Req} (h : allQ q) : smallR q := by
 obtain ⟨⟨⟨h1, h2, h3⟩, h4⟩, -⟩ := h
 exact ⟨⟨by omega, by omega, fun l hl => by have := h3 l hl; omega⟩, by omega⟩
end Go.Proofs.YtfhpecgknmfnnaaDoor.M
end
section
namespace Go.R
open Go.RowKit Go.ChangeShapes Go.WideShapes
def Cx.fast (w : World) : Cx := ⟨fun b => if b < w.heap.size then none else some 0, fun _ => 0, fun _ => (none, 0)⟩
def AH.none : AH := fun _ => .no
theorem Wd.fast (w : World) (hG : ∀ p ∈ laidL, p.1 < w.heap.size ∧ p.2 w.heap[p.1]?) : Wd (Cx.fast w) AH.none 0 w :=
 ⟨fun i cs hi => (by cases hi), fun i m z cap hi _ => (by cases hi), fun i m z a cap hi _ => (by cases hi), fun i j b _ hi _ => (by cases hi), fun b hb => if_neg (Nat.not_lt.2 hb), fun _ _ => rfl, fun p hp => ⟨if_pos (hG p hp).1, (hG p hp).2⟩⟩
theorem calls_of_fs {P : Program} {f : FuncId} {pre : List AV → Prop} {g : List AV → Option AV} (hF : FsOk P f (.pureIf pre g)) {w : World} {vals : List Value} {args : List AV} {x : Value} (hl : vals.length = args.length)
 (hr : ∀ (j : Nat) v x, vals[j]? = some v → args[j]? = some x → ARep (Cx.fast w) AH.none w v x) (hp : pre args) (hg : g args = some (.d (.v x))) (hG : ∀ p ∈ laidL, p.1 < w.heap.size ∧ p.2 w.heap[p.1]?) :
 Calls P f vals.toArray w fun e w' => e = .returned x ∧ Below w.heap.size w w' := by
 obtain ⟨hent, hcalls⟩ := hF (Cx.fast w) AH.none 0 w vals args (fun r _ _ => r = .d (.v x)) (Wd.fast w hG) hl hr ⟨hp, by
  show onO ((g args).map fun r => (r, AH.none, 0)) _
  rw [hg]
  exact rfl⟩
 refine hcalls.mono fun e w' he => ?_
 obtain ⟨y, r, c', h', n', rfl, r1, r2, r3, r4, r5, rfl⟩ := he
 obtain rfl := cval_rep r4 rfl
 exact ⟨rfl, r2.os, r2.tape, r2.output, r2.size, fun b hb => (r2.all b (if_pos hb)).2⟩
theorem post_below {H : Type} {enc : TypeId × Value → H} {P : Program} {f : Func} {s : ChangeSpec} {apart fresh handsOn again : Bool} {W W' : World} {args : Array Value} {v : Value} {ds gs : List (DataW H)} {before pa pv : List MemPlace}
 (hW : DataW.Whole enc P f.params.toList s.vars apart W args.toList ds gs before)
 (hres : ∀ (b : Nat) (sp : Nat → Bool) (hd : Bool), DataW.TrodAll enc P W' b sp hd f.resultTypes.toList (v.resultList f.resultTypes.size) (s.fn H (ds ++ gs)).results [])
 (hargs : ∀ sp : Nat → Bool, (∀ p ∈ before, sp p.block = true) → DataW.TrodAll enc P W' 0 sp true f.params.toList args.toList (s.fn H (ds ++ gs)).args pa)
 (hvars : ∀ sp : Nat → Bool, (∀ p ∈ before, sp p.block = true) → DataW.TrodVars enc P W' sp s.vars (s.fn H (ds ++ gs)).vars pv)
 (hps : before = pa ++ pv) (hB : Below W.heap.size W W')
 (hok : ∀ (j : Nat) (t : TypeId) (r : Value), f.resultTypes[j]? = some t → (v.resultList f.resultTypes.size)[j]? = some r → Value.okWide P W' .any 0 t r) :
 s.post enc P f apart fresh handsOn again W args v W' := by
 have hlt : ∀ p ∈ before, p.block < W.heap.size := fun p hp => by simpa using hW.lt p hp
 have hold : ∀ p ∈ before, (fun b => decide (b < W.heap.size)) p.block = true := fun p hp => decide_eq_true (hlt p hp)
 refine ⟨ds, gs, before, [], pa, pv, hW, hres _ _ _, hargs _ hold, hvars _ hold, hB.frame _, fun _ => ?_⟩
 obtain ⟨_, _, _, _, _, hz, hn⟩ := hW
 refine ⟨hok, _, _, ([] ++ pa) ++ pv, ⟨[] ++ pa, pv, trodAll_append (hargs _ (fun _ _ => rfl)) (hres _ _ _), hvars _ (fun _ _ => rfl), rfl, ?_, ?_⟩, ?_⟩
 · intro b off hp
   have hp' : MemPlace.cell b off ∈ before := by rw [hps]; simpa using hp
   rw [hB.frozen (p := ⟨b, off, none⟩) (hlt _ hp')]
   exact hz b off hp'
 · intro ha
   have := hn ha
   rw [hps] at this
   simpa using this
 · intro p hp _
   rw [hps]
   simpa using hp
end Go.R
end
section
namespace Go.R
open Go.RowKit Go.ChangeShapes Go.WideShapes
open Go.Proofs.YtfhpecgknmfnnaaDoor.Rows (uptoBulk uptoBulkAll)
section
variable {H : Type}
theorem bulk_one (d : DataW H) : 1 ≤ uptoBulk d := by
 cases d with
 | lit l => cases l <;> simp [uptoBulk]
 | nil => simp [uptoBulk]
 | ptr d => simp [uptoBulk]
 | slice elems spare => simp [uptoBulk]
 | agg parts => simp [uptoBulk]
 | iface t d => simp [uptoBulk]
 | map entries => simp [uptoBulk]
 | held h => simp [uptoBulk]
theorem bulk_part {d : DataW H} {l : List (DataW H)} (h : d ∈ l) : uptoBulk d ≤ uptoBulkAll l := by
 induction l with
 | nil => cases h
 | cons x r ih =>
   simp only [uptoBulkAll]
   cases List.mem_cons.1 h with
   | inl e => subst e; omega
   | inr e => have := ih e; omega
theorem bulk_len (l : List (DataW H)) : l.length ≤ uptoBulkAll l := by
 induction l with
 | nil => simp [uptoBulkAll]
 | cons x r ih => have := bulk_one x; simp only [uptoBulkAll, List.length_cons]; omega
end
structure Opens (P : Program) (t : TypeId) {α : Type} (c : α → List DV) (Q : α → Nat → Prop) : Prop where
 mono : ∀ a m n, Q a m → m ≤ n → Q a n
 get : ∀ {H : Type} (enc : TypeId × Value → H) (w : World) (held : Bool) (fuel : Nat) (cs : List Value) (x : DataW H × List MemPlace), DataW.trod enc P w 0 (fun _ => true) held fuel t cs = some x →
  ∃ a, cs.length = (c a).length ∧ Q a (uptoBulk x.1) ∧ ∀ (j : Nat) v y, cs[j]? = some v → (c a)[j]? = some y → DRep (Cx.fast w) w v y
structure OpensF (P : Program) (fs : List Field) (k : Nat) {α : Type} (c : α → List DV) (Q : α → Nat → Prop) : Prop where
 mono : ∀ a m n, Q a m → m ≤ n → Q a n
 get : ∀ {H : Type} (enc : TypeId × Value → H) (w : World) (held : Bool) (n : Nat) (cs : List Value) (xs : List (DataW H × List MemPlace)), xs.length = fs.length →
  (∀ (i : Nat) (f : Field), fs[i]? = some f → DataW.trod enc P w 0 (fun _ => true) held n f.type ((cs.drop f.offset).take (P.cellsOf f.type)) = xs[i]?) →
  ∃ a, Q a (uptoBulkAll (xs.map (·.1))) ∧ ∀ (j : Nat) v y, cs[k + j]? = some v → (c a)[j]? = some y → DRep (Cx.fast w) w v y
section
variable {P : Program} {t e : TypeId} {α β : Type}
theorem opens_string (ht : P.underlying t = some .string) : Opens P t (fun s : ByteArray => [.v (.string s)]) (fun s n => s.size ≤ n) where
 mono := fun a m n h h' => Nat.le_trans h h'
 get := fun enc w held fuel cs x h => by
  obtain ⟨s, rfl, rfl, _⟩ := DataW.trod_string ht h
  refine ⟨s, rfl, ?_, fun j v y hv hy => ?_⟩
  · have : s.data.toList.length = s.size := by rw [Array.length_toList]; rfl
    show s.size ≤ uptoBulk (.lit (.string s.data.toList))
    simp only [uptoBulk]
    omega
  · cases j with
    | zero =>
      cases hv
      cases hy
      exact .v _ rfl
    | succ j => cases hv
theorem opens_int {k : IntKind} (ht : P.underlying t = some (.int k)) : Opens P t (fun n : Int => [.v (.int k n)]) (fun n _ => k.min ≤ n ∧ n ≤ k.max) where
 mono := fun a m n h _ => h
 get := fun enc w held fuel cs x h => by
  obtain ⟨n, rfl, rfl, hw⟩ := DataW.trod_int ht h
  refine ⟨n, rfl, ?_, fun j v y hv hy => ?_⟩
  · simpa [Go.Lit.wf] using hw
  · cases j with
    | zero =>
      cases hv
      cases hy
      exact .v _ rfl
    | succ j => cases hv
theorem Opens.map {c : α → List DV} {Q : α → Nat → Prop} (h : Opens P t c Q) {c' : β → List DV} {Q' : β → Nat → Prop} (g : α → β) (hc : ∀ a, c' (g a) = c a) (hm : ∀ a m n, Q' a m → m ≤ n → Q' a n) (hQ : ∀ a n, Q a n → Q' (g a) n) : Opens P t c' Q' where
 mono := hm
 get := fun enc w held fuel cs x ht => by
  obtain ⟨a, h1, h2, h3⟩ := h.get enc w held fuel cs x ht
  exact ⟨g a, by rw [hc]; exact h1, hQ _ _ h2, fun j v y hv hy => h3 j v y hv (by rw [← hc]; exact hy)⟩
theorem opensF_nil (k : Nat) : OpensF P [] k (fun _ : Unit => []) (fun _ _ => True) where
 mono := fun _ _ _ h _ => h
 get := fun enc w held n cs xs _ _ => ⟨(), trivial, fun j v y _ hy => by simp at hy⟩
theorem opensF_cons {f : Field} {fs : List Field} {k z : Nat} {c : α → List DV} {Q : α → Nat → Prop} {c' : β → List DV} {Q' : β → Nat → Prop} (h : Opens P f.type c Q) (ho : f.offset = k) (hz : P.cellsOf f.type = z) (hc : ∀ a, (c a).length = z) (hr : OpensF P fs (k + z) c' Q') :
 OpensF P (f :: fs) k (fun x : α × β => c x.1 ++ c' x.2) (fun x n => Q x.1 n ∧ Q' x.2 n) where
 mono := fun a m n ha hn => ⟨h.mono _ _ _ ha.1 hn, hr.mono _ _ _ ha.2 hn⟩
 get := fun enc w held n cs xs hl hx => by
  cases xs with
  | nil => simp at hl
  | cons x xs =>
    have h0 := hx 0 f rfl
    rw [ho, hz] at h0
    obtain ⟨a, h1, h2, h3⟩ := h.get enc w held n _ x h0
    obtain ⟨b, h4, h5⟩ := hr.get enc w held n cs xs (by simpa using hl) (fun i f hf => by simpa using hx (i + 1) f (by simpa using hf))
    refine ⟨(a, b), ⟨h.mono _ _ _ h2 ?_, hr.mono _ _ _ h4 ?_⟩, fun j v y hv hy => ?_⟩
    · simp only [List.map_cons, uptoBulkAll]; omega
    · simp only [List.map_cons, uptoBulkAll]; omega
    · rcases Nat.lt_or_ge j z with hj | hj
      · rw [List.getElem?_append_left (by rw [hc]; exact hj)] at hy
        refine h3 j v y ?_ hy
        rw [List.getElem?_take_of_lt hj, List.getElem?_drop]
        exact hv
      · rw [List.getElem?_append_right (by rw [hc]; exact hj), hc] at hy
        refine h5 (j - z) v y ?_ hy
        rw [show k + z + (j - z) = k + j by omega]
        exact hv
theorem opens_struct {fs : Array Field} {c : α → List DV} {Q : α → Nat → Prop} (ht : P.underlying t = some (.struct fs)) (h : OpensF P fs.toList 0 c Q) (hc : ∀ a, (c a).length = P.cellsOf t) : Opens P t c Q where
 mono := h.mono
 get := fun enc w held fuel cs x hx => by
  obtain ⟨xs, n, _, rfl, hl, hn, hf⟩ := DataW.trod_struct ht hx
  obtain ⟨a, h1, h2⟩ := h.get enc w held n cs xs (by simpa using hn) (fun i f hi => hf i f (by simpa using hi))
  refine ⟨a, by rw [hl, hc], h.mono _ _ _ h1 ?_, fun j v y hv hy => h2 j v y (by rw [Nat.zero_add]; exact hv) hy⟩
  simp only [uptoBulk]
  omega
theorem opens_slice [Inhabited α] {z : Nat} {c : α → List DV} {Q : α → Nat → Prop} (ht : P.underlying t = some (.slice e)) (hz : P.cellsOf e = z) (h0 : 0 < z) (hc : ∀ a, (c a).length = z) (he : Opens P e c Q) :
 Opens P t (fun l : List α => [.sl z (l.map c)]) (fun l n => l.length ≤ n ∧ ∀ a ∈ l, Q a n) where
 mono := fun l m n h hn => ⟨Nat.le_trans h.1 hn, fun a ha => he.mono _ _ _ (h.2 a ha) hn⟩
 get := fun enc w held fuel cs x hx => by
  rcases Go.Deep.open_slice ht hx with ⟨rfl, rfl⟩ | ⟨a, len, cap, m, n, D, Pl, rfl, hb, hlc, hcm, hm, rfl, hel⟩
  · refine ⟨[], rfl, ⟨Nat.zero_le _, fun a ha => absurd ha List.not_mem_nil⟩, fun j v y hv hy => ?_⟩
    cases j with
    | zero =>
      cases hv
      cases hy
      exact .sl none 0 z [] (fun _ _ => undef) (Nat.le_refl _) (fun _ h => absurd h List.not_mem_nil) (fun a h => by cases h) (fun _ => ⟨rfl, rfl⟩) (fun a h => by cases h) (fun i j row x h => by simp at h)
    | succ j => cases hv
  · have hm : m = cap := by simpa using hm
    subst hm
    rw [hz] at hel
    have hone : ∀ i, i < len → ∃ y : α × List Value, w.cells? 0 (a.add (i * z)) z = some y.2 ∧ y.2.length = (c y.1).length ∧ Q y.1 (uptoBulk (D i)) ∧ ∀ (j : Nat) v x, y.2[j]? = some v → (c y.1)[j]? = some x → DRep (Cx.fast w) w v x := fun i hi => by
     obtain ⟨cs', h1, h2⟩ := hel i (by omega)
     obtain ⟨b, h3, h4, h5⟩ := he.get enc w held n cs' _ h2
     exact ⟨(b, cs'), h1, h3, h4, h5⟩
    obtain ⟨Y, hY⟩ := Go.Deep.choose_lt hone
    have hsp : a.spot = none ∨ m = 0 := by
     rcases Nat.eq_zero_or_pos m with q | q
     · exact .inr q
     · left
       obtain ⟨cs', h1, _⟩ := hel 0 q
       obtain ⟨_, h3, h4⟩ := World.cells?_some h1
       have h5 := h4 0 h0
       rw [Nat.zero_mul, Go.Deep.add_add] at h5
       have h6 : w.cell? (a.add (0 + 0)) = some cs'[0] := by rw [h5]; exact List.getElem?_eq_getElem (by omega)
       have e : a.add (0 + 0) = a := by simp [Addr.add]
       rw [e] at h6
       unfold World.cell? at h6
       split at h6
       · split at h6
         · cases h6
         · rename_i hs
           cases hq : a.spot with
           | none => rfl
           | some s => simp [hq] at hs
       · cases h6
    refine ⟨(List.range len).map fun i => (Y i).1, rfl, ⟨?_, fun b hb' => ?_⟩, fun j v y hv hy => ?_⟩
    · rw [List.length_map, List.length_range]
      have := bulk_len ((List.range len).map D)
      rw [List.length_map, List.length_range] at this
      simp only [uptoBulk]
      omega
    · obtain ⟨i, hi, rfl⟩ := List.mem_map.1 hb'
      refine he.mono _ _ _ (hY i (List.mem_range.1 hi)).2.2.1 ?_
      have := bulk_part (List.mem_map_of_mem (f := D) hi)
      simp only [uptoBulk]
      omega
    · cases j with
      | succ j => cases hv
      | zero =>
        cases hv
        cases hy
        have hll : (((List.range len).map fun i => (Y i).1).map c).length = len := by simp
        have key := DRep.sl (c := Cx.fast w) (w := w) (some a) m z (((List.range len).map fun i => (Y i).1).map c) (fun i j => (Y i).2.getD j undef) (by rw [hll]; exact hlc)
         (fun row hr => by
           obtain ⟨b, _, rfl⟩ := List.mem_map.1 hr
           exact hc b)
         (fun a' ha => by cases ha; exact hsp) (fun h => by cases h)
         (fun a' ha i j row x hi hj => by
           cases ha
           have hil : i < len := by
            have := (List.getElem?_eq_some_iff.1 hi).1
            rwa [hll] at this
           have hrow : row = c (Y i).1 := by simpa [hil] using hi.symm
           subst hrow
           have hjz : j < z := by
            have := (List.getElem?_eq_some_iff.1 hj).1
            rwa [hc] at this
           have hsp' := hsp.resolve_right (by omega)
           obtain ⟨_, h3, h4⟩ := World.cells?_some (hY i hil).1
           have h5 := h4 j hjz
           rw [Go.Deep.add_add, addr_add' hsp', ← Nat.add_assoc] at h5
           have h6 : w.cell? ⟨a.block, a.off + i * z + j, none⟩ = some ((Y i).2.getD j undef) := by
            rw [h5, List.getD_eq_getElem?_getD, List.getElem?_eq_getElem (by omega)]
            rfl
           refine ⟨h6, ?_⟩
           have hlt : a.block < w.heap.size := by
            unfold World.cell? at h6
            split at h6
            · rename_i hh
              exact (Array.getElem?_eq_some_iff.1 hh).1
            · cases h6
           unfold Cx.lo Cx.fast
           simp only [hlt, if_true])
         (fun i j row x hi hj => by
           have hil : i < len := by
            have := (List.getElem?_eq_some_iff.1 hi).1
            rwa [hll] at this
           have hrow : row = c (Y i).1 := by simpa [hil] using hi.symm
           subst hrow
           have hjl : j < (Y i).2.length := by
            rw [(hY i hil).2.1]
            exact (List.getElem?_eq_some_iff.1 hj).1
           refine (hY i hil).2.2.2 j _ x ?_ hj
           rw [List.getD_eq_getElem?_getD, List.getElem?_eq_getElem hjl]
           rfl)
        rw [hll] at key
        exact key
theorem opens_arg {fs : Array Field} {c : α → List DV} {Q : α → Nat → Prop} (h : Opens P t c Q) (ht : P.underlying t = some (.struct fs)) {H : Type} {enc : TypeId × Value → H} {w : World} {base : Nat} {v : Value} {d : DataW H} {ps : List MemPlace}
 (hval : Value.okWide P w .any base t v) (hd : DataW.Trod enc P w 0 (fun _ => true) true t v d ps) : ∃ a, Q a (uptoBulk d) ∧ ARep (Cx.fast w) AH.none w v (.agg ((c a).map .d)) := by
 unfold Value.okWide at hval
 rw [ht] at hval
 obtain ⟨cs, rfl, _, _⟩ := hval
 obtain ⟨fuel, hf⟩ := hd
 obtain ⟨a, h1, h2, h3⟩ := h.get enc w true fuel _ _ hf
 have hcs : (Value.agg cs).cells.toList = cs.toList := rfl
 rw [hcs] at h1 h3
 refine ⟨a, h2, ?_⟩
 have := ARep.agg (c := Cx.fast w) (h := AH.none) (w := w) cs.toList ((c a).map .d) (by rw [List.length_map]; exact h1) (fun j v x hv hx => by
  rw [List.getElem?_map] at hx
  cases hy : (c a)[j]? with
  | none => rw [hy] at hx; cases hx
  | some y =>
    rw [hy] at hx
    cases hx
    exact .d _ _ (h3 j v y hv hy))
 exact this
theorem arg_again {H : Type} {enc : TypeId × Value → H} (hl : laidOutB P = true) (hr : P.readableRec t = true) (hrow : t < P.types.size) {W W' : World} {v : Value} {d : DataW H} {ps before : List MemPlace}
 (h : DataW.Trod enc P W 0 (fun _ => true) true t v d ps) (hb : Below W.heap.size W W') (hlt : ∀ x ∈ ps, x.block < W.heap.size) (hin : ∀ x ∈ ps, x ∈ before) (sp : Nat → Bool) (hs : ∀ p ∈ before, sp p.block = true) :
 DataW.Trod enc P W' 0 sp true t v d ps :=
 WideElems.Trod_stays hl hr hrow h (fun x hx => hb.same (hlt x hx)) (fun x hx => hs x (hin x hx))
end
end Go.R
end
section
namespace Go.Proofs.YtfhpecgknmfnnaaDoor.M
open Go.R Go.ChangeShapes Go.WideShapes
open Go.Proofs.YtfhpecgknmfnnaaDoor.Rows (uptoBulk uptoBulkAll)
instance : Inhabited Term := ⟨Term.z⟩
instance : Inhabited Lit := ⟨Lit.z⟩
def valQ (v : Val) (n : Nat) : Prop := v.sym.size ≤ n ∧ (-9223372036854775808 ≤ v.num ∧ v.num ≤ 9223372036854775807)
def termQ (t : Term) (n : Nat) : Prop := t.var.size ≤ n ∧ valQ t.val n
def litQ (l : Lit) (n : Nat) : Prop := (0 ≤ l.kind ∧ l.kind ≤ 255) ∧ termQ l.who n ∧ l.pred.size ≤ n ∧ l.args.length ≤ n ∧ ∀ t ∈ l.args, termQ t n
def clauseQ (c : Clause) (n : Nat) : Prop := litQ c.head n ∧ c.body.length ≤ n ∧ ∀ l ∈ c.body, litQ l n
theorem valQ_mono (v : Val) (m n : Nat) (h : valQ v m) (hn : m ≤ n) : valQ v n := ⟨Nat.le_trans h.1 hn, h.2⟩
theorem termQ_mono (t : Term) (m n : Nat) (h : termQ t m) (hn : m ≤ n) : termQ t n := ⟨Nat.le_trans h.1 hn, valQ_mono _ _ _ h.2 hn⟩
theorem litQ_mono (l : Lit) (m n : Nat) (h : litQ l m) (hn : m ≤ n) : litQ l n :=
 ⟨h.1, termQ_mono _ _ _ h.2.1 hn, Nat.le_trans h.2.2.1 hn, Nat.le_trans h.2.2.2.1 hn, fun t ht => termQ_mono _ _ _ (h.2.2.2.2 t ht) hn⟩
theorem clauseQ_mono (c : Clause) (m n : Nat) (h : clauseQ c m) (hn : m ≤ n) : clauseQ c n := ⟨litQ_mono _ _ _ h.1 hn, Nat.le_trans h.2.1 hn, fun l hl => litQ_mono _ _ _ (h.2.2 l hl) hn⟩
theorem cells_val : Tryd.prog.cellsOf 23 = 2 := by kernel_rfl
theorem cells_term : Tryd.prog.cellsOf 25 = 3 := by kernel_rfl
theorem cells_lit : Tryd.prog.cellsOf 28 = 6 := by kernel_rfl
theorem cells_clause : Tryd.prog.cellsOf 31 = 7 := by kernel_rfl
theorem opens_val : Opens Tryd.prog 23 Val.cells valQ :=
 (opens_struct Tryd.underlying23 (opensF_cons (opens_string Tryd.underlying9) rfl (by kernel_rfl) (fun _ => rfl) (opensF_cons (opens_int Tryd.underlying2) rfl (by kernel_rfl) (fun _ => rfl) (opensF_nil _)))
   (fun _ => cells_val.symm)).map (fun x => ⟨x.1, x.2.1⟩) (fun _ => rfl) valQ_mono (fun x n h => ⟨h.1, h.2.1⟩)
theorem opens_term : Opens Tryd.prog 25 Term.cells termQ :=
 (opens_struct Tryd.underlying25 (opensF_cons (opens_string Tryd.underlying9) rfl (by kernel_rfl) (fun _ => rfl) (opensF_cons opens_val rfl cells_val (fun _ => rfl) (opensF_nil _)))
   (fun _ => cells_term.symm)).map (fun x => ⟨x.1, x.2.1⟩) (fun _ => rfl) termQ_mono (fun x n h => ⟨h.1, h.2.1⟩)
theorem opens_lit : Opens Tryd.prog 28 Lit.cells litQ :=
 (opens_struct Tryd.underlying28 (opensF_cons (opens_int Tryd.underlying5) rfl (by kernel_rfl) (fun _ => rfl) (opensF_cons opens_term rfl cells_term (fun _ => rfl)
   (opensF_cons (opens_string Tryd.underlying9) rfl (by kernel_rfl) (fun _ => rfl) (opensF_cons (opens_slice Tryd.underlying26 cells_term (by decide) (fun _ => rfl) opens_term) rfl (by kernel_rfl) (fun _ => rfl) (opensF_nil _)))))
   (fun _ => cells_lit.symm)).map (fun x => ⟨x.1, x.2.1, x.2.2.1, x.2.2.2.1⟩) (fun _ => rfl) litQ_mono (fun x n h => ⟨h.1, h.2.1, h.2.2.1, h.2.2.2.1⟩)
theorem opens_clause : Opens Tryd.prog 31 Clause.cells clauseQ :=
 (opens_struct Tryd.underlying31 (opensF_cons opens_lit rfl cells_lit (fun _ => rfl) (opensF_cons (opens_slice Tryd.underlying29 cells_lit (by decide) (fun _ => rfl) opens_lit) rfl (by kernel_rfl) (fun _ => rfl) (opensF_nil _)))
   (fun _ => cells_clause.symm)).map (fun x => ⟨x.1, x.2.1⟩) (fun _ => rfl) clauseQ_mono (fun x n h => ⟨h.1, h.2.1⟩)
theorem laid : laidOutB Tryd.prog = true := by kernel_rfl
end Go.Proofs.YtfhpecgknmfnnaaDoor.M
end
section
namespace Go.Proofs.YtfhpecgknmfnnaaDoor.M
open Go.R Go.ChangeShapes Go.WideShapes Go.RowKit
open Go.Proofs.YtfhpecgknmfnnaaDoor.Rows (uptoBulk uptoBulkAll)
theorem litI_of {l : Lit} {n : Nat} (h : litQ l n) : litI l := ⟨h.2.1.2.2, fun t ht => (h.2.2.2.2 t ht).2.2⟩
theorem szL_of {l : Lit} (h : litQ l 1048576) : szL l := by
 obtain ⟨_, h1, _, h3, h4⟩ := h
 exact ⟨by unfold szT szS; have := h1.1; omega, by omega, fun t ht => by unfold szT szS; have := (h4 t ht).1; omega⟩
theorem clauseI_of {c : Clause} (h : clauseQ c 1048576) : copyP c ∧ clauseI c ∧ szC c := by
 obtain ⟨h1, h2, h3⟩ := h
 exact ⟨⟨by omega, by have := h1.2.2.2.1; omega, fun l hl => by have := (h3 l hl).2.2.2.1; omega⟩, ⟨litI_of h1, fun l hl => litI_of (h3 l hl)⟩, ⟨szL_of h1, by omega, fun l hl => szL_of (h3 l hl)⟩⟩
def reqQ (q : Req) (n : Nat) : Prop := (0 ≤ q.kind ∧ q.kind ≤ 255) ∧ q.label.size ≤ n ∧ (-9223372036854775808 ≤ q.life ∧ q.life ≤ 9223372036854775807) ∧ clauseQ q.clause n ∧ (-9223372036854775808 ≤ q.no ∧ q.no ≤ 9223372036854775807) ∧ litQ q.lit n
theorem reqQ_mono (q : Req) (m n : Nat) (h : reqQ q m) (hn : m ≤ n) : reqQ q n := ⟨h.1, Nat.le_trans h.2.1 hn, h.2.2.1, clauseQ_mono _ _ _ h.2.2.2.1 hn, h.2.2.2.2.1, litQ_mono _ _ _ h.2.2.2.2.2 hn⟩
theorem allQ_of {q : Req} (h : reqQ q 1048576) : allQ q := by
 obtain ⟨h1, h2, h3, h4, h5, h6⟩ := h
 obtain ⟨c1, c2, c3⟩ := clauseI_of h4
 exact ⟨⟨c1, by have := h6.2.2.2.1; omega⟩, ⟨c2, litI_of h6, h3, h5⟩, ⟨c3, szL_of h6⟩, by omega⟩
theorem cells_req : Tryd.prog.cellsOf 33 = 17 := by kernel_rfl
theorem opens_req : Opens Tryd.prog 33 Req.cells reqQ :=
 (opens_struct Tryd.underlying33 (opensF_cons (opens_int Tryd.underlying5) rfl (by kernel_rfl) (fun _ => rfl) (opensF_cons (opens_string Tryd.underlying9) rfl (by kernel_rfl) (fun _ => rfl)
   (opensF_cons (opens_int Tryd.underlying2) rfl (by kernel_rfl) (fun _ => rfl) (opensF_cons opens_clause rfl cells_clause (fun _ => rfl) (opensF_cons (opens_int Tryd.underlying3) rfl (by kernel_rfl) (fun _ => rfl) (opensF_cons opens_lit rfl cells_lit (fun _ => rfl) (opensF_nil _)))))))
   (fun _ => cells_req.symm)).map (fun x => ⟨x.1, x.2.1, x.2.2.1, x.2.2.2.1, x.2.2.2.2.1, x.2.2.2.2.2.1⟩) (fun _ => rfl) reqQ_mono (fun x n h => ⟨h.1, h.2.1, h.2.2.1, h.2.2.2.1, h.2.2.2.2.1, h.2.2.2.2.2.1⟩)
section
variable {H : Type} {enc : TypeId × Value → H} {w : World} {base : Nat} {v v0 : Value} {d : DataW H} {ps : List MemPlace}
set_option maxRecDepth 100000 in
theorem open_req (hval : Value.okWide Tryd.prog w .any base 33 v) (hd : DataW.Trod enc Tryd.prog w 0 (fun _ => true) true 33 v d ps) : ∃ q : Req, reqQ q (uptoBulk d) ∧ ARep (Cx.fast w) AH.none w v q.av := by
 obtain ⟨a, h1, h2⟩ := opens_arg opens_req Tryd.underlying33 hval hd
 exact ⟨a, h1, h2⟩
theorem read_req : Tryd.prog.readableRec 33 = true := by kernel_rfl
theorem row_req : 33 < Tryd.prog.types.size := of_decide_eq_true (by kernel_rfl)
theorem gTab : Tryd.prog.globalNamed "internal/strconv.uint64pow10" = some 0 := by kernel_rfl
theorem vars_tail {P : Program} {W : World} {x : String × DataW Unit} {r : List (String × DataW Unit)} {ps : List MemPlace} (h : DataW.LaidVars P W (x :: r) ps) : ∃ q, DataW.LaidVars P W r q := by
 obtain ⟨n, d⟩ := x
 obtain ⟨_, _, _, _, _, q, _, _, _, _, h, _⟩ := h
 exact ⟨q, h⟩
theorem tab_of_vars {P : Program} {W : World} {name : String} {k : IntKind} {zs : List Int} {rest : List (String × DataW Unit)} {g : Nat} {t e : TypeId} {n : Nat} {ps : List MemPlace}
 (hg : P.globalNamed name = some g) (hty : (P.globals[g]?).map (·.type) = some t) (ht : P.underlying t = some (.array n e)) (he : P.underlying e = some (.int k)) (hce : P.cellsOf e = 1) (hct : P.cellsOf t = n)
 (h : DataW.LaidVars P W ((name, Lib.tabData k zs) :: rest) ps) : Lib.TabIs P W name k zs := by
 obtain ⟨g', t', cs, fuel, p, q, hg', ht', hvar, hd, _, _⟩ := h
 obtain rfl := Option.some.inj (hg.symm.trans hg')
 obtain rfl := Option.some.inj (hty.symm.trans ht')
 unfold Lib.TabIs
 rw [hvar, ← Lib.cells_of_tab ht he hce hct hd]
abbrev laidRow : List (String × DataW Unit) := [("math/bits.deBruijn32tab", Rows.laid_math_bits_deBruijn32tab), ("math/bits.deBruijn64tab", Rows.laid_math_bits_deBruijn64tab), ("internal/strconv.uint64pow10", Rows.laid_internal_strconv_uint64pow10)]
theorem table {W : World} (h : laidMet Tryd.prog laidRow W) : Lib.TabIs Tryd.prog W "internal/strconv.uint64pow10" .u64 Lib.pow10Tab := by
 obtain ⟨ps, h, _⟩ := h
 obtain ⟨p1, h⟩ := vars_tail h
 obtain ⟨p2, h⟩ := vars_tail h
 exact tab_of_vars (t := 123) (e := 86) (n := 20) (rest := []) gTab (by kernel_rfl) (by kernel_rfl) (by kernel_rfl) (by kernel_rfl) (by kernel_rfl) h
theorem laid_all {W : World} (h : laidMet Tryd.prog laidRow W) : ∀ p ∈ laidL, p.1 < W.heap.size ∧ p.2 W.heap[p.1]? := by
 intro p hp
 have hT := table h
 obtain rfl := List.mem_singleton.1 hp
 have hv : W.var? Tryd.prog "internal/strconv.uint64pow10" = some (Lib.pow10Tab.map fun z => Value.int .u64 z).toArray := hT
 unfold World.var? at hv
 rw [gTab] at hv
 refine ⟨?_, fun w hw => ?_⟩
 · show 0 < W.heap.size
   rcases Nat.eq_zero_or_pos W.heap.size with q | q
   · have : W.heap[0]? = none := Array.getElem?_eq_none (by omega)
     simp [this] at hv
   · exact q
 · show w.var? Tryd.prog "internal/strconv.uint64pow10" = _
   unfold World.var?
   rw [gTab]
   have hw : w.heap[0]? = W.heap[0]? := hw
   simp only [Option.bind_some] at hv ⊢
   rw [hw]
   exact hv
end
def fill (vs : Array Value) : Obj → Obj
 | .cells _ t f => .cells vs t f
 | o => o
def tab32 : List Int := [0, 1, 28, 2, 29, 14, 24, 3, 30, 22, 20, 15, 25, 17, 4, 8, 31, 27, 13, 23, 21, 19, 16, 7, 26, 12, 18, 6, 11, 5, 10, 9]
def tab64 : List Int := [0, 1, 56, 2, 57, 49, 28, 3, 61, 58, 42, 50, 38, 29, 17, 4, 62, 47, 59, 36, 45, 43, 51, 22, 53, 39, 33, 30, 24, 18, 12, 5, 63, 55, 48, 27, 60, 41, 37, 16, 46, 35, 44, 21, 52, 32, 23, 11, 54, 26, 40, 15, 34, 20, 31, 10, 25, 14, 19, 9, 13, 8, 7, 6]
def laidHeap (h : Array Obj) : Array Obj := ((h.modify 0 (fill (Lib.pow10Tab.map fun z => Value.int .u64 z).toArray)).modify 1 (fill (tab32.map fun z => Value.int .u8 z).toArray)).modify 2 (fill (tab64.map fun z => Value.int .u8 z).toArray)
end Go.Proofs.YtfhpecgknmfnnaaDoor.M
end
section
namespace Go.Proofs.YtfhpecgknmfnnaaDoor.M
open Go.RowKit Go.Proofs.YtfhpecgknmfnnaaDoorW.PrintWords
abbrev Tk := Int × ByteArray
def pieceX (x : ByteArray) : Prop := 0 < x.size ∧ (pieceB (bt x 0) = true ∨ (bt x 0 = 45 ∧ 1 < x.size ∧ digB (bt x 1) = true)) ∧ ∀ c ∈ (bytesOf x).drop 1, pieceB c = true
def stops (r : List Int) : Prop := ∀ c t, r = c :: t → pieceB c = false
inductive LexS : List Int → List Tk → Prop
 | nil : LexS [] []
 | blank {r : List Int} {l : List Tk} (h : LexS r l) : LexS (32 :: r) l
 | sign {r : List Int} {l : List Tk} (x : ByteArray) (hx : x ∈ sgn) (h : LexS r l) : LexS (bytesOf x ++ r) ((4, x) :: l)
 | piece {r : List Int} {l : List Tk} (x : ByteArray) (hx : pieceX x) (hk : sortK x ≠ 0) (hr : stops r) (h : LexS r l) : LexS (bytesOf x ++ r) ((sortK x, x) :: l)
theorem drop_cons {s : ByteArray} {p : Nat} {c : Int} {r : List Int} (h : (bytesOf s).drop p = c :: r) : p < s.size ∧ bt s p = c ∧ (bytesOf s).drop (p + 1) = r := by
 have hp : p < s.size := by
  rcases Nat.lt_or_ge p s.size with q | q
  · exact q
  · rw [List.drop_eq_nil_of_le (by rw [bytesOf_length]; exact q)] at h
    cases h
 rw [bytesOf_drop s p hp] at h
 injection h with h1 h2
 exact ⟨hp, h1, h2⟩
theorem drop_app {s x : ByteArray} {p : Nat} {r : List Int} (h : (bytesOf s).drop p = bytesOf x ++ r) : p + x.size ≤ s.size ∨ x.size = 0 := by
 rcases Nat.eq_zero_or_pos x.size with e | e
 · exact .inr e
 · left
   have h1 := congrArg List.length h
   rw [List.length_drop, List.length_append, bytesOf_length, bytesOf_length] at h1
   omega
theorem drop_next {s x : ByteArray} {p : Nat} {r : List Int} (h : (bytesOf s).drop p = bytesOf x ++ r) : (bytesOf s).drop (p + x.size) = r := by
 rw [← List.drop_drop, h, ← bytesOf_length x, List.drop_left]
theorem drop_cut {s x : ByteArray} {p : Nat} {r : List Int} (h : (bytesOf s).drop p = bytesOf x ++ r) : s.extract p (p + x.size) = x := by
 refine bytesOf_inj ?_
 rw [bytesOf_cut, h, ← bytesOf_length x, List.take_left]
theorem drop_bt {s x : ByteArray} {p i : Nat} {r : List Int} (h : (bytesOf s).drop p = bytesOf x ++ r) (hi : i < x.size) : bt s ((p + i : Nat) : Int) = bt x (i : Int) := by
 rw [bt_list, bt_list, List.getD_eq_getElem?_getD, List.getD_eq_getElem?_getD, ← List.getElem?_drop, h, List.getElem?_append_left (by rw [bytesOf_length]; exact hi)]
theorem pieceB_not {c : Int} (h : pieceB c = true) : (c == 32 || c == 9) = false ∧ (c == 45) = false := by
 have : (97 ≤ c ∧ c ≤ 122) ∨ (65 ≤ c ∧ c ≤ 90) ∨ (48 ≤ c ∧ c ≤ 57) ∨ c = 95 := by
  simp only [pieceB, lowB, uppB, digB, Bool.or_eq_true, Bool.and_eq_true, decide_eq_true_eq, Bool.not_eq_true', decide_eq_false_iff_not, beq_iff_eq] at h
  omega
 refine ⟨Bool.or_eq_false_iff.2 ⟨beq_false_of_ne (by omega), beq_false_of_ne (by omega)⟩, beq_false_of_ne (by omega)⟩
theorem takeWhile_all {p : Int → Bool} : ∀ (l r : List Int), (∀ c ∈ l, p c = true) → (∀ c t, r = c :: t → p c = false) → (l ++ r).takeWhile p = l
 | [], r, _, h => by
   cases r with
   | nil => rfl
   | cons c t => rw [List.nil_append, List.takeWhile_cons_of_neg (by rw [h c t rfl]; decide)]
 | c :: l, r, hl, h => by
   rw [List.cons_append, List.takeWhile_cons_of_pos (hl c (List.mem_cons_self ..)), takeWhile_all l r (fun d hd => hl d (List.mem_cons_of_mem _ hd)) h]
theorem piece_one {s x : ByteArray} {p : Nat} {r : List Int} (h : (bytesOf s).drop p = bytesOf x ++ r) (hx : pieceX x) (hk : sortK x ≠ 0) (hr : stops r) : oneT s p = (⟨sortK x, p, ((p + x.size : Nat) : Int)⟩, 0) := by
 obtain ⟨h0, hc, hall⟩ := hx
 have hle := (drop_app h).resolve_right (by omega)
 have hb0 : bt s (p : Int) = bt x 0 := drop_bt (i := 0) h h0
 have hrun : runTo s (p + 1) = p + x.size := by
  unfold runTo
  rw [← List.drop_drop, h, List.drop_append_of_le_length (by rw [bytesOf_length]; omega), takeWhile_all _ _ hall hr, List.length_drop, bytesOf_length]
  omega
 have hpc : pieceTok s p (runTo s (p + 1)) = (⟨sortK x, p, ((p + x.size : Nat) : Int)⟩, 0) := by
  unfold pieceTok
  rw [hrun, drop_cut h, if_neg hk]
 unfold oneT
 rw [if_neg (show ¬ s.size ≤ p by omega), hpc, hb0]
 rcases hc with hc | ⟨hc, h1, hd⟩
 · obtain ⟨e1, e2⟩ := pieceB_not hc
   simp only [e1, e2, hc, Bool.false_eq_true, if_false, if_true]
 · have hn : nxt s p = bt x 1 := by
    unfold nxt
    rw [if_pos (show p + 1 < s.size by omega)]
    exact drop_bt (i := 1) h h1
   rw [hc, hn, hd]
   rfl
theorem one_sgn {s x : ByteArray} {p : Nat} {r : List Int} (h : (bytesOf s).drop p = bytesOf x ++ r) (hx : x ∈ sgn) (h0 : 0 < x.size) : oneT s p = (⟨4, p, ((p + x.size : Nat) : Int)⟩, 0) := by
 have hle := (drop_app h).resolve_right (by omega)
 have := sgn_hit (s := s) (p := p) (by omega) hx (by
  unfold smatch
  rw [drop_cut h, decide_eq_true (by omega), Bool.true_and]
  exact beq_self_eq_true _)
 rw [this]
 rfl
theorem sgn_pos {x : ByteArray} (hx : x ∈ sgn) : 0 < x.size := by
 unfold sgn at hx
 simp only [List.mem_cons, List.not_mem_nil, or_false] at hx
 rcases hx with e | e | e | e | e | e | e <;> subst e <;> decide
def tkOf (s : ByteArray) (t : Tok) : Tk := (t.kind, tokS s t)
theorem lex_go {s : ByteArray} {R : List Int} {l : List Tk} (h : LexS R l) : ∀ (p f : Nat) (acc : List Tok), (bytesOf s).drop p = R → p ≤ s.size → s.size < f + p → ∃ T, allGo s f p acc = (acc ++ T, 0, 0) ∧ T.map (tkOf s) = l := by
 have step : ∀ (p f : Nat) (acc : List Tok) (x : ByteArray) (k : Int) (r : List Int) (l : List Tk), 0 < x.size → (bytesOf s).drop p = bytesOf x ++ r → oneT s p = (⟨k, p, ((p + x.size : Nat) : Int)⟩, 0) → p ≤ s.size → s.size < f + p →
  (∀ (p f : Nat) (acc : List Tok), (bytesOf s).drop p = r → p ≤ s.size → s.size < f + p → ∃ T, allGo s f p acc = (acc ++ T, 0, 0) ∧ T.map (tkOf s) = l) → ∃ T, allGo s f p acc = (acc ++ T, 0, 0) ∧ T.map (tkOf s) = (k, x) :: l := by
  intro p f acc x k r l h0 hd ho hp hf ih
  have hle := (drop_app hd).resolve_right (by omega)
  cases f with
  | zero => omega
  | succ f =>
    obtain ⟨T, h1, h2⟩ := ih (p + x.size) f (acc ++ [⟨k, p, ((p + x.size : Nat) : Int)⟩]) (drop_next hd) hle (by omega)
    refine ⟨⟨k, p, ((p + x.size : Nat) : Int)⟩ :: T, ?_, ?_⟩
    · conv => lhs; unfold allGo
      rw [if_neg (show ¬ s.size ≤ p by omega), ho]
      have e : ((p + x.size : Nat) : Int).toNat = p + x.size := by omega
      show allGo s f ((p + x.size : Nat) : Int).toNat _ = _
      rw [e, h1, List.append_assoc]
      rfl
    · rw [List.map_cons, h2]
      congr 1
      show (k, s.extract (p : Int).toNat ((p + x.size : Nat) : Int).toNat) = (k, x)
      rw [show ((p + x.size : Nat) : Int).toNat = p + x.size by omega, show (p : Int).toNat = p by omega, drop_cut hd]
 induction h with
 | nil =>
   intro p f acc hd hp hf
   have hps : s.size ≤ p := by
    have h1 := congrArg List.length hd
    rw [List.length_drop, bytesOf_length, List.length_nil] at h1
    omega
   cases f with
   | zero => omega
   | succ f =>
     refine ⟨[], ?_, rfl⟩
     unfold allGo
     rw [if_pos hps, List.append_nil]
 | @blank r l h ih =>
   intro p f acc hd hp hf
   obtain ⟨hlt, hb, hd'⟩ := drop_cons hd
   cases f with
   | zero => omega
   | succ f =>
     obtain ⟨T, h1, h2⟩ := ih (p + 1) f acc hd' hlt (by omega)
     refine ⟨T, ?_, h2⟩
     conv => lhs; unfold allGo
     rw [if_neg (show ¬ s.size ≤ p by omega), oneT_blank hlt (by rw [hb]; rfl)]
     exact h1
 | @sign r l x hx h ih =>
   intro p f acc hd hp hf
   exact step p f acc x 4 r l (sgn_pos hx) hd (one_sgn hd hx (sgn_pos hx)) hp hf ih
 | @piece r l x hx hk hr h ih =>
   intro p f acc hd hp hf
   exact step p f acc x (sortK x) r l hx.1 hd (piece_one hd hx hk hr) hp hf ih
theorem lex_all {s : ByteArray} {l : List Tk} (h : LexS (bytesOf s) l) (hs : s.size ≤ 4096) : ∃ T, allT s = (T, 0, 0) ∧ T.map (tkOf s) = l := by
 obtain ⟨T, h1, h2⟩ := lex_go h 0 (s.size + 1) [] rfl (Nat.zero_le _) (by omega)
 refine ⟨T, ?_, h2⟩
 unfold allT
 rw [if_neg (by omega), h1]
 rfl
def hdK : List Tk → Int
 | [] => 0
 | x :: _ => x.1
def hdX : List Tk → ByteArray
 | [] => noStr
 | x :: _ => x.2
def hdI (y : ByteArray) : List Tk → Bool
 | [] => false
 | x :: _ => x.2.data.toList == y.data.toList
section
variable {T : List Tok} {s : ByteArray} {n : Nat} {L : List Tk}
theorem get_drop (h : (T.map (tkOf s)).drop n = L) : T[n]?.map (tkOf s) = L.head? := by
 rw [← h, List.head?_drop, List.getElem?_map]
theorem kind_hd (h : (T.map (tkOf s)).drop n = L) : kindT T n = hdK L := by
 have := get_drop h
 unfold kindT
 cases ht : T[n]? with
 | none =>
   rw [ht] at this
   cases L with
   | nil => rfl
   | cons x r => cases this
 | some t =>
   rw [ht] at this
   cases L with
   | nil => cases this
   | cons x r =>
     have e : tkOf s t = x := by simpa using this
     rw [← e]
     rfl
theorem text_hd (h : (T.map (tkOf s)).drop n = L) : textT T s n = hdX L := by
 have := get_drop h
 unfold textT
 cases ht : T[n]? with
 | none =>
   rw [ht] at this
   cases L with
   | nil => rfl
   | cons x r => cases this
 | some t =>
   rw [ht] at this
   cases L with
   | nil => cases this
   | cons x r =>
     have e : tkOf s t = x := by simpa using this
     rw [← e]
     rfl
theorem is_hd (y : ByteArray) (h : (T.map (tkOf s)).drop n = L) : isT T s n y = hdI y L := by
 have := get_drop h
 unfold isT
 cases ht : T[n]? with
 | none =>
   rw [ht] at this
   cases L with
   | nil => rfl
   | cons x r => cases this
 | some t =>
   rw [ht] at this
   cases L with
   | nil => cases this
   | cons x r =>
     have e : tkOf s t = x := by simpa using this
     rw [← e]
     show ((tokS s t).toList == y.toList) = ((tokS s t).data.toList == y.data.toList)
     rw [toList_eq, toList_eq]
theorem drop_one {x : Tk} {r : List Tk} (h : (T.map (tkOf s)).drop n = x :: r) : (T.map (tkOf s)).drop (n + 1) = r := by
 rw [← List.drop_drop, h]
 rfl
theorem drop_many {a r : List Tk} (h : (T.map (tkOf s)).drop n = a ++ r) : (T.map (tkOf s)).drop (n + a.length) = r := by
 rw [← List.drop_drop, h, List.drop_left]
structure Reads1 (k : Int) (x : ByteArray) (t : Term) : Prop where
 kind : k = 1 ∨ k = 2 ∨ k = 3
 back : (if k == 2 then (⟨x, Val.z⟩ : Term) else ⟨noStr, (readV x).1⟩) = t
def termTok (t : Term) : Tk := (sortK (termText t), termText t)
def goodT (t : Term) : Prop := Reads1 (sortK (termText t)) (termText t) t
theorem take_hd {ks : List Int} {k : Int} {x : ByteArray} {r : List Tk} (h : (T.map (tkOf s)).drop n = (k, x) :: r) (hk : hasB ks k = true) : takeP T s ks n = .ok (x, n + 1) := by
 unfold takeP
 rw [kind_hd h, text_hd h]
 exact if_pos hk
theorem need_hd {y : ByteArray} {k : Int} {r : List Tk} (h : (T.map (tkOf s)).drop n = (k, y) :: r) : needP T s y n = .ok ((), n + 1) := by
 unfold needP
 rw [is_hd y h]
 exact if_pos (beq_self_eq_true _)
theorem term_hd {t : Term} {r : List Tk} (h : (T.map (tkOf s)).drop n = termTok t :: r) (ht : goodT t) : termP T s n = .ok (t, n + 1) := by
 unfold termP
 rw [take_hd h (by rcases ht.kind with e | e | e <;> rw [e] <;> rfl), kind_hd h]
 show Except.ok _ = _
 rw [show hdK (termTok t :: r) = sortK (termText t) from rfl, ht.back]
theorem tail_hd {α : Type} {one : Nat → PR α} {tk : α → List Tk} {fol : List Tk → Prop} (hcom : ∀ r, fol ((4, comma) :: r)) :
 ∀ (xs : List α) (m n : Nat) (r : List Tk), (∀ a ∈ xs, ∀ n r, (T.map (tkOf s)).drop n = tk a ++ r → fol r → one n = .ok (a, n + (tk a).length)) → xs.length ≤ m → (T.map (tkOf s)).drop n = xs.flatMap (fun a => (4, comma) :: tk a) ++ r → fol r → hdI comma r = false →
   tailP T s one m n = .ok (xs, n + (xs.flatMap (fun a => (4, comma) :: tk a)).length)
 | [], m, n, r, _, _, h, _, hr => by
   have hi : isT T s n comma = false := by rw [is_hd comma h]; exact hr
   cases m <;> (unfold tailP; rw [hi]; rfl)
 | a :: xs, m, n, r, h1, hm, h, hf, hr => by
   cases m with
   | zero => simp at hm
   | succ m =>
     have h : (T.map (tkOf s)).drop n = (4, comma) :: (tk a ++ (xs.flatMap (fun a => (4, comma) :: tk a) ++ r)) := by
      rw [h]
      simp
     have hi : isT T s n comma = true := by rw [is_hd comma h]; exact beq_self_eq_true _
     have hd := drop_one h
     have hfr : fol (xs.flatMap (fun a => (4, comma) :: tk a) ++ r) := by
      cases xs with
      | nil => exact hf
      | cons b bs => exact hcom _
     have ho := h1 a (List.mem_cons_self ..) (n + 1) _ hd hfr
     have ht := tail_hd hcom xs m (n + 1 + (tk a).length) r (fun b hb => h1 b (List.mem_cons_of_mem _ hb)) (by simpa using hm) (drop_many hd) hf hr
     unfold tailP
     rw [hi, ho]
     simp only [ht, if_true]
     simp only [List.flatMap_cons, List.length_append, List.length_cons]
     congr 2
     omega
theorem list_hd {α : Type} {one : Nat → PR α} {tk : α → List Tk} {fol : List Tk → Prop} (hcom : ∀ r, fol ((4, comma) :: r)) (a : α) (xs : List α) (most n : Nat) (r : List Tk)
 (h1 : ∀ b ∈ a :: xs, ∀ n r, (T.map (tkOf s)).drop n = tk b ++ r → fol r → one n = .ok (b, n + (tk b).length)) (hm : xs.length ≤ most - 1) (h : (T.map (tkOf s)).drop n = tk a ++ (xs.flatMap (fun a => (4, comma) :: tk a) ++ r)) (hf : fol r) (hr : hdI comma r = false) :
 listP T s one most n = .ok (a :: xs, n + ((tk a).length + (xs.flatMap (fun a => (4, comma) :: tk a)).length)) := by
 have hfr : fol (xs.flatMap (fun a => (4, comma) :: tk a) ++ r) := by
  cases xs with
  | nil => exact hf
  | cons b bs => exact hcom _
 have ho := h1 a (List.mem_cons_self ..) n _ h hfr
 have ht := tail_hd hcom xs (most - 1) (n + (tk a).length) r (fun b hb => h1 b (List.mem_cons_of_mem _ hb)) hm (drop_many h) hf hr
 unfold listP
 rw [ho]
 simp only [ht, addL]
 rw [Nat.add_assoc]
 rfl
def termsToks (ts : List Term) : List Tk := ts.flatMap fun t => [(4, comma), termTok t]
def atomToks (x : ByteArray) (ts : List Term) : List Tk := (1, x) :: (match ts with | [] => [] | t :: r => (4, opens) :: termTok t :: (termsToks r ++ [(4, closes)]))
theorem atom_hd {x : ByteArray} {ts : List Term} {r : List Tk} (hg : ∀ t ∈ ts, goodT t) (hl : ts.length ≤ 4) (h : (T.map (tkOf s)).drop n = atomToks x ts ++ r) (hr : hdI opens r = false) : atomP T s n = .ok ((x, ts), n + (atomToks x ts).length) := by
 unfold atomP
 cases ts with
 | nil =>
   have h : (T.map (tkOf s)).drop n = (1, x) :: r := h
   rw [take_hd h rfl]
   simp only
   rw [is_hd opens (drop_one h), hr]
   rfl
 | cons t ts =>
   have h : (T.map (tkOf s)).drop n = (1, x) :: (4, opens) :: ([termTok t] ++ (ts.flatMap (fun t => (4, comma) :: [termTok t]) ++ ((4, closes) :: r))) := by
    rw [h]
    simp [atomToks, termsToks]
   have h2 := drop_one h
   have h3 := drop_one h2
   have hL := list_hd (T := T) (s := s) (one := termP T s) (tk := fun t => [termTok t]) (fol := fun _ => True) (fun _ => trivial) t ts 4 (n + 1 + 1) ((4, closes) :: r) (fun b hb n r hd _ => term_hd hd (hg b hb)) (by simpa using hl) h3 trivial rfl
   have h4 := drop_many (a := [termTok t] ++ ts.flatMap (fun t => (4, comma) :: [termTok t])) (r := (4, closes) :: r) (by rw [h3, List.append_assoc])
   rw [take_hd h rfl]
   simp only
   rw [is_hd opens h2, show hdI opens ((4, opens) :: ([termTok t] ++ (ts.flatMap (fun t => (4, comma) :: [termTok t]) ++ ((4, closes) :: r)))) = true from beq_self_eq_true _, if_pos rfl, hL]
   simp only
   rw [List.length_append] at h4
   rw [need_hd h4]
   simp only [atomToks, termsToks, List.length_cons, List.length_append, List.length_nil]
   congr 2
   omega
def whoToks (t : Term) : List Tk := if ownT t then [] else [termTok t, (5, says)]
def saidToks (l : Lit) : List Tk := whoToks l.who ++ atomToks l.pred l.args
structure GoodS (l : Lit) : Prop where
 who : ownT l.who = true ∧ l.who = Term.z ∨ ownT l.who = false ∧ goodT l.who ∧ (sortK (termText l.who) = 1 ∨ sortK (termText l.who) = 2)
 pred : (l.pred.data.toList == nots.data.toList) = false
 args : ∀ t ∈ l.args, goodT t
 few : l.args.length ≤ 4
theorem said_hd {l : Lit} {r : List Tk} (hg : GoodS l) (h : (T.map (tkOf s)).drop n = saidToks l ++ r) (hr : hdI opens r = false) (hs : hdI says r = false) : saidP T s n = .ok ((l.who, (l.pred, l.args)), n + (saidToks l).length) := by
 unfold saidP
 rcases hg.who with ⟨hw, hz⟩ | ⟨hw, hgw, hk⟩
 · have e : saidToks l = atomToks l.pred l.args := by unfold saidToks whoToks; rw [hw]; rfl
   rw [e] at h ⊢
   have hsp : speaks T s n = false := by
    unfold speaks
    have h' : (T.map (tkOf s)).drop n = (1, l.pred) :: ((match l.args with | [] => [] | t :: r => (4, opens) :: termTok t :: (termsToks r ++ [(4, closes)])) ++ r) := h
    rw [kind_hd h', is_hd says (drop_one h')]
    cases l.args with
    | nil => simp only [List.nil_append, hs]; rfl
    | cons t ts => rfl
   rw [hsp, if_neg (by decide), atom_hd hg.args hg.few h hr]
   simp only
   rw [hz]
 · have e : saidToks l = termTok l.who :: (5, says) :: atomToks l.pred l.args := by unfold saidToks whoToks; rw [hw]; rfl
   rw [e] at h ⊢
   have h : (T.map (tkOf s)).drop n = termTok l.who :: (5, says) :: (atomToks l.pred l.args ++ r) := h
   have h2 := drop_one h
   have h3 := drop_one h2
   have hsp : speaks T s n = true := by
    unfold speaks
    rw [kind_hd h, is_hd says h2]
    show (sortK (termText l.who) == 2 || (true && sortK (termText l.who) == 1)) = true
    rcases hk with e | e <;> rw [e] <;> rfl
   rw [hsp, if_pos rfl, term_hd h hgw]
   simp only
   rw [need_hd h2]
   simp only
   rw [atom_hd hg.args hg.few h3 hr]
   simp only [List.length_cons]
   congr 2
   omega
def litToks (l : Lit) : List Tk :=
 if l.kind == 1 then saidToks l else if l.kind == 2 then (5, nots) :: saidToks l
 else match l.args with | [a, b] => [termTok a, (4, if l.kind == 3 then less else unlike), termTok b] | _ => []
def goodL (l : Lit) : Prop := (l.kind = 1 ∨ l.kind = 2) ∧ GoodS l ∨ (l.kind = 3 ∨ l.kind = 4) ∧ l.who = Term.z ∧ l.pred = noStr ∧ ∃ a b, l.args = [a, b] ∧ goodT a ∧ goodT b
def folL (r : List Tk) : Prop := ∃ k q, r = (k, comma) :: q ∨ r = (k, dot) :: q
theorem folL_no {r : List Tk} (h : folL r) : hdI opens r = false ∧ hdI says r = false ∧ hdI less r = false ∧ hdI unlike r = false := by
 obtain ⟨k, q, rfl | rfl⟩ := h <;> exact ⟨rfl, rfl, rfl, rfl⟩
theorem term_nots {t : Term} (h : goodT t) : ((termText t).data.toList == nots.data.toList) = false := by
 have hk := h.kind
 cases hq : (termText t).data.toList == nots.data.toList with
 | false => rfl
 | true =>
   have e : sortK (termText t) = 5 := by
    unfold sortK
    rw [toList_eq, show ((termText t).data.toList == [110, 111, 116]) = true from hq]
    rfl
   rw [e] at hk
   omega
theorem literal_hd {l : Lit} {r : List Tk} (hg : goodL l) (h : (T.map (tkOf s)).drop n = litToks l ++ r) (hr : folL r) : literalP T s n = .ok (l, n + (litToks l).length) := by
 obtain ⟨r1, r2, r3, r4⟩ := folL_no hr
 unfold literalP
 rcases hg with ⟨hk, hg⟩ | ⟨hk, hw, hp, a, b, hab, ha, hb⟩
 · rcases hk with hk | hk
   · have e : litToks l = saidToks l := by unfold litToks; rw [hk]; rfl
     rw [e] at h ⊢
     have hsaid := said_hd hg h r1 r2
     have hn : isT T s n nots = false ∧ compares T s n = false := by
      rcases hg.who with ⟨hw, hz⟩ | ⟨hw, hgw, hk'⟩
      · have e : saidToks l = atomToks l.pred l.args := by unfold saidToks whoToks; rw [hw]; rfl
        rw [e] at h
        have h' : (T.map (tkOf s)).drop n = (1, l.pred) :: ((match l.args with | [] => [] | t :: r => (4, opens) :: termTok t :: (termsToks r ++ [(4, closes)])) ++ r) := h
        refine ⟨by rw [is_hd nots h']; exact hg.pred, ?_⟩
        unfold compares
        rw [kind_hd h', is_hd says (drop_one h'), is_hd less (drop_one h'), is_hd unlike (drop_one h')]
        cases l.args with
        | nil => simp only [List.nil_append, r2, r3, r4]; rfl
        | cons t ts => rfl
      · have e : saidToks l = termTok l.who :: (5, says) :: atomToks l.pred l.args := by unfold saidToks whoToks; rw [hw]; rfl
        rw [e] at h
        have h : (T.map (tkOf s)).drop n = termTok l.who :: (5, says) :: (atomToks l.pred l.args ++ r) := h
        refine ⟨by rw [is_hd nots h]; exact term_nots hgw, ?_⟩
        unfold compares
        rw [kind_hd h, is_hd says (drop_one h), is_hd less (drop_one h), is_hd unlike (drop_one h)]
        show (sortK (termText l.who) == 3 || (sortK (termText l.who) == 2 && !true) || (sortK (termText l.who) == 1 && (false || false))) = false
        rcases hk' with e | e <;> rw [e] <;> rfl
     rw [hn.1, hn.2, hsaid]
     obtain ⟨k, w, p, xs⟩ := l
     have hk : k = 1 := hk
     rw [hk]
     rfl
   · have e : litToks l = (5, nots) :: saidToks l := by unfold litToks; rw [hk]; rfl
     rw [e] at h ⊢
     have h : (T.map (tkOf s)).drop n = (5, nots) :: (saidToks l ++ r) := h
     have hsaid := said_hd hg (drop_one h) r1 r2
     rw [is_hd nots h, show hdI nots ((5, nots) :: (saidToks l ++ r)) = true from beq_self_eq_true _, if_pos rfl, hsaid]
     obtain ⟨k, w, p, xs⟩ := l
     have hk : k = 2 := hk
     rw [hk]
     simp only [saidL, List.length_cons]
     congr 2
     omega
 · have hk' : (l.kind == 1) = false ∧ (l.kind == 2) = false := by rcases hk with e | e <;> rw [e] <;> exact ⟨rfl, rfl⟩
   have e : litToks l = [termTok a, (4, if l.kind == 3 then less else unlike), termTok b] := by unfold litToks; rw [hk'.1, hk'.2, hab]; rfl
   rw [e] at h ⊢
   have h : (T.map (tkOf s)).drop n = termTok a :: (4, if l.kind == 3 then less else unlike) :: termTok b :: r := h
   have h2 := drop_one h
   have h3 := drop_one h2
   have hn : isT T s n nots = false := by rw [is_hd nots h]; exact term_nots ha
   have hlu : (if l.kind == 3 then less else unlike) = less ∨ (if l.kind == 3 then less else unlike) = unlike := by
    split
    · exact .inl rfl
    · exact .inr rfl
   have hc : compares T s n = true := by
    unfold compares
    rw [kind_hd h, is_hd says h2, is_hd less h2, is_hd unlike h2]
    rw [show hdK (termTok a :: (4, if l.kind == 3 then less else unlike) :: termTok b :: r) = sortK (termText a) from rfl]
    rcases hlu with e | e <;> rw [e] <;> rcases ha.kind with e | e | e <;> rw [e] <;> rfl
   rw [hn, hc, if_neg (by decide), if_pos rfl, term_hd h ha]
   simp only
   rw [is_hd unlike h2, is_hd less h2]
   have hp2 : ∀ k : Int, pairP T s k a (n + 1) = .ok (⟨k, Term.z, noStr, [a, b]⟩, n + 1 + 1 + 1) := fun k => by
    unfold pairP
    rw [term_hd h3 hb]
   rw [hp2, hp2]
   obtain ⟨k, w, p, xs⟩ := l
   have hw : w = Term.z := hw
   have hp : p = noStr := hp
   have hab : xs = [a, b] := hab
   subst hw hp hab
   rcases hk with e | e
   · have e : k = 3 := e
     subst e
     rfl
   · have e : k = 4 := e
     subst e
     rfl
def bodyToks (ls : List Lit) : List Tk := match ls with | [] => [] | l :: r => (4, turns) :: (litToks l ++ r.flatMap fun l => (4, comma) :: litToks l)
def clauseToks (c : Clause) : List Tk := atomToks c.head.pred c.head.args ++ (bodyToks c.body ++ [(4, dot)])
structure GoodC (c : Clause) : Prop where
 kind : c.head.kind = 1
 who : c.head.who = Term.z
 args : ∀ t ∈ c.head.args, goodT t
 few : c.head.args.length ≤ 4
 lits : ∀ l ∈ c.body, goodL l
 most : c.body.length ≤ 6
theorem body_hd {ls : List Lit} {r : List Tk} (hg : ∀ l ∈ ls, goodL l) (hm : ls.length ≤ 6) (h : (T.map (tkOf s)).drop n = bodyToks ls ++ (4, dot) :: r) : bodyP T s n = .ok (ls, n + (bodyToks ls).length) := by
 unfold bodyP
 cases ls with
 | nil =>
   have h : (T.map (tkOf s)).drop n = (4, dot) :: r := h
   rw [is_hd turns h]
   rfl
 | cons l ls =>
   have h : (T.map (tkOf s)).drop n = (4, turns) :: (litToks l ++ (ls.flatMap (fun l => (4, comma) :: litToks l) ++ (4, dot) :: r)) := by
    rw [h]
    simp [bodyToks]
   have hL := list_hd (T := T) (s := s) (one := literalP T s) (tk := litToks) (fol := folL) (fun r => ⟨4, r, .inl rfl⟩) l ls 6 (n + 1) ((4, dot) :: r) (fun b hb n r hd hf => literal_hd (hg b hb) hd hf) (by simpa using hm) (drop_one h) ⟨4, r, .inr rfl⟩ rfl
   rw [is_hd turns h, show hdI turns ((4, turns) :: (litToks l ++ (ls.flatMap (fun l => (4, comma) :: litToks l) ++ (4, dot) :: r))) = true from beq_self_eq_true _, if_pos rfl, hL]
   simp only [bodyToks, List.length_cons, List.length_append]
   congr 2
   omega
theorem clause_hd {c : Clause} (hg : GoodC c) (h : T.map (tkOf s) = clauseToks c) : clauseP T s 0 = .ok (c, T.length) := by
 have hl : T.length = (clauseToks c).length := by rw [← h, List.length_map]
 have h0 : (T.map (tkOf s)).drop 0 = atomToks c.head.pred c.head.args ++ (bodyToks c.body ++ [(4, dot)]) := h
 have hop : hdI opens (bodyToks c.body ++ [(4, dot)]) = false := by cases c.body <;> rfl
 have hA := atom_hd hg.args hg.few h0 hop
 have h1 := drop_many h0
 have hB := body_hd (r := []) hg.lits hg.most h1
 have h2 := drop_many h1
 unfold clauseP
 rw [hA]
 simp only
 rw [hB]
 simp only
 rw [need_hd h2]
 simp only
 rw [hl]
 obtain ⟨⟨k, w, p, xs⟩, ls⟩ := c
 have hk : k = 1 := hg.kind
 have hw : w = Term.z := hg.who
 subst hk hw
 simp only [clauseToks, List.length_append, List.length_cons, List.length_nil]
 congr 2
 omega
end
end Go.Proofs.YtfhpecgknmfnnaaDoor.M
end
