import Derived.Test.YtdhocmakbapfpaaQ9
import Derived.Test.YtdhocmakbapfpaaQ10
import Derived.Test.YtdhocmakbapfpaaQ4
set_option linter.unusedVariables false
set_option linter.unusedSimpArgs false
section
namespace Go.Proofs.Ytdhocmakbapfpaa.M
open Go.R Go.Proofs.YtdhocmakbapfpaaW.PrintWords Go.Proofs.YtdhocmakbapfpaaW.PrintMore
def cbx (name : ByteArray) (args : List Term) (y : AV) : List AV := [.d (.v (.int .u8 1)), vS ⟨#[]⟩, vS ⟨#[]⟩, vI 0, vS name, .d (.sl 3 (args.map Term.cells)), y]
def parH (h : AH) (n : Nat) (name : ByteArray) (args : List Term) (R : Rd) (acc : List Lit) : AH :=
 upd (upd (upd (upd h n (.box zeroCA)) (n + 1) (.box (obRd.bx R))) (n + 1 + 1) (.box (cbx name args (.own (n + 1 + 1 + 1) 6 (acc.map Lit.cells))))) (n + 1 + 1 + 1) (.tok acc.length 6)
theorem parH_ok {h : AH} {n : Nat} {name : ByteArray} {args : List Term} {R : Rd} {acc : List Lit} (hok : HOk n h) : HOk (n + 1 + 1 + 1 + 1) (parH h n name args R acc) := by
 unfold parH
 refine (((((hok.mono (by omega)).upd_box (by omega) ?_).upd_box (by omega) ?_).upd_box (by omega) ?_).upd_tok (by omega))
 · simp only [go_sem, zeroCA]
 · exact obRd.lt _ R
 · simp only [go_sem, cbx]
   omega
theorem Rd.ended_ok {R : Rd} (h : RdOk R) : RdOk R.ended := by
 unfold Rd.ended
 split
 · exact h.fail 6
 · exact h
set_option maxRecDepth 10000 in
set_option maxHeartbeats 8000000 in
theorem refParse_ok : FsOk Try.prog 12 refParseS := by
 refine of_Y1 (E := EqT.no _) (F := ((((((Ft.no.put 38 openS).put 39 atomRS).put 40 textS).put 41 literalRS).put 42 failS).put 43 needS).put 44 endedS) vS (fun _ _ => aStr_le) Try.func12 rfl (by kernel_rfl) [.cell 2 31, .tmp 3, .tmp 4] rfl Try.ntmps12 (by decide) ((((((((FtOk.no _).put open_ok).put atom_ok2).put text_ok).put literal_ok2).put fail_ok).put need_ok).put ended_ok) ?_
 intro s h n hp hok
 have hR0 := rd0_ok s
 have hS := hR0.atom
 cases hE : ((allT s).2.2 != 0) with
 | true =>
   have hF : refClauseR s = (Clause.z, (allT s).2.1, (allT s).2.2) := by unfold refClauseR; rw [if_pos hE]
   repeat' (first | (with_reducible first | refine XG_split (fun hq => ?_) (fun hq => ?_) | refine MX1.of 4000 (by simp) ?_ | refine MX2.of 4000 (by simp) ?_ | refine And.intro ?_ ?_) | ((with_reducible first | refine Or.inl (And.intro (And.intro mixedP ?_) ?_) | refine Or.inl (And.intro mixedP ?_)); kernel_rfl) | simp only [go_sem,Nat.reduceEqDiff,Nat.reduceAdd,Nat.reduceMul,Nat.reduceLeDiff,Int.reduceBEq,Clause.av,Clause.z,Lit.z,Term.z,Val.z,noStr,List.map_nil,ended_fold,Int.reduceBNe,hE,Rd.adv_mk2,hF])
   all_goals first | omega | (unfold maxLen; omega) | (right; omega) | (left; simp; done) | (simp only [wk3,wkL2,wk2,wkL,wk1_d,wk1_own,wk1_nil,and_self]; done) | (intro i hi; simp only [upd]; (repeat' split); all_goals first | rfl | omega) | exact hp | exact hR0 | exact hS | exact hSN | exact hAd | exact hT0 | exact hR' | exact hA' | exact hRN | exact hRF | exact hR'.fail 2 | (refine ⟨hS,?_,?_⟩ <;> omega) | (refine ⟨hR',?_,?_⟩ <;> omega) | skip
 | false =>
   have hF0 : refClauseR s = if (rd0 s).atom.2.body.2.last.e != 0 then (Clause.z, (rd0 s).atom.2.body.2.last.fr, (rd0 s).atom.2.body.2.last.e)
    else (⟨⟨1, Term.z, (rd0 s).atom.1.1, (rd0 s).atom.1.2⟩, (rd0 s).atom.2.body.1⟩, 0, 0) := by unfold refClauseR; rw [if_neg (by rw [hE]; simp)]
   obtain ⟨A, hA⟩ : ∃ A, A = (rd0 s).atom := ⟨_, rfl⟩
   rw [← hA] at hF0 hS
   obtain ⟨hS1, hS2⟩ := hS.len
   have hSN := hS.need (x := ⟨#[46]⟩) (by decide)
   cases hb : (A.2.e == 0) with
   | false =>
     have hB : A.2.body = ([], A.2) := by unfold Rd.body; rw [hb]; rfl
     rw [hB] at hF0
     simp only [Rd.last] at hF0
     cases hQ : ((A.2.need ⟨#[46]⟩).ended.e != 0) with
     | true =>
       have hF := hF0.trans (if_pos hQ)
       repeat' (first | (with_reducible refine Or.inr (AW.mixWX (E := EqT.no _) [n] [1,2,3,4,5,6,7,8] [0,9,10,11] [] mixedP ?_ ?_ ?_ ?_); decide +kernel; (simp only [List.length_cons,List.length_nil]; decide); (intro j hj; simp only [List.mem_singleton] at hj; subst hj; refine Or.inr ?_; dsimp only; omega)) | (with_reducible refine (AW.mixWX (E := EqT.no _) [n] [1,2,3,4,5,6,7,8] [0,9,10,11] [] mixedP ?_ ?_ ?_ ?_); decide +kernel; (simp only [List.length_cons,List.length_nil]; decide); (intro j hj; simp only [List.mem_singleton] at hj; subst hj; refine Or.inr ?_; dsimp only; omega)) | (with_reducible refine MW0.of 4000 (by simp) ?_ ?_) | (with_reducible refine MW0.nil ?_) | (with_reducible refine MW1.of 4000 (by simp) ?_) | (with_reducible first | refine XG_split (fun hq => ?_) (fun hq => ?_) | refine MX1.of 4000 (by simp) ?_ | refine MX2.of 4000 (by simp) ?_ | refine And.intro ?_ ?_) | ((with_reducible first | refine Or.inl (And.intro (And.intro mixedP ?_) ?_) | refine Or.inl (And.intro mixedP ?_)); kernel_rfl) | simp only [go_sem,ldK,ldW,blindK,List.mem_singleton,Nat.reduceEqDiff,Nat.reduceAdd,Nat.reduceMul,Nat.reduceLeDiff,Int.reduceBEq,Clause.av,Clause.z,Lit.z,Term.z,Val.z,noStr,List.map_nil,ended_fold,Int.reduceBNe,hE,Rd.adv_mk2,← hA,parH,cbx,zeroCA,Lit.cells,Lit.av,hb,hF,hQ])
       all_goals first | omega | (unfold maxLen; omega) | (right; omega) | (left; simp; done) | (simp only [wk3,wkL2,wk2,wkL,wk1_d,wk1_own,wk1_nil,and_self]; done) | (intro i hi; simp only [upd]; (repeat' split); all_goals first | rfl | omega) | exact hp | exact hR0 | exact hS | exact hSN | exact hAd | exact hT0 | exact hR' | exact hA' | exact hRN | exact hRF | exact hR'.fail 2 | (refine ⟨hS,?_,?_⟩ <;> omega) | (refine ⟨hR',?_,?_⟩ <;> omega) | skip
     | false =>
       have hF := hF0.trans (if_neg (by rw [hQ]; simp))
       repeat' (first | (with_reducible refine Or.inr (AW.mixWX (E := EqT.no _) [n] [1,2,3,4,5,6,7,8] [0,9,10,11] [] mixedP ?_ ?_ ?_ ?_); decide +kernel; (simp only [List.length_cons,List.length_nil]; decide); (intro j hj; simp only [List.mem_singleton] at hj; subst hj; refine Or.inr ?_; dsimp only; omega)) | (with_reducible refine (AW.mixWX (E := EqT.no _) [n] [1,2,3,4,5,6,7,8] [0,9,10,11] [] mixedP ?_ ?_ ?_ ?_); decide +kernel; (simp only [List.length_cons,List.length_nil]; decide); (intro j hj; simp only [List.mem_singleton] at hj; subst hj; refine Or.inr ?_; dsimp only; omega)) | (with_reducible refine MW0.of 4000 (by simp) ?_ ?_) | (with_reducible refine MW0.nil ?_) | (with_reducible refine MW1.of 4000 (by simp) ?_) | (with_reducible first | refine XG_split (fun hq => ?_) (fun hq => ?_) | refine MX1.of 4000 (by simp) ?_ | refine MX2.of 4000 (by simp) ?_ | refine And.intro ?_ ?_) | ((with_reducible first | refine Or.inl (And.intro (And.intro mixedP ?_) ?_) | refine Or.inl (And.intro mixedP ?_)); kernel_rfl) | simp only [go_sem,ldK,ldW,blindK,List.mem_singleton,Nat.reduceEqDiff,Nat.reduceAdd,Nat.reduceMul,Nat.reduceLeDiff,Int.reduceBEq,Clause.av,Clause.z,Lit.z,Term.z,Val.z,noStr,List.map_nil,ended_fold,Int.reduceBNe,hE,Rd.adv_mk2,← hA,parH,cbx,zeroCA,Lit.cells,Lit.av,hb,hF,hQ])
       all_goals first | omega | (unfold maxLen; omega) | (right; omega) | (left; simp; done) | (simp only [wk3,wkL2,wk2,wkL,wk1_d,wk1_own,wk1_nil,and_self]; done) | (intro i hi; simp only [upd]; (repeat' split); all_goals first | rfl | omega) | exact hp | exact hR0 | exact hS | exact hSN | exact hAd | exact hT0 | exact hR' | exact hA' | exact hRN | exact hRF | exact hR'.fail 2 | (refine ⟨hS,?_,?_⟩ <;> omega) | (refine ⟨hR',?_,?_⟩ <;> omega) | skip
   | true =>
     cases hc : A.2.is 0 ⟨#[58, 45]⟩ with
     | false =>
       have hB : A.2.body = ([], A.2) := by unfold Rd.body; rw [hc, Bool.and_false]; rfl
       rw [hB] at hF0
       simp only [Rd.last] at hF0
       unfold Rd.is at hc
       cases hQ : ((A.2.need ⟨#[46]⟩).ended.e != 0) with
       | true =>
         have hF := hF0.trans (if_pos hQ)
         repeat' (first | (with_reducible refine Or.inr (AW.mixWX (E := EqT.no _) [n] [1,2,3,4,5,6,7,8] [0,9,10,11] [] mixedP ?_ ?_ ?_ ?_); decide +kernel; (simp only [List.length_cons,List.length_nil]; decide); (intro j hj; simp only [List.mem_singleton] at hj; subst hj; refine Or.inr ?_; dsimp only; omega)) | (with_reducible refine (AW.mixWX (E := EqT.no _) [n] [1,2,3,4,5,6,7,8] [0,9,10,11] [] mixedP ?_ ?_ ?_ ?_); decide +kernel; (simp only [List.length_cons,List.length_nil]; decide); (intro j hj; simp only [List.mem_singleton] at hj; subst hj; refine Or.inr ?_; dsimp only; omega)) | (with_reducible refine MW0.of 4000 (by simp) ?_ ?_) | (with_reducible refine MW0.nil ?_) | (with_reducible refine MW1.of 4000 (by simp) ?_) | (with_reducible first | refine XG_split (fun hq => ?_) (fun hq => ?_) | refine MX1.of 4000 (by simp) ?_ | refine MX2.of 4000 (by simp) ?_ | refine And.intro ?_ ?_) | ((with_reducible first | refine Or.inl (And.intro (And.intro mixedP ?_) ?_) | refine Or.inl (And.intro mixedP ?_)); kernel_rfl) | simp only [go_sem,ldK,ldW,blindK,List.mem_singleton,Nat.reduceEqDiff,Nat.reduceAdd,Nat.reduceMul,Nat.reduceLeDiff,Int.reduceBEq,Clause.av,Clause.z,Lit.z,Term.z,Val.z,noStr,List.map_nil,ended_fold,Int.reduceBNe,hE,Rd.adv_mk2,← hA,parH,cbx,zeroCA,Lit.cells,Lit.av,hb,hc,hF,hQ])
         all_goals first | omega | (unfold maxLen; omega) | (right; omega) | (left; simp; done) | (simp only [wk3,wkL2,wk2,wkL,wk1_d,wk1_own,wk1_nil,and_self]; done) | (intro i hi; simp only [upd]; (repeat' split); all_goals first | rfl | omega) | exact hp | exact hR0 | exact hS | exact hSN | exact hAd | exact hT0 | exact hR' | exact hA' | exact hRN | exact hRF | exact hR'.fail 2 | (refine ⟨hS,?_,?_⟩ <;> omega) | (refine ⟨hR',?_,?_⟩ <;> omega) | skip
       | false =>
         have hF := hF0.trans (if_neg (by rw [hQ]; simp))
         repeat' (first | (with_reducible refine Or.inr (AW.mixWX (E := EqT.no _) [n] [1,2,3,4,5,6,7,8] [0,9,10,11] [] mixedP ?_ ?_ ?_ ?_); decide +kernel; (simp only [List.length_cons,List.length_nil]; decide); (intro j hj; simp only [List.mem_singleton] at hj; subst hj; refine Or.inr ?_; dsimp only; omega)) | (with_reducible refine (AW.mixWX (E := EqT.no _) [n] [1,2,3,4,5,6,7,8] [0,9,10,11] [] mixedP ?_ ?_ ?_ ?_); decide +kernel; (simp only [List.length_cons,List.length_nil]; decide); (intro j hj; simp only [List.mem_singleton] at hj; subst hj; refine Or.inr ?_; dsimp only; omega)) | (with_reducible refine MW0.of 4000 (by simp) ?_ ?_) | (with_reducible refine MW0.nil ?_) | (with_reducible refine MW1.of 4000 (by simp) ?_) | (with_reducible first | refine XG_split (fun hq => ?_) (fun hq => ?_) | refine MX1.of 4000 (by simp) ?_ | refine MX2.of 4000 (by simp) ?_ | refine And.intro ?_ ?_) | ((with_reducible first | refine Or.inl (And.intro (And.intro mixedP ?_) ?_) | refine Or.inl (And.intro mixedP ?_)); kernel_rfl) | simp only [go_sem,ldK,ldW,blindK,List.mem_singleton,Nat.reduceEqDiff,Nat.reduceAdd,Nat.reduceMul,Nat.reduceLeDiff,Int.reduceBEq,Clause.av,Clause.z,Lit.z,Term.z,Val.z,noStr,List.map_nil,ended_fold,Int.reduceBNe,hE,Rd.adv_mk2,← hA,parH,cbx,zeroCA,Lit.cells,Lit.av,hb,hc,hF,hQ])
         all_goals first | omega | (unfold maxLen; omega) | (right; omega) | (left; simp; done) | (simp only [wk3,wkL2,wk2,wkL,wk1_d,wk1_own,wk1_nil,and_self]; done) | (intro i hi; simp only [upd]; (repeat' split); all_goals first | rfl | omega) | exact hp | exact hR0 | exact hS | exact hSN | exact hAd | exact hT0 | exact hR' | exact hA' | exact hRN | exact hRF | exact hR'.fail 2 | (refine ⟨hS,?_,?_⟩ <;> omega) | (refine ⟨hR',?_,?_⟩ <;> omega) | skip
     | true =>
       have hAd := hS.adv_txt hc (by decide)
       have hk := txt_lt hc (by decide)
       obtain ⟨fin, hfin⟩ : ∃ f, f = Rd.bodyL 5 [A.2.adv.literal.1] A.2.adv.literal.2 := ⟨_, rfl⟩
       have hB : A.2.body = fin := by unfold Rd.body; rw [hb, hc, hfin]; rfl
       rw [hB] at hF0
       simp only [Rd.last] at hF0
       unfold Rd.is at hc
       have hT0 := hAd.literal
       repeat' (first | (with_reducible refine Or.inr (AW.mixWX (E := EqT.no _) [n] [1,2,3,4,5,6,7,8] [0,9,10,11] [] mixedP ?_ ?_ ?_ ?_); decide +kernel; (simp only [List.length_cons,List.length_nil]; decide); (intro j hj; simp only [List.mem_singleton] at hj; subst hj; refine Or.inr ?_; dsimp only; omega)) | (with_reducible refine (AW.mixWX (E := EqT.no _) [n] [1,2,3,4,5,6,7,8] [0,9,10,11] [] mixedP ?_ ?_ ?_ ?_); decide +kernel; (simp only [List.length_cons,List.length_nil]; decide); (intro j hj; simp only [List.mem_singleton] at hj; subst hj; refine Or.inr ?_; dsimp only; omega)) | (with_reducible refine Or.inr (AW.mixWX (E := EqT.no _) [n + 1] [0,1,2] [3,4] [5,6,7] mixedP ?_ ?_ ?_ ?_); decide +kernel; (simp only [List.length_cons,List.length_nil]; decide); (intro j hj; simp only [List.mem_singleton] at hj; subst hj; refine Or.inr ?_; dsimp only; omega)) | (with_reducible refine (AW.mixWX (E := EqT.no _) [n + 1] [0,1,2] [3,4] [5,6,7] mixedP ?_ ?_ ?_ ?_); decide +kernel; (simp only [List.length_cons,List.length_nil]; decide); (intro j hj; simp only [List.mem_singleton] at hj; subst hj; refine Or.inr ?_; dsimp only; omega)) | (with_reducible refine MW0.of 4000 (by simp) ?_ ?_) | (with_reducible refine MW0.nil ?_) | (with_reducible refine MW1.of 4000 (by simp) ?_) | (with_reducible first | refine XG_split (fun hq => ?_) (fun hq => ?_) | refine MX1.of 4000 (by simp) ?_ | refine MX2.of 4000 (by simp) ?_ | refine And.intro ?_ ?_) | ((with_reducible first | refine Or.inl (And.intro (And.intro mixedP ?_) ?_) | refine Or.inl (And.intro mixedP ?_)); kernel_rfl) | simp only [go_sem,ldK,ldW,blindK,List.mem_singleton,Nat.reduceEqDiff,Nat.reduceAdd,Nat.reduceMul,Nat.reduceLeDiff,Int.reduceBEq,Clause.av,Clause.z,Lit.z,Term.z,Val.z,noStr,List.map_nil,ended_fold,Int.reduceBNe,hE,Rd.adv_mk2,← hA,parH,cbx,zeroCA,Lit.cells,Lit.av,hb,hc])
       all_goals first | omega | (unfold maxLen; omega) | (right; omega) | (left; simp; done) | (simp only [wk3,wkL2,wk2,wkL,wk1_d,wk1_own,wk1_nil,and_self]; done) | (intro i hi; simp only [upd]; (repeat' split); all_goals first | rfl | omega) | exact hp | exact hR0 | exact hS | exact hSN | exact hAd | exact hT0 | exact hR' | exact hA' | exact hRN | exact hRF | exact hR'.fail 2 | (refine ⟨hS,?_,?_⟩ <;> omega) | (refine ⟨hR',?_,?_⟩ <;> omega) | skip
       refine AW.loopJ (E := EqT.no _) (S := fun x : List Lit × Rd => ⟨fr [(0, vS s), (2, .p n 0), (3, vI 0), (4, vI 0), (5, .p (n + 1) 0), (8, .p (n + 1 + 1) 0)] (List.replicate 104 .any), parH h n A.1.1 A.1.2 x.2 x.1, n, n + 1 + 1 + 1 + 1⟩)
        (I := fun x => 1 ≤ x.1.length ∧ x.1.length ≤ 6 ∧ RdOk x.2 ∧ Rd.bodyL (6 - x.1.length) x.1 x.2 = fin) (μ := fun x => 6 - x.1.length) ([A.2.adv.literal.1], A.2.adv.literal.2) ⟨Nat.le_refl _, by show 1 ≤ 6; decide, hT0, hfin.symm⟩ ?_ 4000 (fun _ => by simp only [fr_len, List.length_replicate]; decide) ?_
       · refine Wk.of (by simp only [go_sem]) ?_ (parH_ok hok) (Nat.le_refl _) (by omega) (by simp only [go_sem]; omega)
         intro j hj
         simp only [parH, upd, obRd_bx, cbx, zeroCA, List.map_cons, List.map_nil, Lit.cells, List.length_cons, List.length_nil]
         (repeat' split)
         all_goals first | rfl | omega
       · rintro ⟨acc, R'⟩ ⟨ha1, ha6, hR', hI⟩
         simp only at ha1 ha6 hR' hI
         obtain ⟨hM1, hM2⟩ := hR'.len
         have hRN := hR'.need (x := ⟨#[46]⟩) (by decide)
         have hRF := (hR'.fail 2).need (x := ⟨#[46]⟩) (by decide)
         have fin0 : ∀ (q : (R'.e == 0 && R'.is 0 ⟨#[44]⟩) = false), fin = (acc, R') := fun q => by
          rw [← hI]
          cases 6 - acc.length <;> simp only [Rd.bodyL, q, Bool.false_eq_true, if_false]
         cases he2 : (R'.e == 0) with
         | false =>
           have hf := fin0 (by rw [he2, Bool.false_and])
           rw [hf] at hF0
           simp only at hF0
           cases hQ : ((R'.need ⟨#[46]⟩).ended.e != 0) with
           | true =>
             have hF := hF0.trans (if_pos hQ)
             repeat' (first | (with_reducible refine Or.inr (AW.mixWX (E := EqT.no _) [n] [1,2,3,4,5,6,7,8] [0,9,10,11] [] mixedP ?_ ?_ ?_ ?_); decide +kernel; (simp only [List.length_cons,List.length_nil]; decide); (intro j hj; simp only [List.mem_singleton] at hj; subst hj; refine Or.inr ?_; dsimp only; omega)) | (with_reducible refine (AW.mixWX (E := EqT.no _) [n] [1,2,3,4,5,6,7,8] [0,9,10,11] [] mixedP ?_ ?_ ?_ ?_); decide +kernel; (simp only [List.length_cons,List.length_nil]; decide); (intro j hj; simp only [List.mem_singleton] at hj; subst hj; refine Or.inr ?_; dsimp only; omega)) | (with_reducible refine MW0.of 4000 (by simp) ?_ ?_) | (with_reducible refine MW0.nil ?_) | (with_reducible refine MW1.of 4000 (by simp) ?_) | (with_reducible first | refine XG_split (fun hq => ?_) (fun hq => ?_) | refine MX1.of 4000 (by simp) ?_ | refine MX2.of 4000 (by simp) ?_ | refine And.intro ?_ ?_) | ((with_reducible first | refine Or.inl (And.intro (And.intro mixedP ?_) ?_) | refine Or.inl (And.intro mixedP ?_)); kernel_rfl) | simp only [go_sem,ldK,ldW,blindK,List.mem_singleton,Nat.reduceEqDiff,Nat.reduceAdd,Nat.reduceMul,Nat.reduceLeDiff,Int.reduceBEq,Clause.av,Clause.z,Lit.z,Term.z,Val.z,noStr,List.map_nil,ended_fold,Int.reduceBNe,hE,Rd.adv_mk2,← hA,parH,cbx,zeroCA,Lit.cells,Lit.av,he2,hF,hQ])
             all_goals first | omega | (unfold maxLen; omega) | (right; omega) | (left; simp; done) | (simp only [wk3,wkL2,wk2,wkL,wk1_d,wk1_own,wk1_nil,and_self]; done) | (intro i hi; simp only [upd]; (repeat' split); all_goals first | rfl | omega) | exact hp | exact hR0 | exact hS | exact hSN | exact hAd | exact hT0 | exact hR' | exact hA' | exact hRN | exact hRF | exact hR'.fail 2 | (refine ⟨hS,?_,?_⟩ <;> omega) | (refine ⟨hR',?_,?_⟩ <;> omega) | skip
           | false =>
             have hF := hF0.trans (if_neg (by rw [hQ]; simp))
             repeat' (first | (with_reducible refine Or.inr (AW.mixWX (E := EqT.no _) [n] [1,2,3,4,5,6,7,8] [0,9,10,11] [] mixedP ?_ ?_ ?_ ?_); decide +kernel; (simp only [List.length_cons,List.length_nil]; decide); (intro j hj; simp only [List.mem_singleton] at hj; subst hj; refine Or.inr ?_; dsimp only; omega)) | (with_reducible refine (AW.mixWX (E := EqT.no _) [n] [1,2,3,4,5,6,7,8] [0,9,10,11] [] mixedP ?_ ?_ ?_ ?_); decide +kernel; (simp only [List.length_cons,List.length_nil]; decide); (intro j hj; simp only [List.mem_singleton] at hj; subst hj; refine Or.inr ?_; dsimp only; omega)) | (with_reducible refine MW0.of 4000 (by simp) ?_ ?_) | (with_reducible refine MW0.nil ?_) | (with_reducible refine MW1.of 4000 (by simp) ?_) | (with_reducible first | refine XG_split (fun hq => ?_) (fun hq => ?_) | refine MX1.of 4000 (by simp) ?_ | refine MX2.of 4000 (by simp) ?_ | refine And.intro ?_ ?_) | ((with_reducible first | refine Or.inl (And.intro (And.intro mixedP ?_) ?_) | refine Or.inl (And.intro mixedP ?_)); kernel_rfl) | simp only [go_sem,ldK,ldW,blindK,List.mem_singleton,Nat.reduceEqDiff,Nat.reduceAdd,Nat.reduceMul,Nat.reduceLeDiff,Int.reduceBEq,Clause.av,Clause.z,Lit.z,Term.z,Val.z,noStr,List.map_nil,ended_fold,Int.reduceBNe,hE,Rd.adv_mk2,← hA,parH,cbx,zeroCA,Lit.cells,Lit.av,he2,hF,hQ])
             all_goals first | omega | (unfold maxLen; omega) | (right; omega) | (left; simp; done) | (simp only [wk3,wkL2,wk2,wkL,wk1_d,wk1_own,wk1_nil,and_self]; done) | (intro i hi; simp only [upd]; (repeat' split); all_goals first | rfl | omega) | exact hp | exact hR0 | exact hS | exact hSN | exact hAd | exact hT0 | exact hR' | exact hA' | exact hRN | exact hRF | exact hR'.fail 2 | (refine ⟨hS,?_,?_⟩ <;> omega) | (refine ⟨hR',?_,?_⟩ <;> omega) | skip
         | true =>
           cases hc2 : R'.is 0 ⟨#[44]⟩ with
           | false =>
             have hf := fin0 (by rw [hc2, Bool.and_false])
             rw [hf] at hF0
             simp only at hF0
             unfold Rd.is at hc2
             cases hQ : ((R'.need ⟨#[46]⟩).ended.e != 0) with
             | true =>
               have hF := hF0.trans (if_pos hQ)
               repeat' (first | (with_reducible refine Or.inr (AW.mixWX (E := EqT.no _) [n] [1,2,3,4,5,6,7,8] [0,9,10,11] [] mixedP ?_ ?_ ?_ ?_); decide +kernel; (simp only [List.length_cons,List.length_nil]; decide); (intro j hj; simp only [List.mem_singleton] at hj; subst hj; refine Or.inr ?_; dsimp only; omega)) | (with_reducible refine (AW.mixWX (E := EqT.no _) [n] [1,2,3,4,5,6,7,8] [0,9,10,11] [] mixedP ?_ ?_ ?_ ?_); decide +kernel; (simp only [List.length_cons,List.length_nil]; decide); (intro j hj; simp only [List.mem_singleton] at hj; subst hj; refine Or.inr ?_; dsimp only; omega)) | (with_reducible refine MW0.of 4000 (by simp) ?_ ?_) | (with_reducible refine MW0.nil ?_) | (with_reducible refine MW1.of 4000 (by simp) ?_) | (with_reducible first | refine XG_split (fun hq => ?_) (fun hq => ?_) | refine MX1.of 4000 (by simp) ?_ | refine MX2.of 4000 (by simp) ?_ | refine And.intro ?_ ?_) | ((with_reducible first | refine Or.inl (And.intro (And.intro mixedP ?_) ?_) | refine Or.inl (And.intro mixedP ?_)); kernel_rfl) | simp only [go_sem,ldK,ldW,blindK,List.mem_singleton,Nat.reduceEqDiff,Nat.reduceAdd,Nat.reduceMul,Nat.reduceLeDiff,Int.reduceBEq,Clause.av,Clause.z,Lit.z,Term.z,Val.z,noStr,List.map_nil,ended_fold,Int.reduceBNe,hE,Rd.adv_mk2,← hA,parH,cbx,zeroCA,Lit.cells,Lit.av,he2,hc2,hF,hQ])
               all_goals first | omega | (unfold maxLen; omega) | (right; omega) | (left; simp; done) | (simp only [wk3,wkL2,wk2,wkL,wk1_d,wk1_own,wk1_nil,and_self]; done) | (intro i hi; simp only [upd]; (repeat' split); all_goals first | rfl | omega) | exact hp | exact hR0 | exact hS | exact hSN | exact hAd | exact hT0 | exact hR' | exact hA' | exact hRN | exact hRF | exact hR'.fail 2 | (refine ⟨hS,?_,?_⟩ <;> omega) | (refine ⟨hR',?_,?_⟩ <;> omega) | skip
             | false =>
               have hF := hF0.trans (if_neg (by rw [hQ]; simp))
               repeat' (first | (with_reducible refine Or.inr (AW.mixWX (E := EqT.no _) [n] [1,2,3,4,5,6,7,8] [0,9,10,11] [] mixedP ?_ ?_ ?_ ?_); decide +kernel; (simp only [List.length_cons,List.length_nil]; decide); (intro j hj; simp only [List.mem_singleton] at hj; subst hj; refine Or.inr ?_; dsimp only; omega)) | (with_reducible refine (AW.mixWX (E := EqT.no _) [n] [1,2,3,4,5,6,7,8] [0,9,10,11] [] mixedP ?_ ?_ ?_ ?_); decide +kernel; (simp only [List.length_cons,List.length_nil]; decide); (intro j hj; simp only [List.mem_singleton] at hj; subst hj; refine Or.inr ?_; dsimp only; omega)) | (with_reducible refine MW0.of 4000 (by simp) ?_ ?_) | (with_reducible refine MW0.nil ?_) | (with_reducible refine MW1.of 4000 (by simp) ?_) | (with_reducible first | refine XG_split (fun hq => ?_) (fun hq => ?_) | refine MX1.of 4000 (by simp) ?_ | refine MX2.of 4000 (by simp) ?_ | refine And.intro ?_ ?_) | ((with_reducible first | refine Or.inl (And.intro (And.intro mixedP ?_) ?_) | refine Or.inl (And.intro mixedP ?_)); kernel_rfl) | simp only [go_sem,ldK,ldW,blindK,List.mem_singleton,Nat.reduceEqDiff,Nat.reduceAdd,Nat.reduceMul,Nat.reduceLeDiff,Int.reduceBEq,Clause.av,Clause.z,Lit.z,Term.z,Val.z,noStr,List.map_nil,ended_fold,Int.reduceBNe,hE,Rd.adv_mk2,← hA,parH,cbx,zeroCA,Lit.cells,Lit.av,he2,hc2,hF,hQ])
               all_goals first | omega | (unfold maxLen; omega) | (right; omega) | (left; simp; done) | (simp only [wk3,wkL2,wk2,wkL,wk1_d,wk1_own,wk1_nil,and_self]; done) | (intro i hi; simp only [upd]; (repeat' split); all_goals first | rfl | omega) | exact hp | exact hR0 | exact hS | exact hSN | exact hAd | exact hT0 | exact hR' | exact hA' | exact hRN | exact hRF | exact hR'.fail 2 | (refine ⟨hS,?_,?_⟩ <;> omega) | (refine ⟨hR',?_,?_⟩ <;> omega) | skip
           | true =>
             have hA' := hR'.adv_txt hc2 (by decide)
             have hk' := txt_lt hc2 (by decide)
             have hc0 := hc2
             unfold Rd.is at hc2
             by_cases h6 : acc.length = 6
             · have h6' : (acc.length == 6) = true := by simp [h6]
               have hf : fin = (acc, R'.fail 2) := by
                rw [← hI, h6]
                simp only [Nat.sub_self, Rd.bodyL, he2, hc0, Bool.and_self, if_true]
               rw [hf] at hF0
               simp only at hF0
               cases hQ : (((R'.fail 2).need ⟨#[46]⟩).ended.e != 0) with
               | true =>
                 have hF := hF0.trans (if_pos hQ)
                 repeat' (first | (with_reducible refine Or.inr (AW.mixWX (E := EqT.no _) [n] [1,2,3,4,5,6,7,8] [0,9,10,11] [] mixedP ?_ ?_ ?_ ?_); decide +kernel; (simp only [List.length_cons,List.length_nil]; decide); (intro j hj; simp only [List.mem_singleton] at hj; subst hj; refine Or.inr ?_; dsimp only; omega)) | (with_reducible refine (AW.mixWX (E := EqT.no _) [n] [1,2,3,4,5,6,7,8] [0,9,10,11] [] mixedP ?_ ?_ ?_ ?_); decide +kernel; (simp only [List.length_cons,List.length_nil]; decide); (intro j hj; simp only [List.mem_singleton] at hj; subst hj; refine Or.inr ?_; dsimp only; omega)) | (with_reducible refine MW0.of 4000 (by simp) ?_ ?_) | (with_reducible refine MW0.nil ?_) | (with_reducible refine MW1.of 4000 (by simp) ?_) | (with_reducible first | refine XG_split (fun hq => ?_) (fun hq => ?_) | refine MX1.of 4000 (by simp) ?_ | refine MX2.of 4000 (by simp) ?_ | refine And.intro ?_ ?_) | ((with_reducible first | refine Or.inl (And.intro (And.intro mixedP ?_) ?_) | refine Or.inl (And.intro mixedP ?_)); kernel_rfl) | simp only [go_sem,ldK,ldW,blindK,List.mem_singleton,Nat.reduceEqDiff,Nat.reduceAdd,Nat.reduceMul,Nat.reduceLeDiff,Int.reduceBEq,Clause.av,Clause.z,Lit.z,Term.z,Val.z,noStr,List.map_nil,ended_fold,Int.reduceBNe,hE,Rd.adv_mk2,← hA,parH,cbx,zeroCA,Lit.cells,Lit.av,he2,hc2,h6',hF,hQ])
                 all_goals first | omega | (unfold maxLen; omega) | (right; omega) | (left; simp; done) | (simp only [wk3,wkL2,wk2,wkL,wk1_d,wk1_own,wk1_nil,and_self]; done) | (intro i hi; simp only [upd]; (repeat' split); all_goals first | rfl | omega) | exact hp | exact hR0 | exact hS | exact hSN | exact hAd | exact hT0 | exact hR' | exact hA' | exact hRN | exact hRF | exact hR'.fail 2 | (refine ⟨hS,?_,?_⟩ <;> omega) | (refine ⟨hR',?_,?_⟩ <;> omega) | skip
               | false =>
                 have hF := hF0.trans (if_neg (by rw [hQ]; simp))
                 repeat' (first | (with_reducible refine Or.inr (AW.mixWX (E := EqT.no _) [n] [1,2,3,4,5,6,7,8] [0,9,10,11] [] mixedP ?_ ?_ ?_ ?_); decide +kernel; (simp only [List.length_cons,List.length_nil]; decide); (intro j hj; simp only [List.mem_singleton] at hj; subst hj; refine Or.inr ?_; dsimp only; omega)) | (with_reducible refine (AW.mixWX (E := EqT.no _) [n] [1,2,3,4,5,6,7,8] [0,9,10,11] [] mixedP ?_ ?_ ?_ ?_); decide +kernel; (simp only [List.length_cons,List.length_nil]; decide); (intro j hj; simp only [List.mem_singleton] at hj; subst hj; refine Or.inr ?_; dsimp only; omega)) | (with_reducible refine MW0.of 4000 (by simp) ?_ ?_) | (with_reducible refine MW0.nil ?_) | (with_reducible refine MW1.of 4000 (by simp) ?_) | (with_reducible first | refine XG_split (fun hq => ?_) (fun hq => ?_) | refine MX1.of 4000 (by simp) ?_ | refine MX2.of 4000 (by simp) ?_ | refine And.intro ?_ ?_) | ((with_reducible first | refine Or.inl (And.intro (And.intro mixedP ?_) ?_) | refine Or.inl (And.intro mixedP ?_)); kernel_rfl) | simp only [go_sem,ldK,ldW,blindK,List.mem_singleton,Nat.reduceEqDiff,Nat.reduceAdd,Nat.reduceMul,Nat.reduceLeDiff,Int.reduceBEq,Clause.av,Clause.z,Lit.z,Term.z,Val.z,noStr,List.map_nil,ended_fold,Int.reduceBNe,hE,Rd.adv_mk2,← hA,parH,cbx,zeroCA,Lit.cells,Lit.av,he2,hc2,h6',hF,hQ])
                 all_goals first | omega | (unfold maxLen; omega) | (right; omega) | (left; simp; done) | (simp only [wk3,wkL2,wk2,wkL,wk1_d,wk1_own,wk1_nil,and_self]; done) | (intro i hi; simp only [upd]; (repeat' split); all_goals first | rfl | omega) | exact hp | exact hR0 | exact hS | exact hSN | exact hAd | exact hT0 | exact hR' | exact hA' | exact hRN | exact hRF | exact hR'.fail 2 | (refine ⟨hS,?_,?_⟩ <;> omega) | (refine ⟨hR',?_,?_⟩ <;> omega) | skip
             · have h6' : (acc.length == 6) = false := by simp [h6]
               repeat' (first | (with_reducible refine Or.inr (AW.mixWX (E := EqT.no _) [n] [1,2,3,4,5,6,7,8] [0,9,10,11] [] mixedP ?_ ?_ ?_ ?_); decide +kernel; (simp only [List.length_cons,List.length_nil]; decide); (intro j hj; simp only [List.mem_singleton] at hj; subst hj; refine Or.inr ?_; dsimp only; omega)) | (with_reducible refine (AW.mixWX (E := EqT.no _) [n] [1,2,3,4,5,6,7,8] [0,9,10,11] [] mixedP ?_ ?_ ?_ ?_); decide +kernel; (simp only [List.length_cons,List.length_nil]; decide); (intro j hj; simp only [List.mem_singleton] at hj; subst hj; refine Or.inr ?_; dsimp only; omega)) | (with_reducible refine Or.inr (AW.mixWX (E := EqT.no _) [n + 1] [0,1,2] [3,4] [5,6,7] mixedP ?_ ?_ ?_ ?_); decide +kernel; (simp only [List.length_cons,List.length_nil]; decide); (intro j hj; simp only [List.mem_singleton] at hj; subst hj; refine Or.inr ?_; dsimp only; omega)) | (with_reducible refine (AW.mixWX (E := EqT.no _) [n + 1] [0,1,2] [3,4] [5,6,7] mixedP ?_ ?_ ?_ ?_); decide +kernel; (simp only [List.length_cons,List.length_nil]; decide); (intro j hj; simp only [List.mem_singleton] at hj; subst hj; refine Or.inr ?_; dsimp only; omega)) | (with_reducible refine MW0.of 4000 (by simp) ?_ ?_) | (with_reducible refine MW0.nil ?_) | (with_reducible refine MW1.of 4000 (by simp) ?_) | (with_reducible first | refine XG_split (fun hq => ?_) (fun hq => ?_) | refine MX1.of 4000 (by simp) ?_ | refine MX2.of 4000 (by simp) ?_ | refine And.intro ?_ ?_) | ((with_reducible first | refine Or.inl (And.intro (And.intro mixedP ?_) ?_) | refine Or.inl (And.intro mixedP ?_)); kernel_rfl) | simp only [go_sem,ldK,ldW,blindK,List.mem_singleton,Nat.reduceEqDiff,Nat.reduceAdd,Nat.reduceMul,Nat.reduceLeDiff,Int.reduceBEq,Clause.av,Clause.z,Lit.z,Term.z,Val.z,noStr,List.map_nil,ended_fold,Int.reduceBNe,hE,Rd.adv_mk2,← hA,parH,cbx,zeroCA,Lit.cells,Lit.av,he2,hc2,h6'])
               all_goals first | omega | (unfold maxLen; omega) | (right; omega) | (left; simp; done) | (simp only [wk3,wkL2,wk2,wkL,wk1_d,wk1_own,wk1_nil,and_self]; done) | (intro i hi; simp only [upd]; (repeat' split); all_goals first | rfl | omega) | exact hp | exact hR0 | exact hS | exact hSN | exact hAd | exact hT0 | exact hR' | exact hA' | exact hRN | exact hRF | exact hR'.fail 2 | (refine ⟨hS,?_,?_⟩ <;> omega) | (refine ⟨hR',?_,?_⟩ <;> omega) | skip
               refine ⟨(acc ++ [R'.adv.literal.1], R'.adv.literal.2), ⟨by simp only [List.length_append, List.length_cons, List.length_nil]; omega, by simp only [List.length_append, List.length_cons, List.length_nil]; omega, hA'.literal, ?_⟩, Wk.of (by simp only [go_sem]) ?_ (parH_ok hok) (Nat.le_refl _) (by omega) (by simp only [go_sem]; omega), by simp only [List.length_append, List.length_cons, List.length_nil]; omega⟩
               · rw [← hI]
                 obtain ⟨m, hm⟩ : ∃ m, 6 - acc.length = m + 1 := ⟨6 - acc.length - 1, by omega⟩
                 rw [hm]
                 simp only [Rd.bodyL, he2, hc0, Bool.and_self, if_true, List.length_append, List.length_cons, List.length_nil]
                 congr 1
                 omega
               · intro j hj
                 simp only [parH, upd, obRd_bx, cbx, zeroCA, List.map_cons, List.map_nil, List.map_append, Lit.cells, List.length_append, List.length_cons, List.length_nil]
                 (repeat' split)
                 all_goals first | rfl | omega
end Go.Proofs.Ytdhocmakbapfpaa.M
end
section
namespace Go.Proofs.Ytdhocmakbapfpaa.M
open Go.R
theorem clauseA_small (s : ByteArray) : smallC (clauseA s).1 := by
 unfold clauseA
 cases h : parseP s with
 | error q =>
   obtain ⟨p, x⟩ := q
   exact ⟨Nat.zero_le _, Nat.zero_le _, fun l hl => absurd hl List.not_mem_nil⟩
 | ok c =>
   obtain ⟨h1, h2, h3⟩ := parse_small h
   have h1 : c.body.length ≤ 6 := h1
   have h2 : c.head.args.length ≤ 4 := h2
   exact ⟨by show c.body.length ≤ _; omega, by show c.head.args.length ≤ _; omega, fun l hl => by have := h3 l hl; omega⟩
theorem litA_small (s : ByteArray) : (litA s).1.args.length ≤ 4611686018427387904 := by
 unfold litA
 cases h : parseLitP s with
 | error q =>
   obtain ⟨p, x⟩ := q
   exact Nat.zero_le _
 | ok r =>
   have h1 := parseLit_small h
   show r.2.2.length ≤ _
   omega
theorem eqB_self {α : Type} (a : α) : eqB a a = true := eqB_true rfl
abbrev lawStrS : Fs := .pureIf (g1p aStr fun s => (s.size : Int) ≤ 9223372036854775807) (g1 aStr fun _ => vB true)
@[go_sem] theorem g0_nil (r : AV) : g0 r [] = some r := rfl
set_option maxRecDepth 20000 in
set_option maxHeartbeats 8000000 in
theorem law1_ok : FsOk Try.prog 3 lawStrS := by
 refine of_Y1 (E := EqT.no _) (F := (((Ft.no.put 11 pparseS).put 12 refParseS).put 13 fixedS).put 14 sameS) vS (fun _ _ => aStr_le) Try.func3 rfl (by kernel_rfl) [.tmp 2] rfl Try.ntmps3 (by decide) (((((FtOk.no _).put pparse_ok).put refParse_ok).put fixed_ok).put same_ok) ?_
 intro s h n hp hok
 have hr : refClauseR s = clauseA s := refClause_law s
 have hs := clauseA_small s
 obtain ⟨c, p, e, hA⟩ : ∃ c p e, clauseA s = (c, p, e) := ⟨_, _, _, rfl⟩
 rw [hA] at hs
 have hs : smallC c := hs
 repeat' (first | (with_reducible first | refine XG_split (fun hq => ?_) (fun hq => ?_) | refine MX1.of 4000 (by simp) ?_ | refine MX2.of 4000 (by simp) ?_ | refine And.intro ?_ ?_) | ((with_reducible first | refine Or.inl (And.intro (And.intro mixedP ?_) ?_) | refine Or.inl (And.intro mixedP ?_)); kernel_rfl) | simp only [go_sem,Nat.reduceEqDiff,Nat.reduceAdd,Nat.reduceMul,Nat.reduceLeDiff,Int.reduceBEq,Clause.av,Lit.av,hr,hA,eqB_self,beq_self_eq_true])
 all_goals first | exact hp | exact hs | skip
 all_goals first | omega | (unfold maxLen; omega) | (right; omega) | (left; simp; done) | (simp only [wk3,wkL2,wk2,wkL,wk1_d,wk1_own,wk1_nil,and_self]; done) | (intro i hi; simp only [upd]; (repeat' split); all_goals first | rfl | omega) | skip
set_option maxRecDepth 20000 in
set_option maxHeartbeats 8000000 in
theorem law2_ok : FsOk Try.prog 4 lawStrS := by
 refine of_Y1 (E := EqT.no _) (F := (((Ft.no.put 15 pparseLitS).put 16 refParseLitS).put 13 fixedS).put 17 sameLitS) vS (fun _ _ => aStr_le) Try.func4 rfl (by kernel_rfl) [.tmp 2] rfl Try.ntmps4 (by decide) (((((FtOk.no _).put pparseLit_ok).put refParseLit_ok).put fixed_ok).put sameLit_ok) ?_
 intro s h n hp hok
 have hr : refLitR s = litA s := refLit_law s
 have hs := litA_small s
 obtain ⟨c, p, e, hA⟩ : ∃ c p e, litA s = (c, p, e) := ⟨_, _, _, rfl⟩
 rw [hA] at hs
 have hs : c.args.length ≤ 4611686018427387904 := hs
 repeat' (first | (with_reducible first | refine XG_split (fun hq => ?_) (fun hq => ?_) | refine MX1.of 4000 (by simp) ?_ | refine MX2.of 4000 (by simp) ?_ | refine And.intro ?_ ?_) | ((with_reducible first | refine Or.inl (And.intro (And.intro mixedP ?_) ?_) | refine Or.inl (And.intro mixedP ?_)); kernel_rfl) | simp only [go_sem,Nat.reduceEqDiff,Nat.reduceAdd,Nat.reduceMul,Nat.reduceLeDiff,Int.reduceBEq,Clause.av,Lit.av,hr,hA,eqB_self,beq_self_eq_true])
 all_goals first | exact hp | exact hs | skip
 all_goals first | omega | (unfold maxLen; omega) | (right; omega) | (left; simp; done) | (simp only [wk3,wkL2,wk2,wkL,wk1_d,wk1_own,wk1_nil,and_self]; done) | (intro i hi; simp only [upd]; (repeat' split); all_goals first | rfl | omega) | skip
end Go.Proofs.Ytdhocmakbapfpaa.M
end
