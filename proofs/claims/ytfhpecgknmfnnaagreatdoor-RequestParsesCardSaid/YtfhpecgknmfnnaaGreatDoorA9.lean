import Derived.Test.YtfhpecgknmfnnaaGreatDoorA8
import Derived.Test.YtfhpecgknmfnnaaGreatDoorA3
import Derived.Test.YtfhpecgknmfnnaaGreatDoorA2
set_option linter.unusedVariables false
set_option linter.unusedSimpArgs false
section
namespace Go.Proofs.YtfhpecgknmfnnaaGreatDoor.M
open Go.R Go.Proofs.YtfhpecgknmfnnaaGreatDoorW.PrintWords Go.Proofs.YtfhpecgknmfnnaaGreatDoorW.PrintMore
def rd0 (s : ByteArray) : Rd := ⟨s, (allT s).1, 0, 0, 0⟩
theorem rd0_ok (s : ByteArray) : RdOk (rd0 s) := ⟨allT_ok s, Nat.zero_le _⟩
def Rd.ended (R : Rd) : Rd := if R.e == 0 && decide (R.k < R.T.length) then R.fail 6 else R
theorem ended_fold (R : Rd) : (if (R.e == 0 && decide (R.k < R.T.length)) = true then R.fail 6 else R) = R.ended := rfl
def Rd.bodyL : Nat → List Lit → Rd → List Lit × Rd
 | 0, acc, R => if R.e == 0 && R.is 0 ⟨#[44]⟩ then (acc, R.fail 2) else (acc, R)
 | f + 1, acc, R => if R.e == 0 && R.is 0 ⟨#[44]⟩ then Rd.bodyL f (acc ++ [R.adv.literal.1]) R.adv.literal.2 else (acc, R)
def Rd.body (R : Rd) : List Lit × Rd := if R.e == 0 && R.is 0 ⟨#[58, 45]⟩ then Rd.bodyL 5 [R.adv.literal.1] R.adv.literal.2 else ([], R)
def refLitR (s : ByteArray) : Lit × Int × Int :=
 if (allT s).2.2 != 0 then (Lit.z, (allT s).2.1, (allT s).2.2)
 else if ((rd0 s).said 1).2.ended.e != 0 then (Lit.z, ((rd0 s).said 1).2.ended.fr, ((rd0 s).said 1).2.ended.e)
 else (((rd0 s).said 1).1, 0, 0)
def Rd.last (R : Rd) : Rd := (R.need ⟨#[46]⟩).ended
def refClauseR (s : ByteArray) : Clause × Int × Int :=
 if (allT s).2.2 != 0 then (Clause.z, (allT s).2.1, (allT s).2.2)
 else if (rd0 s).atom.2.body.2.last.e != 0 then (Clause.z, (rd0 s).atom.2.body.2.last.fr, (rd0 s).atom.2.body.2.last.e)
 else (⟨⟨1, Term.z, (rd0 s).atom.1.1, (rd0 s).atom.1.2⟩, (rd0 s).atom.2.body.1⟩, 0, 0)
def openRun : List AV → AH → Nat → Option (AV × AH × Nat)
 | [.d (.v (.string s))], h, n => some (.tup [.p n 0, vI (allT s).2.1, vI (allT s).2.2], upd h n (.box (obRd.bx (rd0 s))), n + 1)
 | _, _, _ => none
def openPre : List AV → AH → Nat → Prop
 | [.d (.v (.string s))], h, n => (s.size : Int) ≤ 9223372036854775807
 | _, _, _ => True
def openS : Fs := ⟨openRun, openPre, fun _ => []⟩
@[go_sem] theorem openS_run (s : ByteArray) (h : AH) (n : Nat) : openS.run [.d (.v (.string s))] h n = some (.tup [.p n 0, vI (allT s).2.1, vI (allT s).2.2], upd h n (.box (obRd.bx (rd0 s))), n + 1) := rfl
@[go_sem] theorem openS_pre (s : ByteArray) (h : AH) (n : Nat) : openS.pre [.d (.v (.string s))] h n = ((s.size : Int) ≤ 9223372036854775807) := rfl
@[go_sem] theorem openS_tch (l : List AV) : openS.tch l = [] := rfl
abbrev refParseLitS : Fs := .pureIf (g1p aStr fun s => (s.size : Int) ≤ 9223372036854775807) (g1 aStr fun s => .tup [(refLitR s).1.av, vI (refLitR s).2.1, vI (refLitR s).2.2])
abbrev refParseS : Fs := .pureIf (g1p aStr fun s => (s.size : Int) ≤ 9223372036854775807) (g1 aStr fun s => .tup [(refClauseR s).1.av, vI (refClauseR s).2.1, vI (refClauseR s).2.2])
set_option maxHeartbeats 1000000 in
theorem open_ok : FsOk Tryz.prog 51 openS := by
 refine FsOk.of_X (E := EqT.no _) (F := Ft.no.put 17 refAllS) Tryz.func51 rfl (by kernel_rfl) (rs := [.tmp 2, .tmp 3, .tmp 4]) rfl Tryz.ntmps51 ((FtOk.no _).put refAll_ok) ?_
 intro args h n r h' n' hp hr hok
 simp only [openS] at hp hr ⊢
 unfold openRun at hr
 split at hr
 · rename_i s
   cases hr
   simp only [openPre] at hp
   refine ⟨[vS s], ⟨AV.le.refl _, trivial⟩, ⟨by decide, by simp⟩, ?_⟩
   have hb : obRd.bx (rd0 s) = [vS s, .d (.sl 3 ((allT s).1.map Tok.cells)), vI 0, vI 0, vI 0] := rfl
   repeat' (first | (with_reducible first | refine XG_split (fun hq => ?_) (fun hq => ?_) | refine MX1.of 4000 (by simp) ?_ | refine MX2.of 4000 (by simp) ?_ | refine And.intro ?_ ?_) | ((with_reducible first | refine Or.inl (And.intro (And.intro mixedP ?_) ?_) | refine Or.inl (And.intro mixedP ?_)); kernel_rfl) | simp only [go_sem,Nat.reduceEqDiff,Nat.reduceAdd,Nat.reduceMul,Nat.reduceLeDiff,Int.reduceBEq,FinE,hb])
   all_goals first | omega | (unfold maxLen; omega) | (right; omega) | (left; simp; done) | (simp only [wk3,wkL2,wk2,wkL,wk1_d,wk1_own,wk1_nil,and_self]; done) | (intro i hi; simp only [upd]; (repeat' split); all_goals first | rfl | omega) | skip
   all_goals first | exact hp | skip
   · intro i hi
     simp only [upd]
     rw [if_neg (by omega)]
     exact hok.no i (by omega)
   · intro i cs hi e
     simp only [upd] at e
     split at e
     · cases e
       right
       simp only [go_sem]
     · exact .inl e
 · cases hr
set_option maxRecDepth 10000 in
set_option maxHeartbeats 4000000 in
theorem refParseLit_ok : FsOk Tryz.prog 22 refParseLitS := by
 refine of_Y1 (E := EqT.no _) (F := ((Ft.no.put 51 openS).put 58 saidRS).put 57 endedS) vS (fun _ _ => aStr_le) Tryz.func22 rfl (by kernel_rfl) [.cell 2 28, .tmp 3, .tmp 4] rfl Tryz.ntmps22 (by decide) ((((FtOk.no _).put open_ok).put said_ok2).put ended_ok) ?_
 intro s h n hp hok
 have hR0 := rd0_ok s
 have hS := hR0.said 1
 cases hE : ((allT s).2.2 != 0) with
 | true =>
   have hF : refLitR s = (Lit.z, (allT s).2.1, (allT s).2.2) := by unfold refLitR; rw [if_pos hE]
   repeat' (first | (with_reducible refine Or.inr (AW.mixWX (E := EqT.no _) [n] [1,2,3,4,5,6,7,8] [0,9,10,11] [] mixedP ?_ ?_ ?_ ?_); decide +kernel; (simp only [List.length_cons,List.length_nil]; decide); (intro j hj; simp only [List.mem_singleton] at hj; subst hj; refine Or.inr ?_; dsimp only; omega)) | (with_reducible refine (AW.mixWX (E := EqT.no _) [n] [1,2,3,4,5,6,7,8] [0,9,10,11] [] mixedP ?_ ?_ ?_ ?_); decide +kernel; (simp only [List.length_cons,List.length_nil]; decide); (intro j hj; simp only [List.mem_singleton] at hj; subst hj; refine Or.inr ?_; dsimp only; omega)) | (with_reducible refine MW0.of 4000 (by simp) ?_ ?_) | (with_reducible refine MW0.nil ?_) | (with_reducible refine MW1.of 4000 (by simp) ?_) | (with_reducible first | refine XG_split (fun hq => ?_) (fun hq => ?_) | refine MX1.of 4000 (by simp) ?_ | refine MX2.of 4000 (by simp) ?_ | refine And.intro ?_ ?_) | ((with_reducible first | refine Or.inl (And.intro (And.intro mixedP ?_) ?_) | refine Or.inl (And.intro mixedP ?_)); kernel_rfl) | simp only [go_sem,ldK,ldW,blindK,List.mem_singleton,Nat.reduceEqDiff,Nat.reduceAdd,Nat.reduceMul,Nat.reduceLeDiff,Int.reduceBEq,Lit.av,Lit.z,Term.z,Val.z,noStr,List.map_nil,hF,hE,ended_fold])
   all_goals first | omega | (unfold maxLen; omega) | (right; omega) | (left; simp; done) | (simp only [wk3,wkL2,wk2,wkL,wk1_d,wk1_own,wk1_nil,and_self]; done) | (intro i hi; simp only [upd]; (repeat' split); all_goals first | rfl | omega) | exact hp | exact hR0 | exact hS | skip
 | false =>
   cases hQ : (((rd0 s).said 1).2.ended.e != 0) with
   | true =>
     have hF : refLitR s = (Lit.z, ((rd0 s).said 1).2.ended.fr, ((rd0 s).said 1).2.ended.e) := by unfold refLitR; rw [if_neg (by rw [hE]; simp), if_pos hQ]
     repeat' (first | (with_reducible refine Or.inr (AW.mixWX (E := EqT.no _) [n] [1,2,3,4,5,6,7,8] [0,9,10,11] [] mixedP ?_ ?_ ?_ ?_); decide +kernel; (simp only [List.length_cons,List.length_nil]; decide); (intro j hj; simp only [List.mem_singleton] at hj; subst hj; refine Or.inr ?_; dsimp only; omega)) | (with_reducible refine (AW.mixWX (E := EqT.no _) [n] [1,2,3,4,5,6,7,8] [0,9,10,11] [] mixedP ?_ ?_ ?_ ?_); decide +kernel; (simp only [List.length_cons,List.length_nil]; decide); (intro j hj; simp only [List.mem_singleton] at hj; subst hj; refine Or.inr ?_; dsimp only; omega)) | (with_reducible refine MW0.of 4000 (by simp) ?_ ?_) | (with_reducible refine MW0.nil ?_) | (with_reducible refine MW1.of 4000 (by simp) ?_) | (with_reducible first | refine XG_split (fun hq => ?_) (fun hq => ?_) | refine MX1.of 4000 (by simp) ?_ | refine MX2.of 4000 (by simp) ?_ | refine And.intro ?_ ?_) | ((with_reducible first | refine Or.inl (And.intro (And.intro mixedP ?_) ?_) | refine Or.inl (And.intro mixedP ?_)); kernel_rfl) | simp only [go_sem,ldK,ldW,blindK,List.mem_singleton,Nat.reduceEqDiff,Nat.reduceAdd,Nat.reduceMul,Nat.reduceLeDiff,Int.reduceBEq,Lit.av,Lit.z,Term.z,Val.z,noStr,List.map_nil,hF,hE,ended_fold,hQ])
     all_goals first | omega | (unfold maxLen; omega) | (right; omega) | (left; simp; done) | (simp only [wk3,wkL2,wk2,wkL,wk1_d,wk1_own,wk1_nil,and_self]; done) | (intro i hi; simp only [upd]; (repeat' split); all_goals first | rfl | omega) | exact hp | exact hR0 | exact hS | skip
   | false =>
     have hF : refLitR s = (((rd0 s).said 1).1, 0, 0) := by unfold refLitR; rw [if_neg (by rw [hE]; simp), if_neg (by rw [hQ]; simp)]
     repeat' (first | (with_reducible refine Or.inr (AW.mixWX (E := EqT.no _) [n] [1,2,3,4,5,6,7,8] [0,9,10,11] [] mixedP ?_ ?_ ?_ ?_); decide +kernel; (simp only [List.length_cons,List.length_nil]; decide); (intro j hj; simp only [List.mem_singleton] at hj; subst hj; refine Or.inr ?_; dsimp only; omega)) | (with_reducible refine (AW.mixWX (E := EqT.no _) [n] [1,2,3,4,5,6,7,8] [0,9,10,11] [] mixedP ?_ ?_ ?_ ?_); decide +kernel; (simp only [List.length_cons,List.length_nil]; decide); (intro j hj; simp only [List.mem_singleton] at hj; subst hj; refine Or.inr ?_; dsimp only; omega)) | (with_reducible refine MW0.of 4000 (by simp) ?_ ?_) | (with_reducible refine MW0.nil ?_) | (with_reducible refine MW1.of 4000 (by simp) ?_) | (with_reducible first | refine XG_split (fun hq => ?_) (fun hq => ?_) | refine MX1.of 4000 (by simp) ?_ | refine MX2.of 4000 (by simp) ?_ | refine And.intro ?_ ?_) | ((with_reducible first | refine Or.inl (And.intro (And.intro mixedP ?_) ?_) | refine Or.inl (And.intro mixedP ?_)); kernel_rfl) | simp only [go_sem,ldK,ldW,blindK,List.mem_singleton,Nat.reduceEqDiff,Nat.reduceAdd,Nat.reduceMul,Nat.reduceLeDiff,Int.reduceBEq,Lit.av,Lit.z,Term.z,Val.z,noStr,List.map_nil,hF,hE,ended_fold,hQ])
     all_goals first | omega | (unfold maxLen; omega) | (right; omega) | (left; simp; done) | (simp only [wk3,wkL2,wk2,wkL,wk1_d,wk1_own,wk1_nil,and_self]; done) | (intro i hi; simp only [upd]; (repeat' split); all_goals first | rfl | omega) | exact hp | exact hR0 | exact hS | skip
end Go.Proofs.YtfhpecgknmfnnaaGreatDoor.M
end
section
namespace Go.Proofs.YtfhpecgknmfnnaaGreatDoor.M
open Go.R Go.Proofs.YtfhpecgknmfnnaaGreatDoorW.PrintWords Go.Proofs.YtfhpecgknmfnnaaGreatDoorW.PrintMore
def cbx (name : ByteArray) (args : List Term) (y : AV) : List AV := [.d (.v (.int .u8 1)), vS ⟨#[]⟩, vS ⟨#[]⟩, vI 0, vS name, .d (.sl 3 (args.map Term.cells)), y]
def parH (h : AH) (n : Nat) (name : ByteArray) (args : List Term) (R : Rd) (acc : List Lit) : AH :=
 upd (upd (upd (upd h n (.box zeroCA)) (n + 1) (.box (obRd.bx R))) (n + 1 + 1) (.box (cbx name args (.own (n + 1 + 1 + 1) 6 (acc.map Lit.cells))))) (n + 1 + 1 + 1) (.tok acc.length 6)
theorem parH_ok {h : AH} {n : Nat} {name : ByteArray} {args : List Term} {R : Rd} {acc : List Lit} (hok : HOk n h) : HOk (n + 1 + 1 + 1 + 1) (parH h n name args R acc) := by
 unfold parH
 refine (((((hok.mono (by omega)).upd_box (by omega) ?_).upd_box (by omega) ?_).upd_box (by omega) ?_).upd_tok (by omega))
 · simp only [go_sem, zeroCA]
 · exact obRd.lt _ R
 · simp only [go_sem, cbx]
   omega
theorem Rd.ended_ok {R : Rd} (h : RdOk R) : RdOk R.ended := by
 unfold Rd.ended
 split
 · exact h.fail 6
 · exact h
set_option maxRecDepth 10000 in
set_option maxHeartbeats 8000000 in
theorem refParse_ok : FsOk Tryz.prog 21 refParseS := by
 refine of_Y1 (E := EqT.no _) (F := ((((((Ft.no.put 51 openS).put 52 atomRS).put 53 textS).put 54 literalRS).put 55 failS).put 56 needS).put 57 endedS) vS (fun _ _ => aStr_le) Tryz.func21 rfl (by kernel_rfl) [.cell 2 31, .tmp 3, .tmp 4] rfl Tryz.ntmps21 (by decide) ((((((((FtOk.no _).put open_ok).put atom_ok2).put text_ok).put literal_ok2).put fail_ok).put need_ok).put ended_ok) ?_
 intro s h n hp hok
 have hR0 := rd0_ok s
 have hS := hR0.atom
 cases hE : ((allT s).2.2 != 0) with
 | true =>
   have hF : refClauseR s = (Clause.z, (allT s).2.1, (allT s).2.2) := by unfold refClauseR; rw [if_pos hE]
   repeat' (first | (with_reducible first | refine XG_split (fun hq => ?_) (fun hq => ?_) | refine MX1.of 4000 (by simp) ?_ | refine MX2.of 4000 (by simp) ?_ | refine And.intro ?_ ?_) | ((with_reducible first | refine Or.inl (And.intro (And.intro mixedP ?_) ?_) | refine Or.inl (And.intro mixedP ?_)); kernel_rfl) | simp only [go_sem,Nat.reduceEqDiff,Nat.reduceAdd,Nat.reduceMul,Nat.reduceLeDiff,Int.reduceBEq,Clause.av,Clause.z,Lit.z,Term.z,Val.z,noStr,List.map_nil,ended_fold,Int.reduceBNe,hE,Rd.adv_mk2,hF])
   all_goals first | omega | (unfold maxLen; omega) | (right; omega) | (left; simp; done) | (simp only [wk3,wkL2,wk2,wkL,wk1_d,wk1_own,wk1_nil,and_self]; done) | (intro i hi; simp only [upd]; (repeat' split); all_goals first | rfl | omega) | exact hp | exact hR0 | exact hS | exact hSN | exact hAd | exact hT0 | exact hR' | exact hA' | exact hRN | exact hRF | exact hR'.fail 2 | (refine ⟨hS,?_,?_⟩ <;> omega) | (refine ⟨hR',?_,?_⟩ <;> omega) | skip
 | false =>
   have hF0 : refClauseR s = if (rd0 s).atom.2.body.2.last.e != 0 then (Clause.z, (rd0 s).atom.2.body.2.last.fr, (rd0 s).atom.2.body.2.last.e)
    else (⟨⟨1, Term.z, (rd0 s).atom.1.1, (rd0 s).atom.1.2⟩, (rd0 s).atom.2.body.1⟩, 0, 0) := by unfold refClauseR; rw [if_neg (by rw [hE]; simp)]
   obtain ⟨A, hA⟩ : ∃ A, A = (rd0 s).atom := ⟨_, rfl⟩
   rw [← hA] at hF0 hS
   obtain ⟨hS1, hS2⟩ := hS.len
   have hSN := hS.need (x := ⟨#[46]⟩) (by decide)
   cases hb : (A.2.e == 0) with
   | false =>
     have hB : A.2.body = ([], A.2) := by unfold Rd.body; rw [hb]; rfl
     rw [hB] at hF0
     simp only [Rd.last] at hF0
     cases hQ : ((A.2.need ⟨#[46]⟩).ended.e != 0) with
     | true =>
       have hF := hF0.trans (if_pos hQ)
       repeat' (first | (with_reducible refine Or.inr (AW.mixWX (E := EqT.no _) [n] [1,2,3,4,5,6,7,8] [0,9,10,11] [] mixedP ?_ ?_ ?_ ?_); decide +kernel; (simp only [List.length_cons,List.length_nil]; decide); (intro j hj; simp only [List.mem_singleton] at hj; subst hj; refine Or.inr ?_; dsimp only; omega)) | (with_reducible refine (AW.mixWX (E := EqT.no _) [n] [1,2,3,4,5,6,7,8] [0,9,10,11] [] mixedP ?_ ?_ ?_ ?_); decide +kernel; (simp only [List.length_cons,List.length_nil]; decide); (intro j hj; simp only [List.mem_singleton] at hj; subst hj; refine Or.inr ?_; dsimp only; omega)) | (with_reducible refine MW0.of 4000 (by simp) ?_ ?_) | (with_reducible refine MW0.nil ?_) | (with_reducible refine MW1.of 4000 (by simp) ?_) | (with_reducible first | refine XG_split (fun hq => ?_) (fun hq => ?_) | refine MX1.of 4000 (by simp) ?_ | refine MX2.of 4000 (by simp) ?_ | refine And.intro ?_ ?_) | ((with_reducible first | refine Or.inl (And.intro (And.intro mixedP ?_) ?_) | refine Or.inl (And.intro mixedP ?_)); kernel_rfl) | simp only [go_sem,ldK,ldW,blindK,List.mem_singleton,Nat.reduceEqDiff,Nat.reduceAdd,Nat.reduceMul,Nat.reduceLeDiff,Int.reduceBEq,Clause.av,Clause.z,Lit.z,Term.z,Val.z,noStr,List.map_nil,ended_fold,Int.reduceBNe,hE,Rd.adv_mk2,← hA,parH,cbx,zeroCA,Lit.cells,Lit.av,hb,hF,hQ])
       all_goals first | omega | (unfold maxLen; omega) | (right; omega) | (left; simp; done) | (simp only [wk3,wkL2,wk2,wkL,wk1_d,wk1_own,wk1_nil,and_self]; done) | (intro i hi; simp only [upd]; (repeat' split); all_goals first | rfl | omega) | exact hp | exact hR0 | exact hS | exact hSN | exact hAd | exact hT0 | exact hR' | exact hA' | exact hRN | exact hRF | exact hR'.fail 2 | (refine ⟨hS,?_,?_⟩ <;> omega) | (refine ⟨hR',?_,?_⟩ <;> omega) | skip
     | false =>
       have hF := hF0.trans (if_neg (by rw [hQ]; simp))
       repeat' (first | (with_reducible refine Or.inr (AW.mixWX (E := EqT.no _) [n] [1,2,3,4,5,6,7,8] [0,9,10,11] [] mixedP ?_ ?_ ?_ ?_); decide +kernel; (simp only [List.length_cons,List.length_nil]; decide); (intro j hj; simp only [List.mem_singleton] at hj; subst hj; refine Or.inr ?_; dsimp only; omega)) | (with_reducible refine (AW.mixWX (E := EqT.no _) [n] [1,2,3,4,5,6,7,8] [0,9,10,11] [] mixedP ?_ ?_ ?_ ?_); decide +kernel; (simp only [List.length_cons,List.length_nil]; decide); (intro j hj; simp only [List.mem_singleton] at hj; subst hj; refine Or.inr ?_; dsimp only; omega)) | (with_reducible refine MW0.of 4000 (by simp) ?_ ?_) | (with_reducible refine MW0.nil ?_) | (with_reducible refine MW1.of 4000 (by simp) ?_) | (with_reducible first | refine XG_split (fun hq => ?_) (fun hq => ?_) | refine MX1.of 4000 (by simp) ?_ | refine MX2.of 4000 (by simp) ?_ | refine And.intro ?_ ?_) | ((with_reducible first | refine Or.inl (And.intro (And.intro mixedP ?_) ?_) | refine Or.inl (And.intro mixedP ?_)); kernel_rfl) | simp only [go_sem,ldK,ldW,blindK,List.mem_singleton,Nat.reduceEqDiff,Nat.reduceAdd,Nat.reduceMul,Nat.reduceLeDiff,Int.reduceBEq,Clause.av,Clause.z,Lit.z,Term.z,Val.z,noStr,List.map_nil,ended_fold,Int.reduceBNe,hE,Rd.adv_mk2,← hA,parH,cbx,zeroCA,Lit.cells,Lit.av,hb,hF,hQ])
       all_goals first | omega | (unfold maxLen; omega) | (right; omega) | (left; simp; done) | (simp only [wk3,wkL2,wk2,wkL,wk1_d,wk1_own,wk1_nil,and_self]; done) | (intro i hi; simp only [upd]; (repeat' split); all_goals first | rfl | omega) | exact hp | exact hR0 | exact hS | exact hSN | exact hAd | exact hT0 | exact hR' | exact hA' | exact hRN | exact hRF | exact hR'.fail 2 | (refine ⟨hS,?_,?_⟩ <;> omega) | (refine ⟨hR',?_,?_⟩ <;> omega) | skip
   | true =>
     cases hc : A.2.is 0 ⟨#[58, 45]⟩ with
     | false =>
       have hB : A.2.body = ([], A.2) := by unfold Rd.body; rw [hc, Bool.and_false]; rfl
       rw [hB] at hF0
       simp only [Rd.last] at hF0
       unfold Rd.is at hc
       cases hQ : ((A.2.need ⟨#[46]⟩).ended.e != 0) with
       | true =>
         have hF := hF0.trans (if_pos hQ)
         repeat' (first | (with_reducible refine Or.inr (AW.mixWX (E := EqT.no _) [n] [1,2,3,4,5,6,7,8] [0,9,10,11] [] mixedP ?_ ?_ ?_ ?_); decide +kernel; (simp only [List.length_cons,List.length_nil]; decide); (intro j hj; simp only [List.mem_singleton] at hj; subst hj; refine Or.inr ?_; dsimp only; omega)) | (with_reducible refine (AW.mixWX (E := EqT.no _) [n] [1,2,3,4,5,6,7,8] [0,9,10,11] [] mixedP ?_ ?_ ?_ ?_); decide +kernel; (simp only [List.length_cons,List.length_nil]; decide); (intro j hj; simp only [List.mem_singleton] at hj; subst hj; refine Or.inr ?_; dsimp only; omega)) | (with_reducible refine MW0.of 4000 (by simp) ?_ ?_) | (with_reducible refine MW0.nil ?_) | (with_reducible refine MW1.of 4000 (by simp) ?_) | (with_reducible first | refine XG_split (fun hq => ?_) (fun hq => ?_) | refine MX1.of 4000 (by simp) ?_ | refine MX2.of 4000 (by simp) ?_ | refine And.intro ?_ ?_) | ((with_reducible first | refine Or.inl (And.intro (And.intro mixedP ?_) ?_) | refine Or.inl (And.intro mixedP ?_)); kernel_rfl) | simp only [go_sem,ldK,ldW,blindK,List.mem_singleton,Nat.reduceEqDiff,Nat.reduceAdd,Nat.reduceMul,Nat.reduceLeDiff,Int.reduceBEq,Clause.av,Clause.z,Lit.z,Term.z,Val.z,noStr,List.map_nil,ended_fold,Int.reduceBNe,hE,Rd.adv_mk2,← hA,parH,cbx,zeroCA,Lit.cells,Lit.av,hb,hc,hF,hQ])
         all_goals first | omega | (unfold maxLen; omega) | (right; omega) | (left; simp; done) | (simp only [wk3,wkL2,wk2,wkL,wk1_d,wk1_own,wk1_nil,and_self]; done) | (intro i hi; simp only [upd]; (repeat' split); all_goals first | rfl | omega) | exact hp | exact hR0 | exact hS | exact hSN | exact hAd | exact hT0 | exact hR' | exact hA' | exact hRN | exact hRF | exact hR'.fail 2 | (refine ⟨hS,?_,?_⟩ <;> omega) | (refine ⟨hR',?_,?_⟩ <;> omega) | skip
       | false =>
         have hF := hF0.trans (if_neg (by rw [hQ]; simp))
         repeat' (first | (with_reducible refine Or.inr (AW.mixWX (E := EqT.no _) [n] [1,2,3,4,5,6,7,8] [0,9,10,11] [] mixedP ?_ ?_ ?_ ?_); decide +kernel; (simp only [List.length_cons,List.length_nil]; decide); (intro j hj; simp only [List.mem_singleton] at hj; subst hj; refine Or.inr ?_; dsimp only; omega)) | (with_reducible refine (AW.mixWX (E := EqT.no _) [n] [1,2,3,4,5,6,7,8] [0,9,10,11] [] mixedP ?_ ?_ ?_ ?_); decide +kernel; (simp only [List.length_cons,List.length_nil]; decide); (intro j hj; simp only [List.mem_singleton] at hj; subst hj; refine Or.inr ?_; dsimp only; omega)) | (with_reducible refine MW0.of 4000 (by simp) ?_ ?_) | (with_reducible refine MW0.nil ?_) | (with_reducible refine MW1.of 4000 (by simp) ?_) | (with_reducible first | refine XG_split (fun hq => ?_) (fun hq => ?_) | refine MX1.of 4000 (by simp) ?_ | refine MX2.of 4000 (by simp) ?_ | refine And.intro ?_ ?_) | ((with_reducible first | refine Or.inl (And.intro (And.intro mixedP ?_) ?_) | refine Or.inl (And.intro mixedP ?_)); kernel_rfl) | simp only [go_sem,ldK,ldW,blindK,List.mem_singleton,Nat.reduceEqDiff,Nat.reduceAdd,Nat.reduceMul,Nat.reduceLeDiff,Int.reduceBEq,Clause.av,Clause.z,Lit.z,Term.z,Val.z,noStr,List.map_nil,ended_fold,Int.reduceBNe,hE,Rd.adv_mk2,← hA,parH,cbx,zeroCA,Lit.cells,Lit.av,hb,hc,hF,hQ])
         all_goals first | omega | (unfold maxLen; omega) | (right; omega) | (left; simp; done) | (simp only [wk3,wkL2,wk2,wkL,wk1_d,wk1_own,wk1_nil,and_self]; done) | (intro i hi; simp only [upd]; (repeat' split); all_goals first | rfl | omega) | exact hp | exact hR0 | exact hS | exact hSN | exact hAd | exact hT0 | exact hR' | exact hA' | exact hRN | exact hRF | exact hR'.fail 2 | (refine ⟨hS,?_,?_⟩ <;> omega) | (refine ⟨hR',?_,?_⟩ <;> omega) | skip
     | true =>
       have hAd := hS.adv_txt hc (by decide)
       have hk := txt_lt hc (by decide)
       obtain ⟨fin, hfin⟩ : ∃ f, f = Rd.bodyL 5 [A.2.adv.literal.1] A.2.adv.literal.2 := ⟨_, rfl⟩
       have hB : A.2.body = fin := by unfold Rd.body; rw [hb, hc, hfin]; rfl
       rw [hB] at hF0
       simp only [Rd.last] at hF0
       unfold Rd.is at hc
       have hT0 := hAd.literal
       repeat' (first | (with_reducible refine Or.inr (AW.mixWX (E := EqT.no _) [n] [1,2,3,4,5,6,7,8] [0,9,10,11] [] mixedP ?_ ?_ ?_ ?_); decide +kernel; (simp only [List.length_cons,List.length_nil]; decide); (intro j hj; simp only [List.mem_singleton] at hj; subst hj; refine Or.inr ?_; dsimp only; omega)) | (with_reducible refine (AW.mixWX (E := EqT.no _) [n] [1,2,3,4,5,6,7,8] [0,9,10,11] [] mixedP ?_ ?_ ?_ ?_); decide +kernel; (simp only [List.length_cons,List.length_nil]; decide); (intro j hj; simp only [List.mem_singleton] at hj; subst hj; refine Or.inr ?_; dsimp only; omega)) | (with_reducible refine Or.inr (AW.mixWX (E := EqT.no _) [n + 1] [0,1,2] [3,4] [5,6,7] mixedP ?_ ?_ ?_ ?_); decide +kernel; (simp only [List.length_cons,List.length_nil]; decide); (intro j hj; simp only [List.mem_singleton] at hj; subst hj; refine Or.inr ?_; dsimp only; omega)) | (with_reducible refine (AW.mixWX (E := EqT.no _) [n + 1] [0,1,2] [3,4] [5,6,7] mixedP ?_ ?_ ?_ ?_); decide +kernel; (simp only [List.length_cons,List.length_nil]; decide); (intro j hj; simp only [List.mem_singleton] at hj; subst hj; refine Or.inr ?_; dsimp only; omega)) | (with_reducible refine MW0.of 4000 (by simp) ?_ ?_) | (with_reducible refine MW0.nil ?_) | (with_reducible refine MW1.of 4000 (by simp) ?_) | (with_reducible first | refine XG_split (fun hq => ?_) (fun hq => ?_) | refine MX1.of 4000 (by simp) ?_ | refine MX2.of 4000 (by simp) ?_ | refine And.intro ?_ ?_) | ((with_reducible first | refine Or.inl (And.intro (And.intro mixedP ?_) ?_) | refine Or.inl (And.intro mixedP ?_)); kernel_rfl) | simp only [go_sem,ldK,ldW,blindK,List.mem_singleton,Nat.reduceEqDiff,Nat.reduceAdd,Nat.reduceMul,Nat.reduceLeDiff,Int.reduceBEq,Clause.av,Clause.z,Lit.z,Term.z,Val.z,noStr,List.map_nil,ended_fold,Int.reduceBNe,hE,Rd.adv_mk2,← hA,parH,cbx,zeroCA,Lit.cells,Lit.av,hb,hc])
       all_goals first | omega | (unfold maxLen; omega) | (right; omega) | (left; simp; done) | (simp only [wk3,wkL2,wk2,wkL,wk1_d,wk1_own,wk1_nil,and_self]; done) | (intro i hi; simp only [upd]; (repeat' split); all_goals first | rfl | omega) | exact hp | exact hR0 | exact hS | exact hSN | exact hAd | exact hT0 | exact hR' | exact hA' | exact hRN | exact hRF | exact hR'.fail 2 | (refine ⟨hS,?_,?_⟩ <;> omega) | (refine ⟨hR',?_,?_⟩ <;> omega) | skip
       refine AW.loopJ (E := EqT.no _) (S := fun x : List Lit × Rd => ⟨fr [(0, vS s), (2, .p n 0), (3, vI 0), (4, vI 0), (5, .p (n + 1) 0), (8, .p (n + 1 + 1) 0)] (List.replicate 104 .any), parH h n A.1.1 A.1.2 x.2 x.1, n, n + 1 + 1 + 1 + 1⟩)
        (I := fun x => 1 ≤ x.1.length ∧ x.1.length ≤ 6 ∧ RdOk x.2 ∧ Rd.bodyL (6 - x.1.length) x.1 x.2 = fin) (μ := fun x => 6 - x.1.length) ([A.2.adv.literal.1], A.2.adv.literal.2) ⟨Nat.le_refl _, by show 1 ≤ 6; decide, hT0, hfin.symm⟩ ?_ 4000 (fun _ => by simp only [fr_len, List.length_replicate]; decide) ?_
       · refine Wk.of (by simp only [go_sem]) ?_ (parH_ok hok) (Nat.le_refl _) (by omega) (by simp only [go_sem]; omega)
         intro j hj
         simp only [parH, upd, obRd_bx, cbx, zeroCA, List.map_cons, List.map_nil, Lit.cells, List.length_cons, List.length_nil]
         (repeat' split)
         all_goals first | rfl | omega
       · rintro ⟨acc, R'⟩ ⟨ha1, ha6, hR', hI⟩
         simp only at ha1 ha6 hR' hI
         obtain ⟨hM1, hM2⟩ := hR'.len
         have hRN := hR'.need (x := ⟨#[46]⟩) (by decide)
         have hRF := (hR'.fail 2).need (x := ⟨#[46]⟩) (by decide)
         have fin0 : ∀ (q : (R'.e == 0 && R'.is 0 ⟨#[44]⟩) = false), fin = (acc, R') := fun q => by
          rw [← hI]
          cases 6 - acc.length <;> simp only [Rd.bodyL, q, Bool.false_eq_true, if_false]
         cases he2 : (R'.e == 0) with
         | false =>
           have hf := fin0 (by rw [he2, Bool.false_and])
           rw [hf] at hF0
           simp only at hF0
           cases hQ : ((R'.need ⟨#[46]⟩).ended.e != 0) with
           | true =>
             have hF := hF0.trans (if_pos hQ)
             repeat' (first | (with_reducible refine Or.inr (AW.mixWX (E := EqT.no _) [n] [1,2,3,4,5,6,7,8] [0,9,10,11] [] mixedP ?_ ?_ ?_ ?_); decide +kernel; (simp only [List.length_cons,List.length_nil]; decide); (intro j hj; simp only [List.mem_singleton] at hj; subst hj; refine Or.inr ?_; dsimp only; omega)) | (with_reducible refine (AW.mixWX (E := EqT.no _) [n] [1,2,3,4,5,6,7,8] [0,9,10,11] [] mixedP ?_ ?_ ?_ ?_); decide +kernel; (simp only [List.length_cons,List.length_nil]; decide); (intro j hj; simp only [List.mem_singleton] at hj; subst hj; refine Or.inr ?_; dsimp only; omega)) | (with_reducible refine MW0.of 4000 (by simp) ?_ ?_) | (with_reducible refine MW0.nil ?_) | (with_reducible refine MW1.of 4000 (by simp) ?_) | (with_reducible first | refine XG_split (fun hq => ?_) (fun hq => ?_) | refine MX1.of 4000 (by simp) ?_ | refine MX2.of 4000 (by simp) ?_ | refine And.intro ?_ ?_) | ((with_reducible first | refine Or.inl (And.intro (And.intro mixedP ?_) ?_) | refine Or.inl (And.intro mixedP ?_)); kernel_rfl) | simp only [go_sem,ldK,ldW,blindK,List.mem_singleton,Nat.reduceEqDiff,Nat.reduceAdd,Nat.reduceMul,Nat.reduceLeDiff,Int.reduceBEq,Clause.av,Clause.z,Lit.z,Term.z,Val.z,noStr,List.map_nil,ended_fold,Int.reduceBNe,hE,Rd.adv_mk2,← hA,parH,cbx,zeroCA,Lit.cells,Lit.av,he2,hF,hQ])
             all_goals first | omega | (unfold maxLen; omega) | (right; omega) | (left; simp; done) | (simp only [wk3,wkL2,wk2,wkL,wk1_d,wk1_own,wk1_nil,and_self]; done) | (intro i hi; simp only [upd]; (repeat' split); all_goals first | rfl | omega) | exact hp | exact hR0 | exact hS | exact hSN | exact hAd | exact hT0 | exact hR' | exact hA' | exact hRN | exact hRF | exact hR'.fail 2 | (refine ⟨hS,?_,?_⟩ <;> omega) | (refine ⟨hR',?_,?_⟩ <;> omega) | skip
           | false =>
             have hF := hF0.trans (if_neg (by rw [hQ]; simp))
             repeat' (first | (with_reducible refine Or.inr (AW.mixWX (E := EqT.no _) [n] [1,2,3,4,5,6,7,8] [0,9,10,11] [] mixedP ?_ ?_ ?_ ?_); decide +kernel; (simp only [List.length_cons,List.length_nil]; decide); (intro j hj; simp only [List.mem_singleton] at hj; subst hj; refine Or.inr ?_; dsimp only; omega)) | (with_reducible refine (AW.mixWX (E := EqT.no _) [n] [1,2,3,4,5,6,7,8] [0,9,10,11] [] mixedP ?_ ?_ ?_ ?_); decide +kernel; (simp only [List.length_cons,List.length_nil]; decide); (intro j hj; simp only [List.mem_singleton] at hj; subst hj; refine Or.inr ?_; dsimp only; omega)) | (with_reducible refine MW0.of 4000 (by simp) ?_ ?_) | (with_reducible refine MW0.nil ?_) | (with_reducible refine MW1.of 4000 (by simp) ?_) | (with_reducible first | refine XG_split (fun hq => ?_) (fun hq => ?_) | refine MX1.of 4000 (by simp) ?_ | refine MX2.of 4000 (by simp) ?_ | refine And.intro ?_ ?_) | ((with_reducible first | refine Or.inl (And.intro (And.intro mixedP ?_) ?_) | refine Or.inl (And.intro mixedP ?_)); kernel_rfl) | simp only [go_sem,ldK,ldW,blindK,List.mem_singleton,Nat.reduceEqDiff,Nat.reduceAdd,Nat.reduceMul,Nat.reduceLeDiff,Int.reduceBEq,Clause.av,Clause.z,Lit.z,Term.z,Val.z,noStr,List.map_nil,ended_fold,Int.reduceBNe,hE,Rd.adv_mk2,← hA,parH,cbx,zeroCA,Lit.cells,Lit.av,he2,hF,hQ])
             all_goals first | omega | (unfold maxLen; omega) | (right; omega) | (left; simp; done) | (simp only [wk3,wkL2,wk2,wkL,wk1_d,wk1_own,wk1_nil,and_self]; done) | (intro i hi; simp only [upd]; (repeat' split); all_goals first | rfl | omega) | exact hp | exact hR0 | exact hS | exact hSN | exact hAd | exact hT0 | exact hR' | exact hA' | exact hRN | exact hRF | exact hR'.fail 2 | (refine ⟨hS,?_,?_⟩ <;> omega) | (refine ⟨hR',?_,?_⟩ <;> omega) | skip
         | true =>
           cases hc2 : R'.is 0 ⟨#[44]⟩ with
           | false =>
             have hf := fin0 (by rw [hc2, Bool.and_false])
             rw [hf] at hF0
             simp only at hF0
             unfold Rd.is at hc2
             cases hQ : ((R'.need ⟨#[46]⟩).ended.e != 0) with
             | true =>
               have hF := hF0.trans (if_pos hQ)
               repeat' (first | (with_reducible refine Or.inr (AW.mixWX (E := EqT.no _) [n] [1,2,3,4,5,6,7,8] [0,9,10,11] [] mixedP ?_ ?_ ?_ ?_); decide +kernel; (simp only [List.length_cons,List.length_nil]; decide); (intro j hj; simp only [List.mem_singleton] at hj; subst hj; refine Or.inr ?_; dsimp only; omega)) | (with_reducible refine (AW.mixWX (E := EqT.no _) [n] [1,2,3,4,5,6,7,8] [0,9,10,11] [] mixedP ?_ ?_ ?_ ?_); decide +kernel; (simp only [List.length_cons,List.length_nil]; decide); (intro j hj; simp only [List.mem_singleton] at hj; subst hj; refine Or.inr ?_; dsimp only; omega)) | (with_reducible refine MW0.of 4000 (by simp) ?_ ?_) | (with_reducible refine MW0.nil ?_) | (with_reducible refine MW1.of 4000 (by simp) ?_) | (with_reducible first | refine XG_split (fun hq => ?_) (fun hq => ?_) | refine MX1.of 4000 (by simp) ?_ | refine MX2.of 4000 (by simp) ?_ | refine And.intro ?_ ?_) | ((with_reducible first | refine Or.inl (And.intro (And.intro mixedP ?_) ?_) | refine Or.inl (And.intro mixedP ?_)); kernel_rfl) | simp only [go_sem,ldK,ldW,blindK,List.mem_singleton,Nat.reduceEqDiff,Nat.reduceAdd,Nat.reduceMul,Nat.reduceLeDiff,Int.reduceBEq,Clause.av,Clause.z,Lit.z,Term.z,Val.z,noStr,List.map_nil,ended_fold,Int.reduceBNe,hE,Rd.adv_mk2,← hA,parH,cbx,zeroCA,Lit.cells,Lit.av,he2,hc2,hF,hQ])
               all_goals first | omega | (unfold maxLen; omega) | (right; omega) | (left; simp; done) | (simp only [wk3,wkL2,wk2,wkL,wk1_d,wk1_own,wk1_nil,and_self]; done) | (intro i hi; simp only [upd]; (repeat' split); all_goals first | rfl | omega) | exact hp | exact hR0 | exact hS | exact hSN | exact hAd | exact hT0 | exact hR' | exact hA' | exact hRN | exact hRF | exact hR'.fail 2 | (refine ⟨hS,?_,?_⟩ <;> omega) | (refine ⟨hR',?_,?_⟩ <;> omega) | skip
             | false =>
               have hF := hF0.trans (if_neg (by rw [hQ]; simp))
               repeat' (first | (with_reducible refine Or.inr (AW.mixWX (E := EqT.no _) [n] [1,2,3,4,5,6,7,8] [0,9,10,11] [] mixedP ?_ ?_ ?_ ?_); decide +kernel; (simp only [List.length_cons,List.length_nil]; decide); (intro j hj; simp only [List.mem_singleton] at hj; subst hj; refine Or.inr ?_; dsimp only; omega)) | (with_reducible refine (AW.mixWX (E := EqT.no _) [n] [1,2,3,4,5,6,7,8] [0,9,10,11] [] mixedP ?_ ?_ ?_ ?_); decide +kernel; (simp only [List.length_cons,List.length_nil]; decide); (intro j hj; simp only [List.mem_singleton] at hj; subst hj; refine Or.inr ?_; dsimp only; omega)) | (with_reducible refine MW0.of 4000 (by simp) ?_ ?_) | (with_reducible refine MW0.nil ?_) | (with_reducible refine MW1.of 4000 (by simp) ?_) | (with_reducible first | refine XG_split (fun hq => ?_) (fun hq => ?_) | refine MX1.of 4000 (by simp) ?_ | refine MX2.of 4000 (by simp) ?_ | refine And.intro ?_ ?_) | ((with_reducible first | refine Or.inl (And.intro (And.intro mixedP ?_) ?_) | refine Or.inl (And.intro mixedP ?_)); kernel_rfl) | simp only [go_sem,ldK,ldW,blindK,List.mem_singleton,Nat.reduceEqDiff,Nat.reduceAdd,Nat.reduceMul,Nat.reduceLeDiff,Int.reduceBEq,Clause.av,Clause.z,Lit.z,Term.z,Val.z,noStr,List.map_nil,ended_fold,Int.reduceBNe,hE,Rd.adv_mk2,← hA,parH,cbx,zeroCA,Lit.cells,Lit.av,he2,hc2,hF,hQ])
               all_goals first | omega | (unfold maxLen; omega) | (right; omega) | (left; simp; done) | (simp only [wk3,wkL2,wk2,wkL,wk1_d,wk1_own,wk1_nil,and_self]; done) | (intro i hi; simp only [upd]; (repeat' split); all_goals first | rfl | omega) | exact hp | exact hR0 | exact hS | exact hSN | exact hAd | exact hT0 | exact hR' | exact hA' | exact hRN | exact hRF | exact hR'.fail 2 | (refine ⟨hS,?_,?_⟩ <;> omega) | (refine ⟨hR',?_,?_⟩ <;> omega) | skip
           | true =>
             have hA' := hR'.adv_txt hc2 (by decide)
             have hk' := txt_lt hc2 (by decide)
             have hc0 := hc2
             unfold Rd.is at hc2
             by_cases h6 : acc.length = 6
             · have h6' : (acc.length == 6) = true := by simp [h6]
               have hf : fin = (acc, R'.fail 2) := by
                rw [← hI, h6]
                simp only [Nat.sub_self, Rd.bodyL, he2, hc0, Bool.and_self, if_true]
               rw [hf] at hF0
               simp only at hF0
               cases hQ : (((R'.fail 2).need ⟨#[46]⟩).ended.e != 0) with
               | true =>
                 have hF := hF0.trans (if_pos hQ)
                 repeat' (first | (with_reducible refine Or.inr (AW.mixWX (E := EqT.no _) [n] [1,2,3,4,5,6,7,8] [0,9,10,11] [] mixedP ?_ ?_ ?_ ?_); decide +kernel; (simp only [List.length_cons,List.length_nil]; decide); (intro j hj; simp only [List.mem_singleton] at hj; subst hj; refine Or.inr ?_; dsimp only; omega)) | (with_reducible refine (AW.mixWX (E := EqT.no _) [n] [1,2,3,4,5,6,7,8] [0,9,10,11] [] mixedP ?_ ?_ ?_ ?_); decide +kernel; (simp only [List.length_cons,List.length_nil]; decide); (intro j hj; simp only [List.mem_singleton] at hj; subst hj; refine Or.inr ?_; dsimp only; omega)) | (with_reducible refine MW0.of 4000 (by simp) ?_ ?_) | (with_reducible refine MW0.nil ?_) | (with_reducible refine MW1.of 4000 (by simp) ?_) | (with_reducible first | refine XG_split (fun hq => ?_) (fun hq => ?_) | refine MX1.of 4000 (by simp) ?_ | refine MX2.of 4000 (by simp) ?_ | refine And.intro ?_ ?_) | ((with_reducible first | refine Or.inl (And.intro (And.intro mixedP ?_) ?_) | refine Or.inl (And.intro mixedP ?_)); kernel_rfl) | simp only [go_sem,ldK,ldW,blindK,List.mem_singleton,Nat.reduceEqDiff,Nat.reduceAdd,Nat.reduceMul,Nat.reduceLeDiff,Int.reduceBEq,Clause.av,Clause.z,Lit.z,Term.z,Val.z,noStr,List.map_nil,ended_fold,Int.reduceBNe,hE,Rd.adv_mk2,← hA,parH,cbx,zeroCA,Lit.cells,Lit.av,he2,hc2,h6',hF,hQ])
                 all_goals first | omega | (unfold maxLen; omega) | (right; omega) | (left; simp; done) | (simp only [wk3,wkL2,wk2,wkL,wk1_d,wk1_own,wk1_nil,and_self]; done) | (intro i hi; simp only [upd]; (repeat' split); all_goals first | rfl | omega) | exact hp | exact hR0 | exact hS | exact hSN | exact hAd | exact hT0 | exact hR' | exact hA' | exact hRN | exact hRF | exact hR'.fail 2 | (refine ⟨hS,?_,?_⟩ <;> omega) | (refine ⟨hR',?_,?_⟩ <;> omega) | skip
               | false =>
                 have hF := hF0.trans (if_neg (by rw [hQ]; simp))
                 repeat' (first | (with_reducible refine Or.inr (AW.mixWX (E := EqT.no _) [n] [1,2,3,4,5,6,7,8] [0,9,10,11] [] mixedP ?_ ?_ ?_ ?_); decide +kernel; (simp only [List.length_cons,List.length_nil]; decide); (intro j hj; simp only [List.mem_singleton] at hj; subst hj; refine Or.inr ?_; dsimp only; omega)) | (with_reducible refine (AW.mixWX (E := EqT.no _) [n] [1,2,3,4,5,6,7,8] [0,9,10,11] [] mixedP ?_ ?_ ?_ ?_); decide +kernel; (simp only [List.length_cons,List.length_nil]; decide); (intro j hj; simp only [List.mem_singleton] at hj; subst hj; refine Or.inr ?_; dsimp only; omega)) | (with_reducible refine MW0.of 4000 (by simp) ?_ ?_) | (with_reducible refine MW0.nil ?_) | (with_reducible refine MW1.of 4000 (by simp) ?_) | (with_reducible first | refine XG_split (fun hq => ?_) (fun hq => ?_) | refine MX1.of 4000 (by simp) ?_ | refine MX2.of 4000 (by simp) ?_ | refine And.intro ?_ ?_) | ((with_reducible first | refine Or.inl (And.intro (And.intro mixedP ?_) ?_) | refine Or.inl (And.intro mixedP ?_)); kernel_rfl) | simp only [go_sem,ldK,ldW,blindK,List.mem_singleton,Nat.reduceEqDiff,Nat.reduceAdd,Nat.reduceMul,Nat.reduceLeDiff,Int.reduceBEq,Clause.av,Clause.z,Lit.z,Term.z,Val.z,noStr,List.map_nil,ended_fold,Int.reduceBNe,hE,Rd.adv_mk2,← hA,parH,cbx,zeroCA,Lit.cells,Lit.av,he2,hc2,h6',hF,hQ])
                 all_goals first | omega | (unfold maxLen; omega) | (right; omega) | (left; simp; done) | (simp only [wk3,wkL2,wk2,wkL,wk1_d,wk1_own,wk1_nil,and_self]; done) | (intro i hi; simp only [upd]; (repeat' split); all_goals first | rfl | omega) | exact hp | exact hR0 | exact hS | exact hSN | exact hAd | exact hT0 | exact hR' | exact hA' | exact hRN | exact hRF | exact hR'.fail 2 | (refine ⟨hS,?_,?_⟩ <;> omega) | (refine ⟨hR',?_,?_⟩ <;> omega) | skip
             · have h6' : (acc.length == 6) = false := by simp [h6]
               repeat' (first | (with_reducible refine Or.inr (AW.mixWX (E := EqT.no _) [n] [1,2,3,4,5,6,7,8] [0,9,10,11] [] mixedP ?_ ?_ ?_ ?_); decide +kernel; (simp only [List.length_cons,List.length_nil]; decide); (intro j hj; simp only [List.mem_singleton] at hj; subst hj; refine Or.inr ?_; dsimp only; omega)) | (with_reducible refine (AW.mixWX (E := EqT.no _) [n] [1,2,3,4,5,6,7,8] [0,9,10,11] [] mixedP ?_ ?_ ?_ ?_); decide +kernel; (simp only [List.length_cons,List.length_nil]; decide); (intro j hj; simp only [List.mem_singleton] at hj; subst hj; refine Or.inr ?_; dsimp only; omega)) | (with_reducible refine Or.inr (AW.mixWX (E := EqT.no _) [n + 1] [0,1,2] [3,4] [5,6,7] mixedP ?_ ?_ ?_ ?_); decide +kernel; (simp only [List.length_cons,List.length_nil]; decide); (intro j hj; simp only [List.mem_singleton] at hj; subst hj; refine Or.inr ?_; dsimp only; omega)) | (with_reducible refine (AW.mixWX (E := EqT.no _) [n + 1] [0,1,2] [3,4] [5,6,7] mixedP ?_ ?_ ?_ ?_); decide +kernel; (simp only [List.length_cons,List.length_nil]; decide); (intro j hj; simp only [List.mem_singleton] at hj; subst hj; refine Or.inr ?_; dsimp only; omega)) | (with_reducible refine MW0.of 4000 (by simp) ?_ ?_) | (with_reducible refine MW0.nil ?_) | (with_reducible refine MW1.of 4000 (by simp) ?_) | (with_reducible first | refine XG_split (fun hq => ?_) (fun hq => ?_) | refine MX1.of 4000 (by simp) ?_ | refine MX2.of 4000 (by simp) ?_ | refine And.intro ?_ ?_) | ((with_reducible first | refine Or.inl (And.intro (And.intro mixedP ?_) ?_) | refine Or.inl (And.intro mixedP ?_)); kernel_rfl) | simp only [go_sem,ldK,ldW,blindK,List.mem_singleton,Nat.reduceEqDiff,Nat.reduceAdd,Nat.reduceMul,Nat.reduceLeDiff,Int.reduceBEq,Clause.av,Clause.z,Lit.z,Term.z,Val.z,noStr,List.map_nil,ended_fold,Int.reduceBNe,hE,Rd.adv_mk2,← hA,parH,cbx,zeroCA,Lit.cells,Lit.av,he2,hc2,h6'])
               all_goals first | omega | (unfold maxLen; omega) | (right; omega) | (left; simp; done) | (simp only [wk3,wkL2,wk2,wkL,wk1_d,wk1_own,wk1_nil,and_self]; done) | (intro i hi; simp only [upd]; (repeat' split); all_goals first | rfl | omega) | exact hp | exact hR0 | exact hS | exact hSN | exact hAd | exact hT0 | exact hR' | exact hA' | exact hRN | exact hRF | exact hR'.fail 2 | (refine ⟨hS,?_,?_⟩ <;> omega) | (refine ⟨hR',?_,?_⟩ <;> omega) | skip
               refine ⟨(acc ++ [R'.adv.literal.1], R'.adv.literal.2), ⟨by simp only [List.length_append, List.length_cons, List.length_nil]; omega, by simp only [List.length_append, List.length_cons, List.length_nil]; omega, hA'.literal, ?_⟩, Wk.of (by simp only [go_sem]) ?_ (parH_ok hok) (Nat.le_refl _) (by omega) (by simp only [go_sem]; omega), by simp only [List.length_append, List.length_cons, List.length_nil]; omega⟩
               · rw [← hI]
                 obtain ⟨m, hm⟩ : ∃ m, 6 - acc.length = m + 1 := ⟨6 - acc.length - 1, by omega⟩
                 rw [hm]
                 simp only [Rd.bodyL, he2, hc0, Bool.and_self, if_true, List.length_append, List.length_cons, List.length_nil]
                 congr 1
                 omega
               · intro j hj
                 simp only [parH, upd, obRd_bx, cbx, zeroCA, List.map_cons, List.map_nil, List.map_append, Lit.cells, List.length_append, List.length_cons, List.length_nil]
                 (repeat' split)
                 all_goals first | rfl | omega
end Go.Proofs.YtfhpecgknmfnnaaGreatDoor.M
end
section
namespace Go.Proofs.YtfhpecgknmfnnaaGreatDoor.M
open Go.R
theorem is_isT (R : Rd) (m : Nat) {x : ByteArray} (hx : 0 < x.size) : R.is m x = isT R.T R.s (R.k + m) x := by
 unfold Rd.is Rd.txt textT isT
 cases R.T[R.k + m]? with
 | some t => rfl
 | none =>
   simp only
   refine Bool.eq_false_iff.2 fun h => ?_
   simp only [beq_iff_eq] at h
   have := toList_injA h
   rw [← this] at hx
   simp [ByteArray.size] at hx
def Out {α β : Type} (p : PR α) (f : α → β) (b : β) (R R' : Rd) : Prop := match p with
 | .ok (a, m) => b = f a ∧ R' = { R with k := m }
 | .error (q, x) => R'.e = x ∧ R'.fr = q ∧ x ≠ 0
structure Sim {α β : Type} (R : Rd) (p : PR α) (f : α → β) (b : β) (R' : Rd) : Prop where
 s : R'.s = R.s
 T : R'.T = R.T
 go : R.e = 0 → Out p f b R R'
 st : R.e ≠ 0 → R'.e = R.e ∧ R'.fr = R.fr
theorem fail_go {R : Rd} {x : Int} (h : R.e = 0) : R.fail x = { R with e := x, fr := posOf R.T R.s R.k } := by
 unfold Rd.fail
 rw [h]
 rfl
theorem fail_st {R : Rd} {x : Int} (h : R.e ≠ 0) : R.fail x = R := by
 unfold Rd.fail
 rw [if_neg (by simpa using h)]
theorem sim_need (R : Rd) {x : ByteArray} (hx : 0 < x.size) : Sim R (needP R.T R.s x R.k) (fun _ => ()) () (R.need x) := by
 have hi := is_isT R 0 hx
 rw [Nat.add_zero] at hi
 unfold Rd.is at hi
 by_cases he : R.e = 0
 · cases hq : isT R.T R.s R.k x with
   | true =>
     have e1 : R.need x = R.adv := by unfold Rd.need; rw [hi, hq, he]; rfl
     have e2 : needP R.T R.s x R.k = .ok ((), R.k + 1) := by unfold needP; rw [if_pos hq]
     rw [e1, e2]
     exact ⟨rfl, rfl, fun _ => ⟨rfl, rfl⟩, fun h => absurd he h⟩
   | false =>
     have e1 : R.need x = R.fail 6 := by unfold Rd.need; rw [hi, hq, Bool.and_false]; rfl
     have e2 : needP R.T R.s x R.k = .error (posOf R.T R.s R.k, 6) := by unfold needP; rw [hq]; rfl
     rw [e1, e2, fail_go he]
     exact ⟨rfl, rfl, fun _ => ⟨rfl, rfl, by decide⟩, fun h => absurd he h⟩
 · have e1 : R.need x = R := by
    unfold Rd.need
    rw [if_neg (by simp [he]), fail_st he]
   rw [e1]
   exact ⟨rfl, rfl, fun h => absurd h he, fun _ => ⟨rfl, rfl⟩⟩
theorem has123 (k : Int) : hasB [1, 2, 3] k = (k == 1 || k == 2 || k == 3) := by
 unfold hasB
 cases h1 : k == 1 <;> cases h2 : k == 2 <;> cases h3 : k == 3 <;> simp [List.contains, List.elem, h1, h2, h3]
theorem has1 (k : Int) : hasB [1] k = (k == 1) := by
 unfold hasB
 cases h1 : k == 1 <;> simp [List.contains, List.elem, h1]
theorem sim_term (R : Rd) : Sim R (termP R.T R.s R.k) id R.term.1 R.term.2 := by
 by_cases he : R.e = 0
 · cases hq : hasB [1, 2, 3] (kindT R.T R.k) with
   | true =>
     have hq' : (R.kd == 1 || R.kd == 2 || R.kd == 3) = true := by rw [← has123]; exact hq
     have e1 : R.term = (if R.kd == 2 then ⟨R.txt 0, Val.z⟩ else ⟨noStr, (readV (R.txt 0)).1⟩, R.adv) := by unfold Rd.term; rw [if_pos (by rw [hq']; simp [he])]
     have e2 : termP R.T R.s R.k = .ok (if kindT R.T R.k == 2 then ⟨textT R.T R.s R.k, Val.z⟩ else ⟨noStr, (readV (textT R.T R.s R.k)).1⟩, R.k + 1) := by
      unfold termP takeP
      rw [if_pos hq]
     rw [e1, e2]
     exact ⟨rfl, rfl, fun _ => ⟨rfl, rfl⟩, fun h => absurd he h⟩
   | false =>
     have hq' : (R.kd == 1 || R.kd == 2 || R.kd == 3) = false := by rw [← has123]; exact hq
     have e1 : R.term = (Term.z, R.fail 6) := by unfold Rd.term; rw [hq', Bool.and_false]; rfl
     have e2 : termP R.T R.s R.k = .error (posOf R.T R.s R.k, 6) := by
      unfold termP takeP
      rw [hq]
      rfl
     rw [e1, e2]
     simp only [fail_go he]
     exact ⟨rfl, rfl, fun _ => ⟨rfl, rfl, by decide⟩, fun h => absurd he h⟩
 · have e1 : R.term = (Term.z, R) := by
    unfold Rd.term
    rw [if_neg (by simp [he]), fail_st he]
   rw [e1]
   exact ⟨rfl, rfl, fun h => absurd h he, fun _ => ⟨rfl, rfl⟩⟩
theorem sim_args : ∀ (f : Nat) (acc : List Term) (R : Rd), Sim R (addL acc (tailP R.T R.s (termP R.T R.s) f R.k)) some (Rd.argsL f acc R).1 (Rd.argsL f acc R).2
 | 0, acc, R => by
   have hi := is_isT R 0 (x := comma) (by decide)
   rw [Nat.add_zero] at hi
   by_cases he : R.e = 0
   · cases hq : isT R.T R.s R.k comma with
     | true =>
       have e1 : Rd.argsL 0 acc R = (none, R.fail 2) := by unfold Rd.argsL; rw [if_pos (by rw [hi, hq]; simp [he])]
       rw [e1, tail_full acc hq]
       simp only [fail_go he]
       exact ⟨rfl, rfl, fun _ => ⟨rfl, rfl, by decide⟩, fun h => absurd he h⟩
     | false =>
       have e1 : Rd.argsL 0 acc R = (some acc, R) := by unfold Rd.argsL; rw [if_neg (by rw [hi, hq]; simp)]
       rw [e1, tail_end acc hq]
       exact ⟨rfl, rfl, fun _ => ⟨rfl, rfl⟩, fun h => absurd he h⟩
   · have e1 : Rd.argsL 0 acc R = (some acc, R) := by unfold Rd.argsL; rw [if_neg (by simp [he])]
     rw [e1]
     exact ⟨rfl, rfl, fun h => absurd h he, fun _ => ⟨rfl, rfl⟩⟩
 | f + 1, acc, R => by
   have hi := is_isT R 0 (x := comma) (by decide)
   rw [Nat.add_zero] at hi
   by_cases he : R.e = 0
   · cases hq : isT R.T R.s R.k comma with
     | true =>
       have e1 : Rd.argsL (f + 1) acc R = Rd.argsL f (acc ++ [R.adv.term.1]) R.adv.term.2 := by rw [Rd.argsL]; rw [if_pos (by rw [hi, hq]; simp [he])]
       rw [e1]
       have ht := sim_term R.adv
       have hg := ht.go he
       have ih := sim_args f (acc ++ [R.adv.term.1]) R.adv.term.2
       refine ⟨ih.s.trans ht.s, ih.T.trans ht.T, fun _ => ?_, fun h => absurd he h⟩
       cases hp : termP R.adv.T R.adv.s R.adv.k with
       | error q =>
         obtain ⟨q, x⟩ := q
         rw [hp] at hg
         have ho : termP R.T R.s (R.k + 1) = .error (q, x) := hp
         rw [tail_stop acc hq ho]
         obtain ⟨h1, h2⟩ := ih.st (by rw [hg.1]; exact hg.2.2)
         exact ⟨h1.trans hg.1, h2.trans hg.2.1, hg.2.2⟩
       | ok am =>
         obtain ⟨a, m⟩ := am
         rw [hp] at hg
         have ho : termP R.T R.s (R.k + 1) = .ok (a, m) := hp
         rw [tail_step acc hq ho]
         obtain ⟨h1, h2⟩ := hg
         have ih2 := ih.go (by rw [h2]; exact he)
         simp only [id] at h1
         rw [h2, h1] at ih2 ⊢
         exact ih2
     | false =>
       have e1 : Rd.argsL (f + 1) acc R = (some acc, R) := by rw [Rd.argsL]; rw [if_neg (by rw [hi, hq]; simp)]
       rw [e1, tail_end acc hq]
       exact ⟨rfl, rfl, fun _ => ⟨rfl, rfl⟩, fun h => absurd he h⟩
   · have e1 : Rd.argsL (f + 1) acc R = (some acc, R) := by rw [Rd.argsL]; rw [if_neg (by simp [he])]
     rw [e1]
     exact ⟨rfl, rfl, fun h => absurd h he, fun _ => ⟨rfl, rfl⟩⟩
theorem sim_atom (R : Rd) : Sim R (atomP R.T R.s R.k) id R.atom.1 R.atom.2 := by
 by_cases he : R.e = 0
 · cases hq : R.kd == 1 with
   | false =>
     have e1 : R.atom = ((noStr, []), R.fail 6) := by unfold Rd.atom; rw [hq, Bool.and_false]; rfl
     have e2 : atomP R.T R.s R.k = .error (posOf R.T R.s R.k, 6) := by
      unfold atomP takeP
      rw [has1, show (kindT R.T R.k == 1) = false from hq]
      rfl
     rw [e1, e2]
     simp only [fail_go he]
     exact ⟨rfl, rfl, fun _ => ⟨rfl, rfl, by decide⟩, fun h => absurd he h⟩
   | true =>
     have hi := is_isT R.adv 0 (x := opens) (by decide)
     rw [Nat.add_zero] at hi
     have e2 : atomP R.T R.s R.k = if isT R.T R.s (R.k + 1) opens then match listP R.T R.s (termP R.T R.s) 4 (R.k + 1 + 1) with
      | .error p => .error p
      | .ok (ts, j) => match needP R.T R.s closes j with
        | .error p => .error p
        | .ok (_, i) => .ok ((textT R.T R.s R.k, ts), i)
      else .ok ((textT R.T R.s R.k, []), R.k + 1) := by
      unfold atomP takeP
      rw [has1, show (kindT R.T R.k == 1) = true from hq]
      rfl
     cases hq2 : isT R.T R.s (R.k + 1) opens with
     | false =>
       have e1 : R.atom = ((R.txt 0, []), R.adv) := by
        unfold Rd.atom
        rw [if_pos (by rw [hq]; simp [he]), if_neg (by rw [hi]; show ¬ isT R.T R.s (R.k + 1) opens = true; rw [hq2]; simp)]
       rw [e1, e2, hq2]
       exact ⟨rfl, rfl, fun _ => ⟨rfl, rfl⟩, fun h => absurd he h⟩
     | true =>
       have e1 : R.atom = match (Rd.argsL 3 [R.adv.adv.term.1] R.adv.adv.term.2).1 with
        | none => ((noStr, []), (Rd.argsL 3 [R.adv.adv.term.1] R.adv.adv.term.2).2)
        | some l => ((R.txt 0, l), (Rd.argsL 3 [R.adv.adv.term.1] R.adv.adv.term.2).2.need closes) := by
        unfold Rd.atom
        rw [if_pos (by rw [hq]; simp [he]), if_pos (by rw [hi]; exact hq2)]
        rfl
       rw [hq2, if_pos rfl] at e2
       have ht := sim_term R.adv.adv
       have ha := sim_args 3 [R.adv.adv.term.1] R.adv.adv.term.2
       have hn := sim_need (Rd.argsL 3 [R.adv.adv.term.1] R.adv.adv.term.2).2 (x := closes) (by decide)
       generalize hA : Rd.argsL 3 [R.adv.adv.term.1] R.adv.adv.term.2 = A at e1 ha hn
       obtain ⟨Al, AR⟩ := A
       simp only at e1 ha hn
       have hs : AR.s = R.s := ha.s.trans ht.s
       have hT : AR.T = R.T := ha.T.trans ht.T
       have hs2 : R.atom.2.s = R.s ∧ R.atom.2.T = R.T := by
        rw [e1]
        cases Al with
        | none => exact ⟨hs, hT⟩
        | some l => exact ⟨hn.s.trans hs, hn.T.trans hT⟩
       refine ⟨hs2.1, hs2.2, fun _ => ?_, fun h => absurd he h⟩
       have hg := ht.go he
       have bad : ∀ (q x : Int), AR.e = x → AR.fr = q → x ≠ 0 → R.atom.2.e = x ∧ R.atom.2.fr = q ∧ x ≠ 0 := by
        intro q x h1 h2 h3
        rw [e1]
        cases Al with
        | none => exact ⟨h1, h2, h3⟩
        | some l =>
          obtain ⟨g1, g2⟩ := hn.st (by rw [h1]; exact h3)
          exact ⟨g1.trans h1, g2.trans h2, h3⟩
       cases hp : termP R.adv.adv.T R.adv.adv.s R.adv.adv.k with
       | error q =>
         obtain ⟨q, x⟩ := q
         rw [hp] at hg
         have ho : listP R.T R.s (termP R.T R.s) 4 (R.k + 1 + 1) = .error (q, x) := by
          unfold listP
          rw [show termP R.T R.s (R.k + 1 + 1) = .error (q, x) from hp]
         rw [e2, ho]
         obtain ⟨h1, h2⟩ := ha.st (by rw [hg.1]; exact hg.2.2)
         exact bad q x (h1.trans hg.1) (h2.trans hg.2.1) hg.2.2
       | ok am =>
         obtain ⟨a, m⟩ := am
         rw [hp] at hg
         obtain ⟨h1, h2⟩ := hg
         simp only [id] at h1
         have ho : listP R.T R.s (termP R.T R.s) 4 (R.k + 1 + 1) = addL [a] (tailP R.T R.s (termP R.T R.s) 3 m) := by
          unfold listP
          rw [show termP R.T R.s (R.k + 1 + 1) = .ok (a, m) from hp]
         have hb := ha.go (by rw [h2]; exact he)
         rw [h1, h2] at hb
         replace hb : Out (addL [a] (tailP R.T R.s (termP R.T R.s) 3 m)) some Al R AR := hb
         rw [e2, ho]
         cases hl : addL [a] (tailP R.T R.s (termP R.T R.s) 3 m) with
         | error q =>
           obtain ⟨q, x⟩ := q
           rw [hl] at hb
           exact bad q x hb.1 hb.2.1 hb.2.2
         | ok lm =>
           obtain ⟨l, j⟩ := lm
           rw [hl] at hb
           obtain ⟨rfl, hAR⟩ := hb
           have hd := hn.go (by rw [hAR]; exact he)
           replace hd : Out (needP R.T R.s closes j) (fun _ => ()) () R (AR.need closes) := by
            rw [hAR] at hd ⊢; exact hd
           simp only at e1 ⊢
           rw [e1]
           cases hnn : needP R.T R.s closes j with
           | error q =>
             obtain ⟨q, x⟩ := q
             rw [hnn] at hd
             exact hd
           | ok lm =>
             obtain ⟨_, i⟩ := lm
             rw [hnn] at hd
             exact ⟨rfl, hd.2⟩
 · have e1 : R.atom = ((noStr, []), R) := by
    unfold Rd.atom
    rw [if_neg (by simp [he]), fail_st he]
   rw [e1]
   exact ⟨rfl, rfl, fun h => absurd h he, fun _ => ⟨rfl, rfl⟩⟩
theorem err_on {R' R'' : Rd} {q x : Int} (h : R'.e = x ∧ R'.fr = q ∧ x ≠ 0) (st : R'.e ≠ 0 → R''.e = R'.e ∧ R''.fr = R'.fr) : R''.e = x ∧ R''.fr = q ∧ x ≠ 0 := by
 obtain ⟨h1, h2, h3⟩ := h
 obtain ⟨g1, g2⟩ := st (by rw [h1]; exact h3)
 exact ⟨g1.trans h1, g2.trans h2, h3⟩
def litK (k : Int) (r : Term × (ByteArray × List Term)) : Lit := ⟨k, r.1, r.2.1, r.2.2⟩
theorem speaks_eq (R : Rd) : (R.kd == 2 || (R.kd == 1 && R.is 1 saysS)) = speaks R.T R.s R.k := by
 rw [is_isT R 1 (x := saysS) (by decide)]
 unfold speaks
 rw [Bool.and_comm (R.kd == 1)]
 rfl
theorem sim_said (R : Rd) (k : Int) : Sim R (saidP R.T R.s R.k) (litK k) (R.said k).1 (R.said k).2 := by
 cases hq : speaks R.T R.s R.k with
 | false =>
   have e1 : R.said k = (⟨k, Term.z, R.atom.1.1, R.atom.1.2⟩, R.atom.2) := by
    unfold Rd.said
    rw [speaks_eq, hq]
    rfl
   have ha := sim_atom R
   rw [e1]
   refine ⟨ha.s, ha.T, fun he => ?_, ha.st⟩
   have hg := ha.go he
   unfold saidP
   rw [hq]
   cases hp : atomP R.T R.s R.k with
   | error q =>
     rw [hp] at hg
     exact hg
   | ok am =>
     rw [hp] at hg
     obtain ⟨h1, h2⟩ := hg
     refine ⟨?_, h2⟩
     rw [h1]
     rfl
 | true =>
   have e1 : R.said k = (⟨k, R.term.1, (R.term.2.need saysS).atom.1.1, (R.term.2.need saysS).atom.1.2⟩, (R.term.2.need saysS).atom.2) := by
    unfold Rd.said
    rw [speaks_eq, hq]
    rfl
   have ht := sim_term R
   have hn := sim_need R.term.2 (x := saysS) (by decide)
   have ha := sim_atom (R.term.2.need saysS)
   rw [e1]
   refine ⟨ha.s.trans (hn.s.trans ht.s), ha.T.trans (hn.T.trans ht.T), fun he => ?_, fun he => ?_⟩
   · have hg := ht.go he
     unfold saidP
     rw [hq]
     simp only [if_true]
     cases hp : termP R.T R.s R.k with
     | error q =>
       obtain ⟨q, x⟩ := q
       rw [hp] at hg
       exact err_on (err_on hg hn.st) ha.st
     | ok am =>
       obtain ⟨who, m⟩ := am
       rw [hp] at hg
       obtain ⟨h1, h2⟩ := hg
       have hb := hn.go (by rw [h2]; exact he)
       rw [h2] at hb
       replace hb : Out (needP R.T R.s says m) (fun _ => ()) () R (R.term.2.need saysS) := by rw [h2]; exact hb
       simp only
       cases hp2 : needP R.T R.s says m with
       | error q =>
         obtain ⟨q, x⟩ := q
         rw [hp2] at hb
         exact err_on hb ha.st
       | ok am =>
         obtain ⟨_, i⟩ := am
         rw [hp2] at hb
         obtain ⟨_, h4⟩ := hb
         have hc := ha.go (by rw [h4]; exact he)
         rw [h4] at hc
         replace hc : Out (atomP R.T R.s i) id (R.term.2.need saysS).atom.1 R (R.term.2.need saysS).atom.2 := by rw [h4]; exact hc
         simp only
         cases hp3 : atomP R.T R.s i with
         | error q =>
           rw [hp3] at hc
           exact hc
         | ok am =>
           rw [hp3] at hc
           obtain ⟨h5, h6⟩ := hc
           refine ⟨?_, h6⟩
           rw [h5, h1]
           rfl
   · obtain ⟨a1, a2⟩ := ht.st he
     obtain ⟨b1, b2⟩ := hn.st (by rw [a1]; exact he)
     obtain ⟨c1, c2⟩ := ha.st (by rw [b1, a1]; exact he)
     exact ⟨c1.trans (b1.trans a1), c2.trans (b2.trans a2)⟩
theorem compare_eq (R : Rd) : R.compare = compares R.T R.s R.k := by
 unfold Rd.compare compares
 rw [is_isT R 1 (x := saysS) (by decide), is_isT R 1 (x := ⟨#[60]⟩) (by decide), is_isT R 1 (x := ⟨#[33, 61]⟩) (by decide)]
 rfl
theorem saidL_out {k : Int} {p : PR (Term × (ByteArray × List Term))} {b : Lit} {R R' : Rd} (h : Out p (litK k) b R R') : Out (saidL k p) id b R R' := by
 cases p with
 | error q => exact h
 | ok am =>
   obtain ⟨⟨who, x, ts⟩, j⟩ := am
   exact h
theorem sim_pair (R : Rd) (k : Int) (a : Term) : R.e = 0 → Out (pairP R.T R.s k a R.k) id (⟨k, Term.z, noStr, [a, R.adv.term.1]⟩ : Lit) R R.adv.term.2 := by
 intro he
 have hg := (sim_term R.adv).go he
 unfold pairP
 replace hg : Out (termP R.T R.s (R.k + 1)) id R.adv.term.1 R R.adv.term.2 := hg
 cases hp : termP R.T R.s (R.k + 1) with
 | error q =>
   rw [hp] at hg
   exact hg
 | ok am =>
   rw [hp] at hg
   obtain ⟨h1, h2⟩ := hg
   refine ⟨?_, h2⟩
   rw [h1]
   rfl
theorem sim_literal (R : Rd) : Sim R (literalP R.T R.s R.k) id R.literal.1 R.literal.2 := by
 have hi := is_isT R 0 (x := nots) (by decide)
 rw [Nat.add_zero] at hi
 cases hq : isT R.T R.s R.k nots with
 | true =>
   have e1 : R.literal = R.adv.said 2 := by
    unfold Rd.literal
    rw [hi, hq]
    rfl
   have e2 : literalP R.T R.s R.k = saidL 2 (saidP R.T R.s (R.k + 1)) := by
    unfold literalP
    rw [hq]
    rfl
   have ha := sim_said R.adv 2
   rw [e1, e2]
   exact ⟨ha.s, ha.T, fun he => saidL_out (R := R) (ha.go he), ha.st⟩
 | false =>
   cases hc : compares R.T R.s R.k with
   | false =>
     have e1 : R.literal = R.said 1 := by
      unfold Rd.literal
      rw [hi, hq, compare_eq, hc]
      rfl
     have e2 : literalP R.T R.s R.k = saidL 1 (saidP R.T R.s R.k) := by
      unfold literalP
      rw [hq, hc]
      rfl
     have ha := sim_said R 1
     rw [e1, e2]
     exact ⟨ha.s, ha.T, fun he => saidL_out (ha.go he), ha.st⟩
   | true =>
     have e1 : R.literal = (⟨R.term.2.mid.1, Term.z, noStr, [R.term.1, R.term.2.mid.2.term.1]⟩, R.term.2.mid.2.term.2) := by
      unfold Rd.literal
      rw [hi, hq, compare_eq, hc]
      rfl
     have ht := sim_term R
     have hz := sim_term R.term.2.mid.2
     have hm := is_isT R.term.2 0 (x := unlike) (by decide)
     rw [Nat.add_zero] at hm
     have hnl := sim_need R.term.2 (x := less) (by decide)
     have hms : R.term.2.mid.2.s = R.term.2.s ∧ R.term.2.mid.2.T = R.term.2.T := by
      unfold Rd.mid
      split
      · exact ⟨rfl, rfl⟩
      · exact ⟨hnl.s, hnl.T⟩
     have hmst : R.term.2.e ≠ 0 → R.term.2.mid.2.e = R.term.2.e ∧ R.term.2.mid.2.fr = R.term.2.fr := by
      intro h
      unfold Rd.mid
      split
      · exact ⟨rfl, rfl⟩
      · exact hnl.st h
     rw [e1]
     refine ⟨hz.s.trans (hms.1.trans ht.s), hz.T.trans (hms.2.trans ht.T), fun he => ?_, fun he => ?_⟩
     · have hg := ht.go he
       unfold literalP
       rw [hq, hc]
       simp only [Bool.false_eq_true, if_false, if_true]
       cases hp : termP R.T R.s R.k with
       | error q =>
         obtain ⟨q, x⟩ := q
         rw [hp] at hg
         exact err_on (err_on hg hmst) hz.st
       | ok am =>
         obtain ⟨a, m⟩ := am
         rw [hp] at hg
         obtain ⟨h1, h2⟩ := hg
         simp only [id] at h1
         simp only
         have hm' : R.term.2.is 0 unlike = isT R.T R.s m unlike := by rw [hm, h2]
         cases hu : isT R.T R.s m unlike with
         | true =>
           have hM : R.term.2.mid = (4, R.term.2.adv) := by
            unfold Rd.mid
            rw [if_pos (by rw [hm', hu])]
           have := sim_pair R.term.2 4 a (by rw [h2]; exact he)
           rw [hM, h1]
           rw [if_pos rfl]
           rw [h2] at this ⊢
           exact this
         | false =>
           have hM : R.term.2.mid = (3, R.term.2.need less) := by
            unfold Rd.mid
            rw [if_neg (by rw [hm', hu]; simp)]
           rw [if_neg (by simp)]
           have hb := hnl.go (by rw [h2]; exact he)
           cases hl : isT R.T R.s m less with
           | true =>
             have hN : R.term.2.need less = R.term.2.adv := by
              have hil := is_isT R.term.2 0 (x := less) (by decide)
              unfold Rd.is at hil
              unfold Rd.need
              rw [hil, Nat.add_zero]
              rw [show isT R.term.2.T R.term.2.s R.term.2.k less = true by rw [h2]; exact hl]
              rw [if_pos (by rw [show R.term.2.e = 0 by rw [h2]; exact he]; rfl)]
             have := sim_pair R.term.2 3 a (by rw [h2]; exact he)
             rw [hM, hN, h1]
             rw [if_pos rfl]
             rw [h2] at this ⊢
             exact this
           | false =>
             rw [if_neg (by simp)]
             have hN : needP R.T R.s less m = .error (posOf R.T R.s m, 6) := by
              unfold needP
              rw [hl]
              rfl
             rw [h2] at hb
             replace hb : Out (needP R.T R.s less m) (fun _ => ()) () R (R.term.2.need less) := by rw [h2]; exact hb
             rw [hN] at hb
             rw [hM] at hz ⊢
             exact err_on hb hz.st
     · obtain ⟨a1, a2⟩ := ht.st he
       obtain ⟨b1, b2⟩ := hmst (by rw [a1]; exact he)
       obtain ⟨c1, c2⟩ := hz.st (by rw [b1, a1]; exact he)
       exact ⟨c1.trans (b1.trans a1), c2.trans (b2.trans a2)⟩
theorem sim_bodyL : ∀ (f : Nat) (acc : List Lit) (R : Rd), Sim R (addL acc (tailP R.T R.s (literalP R.T R.s) f R.k)) id (Rd.bodyL f acc R).1 (Rd.bodyL f acc R).2
 | 0, acc, R => by
   have hi := is_isT R 0 (x := comma) (by decide)
   rw [Nat.add_zero] at hi
   by_cases he : R.e = 0
   · cases hq : isT R.T R.s R.k comma with
     | true =>
       have e1 : Rd.bodyL 0 acc R = (acc, R.fail 2) := by unfold Rd.bodyL; rw [if_pos (by rw [hi, hq]; simp [he])]
       rw [e1, tail_full acc hq]
       simp only [fail_go he]
       exact ⟨rfl, rfl, fun _ => ⟨rfl, rfl, by decide⟩, fun h => absurd he h⟩
     | false =>
       have e1 : Rd.bodyL 0 acc R = (acc, R) := by unfold Rd.bodyL; rw [if_neg (by rw [hi, hq]; simp)]
       rw [e1, tail_end acc hq]
       exact ⟨rfl, rfl, fun _ => ⟨rfl, rfl⟩, fun h => absurd he h⟩
   · have e1 : Rd.bodyL 0 acc R = (acc, R) := by unfold Rd.bodyL; rw [if_neg (by simp [he])]
     rw [e1]
     exact ⟨rfl, rfl, fun h => absurd h he, fun _ => ⟨rfl, rfl⟩⟩
 | f + 1, acc, R => by
   have hi := is_isT R 0 (x := comma) (by decide)
   rw [Nat.add_zero] at hi
   by_cases he : R.e = 0
   · cases hq : isT R.T R.s R.k comma with
     | true =>
       have e1 : Rd.bodyL (f + 1) acc R = Rd.bodyL f (acc ++ [R.adv.literal.1]) R.adv.literal.2 := by rw [Rd.bodyL]; rw [if_pos (by rw [hi, hq]; simp [he])]
       rw [e1]
       have ht := sim_literal R.adv
       have hg := ht.go he
       have ih := sim_bodyL f (acc ++ [R.adv.literal.1]) R.adv.literal.2
       refine ⟨ih.s.trans ht.s, ih.T.trans ht.T, fun _ => ?_, fun h => absurd he h⟩
       cases hp : literalP R.adv.T R.adv.s R.adv.k with
       | error q =>
         obtain ⟨q, x⟩ := q
         rw [hp] at hg
         have ho : literalP R.T R.s (R.k + 1) = .error (q, x) := hp
         rw [tail_stop acc hq ho]
         exact err_on hg ih.st
       | ok am =>
         obtain ⟨a, m⟩ := am
         rw [hp] at hg
         have ho : literalP R.T R.s (R.k + 1) = .ok (a, m) := hp
         rw [tail_step acc hq ho]
         obtain ⟨h1, h2⟩ := hg
         have ih2 := ih.go (by rw [h2]; exact he)
         simp only [id] at h1
         rw [h2, h1] at ih2 ⊢
         exact ih2
     | false =>
       have e1 : Rd.bodyL (f + 1) acc R = (acc, R) := by rw [Rd.bodyL]; rw [if_neg (by rw [hi, hq]; simp)]
       rw [e1, tail_end acc hq]
       exact ⟨rfl, rfl, fun _ => ⟨rfl, rfl⟩, fun h => absurd he h⟩
   · have e1 : Rd.bodyL (f + 1) acc R = (acc, R) := by rw [Rd.bodyL]; rw [if_neg (by simp [he])]
     rw [e1]
     exact ⟨rfl, rfl, fun h => absurd h he, fun _ => ⟨rfl, rfl⟩⟩
theorem sim_body (R : Rd) : Sim R (bodyP R.T R.s R.k) id R.body.1 R.body.2 := by
 have hi := is_isT R 0 (x := turns) (by decide)
 rw [Nat.add_zero] at hi
 by_cases he : R.e = 0
 · cases hq : isT R.T R.s R.k turns with
   | false =>
     have e1 : R.body = ([], R) := by unfold Rd.body; rw [if_neg (by rw [hi, hq]; simp)]
     have e2 : bodyP R.T R.s R.k = .ok ([], R.k) := by unfold bodyP; rw [hq]; rfl
     rw [e1, e2]
     exact ⟨rfl, rfl, fun _ => ⟨rfl, rfl⟩, fun h => absurd he h⟩
   | true =>
     have e1 : R.body = Rd.bodyL 5 [R.adv.literal.1] R.adv.literal.2 := by unfold Rd.body; rw [if_pos (by rw [hi, hq]; simp [he])]
     have e2 : bodyP R.T R.s R.k = listP R.T R.s (literalP R.T R.s) 6 (R.k + 1) := by unfold bodyP; rw [hq]; rfl
     have ht := sim_literal R.adv
     have ih := sim_bodyL 5 [R.adv.literal.1] R.adv.literal.2
     rw [e1, e2]
     refine ⟨ih.s.trans ht.s, ih.T.trans ht.T, fun _ => ?_, fun h => absurd he h⟩
     have hg := ht.go he
     unfold listP
     replace hg : Out (literalP R.T R.s (R.k + 1)) id R.adv.literal.1 R R.adv.literal.2 := hg
     cases hp : literalP R.T R.s (R.k + 1) with
     | error q =>
       obtain ⟨q, x⟩ := q
       rw [hp] at hg
       exact err_on hg ih.st
     | ok am =>
       obtain ⟨a, m⟩ := am
       rw [hp] at hg
       obtain ⟨h1, h2⟩ := hg
       have ih2 := ih.go (by rw [h2]; exact he)
       simp only [id] at h1
       rw [h2, h1] at ih2 ⊢
       exact ih2
 · have e1 : R.body = ([], R) := by unfold Rd.body; rw [if_neg (by simp [he])]
   rw [e1]
   exact ⟨rfl, rfl, fun h => absurd h he, fun _ => ⟨rfl, rfl⟩⟩
theorem ended_st {R : Rd} (h : R.e ≠ 0) : R.ended = R := by
 unfold Rd.ended
 rw [if_neg (by simp [h])]
theorem ended_go {R : Rd} (h : R.e = 0) : R.ended = if R.k < R.T.length then { R with e := 6, fr := posOf R.T R.s R.k } else R := by
 unfold Rd.ended
 rw [h, fail_go h]
 by_cases hk : R.k < R.T.length
 · rw [if_pos (by simp [hk]), if_pos hk]
 · rw [if_neg (by simp [hk]), if_neg hk]
def ansP {α β : Type} (z : β) (f : α → β) : Except (Int × Int) α → β × Int × Int
 | .ok a => (f a, 0, 0)
 | .error (p, x) => (z, p, x)
theorem run_law {α β : Type} {s : ByteArray} {one : List Tok → Nat → PR α} {f : α → β} {z b : β} {R' : Rd} (hE : ((allT s).2.2 != 0) = false) (h : Out (one (allT s).1 0) f b (rd0 s) R') (hs : R'.s = s) (hT : R'.T = (allT s).1) :
 (if R'.ended.e != 0 then (z, R'.ended.fr, R'.ended.e) else (b, 0, 0)) = ansP z f (runP s one) := by
 unfold runP
 rw [hE]
 simp only [Bool.false_eq_true, if_false]
 cases hp : one (allT s).1 0 with
 | error q =>
   obtain ⟨q, x⟩ := q
   rw [hp] at h
   obtain ⟨h1, h2, h3⟩ := h
   rw [ended_st (by rw [h1]; exact h3), h1, h2, if_pos (by simpa using h3)]
   rfl
 | ok am =>
   obtain ⟨a, m⟩ := am
   rw [hp] at h
   obtain ⟨h1, h2⟩ := h
   have he : R'.e = 0 := by rw [h2]; rfl
   have hk : R'.k = m := by rw [h2]
   rw [ended_go he, hk, hT, hs]
   by_cases hm : m < (allT s).1.length
   · rw [if_pos hm]
     simp only [if_pos hm]
     rfl
   · rw [if_neg hm]
     simp only [if_neg hm]
     rw [he, h1]
     rfl
theorem refLit_law (s : ByteArray) : refLitR s = ansP Lit.z litOf (parseLitP s) := by
 unfold refLitR parseLitP
 cases hE : ((allT s).2.2 != 0) with
 | true =>
   unfold runP
   rw [hE]
   rfl
 | false =>
   have ha := sim_said (rd0 s) 1
   rw [if_neg (by simp)]
   exact run_law (one := fun T n => saidP T s n) hE (ha.go rfl) ha.s ha.T
theorem refClause_law (s : ByteArray) : refClauseR s = ansP Clause.z id (parseP s) := by
 unfold refClauseR parseP
 cases hE : ((allT s).2.2 != 0) with
 | true =>
   unfold runP
   rw [hE]
   rfl
 | false =>
   rw [if_neg (by simp)]
   have ha := sim_atom (rd0 s)
   have hb := sim_body (rd0 s).atom.2
   have hn := sim_need (rd0 s).atom.2.body.2 (x := dot) (by decide)
   refine run_law (one := fun T n => clauseP T s n) hE ?_ (hn.s.trans (hb.s.trans ha.s)) (hn.T.trans (hb.T.trans ha.T))
   have h1 := ha.go rfl
   unfold clauseP
   replace h1 : Out (atomP (allT s).1 s 0) id (rd0 s).atom.1 (rd0 s) (rd0 s).atom.2 := h1
   cases hp : atomP (allT s).1 s 0 with
   | error q =>
     obtain ⟨q, x⟩ := q
     rw [hp] at h1
     exact err_on (err_on h1 hb.st) hn.st
   | ok am =>
     obtain ⟨⟨x, ts⟩, m⟩ := am
     rw [hp] at h1
     obtain ⟨g1, g2⟩ := h1
     simp only
     have h2 := hb.go (by rw [g2]; rfl)
     rw [g2] at h2
     replace h2 : Out (bodyP (allT s).1 s m) id (rd0 s).atom.2.body.1 (rd0 s) (rd0 s).atom.2.body.2 := by rw [g2]; exact h2
     cases hp2 : bodyP (allT s).1 s m with
     | error q =>
       obtain ⟨q, x⟩ := q
       rw [hp2] at h2
       exact err_on h2 hn.st
     | ok am =>
       obtain ⟨ls, j⟩ := am
       rw [hp2] at h2
       obtain ⟨g3, g4⟩ := h2
       simp only
       have h3 := hn.go (by rw [g4]; rfl)
       rw [g4] at h3
       replace h3 : Out (needP (allT s).1 s dot j) (fun _ => ()) () (rd0 s) ((rd0 s).atom.2.body.2.need dot) := by rw [g4]; exact h3
       cases hp3 : needP (allT s).1 s dot j with
       | error q =>
         rw [hp3] at h3
         exact h3
       | ok am =>
         obtain ⟨_, i⟩ := am
         rw [hp3] at h3
         obtain ⟨_, g6⟩ := h3
         refine ⟨?_, g6⟩
         simp only [id] at g1 g3
         rw [g1, g3]
         rfl
end Go.Proofs.YtfhpecgknmfnnaaGreatDoor.M
end
section
namespace Go.R
open Go.RowKit
section
variable {c : Cx} {w w' : World} {h : AH} {n : Nat}
def Cx.hold (c : Cx) (w w' : World) : Cx := { c with L := fun b => if w.heap.size ≤ b ∧ b < w'.heap.size then none else c.L b }
theorem Wd.hold (hw : Wd c h n w) (hb : Below w.heap.size w w') : Wd (c.hold w w') h n w' ∧ Ext c h w (c.hold w w') h w' := by
 have old : ∀ b, b < w.heap.size → (c.hold w w').L b = c.L b := fun b hb => if_neg (fun q => absurd q.1 (Nat.not_le.2 hb))
 have q : Ext c h w (c.hold w w') h w' := ⟨hb.os, hb.tape, hb.output, hb.size, fun b off q => by
  unfold Cx.lo
  rw [old b (lo_lt hw q)]
  exact q, fun b off q => cell_of_block (hb.block b (lo_lt hw q)), fun b q => ⟨(old b (all_lt hw q)).trans q, hb.block b (all_lt hw q)⟩, fun _ cs q => ⟨rfl, cs, q⟩, fun _ n _ q => ⟨n, q, Nat.le_refl _, fun _ => rfl⟩⟩
 refine ⟨⟨fun i cs hi => ?_, hw.tokN, fun i m z a cap hi ha => ?_, hw.ne, fun b hb' => ?_, hw.new, hw.globs q⟩, q⟩
 · obtain ⟨h1, vals, ty, h2, h3, h4⟩ := hw.box i cs hi
   have hl := (Array.getElem?_eq_some_iff.1 h2).1
   exact ⟨(old _ hl).trans h1, vals, ty, (hb.block _ hl).trans h2, h3, fun j v x hj hx => (h4 j v x hj hx).to q⟩
 · obtain ⟨h1, h2, h3, vals, ty, h4, h5⟩ := hw.tokS i m z a cap hi ha
   have hl := (Array.getElem?_eq_some_iff.1 h4).1
   exact ⟨h1, h2, (old _ hl).trans h3, vals, ty, (hb.block _ hl).trans h4, h5⟩
 · have : (c.hold w w').L b = c.L b := if_neg (fun q => absurd q.2 (Nat.not_lt.2 hb'))
   rw [this]
   exact hw.fresh b (Nat.le_trans hb.size hb')
theorem rep_nil : ∀ (j : Nat) v x, ([] : List Value)[j]? = some v → ([] : List AV)[j]? = some x → ARep c h w v x := fun j v x hv _ => by simp at hv
theorem rep_cons {v : Value} {x : AV} {vs : List Value} {xs : List AV} (h0 : ARep c h w v x) (ht : ∀ (j : Nat) v x, vs[j]? = some v → xs[j]? = some x → ARep c h w v x) : ∀ (j : Nat) u y, (v :: vs)[j]? = some u → (x :: xs)[j]? = some y → ARep c h w u y := fun j u y hu hy => by
 cases j with
 | zero =>
   simp only [List.getElem?_cons_zero, Option.some.injEq] at hu hy
   subst hu; subst hy
   exact h0
 | succ j => exact ht j u y (by simpa using hu) (by simpa using hy)
theorem of_hold {P : Program} {f : FuncId} {fn : Func} {code : Code} {g : List AV → Option AV} {pre : List AV → Prop} (hf : P.funcs[f]? = some fn) (hbody : fn.body = some code) (hn : (fn.name == "runtime.NumGoroutine") = false)
 (H : ∀ (args : List AV) (r : AV) (c : Cx) (h : AH) (n : Nat) (w : World) (vals : List Value), pre args → g args = some r → Wd c h n w → vals.length = args.length → (∀ (j : Nat) v x, vals[j]? = some v → args[j]? = some x → ARep c h w v x) → Calls P f vals.toArray w fun e w' => ∃ v, e = .returned v ∧ Below w.heap.size w w' ∧ ARep (c.hold w w') h w' v r) : FsOk P f (.pureIf pre g) := by
 intro c h n w vals args K hw hl hr hS
 obtain ⟨hpre, hS⟩ := hS
 obtain ⟨q, hq, hK⟩ := onO_iff hS
 refine ⟨Entered.of hf hbody hn, ?_⟩
 simp only [Fs.pureIf] at hq hpre
 cases hg : g args with
 | none => simp [hg] at hq
 | some r =>
   simp only [hg, Option.map_some, Option.some.injEq] at hq
   subst hq
   refine (H args r c h n w vals hpre hg hw hl hr).mono fun e w' ⟨v, he, hb, hv⟩ => ?_
   obtain ⟨g1, g2⟩ := hw.hold hb
   exact ⟨v, r, c.hold w w', h, n, he, g1, g2, ⟨fun b hbl _ => hb.block b hbl, fun i b q _ => q⟩, hv, Nat.le_refl n, hK⟩
end
end Go.R
namespace Go.Proofs.YtfhpecgknmfnnaaGreatDoor.M
open Go.R Go.RowKit
open Go.Proofs.YtfhpecgknmfnnaaGreatDoorW.PrintWords Go.Proofs.YtfhpecgknmfnnaaGreatDoorW.PrintMore
theorem kd_row {α : Type} {d : Kd α} {e : Nat} {ok : Nat → Prop} {v : Value} {xs : List α} {c : Cx} {w w' : World} (f : α → List DV) (hR : Kd.R d e w' w.heap.size ok v xs) (hf : ∀ x, (f x).length = d.sz)
 (hM : ∀ x cs ok, d.M w' w.heap.size ok x cs → ∀ (j : Nat) u y, cs[j]? = some u → (f x)[j]? = some y → DRep (c.hold w w') w' u y) : DRep (c.hold w w') w' v (.sl d.sz (xs.map f)) := by
 obtain ⟨h0, inner, ho, hr⟩ := hR
 have ho1 := ho
 obtain ⟨hlen, ho2⟩ := ho
 rcases ho2 with ⟨rfl, hn⟩ | ⟨g, cap, cur, rfl, hg, hh, hnc, hcm, hcs, htk⟩
 · obtain rfl := List.eq_nil_of_length_eq_zero hn
   exact .sl none 0 _ [] (fun _ _ => undef) (by simp) (by simp) (fun a h => by cases h) (fun _ => ⟨rfl, rfl⟩) (fun a h => by cases h) (fun i j row x hi => by simp at hi)
 · have hgl : g < w'.heap.size := (Array.getElem?_eq_some_iff.1 hh).1
   have key : ∀ (i j : Nat) row x, (xs.map f)[i]? = some row → row[j]? = some x → ∃ p u, xs[i]? = some p ∧ row = f p ∧ inner[i * d.sz + j]? = some u ∧ ((inner.drop (i * d.sz)).take d.sz)[j]? = some u := by
    intro i j row x hi hj
    rw [List.getElem?_map] at hi
    cases hp : xs[i]? with
    | none => simp [hp] at hi
    | some p =>
      simp only [hp, Option.map_some, Option.some.injEq] at hi
      subst hi
      have hjl : j < d.sz := by rw [← hf p]; exact (List.getElem?_eq_some_iff.1 hj).1
      have hil : i < xs.length := (List.getElem?_eq_some_iff.1 hp).1
      have hb : i * d.sz + j < inner.length := by
       rw [hlen]
       have : (i + 1) * d.sz ≤ xs.length * d.sz := Nat.mul_le_mul_right _ hil
       rw [Nat.succ_mul] at this
       omega
      refine ⟨p, inner[i * d.sz + j], rfl, rfl, List.getElem?_eq_getElem hb, ?_⟩
      rw [List.getElem?_take_of_lt hjl, List.getElem?_drop, List.getElem?_eq_getElem hb]
   have := DRep.sl (c := c.hold w w') (w := w') (some ⟨g, 0, none⟩) cap d.sz (xs.map f) (fun i j => (inner[i * d.sz + j]?).getD undef) (by rw [List.length_map]; exact hnc) (fun row hrow => by
    obtain ⟨x, _, rfl⟩ := List.mem_map.1 hrow
    exact hf x) (fun a ha => by cases ha; exact .inl rfl) (fun ha => by cases ha) (fun a ha i j row x hi hj => by
    cases ha
    obtain ⟨p, u, hp, rfl, hu, _⟩ := key i j row x hi hj
    refine ⟨?_, ?_⟩
    · have hc := ho1.cells (g := g) rfl _ u hu
      rw [hu]
      simpa [Go.Addr.add_mid, Nat.add_assoc] using hc
    · unfold Cx.lo
      have : (c.hold w w').L g = none := if_pos ⟨hg, hgl⟩
      simp only [this]) (fun i j row x hi hj => by
    obtain ⟨p, u, hp, rfl, hu, hu2⟩ := key i j row x hi hj
    rw [hu]
    exact hM p _ _ (hr.2 i p hp) j u x hu2 hj)
   rwa [List.length_map] at this
theorem term_row {ok : Nat → Prop} {v : Value} {xs : List Term} {c : Cx} {w w' : World} (hR : Kd.R kTerm 25 w' w.heap.size ok v xs) : DRep (c.hold w w') w' v (.sl 3 (xs.map Term.cells)) := by
 refine kd_row (d := kTerm) Term.cells hR (fun _ => rfl) fun t cs ok hM j u y hu hy => ?_
 obtain ⟨_, _, rfl, rfl, _, _, rfl, rfl, rfl⟩ := hM
 match j with
 | 0 => simp [Term.cells] at hu hy; subst hu; subst hy; exact .v _ rfl
 | 1 => simp [Term.cells] at hu hy; subst hu; subst hy; exact .v _ rfl
 | 2 => simp [Term.cells] at hu hy; subst hu; subst hy; exact .v _ rfl
 | j + 3 => simp [Term.cells] at hy
theorem lit_row {ok : Nat → Prop} {v : Value} {xs : List Lit} {c : Cx} {w w' : World} (hR : Kd.R kLit 28 w' w.heap.size ok v xs) : DRep (c.hold w w') w' v (.sl 6 (xs.map Lit.cells)) := by
 refine kd_row (d := kLit) Lit.cells hR (fun _ => rfl) fun l cs ok hM j u y hu hy => ?_
 obtain ⟨_, _, rfl, rfl, _, _, rfl, ⟨_, _, rfl, rfl, _, _, rfl, rfl, rfl⟩, _, _, rfl, rfl, av, rfl, hA⟩ := hM
 match j with
 | 0 => simp [Lit.cells] at hu hy; subst hu; subst hy; exact .v _ rfl
 | 1 => simp [Lit.cells] at hu hy; subst hu; subst hy; exact .v _ rfl
 | 2 => simp [Lit.cells] at hu hy; subst hu; subst hy; exact .v _ rfl
 | 3 => simp [Lit.cells] at hu hy; subst hu; subst hy; exact .v _ rfl
 | 4 => simp [Lit.cells] at hu hy; subst hu; subst hy; exact .v _ rfl
 | 5 => simp [Lit.cells] at hu hy; subst hu; subst hy; exact term_row hA
 | j + 6 => simp [Lit.cells] at hy
section
variable {c : Cx} {w : World} {h : AH}
theorem rep_v (v : Value) (hv : v.oneCell' = true) : ARep c h w v (.d (.v v)) := .d _ _ (.v _ hv)
theorem rep_nilsl (z : Nat) : ARep c h w (.slice none 0 0) (.d (.sl z [])) := .d _ _ (.sl none 0 _ [] (fun _ _ => undef) (by simp) (by simp) (fun a h => by cases h) (fun _ => ⟨rfl, rfl⟩) (fun a h => by cases h) (fun i j row x hi => by simp at hi))
theorem clause_rep {q : Clause} {av bv : Value} (ha : DRep c w av (.sl 3 (q.head.args.map Term.cells))) (hb : DRep c w bv (.sl 6 (q.body.map Lit.cells))) : ARep c h w (clauseV q av bv) q.av :=
 .agg _ _ rfl (rep_cons (rep_v _ rfl) (rep_cons (rep_v _ rfl) (rep_cons (rep_v _ rfl) (rep_cons (rep_v _ rfl) (rep_cons (rep_v _ rfl) (rep_cons (.d _ _ ha) (rep_cons (.d _ _ hb) rep_nil)))))))
theorem lit_rep {q : Lit} {av : Value} (ha : DRep c w av (.sl 3 (q.args.map Term.cells))) : ARep c h w (litV q av) q.av :=
 .agg _ _ rfl (rep_cons (rep_v _ rfl) (rep_cons (rep_v _ rfl) (rep_cons (rep_v _ rfl) (rep_cons (rep_v _ rfl) (rep_cons (rep_v _ rfl) (rep_cons (.d _ _ ha) rep_nil))))))
theorem tup3_rep {v : Value} {x : AV} (hv : ARep c h w v x) (p q : Int) : ARep c h w (.tuple #[v, .int .i64 p, .int .i64 q]) (.tup [x, vI p, vI q]) :=
 .tup [v, .int .i64 p, .int .i64 q] _ rfl (rep_cons hv (rep_cons (rep_v _ rfl) (rep_cons (rep_v _ rfl) rep_nil)))
end
def clauseA (s : ByteArray) : Clause × Int × Int := ansP Clause.z id (parseP s)
def litA (s : ByteArray) : Lit × Int × Int := ansP Lit.z litOf (parseLitP s)
abbrev pparseS : Fs := .pureIf (g1p aStr fun s => (s.size : Int) ≤ 9223372036854775807) (g1 aStr fun s => .tup [(clauseA s).1.av, vI (clauseA s).2.1, vI (clauseA s).2.2])
abbrev pparseLitS : Fs := .pureIf (g1p aStr fun s => (s.size : Int) ≤ 9223372036854775807) (g1 aStr fun s => .tup [(litA s).1.av, vI (litA s).2.1, vI (litA s).2.2])
theorem pparse_ok : FsOk Tryz.prog 48 pparseS := by
 refine of_hold Tryz.func48 rfl (by kernel_rfl) ?_
 intro args r c h n w vals hp hg hw hl hr
 obtain ⟨x, s, rfl, hx, rfl⟩ := g1_eq hg
 have hp := hp s hx
 obtain rfl := aStr_eq hx
 match vals, hl with
 | [v], _ =>
   have hv := hr 0 v _ rfl rfl
   obtain rfl := cval_rep hv rfl
   refine (parse_calls s w (by unfold maxLen; omega)).mono fun e w' hq => ?_
   unfold clauseA
   cases hE : parseP s with
   | error q =>
     obtain ⟨p, x⟩ := q
     rw [hE] at hq
     obtain ⟨rfl, hb⟩ := hq
     exact ⟨_, rfl, hb, tup3_rep (.agg _ _ rfl (rep_cons (rep_v _ rfl) (rep_cons (rep_v _ rfl) (rep_cons (rep_v _ rfl) (rep_cons (rep_v _ rfl) (rep_cons (rep_v _ rfl) (rep_cons (rep_nilsl 3) (rep_cons (rep_nilsl 6) rep_nil)))))))) _ _⟩
   | ok q =>
     rw [hE] at hq
     obtain ⟨⟨av, bv, rfl, ha, hb⟩, hbel⟩ := hq
     exact ⟨_, rfl, hbel, tup3_rep (clause_rep (term_row ha) (lit_row hb)) _ _⟩
theorem pparseLit_ok : FsOk Tryz.prog 72 pparseLitS := by
 refine of_hold Tryz.func72 rfl (by kernel_rfl) ?_
 intro args r c h n w vals hp hg hw hl hr
 obtain ⟨x, s, rfl, hx, rfl⟩ := g1_eq hg
 have hp := hp s hx
 obtain rfl := aStr_eq hx
 match vals, hl with
 | [v], _ =>
   have hv := hr 0 v _ rfl rfl
   obtain rfl := cval_rep hv rfl
   refine (parseLit_calls s w (by unfold maxLen; omega)).mono fun e w' hq => ?_
   unfold litA
   cases hE : parseLitP s with
   | error q =>
     obtain ⟨p, x⟩ := q
     rw [hE] at hq
     obtain ⟨rfl, hb⟩ := hq
     exact ⟨_, rfl, hb, tup3_rep (.agg _ _ rfl (rep_cons (rep_v _ rfl) (rep_cons (rep_v _ rfl) (rep_cons (rep_v _ rfl) (rep_cons (rep_v _ rfl) (rep_cons (rep_v _ rfl) (rep_cons (rep_nilsl 3) rep_nil))))))) _ _⟩
   | ok q =>
     rw [hE] at hq
     obtain ⟨⟨av, rfl, ha⟩, hbel⟩ := hq
     exact ⟨_, rfl, hbel, tup3_rep (lit_rep (q := litOf q) (term_row ha)) _ _⟩
end Go.Proofs.YtfhpecgknmfnnaaGreatDoor.M
end
section
namespace Go.Proofs.YtfhpecgknmfnnaaGreatDoor.M
open Go.RowKit Go.Proofs.YtfhpecgknmfnnaaGreatDoorW.PrintWords
section
variable {β : Type} {ok : Int → Int → Prop}
def Tw (ok : Int → Int → Prop) : Except (Int × Int) β → Except (Int × Int) β → Prop
 | .error (p, e), .error (p', e') => e = e' ∧ ok p p'
 | .ok a, .ok b => a = b
 | _, _ => False
theorem Tw.or {r r' : Except (Int × Int) β} (h : Tw ok r r') : (∃ p p' e, r = .error (p, e) ∧ r' = .error (p', e) ∧ ok p p') ∨ ∃ b, r = .ok b ∧ r' = .ok b := by
 rcases r with ⟨p, e⟩ | b <;> rcases r' with ⟨p', e'⟩ | b'
 · obtain ⟨rfl, h⟩ := h
   exact .inl ⟨p, p', e, rfl, rfl, h⟩
 · exact h.elim
 · exact h.elim
 · have h : b = b' := h
   exact .inr ⟨b, rfl, by rw [h]⟩
theorem Tw.err {p p' e : Int} (h : ok p p') : Tw ok (.error (p, e) : Except (Int × Int) β) (.error (p', e)) := ⟨rfl, h⟩
theorem Tw.same (b : β) : Tw ok (.ok b) (.ok b) := rfl
end
structure Twin (ok : Int → Int → Prop) (T : List Tok) (s : ByteArray) (T' : List Tok) (s' : ByteArray) : Prop where
 k : ∀ n, kindT T' n = kindT T n
 x : ∀ n, textT T' s' n = textT T s n
 i : ∀ n y, isT T' s' n y = isT T s n y
 p : ∀ n, ok (posOf T s n) (posOf T' s' n)
section
variable {ok : Int → Int → Prop} {T T' : List Tok} {s s' : ByteArray} (h : Twin ok T s T' s')
include h
theorem take_tw (ks : List Int) (n : Nat) : Tw ok (takeP T s ks n) (takeP T' s' ks n) := by
 unfold takeP
 rw [h.k, h.x]
 split
 · exact Tw.same _
 · exact Tw.err (h.p n)
theorem need_tw (x : ByteArray) (n : Nat) : Tw ok (needP T s x n) (needP T' s' x n) := by
 unfold needP
 rw [h.i]
 split
 · exact Tw.same _
 · exact Tw.err (h.p n)
theorem term_tw (n : Nat) : Tw ok (termP T s n) (termP T' s' n) := by
 unfold termP
 rw [h.k]
 rcases (take_tw h [1, 2, 3] n).or with ⟨p, p', e, h1, h2, hq⟩ | ⟨⟨x, m⟩, h1, h2⟩ <;> rw [h1, h2]
 · exact Tw.err hq
 · exact Tw.same _
theorem tail_tw {α : Type} {one one' : Nat → PR α} (ho : ∀ n, Tw ok (one n) (one' n)) : ∀ r m : Nat, Tw ok (tailP T s one r m) (tailP T' s' one' r m)
 | 0, m => by
   unfold tailP
   rw [h.i]
   split
   · exact Tw.err (h.p m)
   · exact Tw.same _
 | r + 1, m => by
   unfold tailP
   rw [h.i]
   split
   · rcases (ho (m + 1)).or with ⟨p, p', e, h1, h2, hq⟩ | ⟨⟨x, k⟩, h1, h2⟩ <;> rw [h1, h2]
     · exact Tw.err hq
     · rcases (tail_tw ho r k).or with ⟨p, p', e, h3, h4, hq⟩ | ⟨⟨y, j⟩, h3, h4⟩ <;> simp only [h3, h4]
       · exact Tw.err hq
       · exact Tw.same _
   · exact Tw.same _
theorem list_tw {α : Type} {one one' : Nat → PR α} (ho : ∀ n, Tw ok (one n) (one' n)) (most n : Nat) : Tw ok (listP T s one most n) (listP T' s' one' most n) := by
 unfold listP
 rcases (ho n).or with ⟨p, p', e, h1, h2, hq⟩ | ⟨⟨x, k⟩, h1, h2⟩ <;> rw [h1, h2]
 · exact Tw.err hq
 · rcases (tail_tw h ho (most - 1) k).or with ⟨p, p', e, h3, h4, hq⟩ | ⟨⟨y, j⟩, h3, h4⟩ <;> simp only [h3, h4]
   · exact Tw.err hq
   · exact Tw.same _
theorem atom_tw (n : Nat) : Tw ok (atomP T s n) (atomP T' s' n) := by
 unfold atomP
 rcases (take_tw h [1] n).or with ⟨p, p', e, h1, h2, hq⟩ | ⟨⟨x, m⟩, h1, h2⟩ <;> rw [h1, h2]
 · exact Tw.err hq
 · simp only [h.i]
   split
   · rcases (list_tw h (term_tw h) 4 (m + 1)).or with ⟨p, p', e, h3, h4, hq⟩ | ⟨⟨y, j⟩, h3, h4⟩ <;> rw [h3, h4]
     · exact Tw.err hq
     · rcases (need_tw h closes j).or with ⟨p, p', e, h5, h6, hq⟩ | ⟨⟨u, i⟩, h5, h6⟩ <;> simp only [h5, h6]
       · exact Tw.err hq
       · exact Tw.same _
   · exact Tw.same _
theorem said_tw (n : Nat) : Tw ok (saidP T s n) (saidP T' s' n) := by
 unfold saidP
 rw [show speaks T' s' n = speaks T s n by unfold speaks; rw [h.k, h.i]]
 split
 · rcases (term_tw h n).or with ⟨p, p', e, h1, h2, hq⟩ | ⟨⟨x, m⟩, h1, h2⟩ <;> rw [h1, h2]
   · exact Tw.err hq
   · rcases (need_tw h says m).or with ⟨p, p', e, h3, h4, hq⟩ | ⟨⟨u, i⟩, h3, h4⟩ <;> simp only [h3, h4]
     · exact Tw.err hq
     · rcases (atom_tw h i).or with ⟨p, p', e, h5, h6, hq⟩ | ⟨⟨u, i⟩, h5, h6⟩ <;> simp only [h5, h6]
       · exact Tw.err hq
       · exact Tw.same _
 · rcases (atom_tw h n).or with ⟨p, p', e, h5, h6, hq⟩ | ⟨⟨u, i⟩, h5, h6⟩ <;> rw [h5, h6]
   · exact Tw.err hq
   · exact Tw.same _
theorem pair_tw (k : Int) (a : Term) (m : Nat) : Tw ok (pairP T s k a m) (pairP T' s' k a m) := by
 unfold pairP
 rcases (term_tw h (m + 1)).or with ⟨p, p', e, h1, h2, hq⟩ | ⟨⟨x, m⟩, h1, h2⟩ <;> rw [h1, h2]
 · exact Tw.err hq
 · exact Tw.same _
theorem saidL_tw (k : Int) (n : Nat) : Tw ok (saidL k (saidP T s n)) (saidL k (saidP T' s' n)) := by
 rcases (said_tw h n).or with ⟨p, p', e, h1, h2, hq⟩ | ⟨⟨⟨x, y, z⟩, m⟩, h1, h2⟩ <;> rw [h1, h2]
 · exact Tw.err hq
 · exact Tw.same _
theorem literal_tw (n : Nat) : Tw ok (literalP T s n) (literalP T' s' n) := by
 unfold literalP
 rw [h.i, show compares T' s' n = compares T s n by unfold compares; simp only [h.k, h.i]]
 split
 · exact saidL_tw h 2 _
 · split
   · rcases (term_tw h n).or with ⟨p, p', e, h1, h2, hq⟩ | ⟨⟨x, m⟩, h1, h2⟩ <;> rw [h1, h2]
     · exact Tw.err hq
     · simp only [h.i]
       split
       · exact pair_tw h _ _ _
       · split
         · exact pair_tw h _ _ _
         · exact Tw.err (h.p m)
   · exact saidL_tw h 1 _
theorem body_tw (n : Nat) : Tw ok (bodyP T s n) (bodyP T' s' n) := by
 unfold bodyP
 rw [h.i]
 split
 · exact list_tw h (literal_tw h) 6 _
 · exact Tw.same _
theorem clause_tw (n : Nat) : Tw ok (clauseP T s n) (clauseP T' s' n) := by
 unfold clauseP
 rcases (atom_tw h n).or with ⟨p, p', e, h1, h2, hq⟩ | ⟨⟨⟨x, ts⟩, m⟩, h1, h2⟩ <;> rw [h1, h2]
 · exact Tw.err hq
 · rcases (body_tw h m).or with ⟨p, p', e, h3, h4, hq⟩ | ⟨⟨y, j⟩, h3, h4⟩ <;> simp only [h3, h4]
   · exact Tw.err hq
   · rcases (need_tw h dot j).or with ⟨p, p', e, h5, h6, hq⟩ | ⟨⟨u, i⟩, h5, h6⟩ <;> simp only [h5, h6]
     · exact Tw.err hq
     · exact Tw.same _
end
theorem run_tw {α : Type} {ok : Int → Int → Prop} {s s' : ByteArray} {one one' : List Tok → Nat → PR α} (h : Twin ok (allT s).1 s (allT s').1 s') (hl : (allT s').1.length = (allT s).1.length) (he : (allT s').2.2 = (allT s).2.2)
 (hp : (allT s).2.2 ≠ 0 → ok (allT s).2.1 (allT s').2.1) (ho : Tw ok (one (allT s).1 0) (one' (allT s').1 0)) : Tw ok (runP s one) (runP s' one') := by
 unfold runP
 rw [he]
 split
 · rename_i hc
   exact Tw.err (hp (by simpa using hc))
 · rcases ho.or with ⟨p, p', e, h1, h2, hq⟩ | ⟨⟨x, m⟩, h1, h2⟩ <;> rw [h1, h2]
   · exact Tw.err hq
   · simp only [hl]
     split
     · exact Tw.err (h.p m)
     · exact Tw.same _
theorem parse_tw {ok : Int → Int → Prop} {s s' : ByteArray} (h : Twin ok (allT s).1 s (allT s').1 s') (hl : (allT s').1.length = (allT s).1.length) (he : (allT s').2.2 = (allT s).2.2)
 (hp : (allT s).2.2 ≠ 0 → ok (allT s).2.1 (allT s').2.1) : (ansP Clause.z id (parseP s')).1 = (ansP Clause.z id (parseP s)).1 ∧ (ansP Clause.z id (parseP s')).2.2 = (ansP Clause.z id (parseP s)).2.2 ∧
   ((ansP Clause.z id (parseP s)).2.2 ≠ 0 → ok (ansP Clause.z id (parseP s)).2.1 (ansP Clause.z id (parseP s')).2.1) := by
 have hr : Tw ok (parseP s) (parseP s') := run_tw h hl he hp (clause_tw h 0)
 rcases hr.or with ⟨p, p', e, h1, h2, hq⟩ | ⟨b, h1, h2⟩ <;> rw [h1, h2]
 · exact ⟨rfl, rfl, fun _ => hq⟩
 · exact ⟨rfl, rfl, fun hc => absurd rfl hc⟩
theorem pos_range {s : ByteArray} {T : List Tok} (hT : TokOk s T) (n : Nat) : 0 ≤ posOf T s n ∧ posOf T s n ≤ s.size := by
 unfold posOf
 cases h : T[n]? with
 | none => exact ⟨Int.natCast_nonneg _, Int.le_refl _⟩
 | some t =>
   have := hT.2 t (List.mem_of_getElem? h)
   show 0 ≤ t.lo ∧ t.lo ≤ s.size
   exact ⟨this.1, by omega⟩
theorem go_range (s : ByteArray) : ∀ (f p : Nat) (acc : List Tok), p ≤ s.size → 0 ≤ (allGo s f p acc).2.1 ∧ (allGo s f p acc).2.1 ≤ s.size
 | 0, p, acc, h => ⟨Int.le_refl 0, Int.natCast_nonneg _⟩
 | f + 1, p, acc, h => by
   unfold allGo
   split
   · exact ⟨Int.le_refl 0, Int.natCast_nonneg _⟩
   · split
     · exact go_range s f (p + 1) acc (by omega)
     · split
       · rename_i h0
         have := oneT_ok s p h0
         exact go_range s f _ _ (by omega)
       · exact ⟨Int.natCast_nonneg _, Int.ofNat_le.2 h⟩
theorem all_range (s : ByteArray) (_ : (allT s).2.2 ≠ 0) : 0 ≤ (allT s).2.1 ∧ (allT s).2.1 ≤ s.size := by
 unfold allT
 split
 · exact ⟨Int.le_refl 0, Int.natCast_nonneg _⟩
 · exact go_range s _ 0 [] (Nat.zero_le _)
theorem parseLit_tw {ok : Int → Int → Prop} {s s' : ByteArray} (h : Twin ok (allT s).1 s (allT s').1 s') (hl : (allT s').1.length = (allT s).1.length) (he : (allT s').2.2 = (allT s).2.2)
 (hp : (allT s).2.2 ≠ 0 → ok (allT s).2.1 (allT s').2.1) : (ansP Lit.z litOf (parseLitP s')).1 = (ansP Lit.z litOf (parseLitP s)).1 ∧ (ansP Lit.z litOf (parseLitP s')).2.2 = (ansP Lit.z litOf (parseLitP s)).2.2 ∧
   ((ansP Lit.z litOf (parseLitP s)).2.2 ≠ 0 → ok (ansP Lit.z litOf (parseLitP s)).2.1 (ansP Lit.z litOf (parseLitP s')).2.1) := by
 have hr : Tw ok (parseLitP s) (parseLitP s') := run_tw h hl he hp (said_tw h 0)
 rcases hr.or with ⟨p, p', e, h1, h2, hq⟩ | ⟨b, h1, h2⟩ <;> rw [h1, h2]
 · exact ⟨rfl, rfl, fun _ => hq⟩
 · exact ⟨rfl, rfl, fun hc => absurd rfl hc⟩
theorem twin_range (s : ByteArray) : Twin (fun p _ => 0 ≤ p ∧ p ≤ s.size) (allT s).1 s (allT s).1 s := ⟨fun _ => rfl, fun _ => rfl, fun _ _ => rfl, fun n => pos_range (allT_ok s) n⟩
theorem parse_pos (s : ByteArray) (h : (ansP Clause.z id (parseP s)).2.2 ≠ 0) : 0 ≤ (ansP Clause.z id (parseP s)).2.1 ∧ (ansP Clause.z id (parseP s)).2.1 ≤ s.size :=
 (parse_tw (ok := fun p _ => 0 ≤ p ∧ p ≤ s.size) (twin_range s) rfl rfl (fun hc => all_range s hc)).2.2 h
theorem parseLit_pos (s : ByteArray) (h : (ansP Lit.z litOf (parseLitP s)).2.2 ≠ 0) : 0 ≤ (ansP Lit.z litOf (parseLitP s)).2.1 ∧ (ansP Lit.z litOf (parseLitP s)).2.1 ≤ s.size :=
 (parseLit_tw (ok := fun p _ => 0 ≤ p ∧ p ≤ s.size) (twin_range s) rfl rfl (fun hc => all_range s hc)).2.2 h
end Go.Proofs.YtfhpecgknmfnnaaGreatDoor.M
end
section
namespace Go.Proofs.YtfhpecgknmfnnaaGreatDoor.M
open Go.R
abbrev wAssert : ByteArray := (⟨#[97, 115, 115, 101, 114, 116]⟩ : ByteArray)
abbrev wRevoke : ByteArray := (⟨#[114, 101, 118, 111, 107, 101]⟩ : ByteArray)
abbrev wQuery : ByteArray := (⟨#[113, 117, 101, 114, 121]⟩ : ByteArray)
abbrev wProve : ByteArray := (⟨#[112, 114, 111, 118, 101]⟩ : ByteArray)
abbrev wAudit : ByteArray := (⟨#[97, 117, 100, 105, 116]⟩ : ByteArray)
abbrev wFor : ByteArray := (⟨#[102, 111, 114]⟩ : ByteArray)
abbrev restS (s : ByteArray) (p : Int) : ByteArray := s.extract p.toNat s.size
def longB (T : List Tok) (s : ByteArray) : Bool := (wordB T s 2 1).toList == wFor.toList && decide (0 < (wordB T s 3 3).size)
def asAns (label : ByteArray) (life from_ : Int) (r : Clause × Int × Int) : Req × Int × Int := if (r.2.2 != 0) = true then (Req.z, from_ + r.2.1, r.2.2) else (⟨1, label, life, r.1, 0, Lit.z⟩, 0, 0)
def asT (T : List Tok) (s : ByteArray) : Req × Int × Int :=
 if ((wordB T s 1 1).size == 0) = true then (Req.z, posOf T s 1, 6)
 else if longB T s = true then (if (numB (wordB T s 3 3) == 0) = true then (Req.z, posOf T s 3, 6) else asAns (wordB T s 1 1) (numB (wordB T s 3 3)) (posOf T s 4) (clauseA (restS s (posOf T s 4))))
 else asAns (wordB T s 1 1) 0 (posOf T s 2) (clauseA (restS s (posOf T s 2)))
def reT (T : List Tok) (s : ByteArray) : Req × Int × Int :=
 if (numB (wordB T s 1 3) == 0) = true then (Req.z, posOf T s 1, 6) else if decide (2 < T.length) = true then (Req.z, posOf T s 2, 6) else (⟨2, noStr, 0, Clause.z, numB (wordB T s 1 3), Lit.z⟩, 0, 0)
def liT (k : Int) (T : List Tok) (s : ByteArray) : Req × Int × Int :=
 if ((litA (restS s (posOf T s 1))).2.2 != 0) = true then (Req.z, posOf T s 1 + (litA (restS s (posOf T s 1))).2.1, (litA (restS s (posOf T s 1))).2.2) else (⟨k, noStr, 0, Clause.z, 0, (litA (restS s (posOf T s 1))).1⟩, 0, 0)
def auT (T : List Tok) (s : ByteArray) : Req × Int × Int := if decide (1 < T.length) = true then (Req.z, posOf T s 1, 6) else (⟨5, noStr, 0, Clause.z, 0, Lit.z⟩, 0, 0)
def reqT (T : List Tok) (s : ByteArray) : Req × Int × Int :=
 if ((wordB T s 0 1).toList == wAssert.toList) = true then asT T s
 else if ((wordB T s 0 1).toList == wRevoke.toList) = true then reT T s
 else if ((wordB T s 0 1).toList == wQuery.toList) = true then liT 3 T s
 else if ((wordB T s 0 1).toList == wProve.toList) = true then liT 4 T s
 else if ((wordB T s 0 1).toList == wAudit.toList) = true then auT T s
 else (Req.z, posOf T s 0, 6)
def reqA (s : ByteArray) : Req × Int × Int := if ((allT s).2.2 != 0) = true then (Req.z, (allT s).2.1, (allT s).2.2) else reqT (allT s).1 s
abbrev rparseS : Fs := .pureIf (g1p aStr fun s => (s.size : Int) ≤ 9223372036854775807) (g1 aStr fun s => .tup [(reqA s).1.av, vI (reqA s).2.1, vI (reqA s).2.2])
theorem rest_size (s : ByteArray) (p : Int) : (restS s p).size ≤ s.size := by simp [restS]
theorem rest_le {s : ByteArray} {p : Int} (h : 0 ≤ p ∧ p ≤ s.size) : ((restS s p).size : Int) = s.size - p := by
 have : (restS s p).size = s.size - p.toNat := by simp [restS]
 omega
theorem query_prove {w : ByteArray} (h : (w.toList == wQuery.toList) = true) : (w.toList == wProve.toList) = false := by
 rw [beq_iff_eq] at h
 rw [h, toList_eq, toList_eq]
 rfl
set_option maxRecDepth 20000 in
set_option maxHeartbeats 8000000 in
theorem rparse_ok : FsOk Tryz.prog 6 rparseS := by
 refine of_Y1 (E := EqT.no _) (F := (((((Ft.no.put 17 refAllS).put 18 rwordS).put 19 rplaceS).put 20 rnumS).put 21 refParseS).put 22 refParseLitS) vS (fun _ _ => aStr_le) Tryz.func6 rfl (by kernel_rfl) [.cell 2 33, .tmp 3, .tmp 4] rfl Tryz.ntmps6 (by decide) (((((((FtOk.no _).put refAll_ok).put rword_ok).put rplace_ok).put rnum_ok).put refParse_ok).put refParseLit_ok) ?_
 intro s h n hp hok
 have hTok := allT_ok s
 have hcl : ∀ p, refClauseR (restS s p) = clauseA (restS s p) := fun p => refClause_law _
 have hli : ∀ p, refLitR (restS s p) = litA (restS s p) := fun p => refLit_law _
 have hrs : ∀ p, ((restS s p).size : Int) ≤ 9223372036854775807 := fun p => by have := rest_size s p; omega
 have hpos : ∀ k, 0 ≤ posOf (allT s).1 s k ∧ posOf (allT s).1 s k ≤ s.size := fun k => pos_range hTok k
 obtain ⟨T, p0, e0, hA⟩ : ∃ T p0 e0, allT s = (T, p0, e0) := ⟨_, _, _, rfl⟩
 rw [hA] at hTok hpos
 have hTok : TokOk s T := hTok
 have hpos : ∀ k, 0 ≤ posOf T s k ∧ posOf T s k ≤ s.size := hpos
 have tk : ∀ k : Int, 0 ≤ k → k ≤ 10 → toksP s T k := fun k h0 h1 => ⟨hp, hTok, h0, by omega⟩
 have hR : reqA s = if (e0 != 0) = true then (Req.z, p0, e0) else reqT T s := by unfold reqA; rw [hA]
 cases he : e0 != 0 with
 | true =>
   rw [he, if_pos rfl] at hR
   repeat' (first | (with_reducible first | refine XG_split (fun hq => ?_) (fun hq => ?_) | refine MX1.of 4000 (by simp) ?_ | refine MX2.of 4000 (by simp) ?_ | refine And.intro ?_ ?_) | ((with_reducible first | refine Or.inl (And.intro (And.intro mixedP ?_) ?_) | refine Or.inl (And.intro mixedP ?_)); kernel_rfl) | simp only [go_sem,Nat.reduceEqDiff,Nat.reduceAdd,Nat.reduceMul,Nat.reduceLeDiff,Int.reduceBEq,Req.av,Req.ds,Req.z,Clause.z,Lit.z,Term.z,Val.z,hA,hR,he])
   all_goals first | exact hp | skip
   all_goals first | omega | (unfold maxLen; omega) | (right; omega) | (left; simp; done) | (simp only [wk3,wkL2,wk2,wkL,wk1_d,wk1_own,wk1_nil,and_self]; done) | (intro i hi; simp only [upd]; (repeat' split); all_goals first | rfl | omega) | skip
 | false =>
   rw [he, if_neg (by decide)] at hR
   obtain ⟨w, hw⟩ : ∃ w, wordB T s 0 1 = w := ⟨_, rfl⟩
   have hp0 := hpos 0
   have hp1 := hpos 1
   have hp2 := hpos 2
   have hp3 := hpos 3
   have hp4 := hpos 4
   have n0 : ((0 : Int)).toNat = 0 := rfl
   have n1 : ((1 : Int)).toNat = 1 := rfl
   have n2 : ((2 : Int)).toNat = 2 := rfl
   have n3 : ((3 : Int)).toNat = 3 := rfl
   have n4 : ((4 : Int)).toNat = 4 := rfl
   cases h1 : w.toList == wAssert.toList with
   | true =>
     have hR1 : reqA s = asT T s := by rw [hR]; unfold reqT; rw [hw, h1, if_pos rfl]
     have hzi : (((wordB T s 1 1).size : Int) == 0) = ((wordB T s 1 1).size == 0) := by rw [Bool.eq_iff_iff]; simp
     have hfi : decide ((0 : Int) < ((wordB T s 3 3).size : Int)) = decide (0 < (wordB T s 3 3).size) := by rw [decide_eq_decide]; omega
     cases hz : (wordB T s 1 1).size == 0 with
     | true =>
       have hL2 : reqA s = (Req.z, posOf T s 1, 6) := by rw [hR1]; unfold asT; rw [hz, if_pos rfl]
       repeat' (first | (with_reducible first | refine XG_split (fun hq => ?_) (fun hq => ?_) | refine MX1.of 4000 (by simp) ?_ | refine MX2.of 4000 (by simp) ?_ | refine And.intro ?_ ?_) | ((with_reducible first | refine Or.inl (And.intro (And.intro mixedP ?_) ?_) | refine Or.inl (And.intro mixedP ?_)); kernel_rfl) | simp only [go_sem,Nat.reduceEqDiff,Nat.reduceAdd,Nat.reduceMul,Nat.reduceLeDiff,Int.reduceBEq,Req.av,Req.ds,Req.z,Clause.z,Lit.z,Term.z,Val.z,Clause.av,Clause.ds,Lit.av,Lit.ds,Lit.cells,List.map_nil,hA,he,hcl,hli,n0,n1,n2,n3,n4,hL2,hw,h1,hzi,hz])
       all_goals first | exact hp | exact tk _ (by decide) (by decide) | exact hrs _ | exact ⟨hp, hTok, by omega, by omega⟩ | omega | skip
       all_goals first | omega | (unfold maxLen; omega) | (right; omega) | (left; simp; done) | (simp only [wk3,wkL2,wk2,wkL,wk1_d,wk1_own,wk1_nil,and_self]; done) | (intro i hi; simp only [upd]; (repeat' split); all_goals first | rfl | omega) | skip
     | false =>
       cases hf1 : (wordB T s 2 1).toList == wFor.toList with
       | false =>
         have hlong : longB T s = false := by unfold longB; rw [hf1]; rfl
         have hL0 : reqA s = asAns (wordB T s 1 1) 0 (posOf T s 2) (clauseA (restS s (posOf T s 2))) := by rw [hR1]; unfold asT; rw [hz, hlong]; rfl
         obtain ⟨c, q, e, hC⟩ : ∃ c q e, clauseA (restS s (posOf T s 2)) = (c, q, e) := ⟨_, _, _, rfl⟩
         have hq := parse_pos (restS s (posOf T s 2))
         have hrl := rest_le (hpos 2)
         rw [show ansP Clause.z id (parseP (restS s (posOf T s 2))) = clauseA (restS s (posOf T s 2)) from rfl, hC] at hq
         have hq : e ≠ 0 → 0 ≤ q ∧ q ≤ (restS s (posOf T s 2)).size := hq
         have hL : reqA s = asAns (wordB T s 1 1) 0 (posOf T s 2) (c, q, e) := by rw [hL0, hC]
         cases he2 : e != 0 with
         | true =>
           have hq := hq (by simpa using he2)
           have hL2 : reqA s = (Req.z, posOf T s 2 + q, e) := by rw [hL]; unfold asAns; rw [he2, if_pos rfl]
           repeat' (first | (with_reducible first | refine XG_split (fun hq => ?_) (fun hq => ?_) | refine MX1.of 4000 (by simp) ?_ | refine MX2.of 4000 (by simp) ?_ | refine And.intro ?_ ?_) | ((with_reducible first | refine Or.inl (And.intro (And.intro mixedP ?_) ?_) | refine Or.inl (And.intro mixedP ?_)); kernel_rfl) | simp only [go_sem,Nat.reduceEqDiff,Nat.reduceAdd,Nat.reduceMul,Nat.reduceLeDiff,Int.reduceBEq,Req.av,Req.ds,Req.z,Clause.z,Lit.z,Term.z,Val.z,Clause.av,Clause.ds,Lit.av,Lit.ds,Lit.cells,List.map_nil,hA,he,hcl,hli,n0,n1,n2,n3,n4,hL2,hC,he2,hw,h1,hzi,hz,hf1])
           all_goals first | exact hp | exact tk _ (by decide) (by decide) | exact hrs _ | exact ⟨hp, hTok, by omega, by omega⟩ | omega | skip
           all_goals first | omega | (unfold maxLen; omega) | (right; omega) | (left; simp; done) | (simp only [wk3,wkL2,wk2,wkL,wk1_d,wk1_own,wk1_nil,and_self]; done) | (intro i hi; simp only [upd]; (repeat' split); all_goals first | rfl | omega) | skip
         | false =>
           have he3 : e = 0 := by simpa using he2
           have hL2 : reqA s = (⟨1, (wordB T s 1 1), 0, c, 0, Lit.z⟩, 0, 0) := by rw [hL]; unfold asAns; rw [he2, if_neg (by decide)]
           repeat' (first | (with_reducible first | refine XG_split (fun hq => ?_) (fun hq => ?_) | refine MX1.of 4000 (by simp) ?_ | refine MX2.of 4000 (by simp) ?_ | refine And.intro ?_ ?_) | ((with_reducible first | refine Or.inl (And.intro (And.intro mixedP ?_) ?_) | refine Or.inl (And.intro mixedP ?_)); kernel_rfl) | simp only [go_sem,Nat.reduceEqDiff,Nat.reduceAdd,Nat.reduceMul,Nat.reduceLeDiff,Int.reduceBEq,Req.av,Req.ds,Req.z,Clause.z,Lit.z,Term.z,Val.z,Clause.av,Clause.ds,Lit.av,Lit.ds,Lit.cells,List.map_nil,hA,he,hcl,hli,n0,n1,n2,n3,n4,hL2,hC,he2,hw,h1,hzi,hz,hf1])
           all_goals first | exact hp | exact tk _ (by decide) (by decide) | exact hrs _ | exact ⟨hp, hTok, by omega, by omega⟩ | omega | skip
           all_goals first | omega | (unfold maxLen; omega) | (right; omega) | (left; simp; done) | (simp only [wk3,wkL2,wk2,wkL,wk1_d,wk1_own,wk1_nil,and_self]; done) | (intro i hi; simp only [upd]; (repeat' split); all_goals first | rfl | omega) | skip
       | true =>
         cases hf2 : decide (0 < (wordB T s 3 3).size) with
         | false =>
           have hlong : longB T s = false := by unfold longB; rw [hf1, hf2]; rfl
           have hL0 : reqA s = asAns (wordB T s 1 1) 0 (posOf T s 2) (clauseA (restS s (posOf T s 2))) := by rw [hR1]; unfold asT; rw [hz, hlong]; rfl
           obtain ⟨c, q, e, hC⟩ : ∃ c q e, clauseA (restS s (posOf T s 2)) = (c, q, e) := ⟨_, _, _, rfl⟩
           have hq := parse_pos (restS s (posOf T s 2))
           have hrl := rest_le (hpos 2)
           rw [show ansP Clause.z id (parseP (restS s (posOf T s 2))) = clauseA (restS s (posOf T s 2)) from rfl, hC] at hq
           have hq : e ≠ 0 → 0 ≤ q ∧ q ≤ (restS s (posOf T s 2)).size := hq
           have hL : reqA s = asAns (wordB T s 1 1) 0 (posOf T s 2) (c, q, e) := by rw [hL0, hC]
           cases he2 : e != 0 with
           | true =>
             have hq := hq (by simpa using he2)
             have hL2 : reqA s = (Req.z, posOf T s 2 + q, e) := by rw [hL]; unfold asAns; rw [he2, if_pos rfl]
             repeat' (first | (with_reducible first | refine XG_split (fun hq => ?_) (fun hq => ?_) | refine MX1.of 4000 (by simp) ?_ | refine MX2.of 4000 (by simp) ?_ | refine And.intro ?_ ?_) | ((with_reducible first | refine Or.inl (And.intro (And.intro mixedP ?_) ?_) | refine Or.inl (And.intro mixedP ?_)); kernel_rfl) | simp only [go_sem,Nat.reduceEqDiff,Nat.reduceAdd,Nat.reduceMul,Nat.reduceLeDiff,Int.reduceBEq,Req.av,Req.ds,Req.z,Clause.z,Lit.z,Term.z,Val.z,Clause.av,Clause.ds,Lit.av,Lit.ds,Lit.cells,List.map_nil,hA,he,hcl,hli,n0,n1,n2,n3,n4,hL2,hC,he2,hw,h1,hzi,hz,hf1,hfi,hf2])
             all_goals first | exact hp | exact tk _ (by decide) (by decide) | exact hrs _ | exact ⟨hp, hTok, by omega, by omega⟩ | omega | skip
             all_goals first | omega | (unfold maxLen; omega) | (right; omega) | (left; simp; done) | (simp only [wk3,wkL2,wk2,wkL,wk1_d,wk1_own,wk1_nil,and_self]; done) | (intro i hi; simp only [upd]; (repeat' split); all_goals first | rfl | omega) | skip
           | false =>
             have he3 : e = 0 := by simpa using he2
             have hL2 : reqA s = (⟨1, (wordB T s 1 1), 0, c, 0, Lit.z⟩, 0, 0) := by rw [hL]; unfold asAns; rw [he2, if_neg (by decide)]
             repeat' (first | (with_reducible first | refine XG_split (fun hq => ?_) (fun hq => ?_) | refine MX1.of 4000 (by simp) ?_ | refine MX2.of 4000 (by simp) ?_ | refine And.intro ?_ ?_) | ((with_reducible first | refine Or.inl (And.intro (And.intro mixedP ?_) ?_) | refine Or.inl (And.intro mixedP ?_)); kernel_rfl) | simp only [go_sem,Nat.reduceEqDiff,Nat.reduceAdd,Nat.reduceMul,Nat.reduceLeDiff,Int.reduceBEq,Req.av,Req.ds,Req.z,Clause.z,Lit.z,Term.z,Val.z,Clause.av,Clause.ds,Lit.av,Lit.ds,Lit.cells,List.map_nil,hA,he,hcl,hli,n0,n1,n2,n3,n4,hL2,hC,he2,hw,h1,hzi,hz,hf1,hfi,hf2])
             all_goals first | exact hp | exact tk _ (by decide) (by decide) | exact hrs _ | exact ⟨hp, hTok, by omega, by omega⟩ | omega | skip
             all_goals first | omega | (unfold maxLen; omega) | (right; omega) | (left; simp; done) | (simp only [wk3,wkL2,wk2,wkL,wk1_d,wk1_own,wk1_nil,and_self]; done) | (intro i hi; simp only [upd]; (repeat' split); all_goals first | rfl | omega) | skip
         | true =>
           have hlong : longB T s = true := by unfold longB; rw [hf1, hf2]; rfl
           obtain ⟨m, hm⟩ : ∃ m, numB (wordB T s 3 3) = m := ⟨_, rfl⟩
           cases hn : m == 0 with
           | true =>
             have hL2 : reqA s = (Req.z, posOf T s 3, 6) := by rw [hR1]; unfold asT; rw [hz, hlong, hm, hn]; rfl
             repeat' (first | (with_reducible first | refine XG_split (fun hq => ?_) (fun hq => ?_) | refine MX1.of 4000 (by simp) ?_ | refine MX2.of 4000 (by simp) ?_ | refine And.intro ?_ ?_) | ((with_reducible first | refine Or.inl (And.intro (And.intro mixedP ?_) ?_) | refine Or.inl (And.intro mixedP ?_)); kernel_rfl) | simp only [go_sem,Nat.reduceEqDiff,Nat.reduceAdd,Nat.reduceMul,Nat.reduceLeDiff,Int.reduceBEq,Req.av,Req.ds,Req.z,Clause.z,Lit.z,Term.z,Val.z,Clause.av,Clause.ds,Lit.av,Lit.ds,Lit.cells,List.map_nil,hA,he,hcl,hli,n0,n1,n2,n3,n4,hL2,hw,h1,hzi,hz,hf1,hfi,hf2,hm,hn])
             all_goals first | exact hp | exact tk _ (by decide) (by decide) | exact hrs _ | exact ⟨hp, hTok, by omega, by omega⟩ | omega | skip
             all_goals first | omega | (unfold maxLen; omega) | (right; omega) | (left; simp; done) | (simp only [wk3,wkL2,wk2,wkL,wk1_d,wk1_own,wk1_nil,and_self]; done) | (intro i hi; simp only [upd]; (repeat' split); all_goals first | rfl | omega) | skip
           | false =>
             have hL0 : reqA s = asAns (wordB T s 1 1) m (posOf T s 4) (clauseA (restS s (posOf T s 4))) := by rw [hR1]; unfold asT; rw [hz, hlong, hm, hn]; rfl
             obtain ⟨c, q, e, hC⟩ : ∃ c q e, clauseA (restS s (posOf T s 4)) = (c, q, e) := ⟨_, _, _, rfl⟩
             have hq := parse_pos (restS s (posOf T s 4))
             have hrl := rest_le (hpos 4)
             rw [show ansP Clause.z id (parseP (restS s (posOf T s 4))) = clauseA (restS s (posOf T s 4)) from rfl, hC] at hq
             have hq : e ≠ 0 → 0 ≤ q ∧ q ≤ (restS s (posOf T s 4)).size := hq
             have hL : reqA s = asAns (wordB T s 1 1) m (posOf T s 4) (c, q, e) := by rw [hL0, hC]
             cases he2 : e != 0 with
             | true =>
               have hq := hq (by simpa using he2)
               have hL2 : reqA s = (Req.z, posOf T s 4 + q, e) := by rw [hL]; unfold asAns; rw [he2, if_pos rfl]
               repeat' (first | (with_reducible first | refine XG_split (fun hq => ?_) (fun hq => ?_) | refine MX1.of 4000 (by simp) ?_ | refine MX2.of 4000 (by simp) ?_ | refine And.intro ?_ ?_) | ((with_reducible first | refine Or.inl (And.intro (And.intro mixedP ?_) ?_) | refine Or.inl (And.intro mixedP ?_)); kernel_rfl) | simp only [go_sem,Nat.reduceEqDiff,Nat.reduceAdd,Nat.reduceMul,Nat.reduceLeDiff,Int.reduceBEq,Req.av,Req.ds,Req.z,Clause.z,Lit.z,Term.z,Val.z,Clause.av,Clause.ds,Lit.av,Lit.ds,Lit.cells,List.map_nil,hA,he,hcl,hli,n0,n1,n2,n3,n4,hL2,hC,he2,hw,h1,hzi,hz,hf1,hfi,hf2,hm,hn])
               all_goals first | exact hp | exact tk _ (by decide) (by decide) | exact hrs _ | exact ⟨hp, hTok, by omega, by omega⟩ | omega | skip
               all_goals first | omega | (unfold maxLen; omega) | (right; omega) | (left; simp; done) | (simp only [wk3,wkL2,wk2,wkL,wk1_d,wk1_own,wk1_nil,and_self]; done) | (intro i hi; simp only [upd]; (repeat' split); all_goals first | rfl | omega) | skip
             | false =>
               have he3 : e = 0 := by simpa using he2
               have hL2 : reqA s = (⟨1, (wordB T s 1 1), m, c, 0, Lit.z⟩, 0, 0) := by rw [hL]; unfold asAns; rw [he2, if_neg (by decide)]
               repeat' (first | (with_reducible first | refine XG_split (fun hq => ?_) (fun hq => ?_) | refine MX1.of 4000 (by simp) ?_ | refine MX2.of 4000 (by simp) ?_ | refine And.intro ?_ ?_) | ((with_reducible first | refine Or.inl (And.intro (And.intro mixedP ?_) ?_) | refine Or.inl (And.intro mixedP ?_)); kernel_rfl) | simp only [go_sem,Nat.reduceEqDiff,Nat.reduceAdd,Nat.reduceMul,Nat.reduceLeDiff,Int.reduceBEq,Req.av,Req.ds,Req.z,Clause.z,Lit.z,Term.z,Val.z,Clause.av,Clause.ds,Lit.av,Lit.ds,Lit.cells,List.map_nil,hA,he,hcl,hli,n0,n1,n2,n3,n4,hL2,hC,he2,hw,h1,hzi,hz,hf1,hfi,hf2,hm,hn])
               all_goals first | exact hp | exact tk _ (by decide) (by decide) | exact hrs _ | exact ⟨hp, hTok, by omega, by omega⟩ | omega | skip
               all_goals first | omega | (unfold maxLen; omega) | (right; omega) | (left; simp; done) | (simp only [wk3,wkL2,wk2,wkL,wk1_d,wk1_own,wk1_nil,and_self]; done) | (intro i hi; simp only [upd]; (repeat' split); all_goals first | rfl | omega) | skip
   | false =>
     cases h2 : w.toList == wRevoke.toList with
     | true =>
       have hR1 : reqA s = reT T s := by rw [hR]; unfold reqT; rw [hw, h1, h2]; rfl
       obtain ⟨m, hm⟩ : ∃ m, numB (wordB T s 1 3) = m := ⟨_, rfl⟩
       have hti : decide ((2 : Int) < (T.length : Int)) = decide (2 < T.length) := by rw [decide_eq_decide]; omega
       cases hn : m == 0 with
       | true =>
         have hL2 : reqA s = (Req.z, posOf T s 1, 6) := by rw [hR1]; unfold reT; rw [hm, hn]; rfl
         repeat' (first | (with_reducible first | refine XG_split (fun hq => ?_) (fun hq => ?_) | refine MX1.of 4000 (by simp) ?_ | refine MX2.of 4000 (by simp) ?_ | refine And.intro ?_ ?_) | ((with_reducible first | refine Or.inl (And.intro (And.intro mixedP ?_) ?_) | refine Or.inl (And.intro mixedP ?_)); kernel_rfl) | simp only [go_sem,Nat.reduceEqDiff,Nat.reduceAdd,Nat.reduceMul,Nat.reduceLeDiff,Int.reduceBEq,Req.av,Req.ds,Req.z,Clause.z,Lit.z,Term.z,Val.z,Clause.av,Clause.ds,Lit.av,Lit.ds,Lit.cells,List.map_nil,hA,he,hcl,hli,n0,n1,n2,n3,n4,hL2,hw,h1,h2,hm,hn])
         all_goals first | exact hp | exact tk _ (by decide) (by decide) | exact hrs _ | exact ⟨hp, hTok, by omega, by omega⟩ | omega | skip
         all_goals first | omega | (unfold maxLen; omega) | (right; omega) | (left; simp; done) | (simp only [wk3,wkL2,wk2,wkL,wk1_d,wk1_own,wk1_nil,and_self]; done) | (intro i hi; simp only [upd]; (repeat' split); all_goals first | rfl | omega) | skip
       | false =>
         cases ht : decide (2 < T.length) with
         | true =>
           have hL2 : reqA s = (Req.z, posOf T s 2, 6) := by rw [hR1]; unfold reT; rw [hm, hn, ht]; rfl
           repeat' (first | (with_reducible first | refine XG_split (fun hq => ?_) (fun hq => ?_) | refine MX1.of 4000 (by simp) ?_ | refine MX2.of 4000 (by simp) ?_ | refine And.intro ?_ ?_) | ((with_reducible first | refine Or.inl (And.intro (And.intro mixedP ?_) ?_) | refine Or.inl (And.intro mixedP ?_)); kernel_rfl) | simp only [go_sem,Nat.reduceEqDiff,Nat.reduceAdd,Nat.reduceMul,Nat.reduceLeDiff,Int.reduceBEq,Req.av,Req.ds,Req.z,Clause.z,Lit.z,Term.z,Val.z,Clause.av,Clause.ds,Lit.av,Lit.ds,Lit.cells,List.map_nil,hA,he,hcl,hli,n0,n1,n2,n3,n4,hL2,hw,h1,h2,hm,hn,hti,ht,List.length_map])
           all_goals first | exact hp | exact tk _ (by decide) (by decide) | exact hrs _ | exact ⟨hp, hTok, by omega, by omega⟩ | omega | skip
           all_goals first | omega | (unfold maxLen; omega) | (right; omega) | (left; simp; done) | (simp only [wk3,wkL2,wk2,wkL,wk1_d,wk1_own,wk1_nil,and_self]; done) | (intro i hi; simp only [upd]; (repeat' split); all_goals first | rfl | omega) | skip
         | false =>
           have hL2 : reqA s = (⟨2, noStr, 0, Clause.z, m, Lit.z⟩, 0, 0) := by rw [hR1]; unfold reT; rw [hm, hn, ht]; rfl
           repeat' (first | (with_reducible first | refine XG_split (fun hq => ?_) (fun hq => ?_) | refine MX1.of 4000 (by simp) ?_ | refine MX2.of 4000 (by simp) ?_ | refine And.intro ?_ ?_) | ((with_reducible first | refine Or.inl (And.intro (And.intro mixedP ?_) ?_) | refine Or.inl (And.intro mixedP ?_)); kernel_rfl) | simp only [go_sem,Nat.reduceEqDiff,Nat.reduceAdd,Nat.reduceMul,Nat.reduceLeDiff,Int.reduceBEq,Req.av,Req.ds,Req.z,Clause.z,Lit.z,Term.z,Val.z,Clause.av,Clause.ds,Lit.av,Lit.ds,Lit.cells,List.map_nil,hA,he,hcl,hli,n0,n1,n2,n3,n4,hL2,hw,h1,h2,hm,hn,hti,ht,List.length_map])
           all_goals first | exact hp | exact tk _ (by decide) (by decide) | exact hrs _ | exact ⟨hp, hTok, by omega, by omega⟩ | omega | skip
           all_goals first | omega | (unfold maxLen; omega) | (right; omega) | (left; simp; done) | (simp only [wk3,wkL2,wk2,wkL,wk1_d,wk1_own,wk1_nil,and_self]; done) | (intro i hi; simp only [upd]; (repeat' split); all_goals first | rfl | omega) | skip
     | false =>
       cases h3 : w.toList == wQuery.toList with
       | true =>
         have h4 := query_prove h3
         have hL0 : reqA s = liT 3 T s := by rw [hR]; unfold reqT; rw [hw, h1, h2, h3]; rfl
         obtain ⟨c, q, e, hC⟩ : ∃ c q e, litA (restS s (posOf T s 1)) = (c, q, e) := ⟨_, _, _, rfl⟩
         have hq := parseLit_pos (restS s (posOf T s 1))
         have hrl := rest_le (hpos 1)
         rw [show ansP Lit.z litOf (parseLitP (restS s (posOf T s 1))) = litA (restS s (posOf T s 1)) from rfl, hC] at hq
         have hq : e ≠ 0 → 0 ≤ q ∧ q ≤ (restS s (posOf T s 1)).size := hq
         cases he2 : e != 0 with
         | true =>
           have hq := hq (by simpa using he2)
           have hL2 : reqA s = (Req.z, posOf T s 1 + q, e) := by rw [hL0]; unfold liT; rw [hC]; simp only [he2, if_true]
           repeat' (first | (with_reducible first | refine XG_split (fun hq => ?_) (fun hq => ?_) | refine MX1.of 4000 (by simp) ?_ | refine MX2.of 4000 (by simp) ?_ | refine And.intro ?_ ?_) | ((with_reducible first | refine Or.inl (And.intro (And.intro mixedP ?_) ?_) | refine Or.inl (And.intro mixedP ?_)); kernel_rfl) | simp only [go_sem,Nat.reduceEqDiff,Nat.reduceAdd,Nat.reduceMul,Nat.reduceLeDiff,Int.reduceBEq,Req.av,Req.ds,Req.z,Clause.z,Lit.z,Term.z,Val.z,Clause.av,Clause.ds,Lit.av,Lit.ds,Lit.cells,List.map_nil,hA,he,hcl,hli,n0,n1,n2,n3,n4,hL2,hC,he2,hw,h1,h2,h3,h4])
           all_goals first | exact hp | exact tk _ (by decide) (by decide) | exact hrs _ | exact ⟨hp, hTok, by omega, by omega⟩ | omega | skip
           all_goals first | omega | (unfold maxLen; omega) | (right; omega) | (left; simp; done) | (simp only [wk3,wkL2,wk2,wkL,wk1_d,wk1_own,wk1_nil,and_self]; done) | (intro i hi; simp only [upd]; (repeat' split); all_goals first | rfl | omega) | skip
         | false =>
           have he3 : e = 0 := by simpa using he2
           have hL2 : reqA s = (⟨3, noStr, 0, Clause.z, 0, c⟩, 0, 0) := by rw [hL0]; unfold liT; rw [hC]; simp only [he2, Bool.false_eq_true, if_false]
           repeat' (first | (with_reducible first | refine XG_split (fun hq => ?_) (fun hq => ?_) | refine MX1.of 4000 (by simp) ?_ | refine MX2.of 4000 (by simp) ?_ | refine And.intro ?_ ?_) | ((with_reducible first | refine Or.inl (And.intro (And.intro mixedP ?_) ?_) | refine Or.inl (And.intro mixedP ?_)); kernel_rfl) | simp only [go_sem,Nat.reduceEqDiff,Nat.reduceAdd,Nat.reduceMul,Nat.reduceLeDiff,Int.reduceBEq,Req.av,Req.ds,Req.z,Clause.z,Lit.z,Term.z,Val.z,Clause.av,Clause.ds,Lit.av,Lit.ds,Lit.cells,List.map_nil,hA,he,hcl,hli,n0,n1,n2,n3,n4,hL2,hC,he2,hw,h1,h2,h3,h4])
           all_goals first | exact hp | exact tk _ (by decide) (by decide) | exact hrs _ | exact ⟨hp, hTok, by omega, by omega⟩ | omega | skip
           all_goals first | omega | (unfold maxLen; omega) | (right; omega) | (left; simp; done) | (simp only [wk3,wkL2,wk2,wkL,wk1_d,wk1_own,wk1_nil,and_self]; done) | (intro i hi; simp only [upd]; (repeat' split); all_goals first | rfl | omega) | skip
       | false =>
         cases h4 : w.toList == wProve.toList with
         | true =>
           have hL0 : reqA s = liT 4 T s := by rw [hR]; unfold reqT; rw [hw, h1, h2, h3, h4]; rfl
           obtain ⟨c, q, e, hC⟩ : ∃ c q e, litA (restS s (posOf T s 1)) = (c, q, e) := ⟨_, _, _, rfl⟩
           have hq := parseLit_pos (restS s (posOf T s 1))
           have hrl := rest_le (hpos 1)
           rw [show ansP Lit.z litOf (parseLitP (restS s (posOf T s 1))) = litA (restS s (posOf T s 1)) from rfl, hC] at hq
           have hq : e ≠ 0 → 0 ≤ q ∧ q ≤ (restS s (posOf T s 1)).size := hq
           cases he2 : e != 0 with
           | true =>
             have hq := hq (by simpa using he2)
             have hL2 : reqA s = (Req.z, posOf T s 1 + q, e) := by rw [hL0]; unfold liT; rw [hC]; simp only [he2, if_true]
             repeat' (first | (with_reducible first | refine XG_split (fun hq => ?_) (fun hq => ?_) | refine MX1.of 4000 (by simp) ?_ | refine MX2.of 4000 (by simp) ?_ | refine And.intro ?_ ?_) | ((with_reducible first | refine Or.inl (And.intro (And.intro mixedP ?_) ?_) | refine Or.inl (And.intro mixedP ?_)); kernel_rfl) | simp only [go_sem,Nat.reduceEqDiff,Nat.reduceAdd,Nat.reduceMul,Nat.reduceLeDiff,Int.reduceBEq,Req.av,Req.ds,Req.z,Clause.z,Lit.z,Term.z,Val.z,Clause.av,Clause.ds,Lit.av,Lit.ds,Lit.cells,List.map_nil,hA,he,hcl,hli,n0,n1,n2,n3,n4,hL2,hC,he2,hw,h1,h2,h3,h4])
             all_goals first | exact hp | exact tk _ (by decide) (by decide) | exact hrs _ | exact ⟨hp, hTok, by omega, by omega⟩ | omega | skip
             all_goals first | omega | (unfold maxLen; omega) | (right; omega) | (left; simp; done) | (simp only [wk3,wkL2,wk2,wkL,wk1_d,wk1_own,wk1_nil,and_self]; done) | (intro i hi; simp only [upd]; (repeat' split); all_goals first | rfl | omega) | skip
           | false =>
             have he3 : e = 0 := by simpa using he2
             have hL2 : reqA s = (⟨4, noStr, 0, Clause.z, 0, c⟩, 0, 0) := by rw [hL0]; unfold liT; rw [hC]; simp only [he2, Bool.false_eq_true, if_false]
             repeat' (first | (with_reducible first | refine XG_split (fun hq => ?_) (fun hq => ?_) | refine MX1.of 4000 (by simp) ?_ | refine MX2.of 4000 (by simp) ?_ | refine And.intro ?_ ?_) | ((with_reducible first | refine Or.inl (And.intro (And.intro mixedP ?_) ?_) | refine Or.inl (And.intro mixedP ?_)); kernel_rfl) | simp only [go_sem,Nat.reduceEqDiff,Nat.reduceAdd,Nat.reduceMul,Nat.reduceLeDiff,Int.reduceBEq,Req.av,Req.ds,Req.z,Clause.z,Lit.z,Term.z,Val.z,Clause.av,Clause.ds,Lit.av,Lit.ds,Lit.cells,List.map_nil,hA,he,hcl,hli,n0,n1,n2,n3,n4,hL2,hC,he2,hw,h1,h2,h3,h4])
             all_goals first | exact hp | exact tk _ (by decide) (by decide) | exact hrs _ | exact ⟨hp, hTok, by omega, by omega⟩ | omega | skip
             all_goals first | omega | (unfold maxLen; omega) | (right; omega) | (left; simp; done) | (simp only [wk3,wkL2,wk2,wkL,wk1_d,wk1_own,wk1_nil,and_self]; done) | (intro i hi; simp only [upd]; (repeat' split); all_goals first | rfl | omega) | skip
         | false =>
           cases h5 : w.toList == wAudit.toList with
           | true =>
             have hR1 : reqA s = auT T s := by rw [hR]; unfold reqT; rw [hw, h1, h2, h3, h4, h5]; rfl
             have hti : decide ((1 : Int) < (T.length : Int)) = decide (1 < T.length) := by rw [decide_eq_decide]; omega
             cases ht : decide (1 < T.length) with
             | true =>
               have hL2 : reqA s = (Req.z, posOf T s 1, 6) := by rw [hR1]; unfold auT; rw [ht]; rfl
               repeat' (first | (with_reducible first | refine XG_split (fun hq => ?_) (fun hq => ?_) | refine MX1.of 4000 (by simp) ?_ | refine MX2.of 4000 (by simp) ?_ | refine And.intro ?_ ?_) | ((with_reducible first | refine Or.inl (And.intro (And.intro mixedP ?_) ?_) | refine Or.inl (And.intro mixedP ?_)); kernel_rfl) | simp only [go_sem,Nat.reduceEqDiff,Nat.reduceAdd,Nat.reduceMul,Nat.reduceLeDiff,Int.reduceBEq,Req.av,Req.ds,Req.z,Clause.z,Lit.z,Term.z,Val.z,Clause.av,Clause.ds,Lit.av,Lit.ds,Lit.cells,List.map_nil,hA,he,hcl,hli,n0,n1,n2,n3,n4,hL2,hw,h1,h2,h3,h4,h5,hti,ht,List.length_map])
               all_goals first | exact hp | exact tk _ (by decide) (by decide) | exact hrs _ | exact ⟨hp, hTok, by omega, by omega⟩ | omega | skip
               all_goals first | omega | (unfold maxLen; omega) | (right; omega) | (left; simp; done) | (simp only [wk3,wkL2,wk2,wkL,wk1_d,wk1_own,wk1_nil,and_self]; done) | (intro i hi; simp only [upd]; (repeat' split); all_goals first | rfl | omega) | skip
             | false =>
               have hL2 : reqA s = (⟨5, noStr, 0, Clause.z, 0, Lit.z⟩, 0, 0) := by rw [hR1]; unfold auT; rw [ht]; rfl
               repeat' (first | (with_reducible first | refine XG_split (fun hq => ?_) (fun hq => ?_) | refine MX1.of 4000 (by simp) ?_ | refine MX2.of 4000 (by simp) ?_ | refine And.intro ?_ ?_) | ((with_reducible first | refine Or.inl (And.intro (And.intro mixedP ?_) ?_) | refine Or.inl (And.intro mixedP ?_)); kernel_rfl) | simp only [go_sem,Nat.reduceEqDiff,Nat.reduceAdd,Nat.reduceMul,Nat.reduceLeDiff,Int.reduceBEq,Req.av,Req.ds,Req.z,Clause.z,Lit.z,Term.z,Val.z,Clause.av,Clause.ds,Lit.av,Lit.ds,Lit.cells,List.map_nil,hA,he,hcl,hli,n0,n1,n2,n3,n4,hL2,hw,h1,h2,h3,h4,h5,hti,ht,List.length_map])
               all_goals first | exact hp | exact tk _ (by decide) (by decide) | exact hrs _ | exact ⟨hp, hTok, by omega, by omega⟩ | omega | skip
               all_goals first | omega | (unfold maxLen; omega) | (right; omega) | (left; simp; done) | (simp only [wk3,wkL2,wk2,wkL,wk1_d,wk1_own,wk1_nil,and_self]; done) | (intro i hi; simp only [upd]; (repeat' split); all_goals first | rfl | omega) | skip
           | false =>
             have hL2 : reqA s = (Req.z, posOf T s 0, 6) := by rw [hR]; unfold reqT; rw [hw, h1, h2, h3, h4, h5]; rfl
             repeat' (first | (with_reducible first | refine XG_split (fun hq => ?_) (fun hq => ?_) | refine MX1.of 4000 (by simp) ?_ | refine MX2.of 4000 (by simp) ?_ | refine And.intro ?_ ?_) | ((with_reducible first | refine Or.inl (And.intro (And.intro mixedP ?_) ?_) | refine Or.inl (And.intro mixedP ?_)); kernel_rfl) | simp only [go_sem,Nat.reduceEqDiff,Nat.reduceAdd,Nat.reduceMul,Nat.reduceLeDiff,Int.reduceBEq,Req.av,Req.ds,Req.z,Clause.z,Lit.z,Term.z,Val.z,Clause.av,Clause.ds,Lit.av,Lit.ds,Lit.cells,List.map_nil,hA,he,hcl,hli,n0,n1,n2,n3,n4,hL2,hw,h1,h2,h3,h4,h5])
             all_goals first | exact hp | exact tk _ (by decide) (by decide) | exact hrs _ | exact ⟨hp, hTok, by omega, by omega⟩ | omega | skip
             all_goals first | omega | (unfold maxLen; omega) | (right; omega) | (left; simp; done) | (simp only [wk3,wkL2,wk2,wkL,wk1_d,wk1_own,wk1_nil,and_self]; done) | (intro i hi; simp only [upd]; (repeat' split); all_goals first | rfl | omega) | skip
end Go.Proofs.YtfhpecgknmfnnaaGreatDoor.M
end
section
namespace Go.Proofs.YtfhpecgknmfnnaaGreatDoor.M
open Go.R Go.RowKit
open Go.Proofs.YtfhpecgknmfnnaaGreatDoorW.PrintWords Go.Proofs.YtfhpecgknmfnnaaGreatDoorW.PrintMore
theorem rep_val {c : Cx} {w : World} {h : AH} (s : ByteArray) (n : Int) : ARep c h w (.agg #[.string s, .int .i64 n]) (.agg [vS s, vI n]) := .agg _ _ rfl (rep_cons (rep_v _ rfl) (rep_cons (rep_v _ rfl) rep_nil))
theorem pread_ok : FsOk Tryz.prog 73 (.pureIf (fun _ => True) (g1 aStr fun s => .tup [Val.av (readV s).1, vB (readV s).2])) := by
 refine of_hold Tryz.func73 rfl (by kernel_rfl) ?_
 intro args r c h n w vals hp hg hw hl hr
 obtain ⟨x, s, rfl, hx, rfl⟩ := g1_eq hg
 obtain rfl := aStr_eq hx
 match vals, hl with
 | [v], _ =>
   have hv := hr 0 v _ rfl rfl
   obtain rfl := cval_rep hv rfl
   refine (read_calls s w).mono fun e w' hq => ?_
   obtain ⟨rfl, hb⟩ := hq
   exact ⟨_, rfl, hb, .tup _ _ rfl (rep_cons (rep_val _ _) (rep_cons (rep_v _ rfl) rep_nil))⟩
theorem tok_row {ok : Nat → Prop} {v : Value} {xs : List Tok} {c : Cx} {w w' : World} (hR : Kd.R kTok 84 w' w.heap.size ok v xs) : DRep (c.hold w w') w' v (.sl 3 (xs.map Tok.cells)) := by
 refine kd_row (d := kTok) Tok.cells hR (fun _ => rfl) fun t cs ok hM j u y hu hy => ?_
 obtain ⟨_, _, rfl, rfl, _, _, rfl, rfl, rfl⟩ := hM
 match j with
 | 0 => simp [Tok.cells] at hu hy; subst hu; subst hy; exact .v _ rfl
 | 1 => simp [Tok.cells] at hu hy; subst hu; subst hy; exact .v _ rfl
 | 2 => simp [Tok.cells] at hu hy; subst hu; subst hy; exact .v _ rfl
 | j + 3 => simp [Tok.cells] at hy
abbrev pallS : Fs := .pureIf (g1p aStr fun s => (s.size : Int) ≤ 9223372036854775807) (g1 aStr fun s => .tup [.d (.sl 3 ((allT s).1.map Tok.cells)), vI (allT s).2.1, vI (allT s).2.2])
theorem pall_ok : FsOk Tryz.prog 13 pallS := by
 refine of_hold Tryz.func13 rfl (by kernel_rfl) ?_
 intro args r c h n w vals hp hg hw hl hr
 obtain ⟨x, s, rfl, hx, rfl⟩ := g1_eq hg
 have hp := hp s hx
 obtain rfl := aStr_eq hx
 match vals, hl with
 | [v], _ =>
   have hv := hr 0 v _ rfl rfl
   obtain rfl := cval_rep hv rfl
   refine (all_calls s w (by unfold maxLen; omega)).mono fun e w' hq => ?_
   obtain ⟨⟨v, rfl, hk⟩, hb⟩ := hq
   exact ⟨_, rfl, hb, tup3_rep (.d _ _ (tok_row hk)) _ _⟩
structure Rq where
 s : ByteArray
 T : List Tok
def Rq.bx (R : Rq) : List AV := [vS R.s, .d (.sl 3 (R.T.map Tok.cells))]
def dRq : List AV → Option Rq
 | [.d (.v (.string s)), .d (.sl 3 xs)] => match dRows cTok xs with
   | some T => some ⟨s, T⟩
   | none => none
 | _ => none
theorem dRq_eq {cs : List AV} {R : Rq} (h : dRq cs = some R) : cs = R.bx := by
 unfold dRq at h
 split at h
 · rename_i xs
   cases hx : dRows cTok xs with
   | none => simp [hx] at h
   | some T =>
     simp only [hx] at h
     cases h
     obtain rfl := dRows_eq (fun c x => cTok_eq) hx
     rfl
 · cases h
def obRq : Ob Rq := ⟨Rq.bx, dRq, fun _ _ => dRq_eq, fun n R => by simp [Rq.bx, ltL, AV.lt]⟩
@[go_sem] theorem obRq_bx (R : Rq) : obRq.bx R = [vS R.s, .d (.sl 3 (R.T.map Tok.cells))] := rfl
@[go_sem] theorem obRq_dec (s : ByteArray) (T : List Tok) : obRq.dec [.d (.v (.string s)), .d (.sl 3 (T.map Tok.cells))] = some ⟨s, T⟩ := by
  simp only [obRq, dRq, dToks]
@[go_sem] theorem Rq.eta (R : Rq) : Rq.mk R.s R.T = R := rfl
def rqP (R : Rq) : List AV → Prop
 | .d (.v (.int .i64 k)) :: _ => toksP R.s R.T k
 | _ => True
def atG (R : Rq) : List AV → Option AV
 | [.d (.v (.int .i64 k))] => some (vI (posOf R.T R.s k.toNat))
 | _ => none
abbrev atS : Fs := obQ obRq rqP atG
def rtextG (R : Rq) : List AV → Option AV
 | [.d (.v (.int .i64 k)), .d (.v (.int .u8 c))] => some (vS (wordB R.T R.s k.toNat c))
 | _ => none
abbrev rtextS : Fs := obQ obRq rqP rtextG
def numG (R : Rq) : List AV → Option AV
 | [.d (.v (.int .i64 k))] => some (vI (numB (wordB R.T R.s k.toNat 3)))
 | _ => none
abbrev pnumS : Fs := obQ obRq rqP numG
def litAt (T : List Tok) (s : ByteArray) (k : Nat) : Lit × Int × Int := litA (restS s (posOf T s k))
def rsaidG (R : Rq) : List AV → Option AV
 | [.d (.v (.int .i64 k))] => some (.tup [(litAt R.T R.s k.toNat).1.av, vI (posOf R.T R.s k.toNat + (litAt R.T R.s k.toNat).2.1), vI (litAt R.T R.s k.toNat).2.2])
 | _ => none
abbrev rsaidS : Fs := obQ obRq rqP rsaidG
def endsT (R : Rq) (k : Nat) : Int × Int := if decide (k < R.T.length) = true then (posOf R.T R.s k, 6) else (0, 0)
def endsG (R : Rq) : List AV → Option AV
 | [.d (.v (.int .i64 k))] => some (.tup [vI (endsT R k.toNat).1, vI (endsT R k.toNat).2])
 | _ => none
abbrev endsS : Fs := obQ obRq rqP endsG
attribute [go_sem] rqP atG rtextG numG rsaidG endsG
theorem litA_rng (s : ByteArray) : 0 ≤ (litA s).2.1 ∧ (litA s).2.1 ≤ s.size := by
 have hr : Tw (fun p _ => 0 ≤ p ∧ p ≤ s.size) (parseLitP s) (parseLitP s) := run_tw (twin_range s) rfl rfl (fun hc => all_range s hc) (said_tw (twin_range s) 0)
 unfold litA
 rcases hr.or with ⟨p, p', e, h1, h2, hq⟩ | ⟨b, h1, h2⟩ <;> rw [h1]
 · exact hq
 · exact ⟨Int.le_refl 0, Int.natCast_nonneg _⟩
theorem clauseA_rng (s : ByteArray) : 0 ≤ (clauseA s).2.1 ∧ (clauseA s).2.1 ≤ s.size := by
 have hr : Tw (fun p _ => 0 ≤ p ∧ p ≤ s.size) (parseP s) (parseP s) := run_tw (twin_range s) rfl rfl (fun hc => all_range s hc) (clause_tw (twin_range s) 0)
 unfold clauseA
 rcases hr.or with ⟨p, p', e, h1, h2, hq⟩ | ⟨b, h1, h2⟩ <;> rw [h1]
 · exact hq
 · exact ⟨Int.le_refl 0, Int.natCast_nonneg _⟩
set_option maxRecDepth 20000 in
set_option maxHeartbeats 4000000 in
theorem at_ok : FsOk Tryz.prog 16 atS := by
 refine of_obQ (E := EqT.no _) (F := Ft.no) Tryz.func16 rfl (by kernel_rfl) [.tmp 4] rfl Tryz.ntmps16 (FtOk.no _) ?_
 intro R args r i h n hp hg hi hok
 unfold atG at hg
 split at hg
 · rename_i k0
   cases hg
   obtain ⟨hsz, hT, hk0, hk1⟩ := hp
   obtain ⟨k, rfl⟩ := Int.eq_ofNat_of_zero_le hk0
   have hkk : ((k : Nat) : Int).toNat = k := Int.toNat_natCast k
   refine ⟨[vI k], ⟨AV.le.refl _, trivial⟩, ⟨by decide, by simp⟩, ?_⟩
   have tk : toksP R.s R.T k := ⟨hsz, hT, hk0, hk1⟩
   rcases Nat.lt_or_ge k R.T.length with hkl | hkl
   · have hget : R.T[k]? = some R.T[k] := List.getElem?_eq_getElem hkl
     have hd : decide ((k : Int) < (R.T.length : Int)) = true := decide_eq_true (by omega)
     have hw : posOf R.T R.s k = R.T[k].lo := by unfold posOf; rw [hget]
     repeat' (first | (with_reducible first | refine XG_split (fun hq => ?_) (fun hq => ?_) | refine MX1.of 4000 (by simp) ?_ | refine MX2.of 4000 (by simp) ?_ | refine And.intro ?_ ?_) | ((with_reducible first | refine Or.inl (And.intro (And.intro mixedP ?_) ?_) | refine Or.inl (And.intro mixedP ?_)); kernel_rfl) | simp only [go_sem,Nat.reduceEqDiff,Nat.reduceAdd,Nat.reduceMul,Nat.reduceLeDiff,Int.reduceBEq,hkk,hd,hget,hw,Tok.cells,List.length_map,List.getElem?_map,Option.map_some])
     all_goals first | omega | (unfold maxLen; omega) | (right; omega) | (left; simp; done) | (simp only [wk3,wkL2,wk2,wkL,wk1_d,wk1_own,wk1_nil,and_self]; done) | (intro i hi; simp only [upd]; (repeat' split); all_goals first | rfl | omega) | skip
     all_goals first | (rw [hw]; exact wk3_eq rfl) | trace_state
   · have hd : decide ((k : Int) < (R.T.length : Int)) = false := decide_eq_false (by omega)
     have hw : posOf R.T R.s k = R.s.size := by unfold posOf; rw [List.getElem?_eq_none hkl]
     repeat' (first | (with_reducible first | refine XG_split (fun hq => ?_) (fun hq => ?_) | refine MX1.of 4000 (by simp) ?_ | refine MX2.of 4000 (by simp) ?_ | refine And.intro ?_ ?_) | ((with_reducible first | refine Or.inl (And.intro (And.intro mixedP ?_) ?_) | refine Or.inl (And.intro mixedP ?_)); kernel_rfl) | simp only [go_sem,Nat.reduceEqDiff,Nat.reduceAdd,Nat.reduceMul,Nat.reduceLeDiff,Int.reduceBEq,hkk,hd,hw,List.length_map])
     all_goals first | omega | (unfold maxLen; omega) | (right; omega) | (left; simp; done) | (simp only [wk3,wkL2,wk2,wkL,wk1_d,wk1_own,wk1_nil,and_self]; done) | (intro i hi; simp only [upd]; (repeat' split); all_goals first | rfl | omega) | skip
     all_goals first | (rw [hw]; exact wk3_eq rfl) | trace_state
 · cases hg
set_option maxRecDepth 20000 in
set_option maxHeartbeats 4000000 in
theorem rtext_ok : FsOk Tryz.prog 15 rtextS := by
 refine of_obQ (E := EqT.no _) (F := Ft.no) Tryz.func15 rfl (by kernel_rfl) [.tmp 6] rfl Tryz.ntmps15 (FtOk.no _) ?_
 intro R args r i h n hp hg hi hok
 unfold rtextG at hg
 split at hg
 · rename_i k0 c
   cases hg
   obtain ⟨hsz, hT, hk0, hk1⟩ := hp
   obtain ⟨k, rfl⟩ := Int.eq_ofNat_of_zero_le hk0
   have hkk : ((k : Nat) : Int).toNat = k := Int.toNat_natCast k
   refine ⟨[vI k, .d (.v (.int .u8 c))], ⟨AV.le.refl _, AV.le.refl _, trivial⟩, ⟨by decide, by simp⟩, ?_⟩
   have tk : toksP R.s R.T k := ⟨hsz, hT, hk0, hk1⟩
   rcases Nat.lt_or_ge k R.T.length with hkl | hkl
   · have hget : R.T[k]? = some R.T[k] := List.getElem?_eq_getElem hkl
     obtain ⟨h0, h1, h2⟩ := hT.2 R.T[k] (List.getElem_mem hkl)
     have hd : decide ((R.T.length : Int) ≤ k) = false := decide_eq_false (by omega)
     have hw : wordB R.T R.s k c = if R.T[k].kind == c then tokS R.s R.T[k] else noStr := by unfold wordB; rw [hget]
     cases hc : R.T[k].kind == c with
     | true =>
       rw [hc, if_pos rfl] at hw
       have hne : (R.T[k].kind != c) = false := by rw [bne, hc]; rfl
       repeat' (first | (with_reducible first | refine XG_split (fun hq => ?_) (fun hq => ?_) | refine MX1.of 4000 (by simp) ?_ | refine MX2.of 4000 (by simp) ?_ | refine And.intro ?_ ?_) | ((with_reducible first | refine Or.inl (And.intro (And.intro mixedP ?_) ?_) | refine Or.inl (And.intro mixedP ?_)); kernel_rfl) | simp only [go_sem,Nat.reduceEqDiff,Nat.reduceAdd,Nat.reduceMul,Nat.reduceLeDiff,Int.reduceBEq,hkk,hd,hget,hne,Tok.cells,List.length_map,List.getElem?_map,Option.map_some])
       all_goals first | omega | (unfold maxLen; omega) | (right; omega) | (left; simp; done) | (simp only [wk3,wkL2,wk2,wkL,wk1_d,wk1_own,wk1_nil,and_self]; done) | (intro i hi; simp only [upd]; (repeat' split); all_goals first | rfl | omega) | skip
       all_goals first | (rw [hw]; exact wk3_eq rfl) | (exfalso; simp_all; done) | trace_state
     | false =>
       rw [hc, if_neg (by decide)] at hw
       have hne : (R.T[k].kind != c) = true := by rw [bne, hc]; rfl
       repeat' (first | (with_reducible first | refine XG_split (fun hq => ?_) (fun hq => ?_) | refine MX1.of 4000 (by simp) ?_ | refine MX2.of 4000 (by simp) ?_ | refine And.intro ?_ ?_) | ((with_reducible first | refine Or.inl (And.intro (And.intro mixedP ?_) ?_) | refine Or.inl (And.intro mixedP ?_)); kernel_rfl) | simp only [go_sem,Nat.reduceEqDiff,Nat.reduceAdd,Nat.reduceMul,Nat.reduceLeDiff,Int.reduceBEq,hkk,hd,hget,hne,Tok.cells,List.length_map,List.getElem?_map,Option.map_some])
       all_goals first | omega | (unfold maxLen; omega) | (right; omega) | (left; simp; done) | (simp only [wk3,wkL2,wk2,wkL,wk1_d,wk1_own,wk1_nil,and_self]; done) | (intro i hi; simp only [upd]; (repeat' split); all_goals first | rfl | omega) | skip
       all_goals first | (rw [hw]; exact wk3_eq rfl) | (exfalso; simp_all; done) | trace_state
   · have hd : decide ((R.T.length : Int) ≤ k) = true := decide_eq_true (by omega)
     have hw : wordB R.T R.s k c = noStr := by unfold wordB; rw [List.getElem?_eq_none hkl]
     repeat' (first | (with_reducible first | refine XG_split (fun hq => ?_) (fun hq => ?_) | refine MX1.of 4000 (by simp) ?_ | refine MX2.of 4000 (by simp) ?_ | refine And.intro ?_ ?_) | ((with_reducible first | refine Or.inl (And.intro (And.intro mixedP ?_) ?_) | refine Or.inl (And.intro mixedP ?_)); kernel_rfl) | simp only [go_sem,Nat.reduceEqDiff,Nat.reduceAdd,Nat.reduceMul,Nat.reduceLeDiff,Int.reduceBEq,hkk,hd,hw,List.length_map])
     all_goals first | omega | (unfold maxLen; omega) | (right; omega) | (left; simp; done) | (simp only [wk3,wkL2,wk2,wkL,wk1_d,wk1_own,wk1_nil,and_self]; done) | (intro i hi; simp only [upd]; (repeat' split); all_goals first | rfl | omega) | skip
     all_goals first | (rw [hw]; exact wk3_eq rfl) | trace_state
 · cases hg
set_option maxRecDepth 20000 in
set_option maxHeartbeats 4000000 in
theorem pnum_ok : FsOk Tryz.prog 46 pnumS := by
 refine of_obQ (E := EqT.no _) (F := (Ft.no.put 15 rtextS).put 73 (.pureIf (fun _ => True) (g1 aStr fun s => .tup [Val.av (readV s).1, vB (readV s).2]))) Tryz.func46 rfl (by kernel_rfl) [.tmp 4] rfl Tryz.ntmps46 (((FtOk.no _).put rtext_ok).put pread_ok) ?_
 intro R args r i h n hp hg hi hok
 unfold numG at hg
 split at hg
 · rename_i k0
   cases hg
   obtain ⟨hsz, hT, hk0, hk1⟩ := hp
   obtain ⟨k, rfl⟩ := Int.eq_ofNat_of_zero_le hk0
   have hkk : ((k : Nat) : Int).toNat = k := Int.toNat_natCast k
   refine ⟨[vI k], ⟨AV.le.refl _, trivial⟩, ⟨by decide, by simp⟩, ?_⟩
   have tk : toksP R.s R.T k := ⟨hsz, hT, hk0, hk1⟩
   obtain ⟨v, q, hA⟩ : ∃ v q, readV (wordB R.T R.s k 3) = (v, q) := ⟨_, _, rfl⟩
   have hN : numB (wordB R.T R.s k 3) = if !q || decide (0 < v.sym.size) || decide (v.num < 1) || decide (1099511627776 < v.num) then 0 else v.num := by unfold numB; rw [hA]
   have hz : (v.sym.toList == noStr.toList) = !decide (0 < v.sym.size) := by
    rw [Bool.eq_iff_iff, beq_iff_eq]
    simp only [Bool.not_eq_true', decide_eq_false_iff_not]
    constructor
    · intro e
      rw [toList_inj e]
      decide
    · intro e
      exact congrArg ByteArray.toList (ByteArray.ext (Array.eq_empty_of_size_eq_zero (by have : v.sym.size = v.sym.data.size := rfl; omega)))
   cases q <;> cases h1 : decide (0 < v.sym.size) <;> cases h2 : decide (v.num < 1) <;> cases h3 : decide ((1099511627776 : Int) < v.num)
   all_goals
    rw [h1, h2, h3] at hN
    rw [h1] at hz
    repeat' (first | (with_reducible first | refine XG_split (fun hq => ?_) (fun hq => ?_) | refine MX1.of 4000 (by simp) ?_ | refine MX2.of 4000 (by simp) ?_ | refine And.intro ?_ ?_) | ((with_reducible first | refine Or.inl (And.intro (And.intro mixedP ?_) ?_) | refine Or.inl (And.intro mixedP ?_)); kernel_rfl) | simp only [go_sem,Nat.reduceEqDiff,Nat.reduceAdd,Nat.reduceMul,Nat.reduceLeDiff,Int.reduceBEq,hkk,Val.av,hA,hz,h2,h3])
    all_goals first | exact tk | skip
    all_goals first | omega | (unfold maxLen; omega) | (right; omega) | (left; simp; done) | (simp only [wk3,wkL2,wk2,wkL,wk1_d,wk1_own,wk1_nil,and_self]; done) | (intro i hi; simp only [upd]; (repeat' split); all_goals first | rfl | omega) | skip
    all_goals first | (rw [hN]; exact wk3_eq rfl) | trace_state
 · cases hg
set_option maxRecDepth 20000 in
set_option maxHeartbeats 4000000 in
theorem rsaid_ok : FsOk Tryz.prog 42 rsaidS := by
 refine of_obQ (E := EqT.no _) (F := (Ft.no.put 16 atS).put 72 pparseLitS) Tryz.func42 rfl (by kernel_rfl) [.cell 4 28, .tmp 5, .tmp 6] rfl Tryz.ntmps42 (((FtOk.no _).put at_ok).put pparseLit_ok) ?_
 intro R args r i h n hp hg hi hok
 unfold rsaidG at hg
 split at hg
 · rename_i k0
   cases hg
   obtain ⟨hsz, hT, hk0, hk1⟩ := hp
   obtain ⟨k, rfl⟩ := Int.eq_ofNat_of_zero_le hk0
   have hkk : ((k : Nat) : Int).toNat = k := Int.toNat_natCast k
   refine ⟨[vI k], ⟨AV.le.refl _, trivial⟩, ⟨by decide, by simp⟩, ?_⟩
   have tk : toksP R.s R.T k := ⟨hsz, hT, hk0, hk1⟩
   have hi0 : i ≠ n := by omega
   have hi1 : i ≠ n + 1 := by omega
   have hpos := pos_range hT k
   have hrs : ((restS R.s (posOf R.T R.s k)).size : Int) ≤ 9223372036854775807 := by have := rest_size R.s (posOf R.T R.s k); omega
   have hq := litA_rng (restS R.s (posOf R.T R.s k))
   have hrl := rest_le hpos
   obtain ⟨c, q, e, hC⟩ : ∃ c q e, litA (restS R.s (posOf R.T R.s k)) = (c, q, e) := ⟨_, _, _, rfl⟩
   have hC2 : litAt R.T R.s k = (c, q, e) := hC
   rw [hC] at hq
   have hq : 0 ≤ q ∧ q ≤ (restS R.s (posOf R.T R.s k)).size := hq
   repeat' (first | (with_reducible first | refine XG_split (fun hq => ?_) (fun hq => ?_) | refine MX1.of 4000 (by simp) ?_ | refine MX2.of 4000 (by simp) ?_ | refine And.intro ?_ ?_) | ((with_reducible first | refine Or.inl (And.intro (And.intro mixedP ?_) ?_) | refine Or.inl (And.intro mixedP ?_)); kernel_rfl) | simp only [go_sem,Nat.reduceEqDiff,Nat.reduceAdd,Nat.reduceMul,Nat.reduceLeDiff,Int.reduceBEq,upd_ne,hi0,hi1,hkk,hC,hC2,Lit.av,Lit.ds,Lit.cells,Lit.z,Term.z,Val.z,List.map_nil])
   all_goals first | exact tk | exact hrs | skip
   all_goals first | omega | (unfold maxLen; omega) | (right; omega) | (left; simp; done) | (simp only [wk3,wkL2,wk2,wkL,wk1_d,wk1_own,wk1_nil,and_self]; done) | (intro i hi; simp only [upd]; (repeat' split); all_goals first | rfl | omega) | skip
 · cases hg
set_option maxRecDepth 20000 in
set_option maxHeartbeats 4000000 in
theorem ends_ok : FsOk Tryz.prog 44 endsS := by
 refine of_obQ (E := EqT.no _) (F := Ft.no.put 16 atS) Tryz.func44 rfl (by kernel_rfl) [.tmp 4, .tmp 5] rfl Tryz.ntmps44 ((FtOk.no _).put at_ok) ?_
 intro R args r i h n hp hg hi hok
 unfold endsG at hg
 split at hg
 · rename_i k0
   cases hg
   obtain ⟨hsz, hT, hk0, hk1⟩ := hp
   obtain ⟨k, rfl⟩ := Int.eq_ofNat_of_zero_le hk0
   have hkk : ((k : Nat) : Int).toNat = k := Int.toNat_natCast k
   refine ⟨[vI k], ⟨AV.le.refl _, trivial⟩, ⟨by decide, by simp⟩, ?_⟩
   have tk : toksP R.s R.T k := ⟨hsz, hT, hk0, hk1⟩
   rcases Nat.lt_or_ge k R.T.length with hkl | hkl
   · have hd : decide ((k : Int) < (R.T.length : Int)) = true := decide_eq_true (by omega)
     have hw : endsT R k = (posOf R.T R.s k, 6) := by unfold endsT; rw [decide_eq_true hkl, if_pos rfl]
     repeat' (first | (with_reducible first | refine XG_split (fun hq => ?_) (fun hq => ?_) | refine MX1.of 4000 (by simp) ?_ | refine MX2.of 4000 (by simp) ?_ | refine And.intro ?_ ?_) | ((with_reducible first | refine Or.inl (And.intro (And.intro mixedP ?_) ?_) | refine Or.inl (And.intro mixedP ?_)); kernel_rfl) | simp only [go_sem,Nat.reduceEqDiff,Nat.reduceAdd,Nat.reduceMul,Nat.reduceLeDiff,Int.reduceBEq,hkk,hd,hw,List.length_map])
     all_goals first | exact tk | skip
     all_goals first | omega | (unfold maxLen; omega) | (right; omega) | (left; simp; done) | (simp only [wk3,wkL2,wk2,wkL,wk1_d,wk1_own,wk1_nil,and_self]; done) | (intro i hi; simp only [upd]; (repeat' split); all_goals first | rfl | omega) | skip
   · have hd : decide ((k : Int) < (R.T.length : Int)) = false := decide_eq_false (by omega)
     have hw : endsT R k = (0, 0) := by unfold endsT; rw [decide_eq_false (by omega), if_neg (by decide)]
     repeat' (first | (with_reducible first | refine XG_split (fun hq => ?_) (fun hq => ?_) | refine MX1.of 4000 (by simp) ?_ | refine MX2.of 4000 (by simp) ?_ | refine And.intro ?_ ?_) | ((with_reducible first | refine Or.inl (And.intro (And.intro mixedP ?_) ?_) | refine Or.inl (And.intro mixedP ?_)); kernel_rfl) | simp only [go_sem,Nat.reduceEqDiff,Nat.reduceAdd,Nat.reduceMul,Nat.reduceLeDiff,Int.reduceBEq,hkk,hd,hw,List.length_map])
     all_goals first | exact tk | skip
     all_goals first | omega | (unfold maxLen; omega) | (right; omega) | (left; simp; done) | (simp only [wk3,wkL2,wk2,wkL,wk1_d,wk1_own,wk1_nil,and_self]; done) | (intro i hi; simp only [upd]; (repeat' split); all_goals first | rfl | omega) | skip
 · cases hg
end Go.Proofs.YtfhpecgknmfnnaaGreatDoor.M
end
section
namespace Go.R
structure Ow (σ : Type) where
 o : Ob σ
 z : List AV
 cap : List AV → Option Int
 pre : σ → Prop
 f : Int → σ → AV × List AV
 lt : ∀ n k R, ltL n (f k R).2
section
variable {σ : Type}
def owBx (o : Ob σ) : AO → Option σ
 | .box cs => o.dec cs
 | _ => none
def owGo (W : Ow σ) (k : Option Int) (R : Option σ) (j : Nat) (h : AH) (n : Nat) : Option (AV × AH × Nat) := match k, R with
 | some k, some R => some ((W.f k R).1, upd h j (.box (W.f k R).2), n)
 | _, _ => none
def owP (W : Ow σ) (R : Option σ) : Prop := match R with
 | some R => W.pre R
 | none => True
def owRun (W : Ow σ) : List AV → AH → Nat → Option (AV × AH × Nat)
 | .p i 0 :: .p j 0 :: rest, h, n => owGo W (W.cap rest) (owBx W.o (h i)) j h n
 | _, _, _ => none
def owPre (W : Ow σ) : List AV → AH → Nat → Prop
 | .p i 0 :: .p j 0 :: rest, h, n => i ≠ j ∧ h j = .box W.z ∧ owP W (owBx W.o (h i))
 | _, _, _ => True
def owTch : List AV → List Nat
 | _ :: .p j _ :: _ => [j]
 | _ => []
def owS (W : Ow σ) : Fs := ⟨owRun W, owPre W, owTch⟩
variable {W : Ow σ} {i j n : Nat} {h : AH} {rest : List AV} {cs : List AV}
@[go_sem] theorem owS_run : (owS W).run (.p i 0 :: .p j 0 :: rest) h n = owGo W (W.cap rest) (owBx W.o (h i)) j h n := rfl
@[go_sem] theorem owS_pre : (owS W).pre (.p i 0 :: .p j 0 :: rest) h n = (i ≠ j ∧ h j = .box W.z ∧ owP W (owBx W.o (h i))) := rfl
@[go_sem] theorem owS_tch {x : AV} {off : Nat} : (owS W).tch (x :: .p j off :: rest) = [j] := by cases x <;> rfl
@[go_sem] theorem owBx_box (o : Ob σ) : owBx o (.box cs) = o.dec cs := rfl
@[go_sem] theorem owGo_some {k : Int} {R : σ} : owGo W (some k) (some R) j h n = some ((W.f k R).1, upd h j (.box (W.f k R).2), n) := rfl
@[go_sem] theorem owP_some {R : σ} : owP W (some R) = W.pre R := rfl
end
def FinC (P : Program) (rs : List ResultVar) (n : Nat) (h : AH) (j : Nat) (cs : List AV) (r : AV) (e : Exit) (s : St) : Prop := (match e with
    | .normal => True
    | .ret => True
    | _ => False) ∧ resN P s.t s.h rs ∧ (match resO P s.t s.h rs with
    | some l => wk3 (packR l) r
    | none => False) ∧ agree n (upd h j (.box cs)) s.h ∧ AV.lt n r
theorem FinC.fin {P : Program} {rs : List ResultVar} {n : Nat} {h : AH} {j : Nat} {cs : List AV} {r : AV} {e : Exit} {s : St} (hj : j < n) (hok : HOk n h) (hlt : ltL n cs) (q : FinC P rs n h j cs r e s) :
 FinE P rs n h (upd h j (.box cs)) n r e s := by
 obtain ⟨q1, q2, q3, q4, q5⟩ := q
 refine ⟨q1, q2, q3, q4, q5, Nat.le_refl _, fun k hk => ?_, fun k xs hk hc => ?_⟩
 · rw [upd_ne _ _ (by omega)]
   exact hok.no k hk
 · by_cases e : k = j
   · subst e
     rw [upd_same] at hc
     cases hc
     exact .inr hlt
   · rw [upd_ne _ _ e] at hc
     exact .inl hc
attribute [go_sem] FinC
section
variable {P : Program} {E : EqT P} {F : Ft} {σ : Type}
theorem of_owS (W : Ow σ) {fi : FuncId} {fn : Func} {code : Code} (hf : P.funcs[fi]? = some fn) (hbody : fn.body = some code) (hn : (fn.name == "runtime.NumGoroutine") = false) (rs : List ResultVar) {nt : Nat} (hrs : fn.results = rs.toArray) (hnt : fn.ntmps = nt) (hF : FtOk P F)
 (H : ∀ R k rest i j h n, W.pre R → W.cap rest = some k → i < n → j < n → i ≠ j → HOk n h → h i = .box (W.o.bx R) → h j = .box W.z → (nt ≤ 900000 ∧ rest.length ≤ 40000) ∧
   X E F [j] (FinC P rs n h j (W.f k R).2 (W.f k R).1) 4000 (.code code) [] ⟨.p i 0 :: .p j 0 :: (rest ++ List.replicate (nt - (rest.length + 2)) .any), h, n, n⟩) : FsOk P fi (owS W) := by
 subst hnt
 refine SpOk.of_code hf hbody hn hF fun args h n K hS hno hbx => ?_
 have hok : HOk n h := ⟨hno, hbx⟩
 rw [hrs]
 obtain ⟨hpre, hrun⟩ := hS
 obtain ⟨⟨r, h', n'⟩, hr, hK⟩ := onO_iff hrun
 simp only [owS] at hr hpre ⊢
 unfold owRun at hr
 split at hr
 · rename_i i j rest
   simp only [owPre] at hpre
   obtain ⟨hij, hz, hp⟩ := hpre
   cases hc : h i with
   | no => rw [hc] at hr; unfold owGo owBx at hr; split at hr <;> simp_all
   | tok a b => rw [hc] at hr; unfold owGo owBx at hr; split at hr <;> simp_all
   | box cs =>
     rw [hc] at hr hp
     rw [owBx_box] at hr hp
     cases hd : W.o.dec cs with
     | none => rw [hd] at hr; unfold owGo at hr; split at hr <;> simp_all
     | some R =>
       rw [hd] at hr hp
       rw [owP_some] at hp
       cases hcap : W.cap rest with
       | none => rw [hcap] at hr; unfold owGo at hr; split at hr <;> simp_all
       | some k =>
         rw [hcap, owGo_some] at hr
         simp only [Option.some.injEq, Prod.mk.injEq] at hr
         obtain ⟨rfl, rfl, rfl⟩ := hr
         obtain rfl := W.o.ok cs R hd
         have hin : i < n := Nat.lt_of_not_le fun hle => by rw [hno i hle] at hc; cases hc
         have hjn : j < n := Nat.lt_of_not_le fun hle => by rw [hno j hle] at hz; cases hz
         obtain ⟨⟨hl1, hl2⟩, hX⟩ := H R k rest i j h n hp hcap hin hjn hij hok hc hz
         refine ⟨.p i 0 :: .p j 0 :: rest, fun c w vs hl hr => ⟨hl, hr⟩, ?_⟩
         refine (AW.of_X 4000 (by simp; omega) hX).mono fun e s' _ _ q => ?_
         obtain ⟨q1, q2, q3, q4, q5, q6, q7, q8⟩ := q.fin hjn hok (W.lt n k R)
         cases hres : resO P s'.t s'.h rs with
         | none => rw [hres] at q3; exact q3.elim
         | some l =>
           rw [hres] at q3
           exact ⟨q1, res_ares q2 hres ⟨n, _, _, q6, q4, q7, q8, q3, q5, hK⟩⟩
 · cases hr
end
end Go.R
namespace Go.Proofs.YtfhpecgknmfnnaaGreatDoor.M
open Go.R
abbrev vN : AV := .d (.v (.slice none 0 0))
def zC : List AV := [.d (.v (.int .u8 0)), vS noStr, vS noStr, vI 0, vS noStr, vN, vN]
def zL : List AV := [.d (.v (.int .u8 0)), vS noStr, vS noStr, vI 0, vS noStr, vN]
def cC (c : Clause) : List AV := [.d (.v (.int .u8 c.head.kind)), vS c.head.who.var, vS c.head.who.val.sym, vI c.head.who.val.num, vS c.head.pred, .d (.sl 3 (c.head.args.map Term.cells)), .d (.sl 6 (c.body.map Lit.cells))]
def cL' (l : Lit) : List AV := [.d (.v (.int .u8 l.kind)), vS l.who.var, vS l.who.val.sym, vI l.who.val.num, vS l.pred, .d (.sl 3 (l.args.map Term.cells))]
def qBx (k : Int) (l : ByteArray) (f : Int) (c : List AV) (m : Int) (t : List AV) : List AV := .d (.v (.int .u8 k)) :: vS l :: vI f :: (c ++ vI m :: t)
def zQ : List AV := qBx 0 noStr 0 zC 0 zL
theorem ltL_app {n : Nat} : ∀ {a b : List AV}, ltL n a → ltL n b → ltL n (a ++ b)
 | [], b, _, h => h
 | x :: a, b, h, h' => ⟨h.1, ltL_app h.2 h'⟩
theorem qBx_lt (n : Nat) (k : Int) (l : ByteArray) (f : Int) {c : List AV} (m : Int) {t : List AV} (hc : ltL n c) (ht : ltL n t) : ltL n (qBx k l f c m t) := ⟨trivial, trivial, trivial, ltL_app hc ⟨trivial, ht⟩⟩
theorem zC_lt (n : Nat) : ltL n zC := ⟨trivial, trivial, trivial, trivial, trivial, trivial, trivial, trivial⟩
theorem zL_lt (n : Nat) : ltL n zL := ⟨trivial, trivial, trivial, trivial, trivial, trivial, trivial⟩
theorem cC_lt (n : Nat) (c : Clause) : ltL n (cC c) := ⟨trivial, trivial, trivial, trivial, trivial, trivial, trivial, trivial⟩
theorem cL_lt (n : Nat) (l : Lit) : ltL n (cL' l) := ⟨trivial, trivial, trivial, trivial, trivial, trivial, trivial⟩
def capN : List AV → Option Int
 | [] => some 0
 | _ => none
def capK : List AV → Option Int
 | [.e [.v (.int .u8 k)]] => some k
 | _ => none
theorem capN_eq {l : List AV} {k : Int} (h : capN l = some k) : l = [] := by
 unfold capN at h
 split at h
 · rfl
 · cases h
theorem capK_eq {l : List AV} {k : Int} (h : capK l = some k) : l = [.e [.v (.int .u8 k)]] := by
 unfold capK at h
 split at h
 · cases h; rfl
 · cases h
@[go_sem] theorem capN_nil : capN [] = some 0 := rfl
@[go_sem] theorem capK_one (k : Int) : capK [.e [.v (.int .u8 k)]] = some k := rfl
def rqOk (R : Rq) : Prop := (R.s.size : Int) ≤ 9223372036854775807 ∧ TokOk R.s R.T
def liF (k : Int) (R : Rq) : AV × List AV := (.tup [vI (posOf R.T R.s 1 + (litAt R.T R.s 1).2.1), vI (litAt R.T R.s 1).2.2], qBx k noStr 0 zC 0 (cL' (litAt R.T R.s 1).1))
def auF (R : Rq) : AV × List AV := (.tup [vI (endsT R 1).1, vI (endsT R 1).2], qBx 5 noStr 0 zC 0 zL)
def reF (R : Rq) : AV × List AV := if (numB (wordB R.T R.s 1 3) == 0) = true then (.tup [vI (posOf R.T R.s 1), vI 6], qBx 2 noStr 0 zC 0 zL) else (.tup [vI (endsT R 2).1, vI (endsT R 2).2], qBx 2 noStr 0 zC (numB (wordB R.T R.s 1 3)) zL)
def clauseAt (T : List Tok) (s : ByteArray) (k : Nat) : Clause × Int × Int := clauseA (restS s (posOf T s k))
def asF1 (R : Rq) (life : Int) (k : Nat) : AV × List AV := (.tup [vI (posOf R.T R.s k + (clauseAt R.T R.s k).2.1), vI (clauseAt R.T R.s k).2.2], qBx 1 (wordB R.T R.s 1 1) life (cC (clauseAt R.T R.s k).1) 0 zL)
def asF (R : Rq) : AV × List AV :=
 if ((wordB R.T R.s 1 1).size == 0) = true then (.tup [vI (posOf R.T R.s 1), vI 6], qBx 1 (wordB R.T R.s 1 1) 0 zC 0 zL)
 else if longB R.T R.s = true then (if (numB (wordB R.T R.s 3 3) == 0) = true then (.tup [vI (posOf R.T R.s 3), vI 6], qBx 1 (wordB R.T R.s 1 1) 0 zC 0 zL) else asF1 R (numB (wordB R.T R.s 3 3)) 4)
 else asF1 R 0 2
theorem asF1_lt (n : Nat) (R : Rq) (life : Int) (k : Nat) : ltL n (asF1 R life k).2 := qBx_lt n _ _ _ _ (cC_lt n _) (zL_lt n)
def liW : Ow Rq := ⟨obRq, zQ, capK, rqOk, liF, fun n k R => qBx_lt n _ _ _ _ (zC_lt n) (cL_lt n _)⟩
def auW : Ow Rq := ⟨obRq, zQ, capN, rqOk, fun _ => auF, fun n k R => qBx_lt n _ _ _ _ (zC_lt n) (zL_lt n)⟩
def reW : Ow Rq := ⟨obRq, zQ, capN, rqOk, fun _ => reF, fun n k R => by
 unfold reF
 split
 · exact qBx_lt n _ _ _ _ (zC_lt n) (zL_lt n)
 · exact qBx_lt n _ _ _ _ (zC_lt n) (zL_lt n)⟩
def asW : Ow Rq := ⟨obRq, zQ, capN, rqOk, fun _ => asF, fun n k R => by
 unfold asF
 split
 · exact qBx_lt n _ _ _ _ (zC_lt n) (zL_lt n)
 · split
   · split
     · exact qBx_lt n _ _ _ _ (zC_lt n) (zL_lt n)
     · exact asF1_lt n R _ _
   · exact asF1_lt n R _ _⟩
theorem rq_tk {R : Rq} (h : rqOk R) (k : Int) (h0 : 0 ≤ k) (h1 : k ≤ 10) : toksP R.s R.T k := ⟨h.1, h.2, h0, by omega⟩
@[go_sem] theorem toList_eq_beq_no (s : ByteArray) : (s.toList == (⟨#[]⟩ : ByteArray).toList) = (s.size == 0) := by
  rw [Bool.eq_iff_iff, beq_iff_eq, beq_iff_eq]
  constructor
  · intro e
    have := toList_inj (a := s) (b := ⟨#[]⟩) e
    rw [this]; rfl
  · intro e
    exact congrArg ByteArray.toList (ByteArray.ext (Array.eq_empty_of_size_eq_zero e))
set_option maxRecDepth 20000 in
set_option maxHeartbeats 8000000 in
theorem words1_ok : FsOk Tryz.prog 41 (owS liW) := by
 refine of_owS (E := EqT.no _) (F := Ft.no.put 42 rsaidS) liW Tryz.func41 rfl (by kernel_rfl) [.tmp 5, .tmp 6] rfl Tryz.ntmps41 ((FtOk.no _).put rsaid_ok) ?_
 intro R k rest i j h n hp hcap hi hj hij hok hI hJ
 obtain rfl := capK_eq hcap
 refine ⟨⟨by decide, by simp⟩, ?_⟩
 have hI : h i = .box [vS R.s, .d (.sl 3 (R.T.map Tok.cells))] := hI
 have hJ : h j = .box zQ := hJ
 have hji : j ≠ i := Ne.symm hij
 have hjn : j ≠ n := by omega
 have hin : i ≠ n := by omega
 have tk : ∀ k : Int, 0 ≤ k → k ≤ 10 → toksP R.s R.T k := fun k h0 h1 => rq_tk hp k h0 h1
 have hsz := hp.1
 have hpos := pos_range hp.2
 have hL : liW.f k R = liF k R := rfl
 rw [hL]
 unfold liF
 obtain ⟨l, q, e, hC⟩ : ∃ l q e, litAt R.T R.s 1 = (l, q, e) := ⟨_, _, _, rfl⟩
 repeat' (first | (with_reducible first | refine XG_split (fun hq => ?_) (fun hq => ?_) | refine MX1.of 4000 (by simp) ?_ | refine MX2.of 4000 (by simp) ?_ | refine And.intro ?_ ?_) | ((with_reducible first | refine Or.inl (And.intro (And.intro mixedP ?_) ?_) | refine Or.inl (And.intro mixedP ?_)); kernel_rfl) | simp only [go_sem,Nat.reduceEqDiff,Nat.reduceAdd,Nat.reduceMul,Nat.reduceLeDiff,Int.reduceBEq,hI,hJ,zQ,qBx,zC,zL,upd_ne,hij,hji,hjn,hin,ne_eq,not_false_eq_true,List.cons_append,List.nil_append,hC,cL',Lit.av,Lit.ds,Lit.cells,Lit.z,Term.z,Val.z,List.map_nil,show ((0 : Int)).toNat = 0 from rfl,show ((1 : Int)).toNat = 1 from rfl,show ((2 : Int)).toNat = 2 from rfl,show ((3 : Int)).toNat = 3 from rfl,show ((4 : Int)).toNat = 4 from rfl])
 all_goals first | exact tk _ (by decide) (by decide) | exact tk _ (by omega) (by omega) | skip
 all_goals first | omega | (unfold maxLen; omega) | (right; omega) | (left; simp; done) | (simp only [wk3,wkL2,wk2,wkL,wk1_d,wk1_own,wk1_nil,and_self]; done) | (intro i hi; simp only [upd]; (repeat' split); all_goals first | rfl | omega) | skip
set_option maxRecDepth 20000 in
set_option maxHeartbeats 8000000 in
theorem words2_ok : FsOk Tryz.prog 43 (owS auW) := by
 refine of_owS (E := EqT.no _) (F := Ft.no.put 44 endsS) auW Tryz.func43 rfl (by kernel_rfl) [.tmp 4, .tmp 5] rfl Tryz.ntmps43 ((FtOk.no _).put ends_ok) ?_
 intro R k rest i j h n hp hcap hi hj hij hok hI hJ
 obtain rfl := capN_eq hcap
 refine ⟨⟨by decide, by simp⟩, ?_⟩
 have hI : h i = .box [vS R.s, .d (.sl 3 (R.T.map Tok.cells))] := hI
 have hJ : h j = .box zQ := hJ
 have hji : j ≠ i := Ne.symm hij
 have hjn : j ≠ n := by omega
 have hin : i ≠ n := by omega
 have tk : ∀ k : Int, 0 ≤ k → k ≤ 10 → toksP R.s R.T k := fun k h0 h1 => rq_tk hp k h0 h1
 have hsz := hp.1
 have hpos := pos_range hp.2
 have hL : auW.f k R = auF R := rfl
 rw [hL]
 unfold auF
 obtain ⟨q, e, hC⟩ : ∃ q e, endsT R 1 = (q, e) := ⟨_, _, rfl⟩
 repeat' (first | (with_reducible first | refine XG_split (fun hq => ?_) (fun hq => ?_) | refine MX1.of 4000 (by simp) ?_ | refine MX2.of 4000 (by simp) ?_ | refine And.intro ?_ ?_) | ((with_reducible first | refine Or.inl (And.intro (And.intro mixedP ?_) ?_) | refine Or.inl (And.intro mixedP ?_)); kernel_rfl) | simp only [go_sem,Nat.reduceEqDiff,Nat.reduceAdd,Nat.reduceMul,Nat.reduceLeDiff,Int.reduceBEq,hI,hJ,zQ,qBx,zC,zL,upd_ne,hij,hji,hjn,hin,ne_eq,not_false_eq_true,List.cons_append,List.nil_append,hC,show ((0 : Int)).toNat = 0 from rfl,show ((1 : Int)).toNat = 1 from rfl,show ((2 : Int)).toNat = 2 from rfl,show ((3 : Int)).toNat = 3 from rfl,show ((4 : Int)).toNat = 4 from rfl])
 all_goals first | exact tk _ (by decide) (by decide) | exact tk _ (by omega) (by omega) | skip
 all_goals first | omega | (unfold maxLen; omega) | (right; omega) | (left; simp; done) | (simp only [wk3,wkL2,wk2,wkL,wk1_d,wk1_own,wk1_nil,and_self]; done) | (intro i hi; simp only [upd]; (repeat' split); all_goals first | rfl | omega) | skip
set_option maxRecDepth 20000 in
set_option maxHeartbeats 8000000 in
theorem words3_ok : FsOk Tryz.prog 45 (owS reW) := by
 refine of_owS (E := EqT.no _) (F := ((Ft.no.put 46 pnumS).put 16 atS).put 44 endsS) reW Tryz.func45 rfl (by kernel_rfl) [.tmp 4, .tmp 5] rfl Tryz.ntmps45 ((((FtOk.no _).put pnum_ok).put at_ok).put ends_ok) ?_
 intro R k rest i j h n hp hcap hi hj hij hok hI hJ
 obtain rfl := capN_eq hcap
 refine ⟨⟨by decide, by simp⟩, ?_⟩
 have hI : h i = .box [vS R.s, .d (.sl 3 (R.T.map Tok.cells))] := hI
 have hJ : h j = .box zQ := hJ
 have hji : j ≠ i := Ne.symm hij
 have hjn : j ≠ n := by omega
 have hin : i ≠ n := by omega
 have tk : ∀ k : Int, 0 ≤ k → k ≤ 10 → toksP R.s R.T k := fun k h0 h1 => rq_tk hp k h0 h1
 have hsz := hp.1
 have hpos := pos_range hp.2
 have hL : reW.f k R = reF R := rfl
 rw [hL]
 obtain ⟨m, hm⟩ : ∃ m, numB (wordB R.T R.s 1 3) = m := ⟨_, rfl⟩
 obtain ⟨q, e, hC⟩ : ∃ q e, endsT R 2 = (q, e) := ⟨_, _, rfl⟩
 cases hn : m == 0 with
 | true =>
   have hF : reF R = (.tup [vI (posOf R.T R.s 1), vI 6], qBx 2 noStr 0 zC 0 zL) := by unfold reF; rw [hm, hn, if_pos rfl]
   have hm0 : m = 0 := by simpa using hn
   subst hm0
   rw [hF]
   repeat' (first | (with_reducible first | refine XG_split (fun hq => ?_) (fun hq => ?_) | refine MX1.of 4000 (by simp) ?_ | refine MX2.of 4000 (by simp) ?_ | refine And.intro ?_ ?_) | ((with_reducible first | refine Or.inl (And.intro (And.intro mixedP ?_) ?_) | refine Or.inl (And.intro mixedP ?_)); kernel_rfl) | simp only [go_sem,Nat.reduceEqDiff,Nat.reduceAdd,Nat.reduceMul,Nat.reduceLeDiff,Int.reduceBEq,hI,hJ,zQ,qBx,zC,zL,upd_ne,hij,hji,hjn,hin,ne_eq,not_false_eq_true,List.cons_append,List.nil_append,hC,hm,hn,show ((0 : Int)).toNat = 0 from rfl,show ((1 : Int)).toNat = 1 from rfl,show ((2 : Int)).toNat = 2 from rfl,show ((3 : Int)).toNat = 3 from rfl,show ((4 : Int)).toNat = 4 from rfl])
   all_goals first | exact tk _ (by decide) (by decide) | exact tk _ (by omega) (by omega) | skip
   all_goals first | omega | (unfold maxLen; omega) | (right; omega) | (left; simp; done) | (simp only [wk3,wkL2,wk2,wkL,wk1_d,wk1_own,wk1_nil,and_self]; done) | (intro i hi; simp only [upd]; (repeat' split); all_goals first | rfl | omega) | skip
 | false =>
   have hF : reF R = (.tup [vI q, vI e], qBx 2 noStr 0 zC m zL) := by unfold reF; rw [hm, hn, if_neg (by decide), hC]
   rw [hF]
   repeat' (first | (with_reducible first | refine XG_split (fun hq => ?_) (fun hq => ?_) | refine MX1.of 4000 (by simp) ?_ | refine MX2.of 4000 (by simp) ?_ | refine And.intro ?_ ?_) | ((with_reducible first | refine Or.inl (And.intro (And.intro mixedP ?_) ?_) | refine Or.inl (And.intro mixedP ?_)); kernel_rfl) | simp only [go_sem,Nat.reduceEqDiff,Nat.reduceAdd,Nat.reduceMul,Nat.reduceLeDiff,Int.reduceBEq,hI,hJ,zQ,qBx,zC,zL,upd_ne,hij,hji,hjn,hin,ne_eq,not_false_eq_true,List.cons_append,List.nil_append,hC,hm,hn,show ((0 : Int)).toNat = 0 from rfl,show ((1 : Int)).toNat = 1 from rfl,show ((2 : Int)).toNat = 2 from rfl,show ((3 : Int)).toNat = 3 from rfl,show ((4 : Int)).toNat = 4 from rfl])
   all_goals first | exact tk _ (by decide) (by decide) | exact tk _ (by omega) (by omega) | skip
   all_goals first | omega | (unfold maxLen; omega) | (right; omega) | (left; simp; done) | (simp only [wk3,wkL2,wk2,wkL,wk1_d,wk1_own,wk1_nil,and_self]; done) | (intro i hi; simp only [upd]; (repeat' split); all_goals first | rfl | omega) | skip
set_option maxRecDepth 20000 in
set_option maxHeartbeats 8000000 in
theorem words4_ok : FsOk Tryz.prog 47 (owS asW) := by
 refine of_owS (E := EqT.no _) (F := (((Ft.no.put 15 rtextS).put 46 pnumS).put 16 atS).put 48 pparseS) asW Tryz.func47 rfl (by kernel_rfl) [.tmp 4, .tmp 5] rfl Tryz.ntmps47 (((((FtOk.no _).put rtext_ok).put pnum_ok).put at_ok).put pparse_ok) ?_
 intro R k rest i j h n hp hcap hi hj hij hok hI hJ
 obtain rfl := capN_eq hcap
 refine ⟨⟨by decide, by simp⟩, ?_⟩
 have hI : h i = .box [vS R.s, .d (.sl 3 (R.T.map Tok.cells))] := hI
 have hJ : h j = .box zQ := hJ
 have hji : j ≠ i := Ne.symm hij
 have hjn : j ≠ n := by omega
 have hin : i ≠ n := by omega
 have tk : ∀ k : Int, 0 ≤ k → k ≤ 10 → toksP R.s R.T k := fun k h0 h1 => rq_tk hp k h0 h1
 have hsz := hp.1
 have hpos := pos_range hp.2
 have hL : asW.f k R = asF R := rfl
 rw [hL]
 have hrs : ∀ p, ((restS R.s p).size : Int) ≤ 9223372036854775807 := fun p => by have := rest_size R.s p; omega
 have hp2 := hpos 2
 have hp4 := hpos 4
 have hq2 := clauseA_rng (restS R.s (posOf R.T R.s 2))
 have hq4 := clauseA_rng (restS R.s (posOf R.T R.s 4))
 have hr2 := rest_le hp2
 have hr4 := rest_le hp4
 obtain ⟨c2, q2, e2, hC2⟩ : ∃ c q e, clauseA (restS R.s (posOf R.T R.s 2)) = (c, q, e) := ⟨_, _, _, rfl⟩
 obtain ⟨c4, q4, e4, hC4⟩ : ∃ c q e, clauseA (restS R.s (posOf R.T R.s 4)) = (c, q, e) := ⟨_, _, _, rfl⟩
 have hA2 : clauseAt R.T R.s 2 = (c2, q2, e2) := hC2
 have hA4 : clauseAt R.T R.s 4 = (c4, q4, e4) := hC4
 rw [hC2] at hq2
 rw [hC4] at hq4
 have hq2 : 0 ≤ q2 ∧ q2 ≤ (restS R.s (posOf R.T R.s 2)).size := hq2
 have hq4 : 0 ≤ q4 ∧ q4 ≤ (restS R.s (posOf R.T R.s 4)).size := hq4
 obtain ⟨w, hw⟩ : ∃ w, wordB R.T R.s 1 1 = w := ⟨_, rfl⟩
 obtain ⟨m, hm⟩ : ∃ m, numB (wordB R.T R.s 3 3) = m := ⟨_, rfl⟩
 have hfl : ((wordB R.T R.s 2 1).toList == (⟨#[102, 111, 114]⟩ : ByteArray).toList) = ((wordB R.T R.s 2 1).toList == wFor.toList) := rfl
 cases hz : w.size == 0 with
 | true =>
   have hF : asF R = (.tup [vI (posOf R.T R.s 1), vI 6], qBx 1 w 0 zC 0 zL) := by unfold asF; rw [hw, hz, if_pos rfl]
   rw [hF]
   repeat' (first | (with_reducible first | refine XG_split (fun hq => ?_) (fun hq => ?_) | refine MX1.of 4000 (by simp) ?_ | refine MX2.of 4000 (by simp) ?_ | refine And.intro ?_ ?_) | ((with_reducible first | refine Or.inl (And.intro (And.intro mixedP ?_) ?_) | refine Or.inl (And.intro mixedP ?_)); kernel_rfl) | simp only [go_sem,Nat.reduceEqDiff,Nat.reduceAdd,Nat.reduceMul,Nat.reduceLeDiff,Int.reduceBEq,hI,hJ,zQ,qBx,zC,zL,upd_ne,hij,hji,hjn,hin,ne_eq,not_false_eq_true,List.cons_append,List.nil_append,cC,Clause.av,Clause.ds,show ((0 : Int)).toNat = 0 from rfl,show ((1 : Int)).toNat = 1 from rfl,show ((2 : Int)).toNat = 2 from rfl,show ((3 : Int)).toNat = 3 from rfl,show ((4 : Int)).toNat = 4 from rfl,hw,hz])
   all_goals first | exact tk _ (by decide) (by decide) | exact tk _ (by omega) (by omega) | exact hrs _ | skip
   all_goals first | omega | (unfold maxLen; omega) | (right; omega) | (left; simp; done) | (simp only [wk3,wkL2,wk2,wkL,wk1_d,wk1_own,wk1_nil,and_self]; done) | (intro i hi; simp only [upd]; (repeat' split); all_goals first | rfl | omega) | skip
 | false =>
   cases h1 : (wordB R.T R.s 2 1).toList == wFor.toList with
   | false =>
     have hlong : longB R.T R.s = false := by unfold longB; rw [h1]; rfl
     have hF : asF R = (.tup [vI (posOf R.T R.s 2 + q2), vI e2], qBx 1 w 0 (cC c2) 0 zL) := by unfold asF asF1; rw [hw, hz, hlong, hA2]; rfl
     rw [hF]
     repeat' (first | (with_reducible first | refine XG_split (fun hq => ?_) (fun hq => ?_) | refine MX1.of 4000 (by simp) ?_ | refine MX2.of 4000 (by simp) ?_ | refine And.intro ?_ ?_) | ((with_reducible first | refine Or.inl (And.intro (And.intro mixedP ?_) ?_) | refine Or.inl (And.intro mixedP ?_)); kernel_rfl) | simp only [go_sem,Nat.reduceEqDiff,Nat.reduceAdd,Nat.reduceMul,Nat.reduceLeDiff,Int.reduceBEq,hI,hJ,zQ,qBx,zC,zL,upd_ne,hij,hji,hjn,hin,ne_eq,not_false_eq_true,List.cons_append,List.nil_append,cC,Clause.av,Clause.ds,show ((0 : Int)).toNat = 0 from rfl,show ((1 : Int)).toNat = 1 from rfl,show ((2 : Int)).toNat = 2 from rfl,show ((3 : Int)).toNat = 3 from rfl,show ((4 : Int)).toNat = 4 from rfl,hw,hz,h1,hC2])
     all_goals first | exact tk _ (by decide) (by decide) | exact tk _ (by omega) (by omega) | exact hrs _ | skip
     all_goals first | omega | (unfold maxLen; omega) | (right; omega) | (left; simp; done) | (simp only [wk3,wkL2,wk2,wkL,wk1_d,wk1_own,wk1_nil,and_self]; done) | (intro i hi; simp only [upd]; (repeat' split); all_goals first | rfl | omega) | skip
   | true =>
     cases h2 : decide (0 < (wordB R.T R.s 3 3).size) with
     | false =>
       have hlong : longB R.T R.s = false := by unfold longB; rw [h1, h2]; rfl
       have hF : asF R = (.tup [vI (posOf R.T R.s 2 + q2), vI e2], qBx 1 w 0 (cC c2) 0 zL) := by unfold asF asF1; rw [hw, hz, hlong, hA2]; rfl
       have h3 : ((wordB R.T R.s 3 3).size == 0) = true := by simpa using h2
       rw [hF]
       repeat' (first | (with_reducible first | refine XG_split (fun hq => ?_) (fun hq => ?_) | refine MX1.of 4000 (by simp) ?_ | refine MX2.of 4000 (by simp) ?_ | refine And.intro ?_ ?_) | ((with_reducible first | refine Or.inl (And.intro (And.intro mixedP ?_) ?_) | refine Or.inl (And.intro mixedP ?_)); kernel_rfl) | simp only [go_sem,Nat.reduceEqDiff,Nat.reduceAdd,Nat.reduceMul,Nat.reduceLeDiff,Int.reduceBEq,hI,hJ,zQ,qBx,zC,zL,upd_ne,hij,hji,hjn,hin,ne_eq,not_false_eq_true,List.cons_append,List.nil_append,cC,Clause.av,Clause.ds,show ((0 : Int)).toNat = 0 from rfl,show ((1 : Int)).toNat = 1 from rfl,show ((2 : Int)).toNat = 2 from rfl,show ((3 : Int)).toNat = 3 from rfl,show ((4 : Int)).toNat = 4 from rfl,hw,hz,h1,h3,bne,hC2])
       all_goals first | exact tk _ (by decide) (by decide) | exact tk _ (by omega) (by omega) | exact hrs _ | skip
       all_goals first | omega | (unfold maxLen; omega) | (right; omega) | (left; simp; done) | (simp only [wk3,wkL2,wk2,wkL,wk1_d,wk1_own,wk1_nil,and_self]; done) | (intro i hi; simp only [upd]; (repeat' split); all_goals first | rfl | omega) | skip
     | true =>
       have hlong : longB R.T R.s = true := by unfold longB; rw [h1, h2]; rfl
       have h3 : ((wordB R.T R.s 3 3).size == 0) = false := by rw [decide_eq_true_eq] at h2; simpa using Nat.pos_iff_ne_zero.1 h2
       cases hn : m == 0 with
       | true =>
         have hF : asF R = (.tup [vI (posOf R.T R.s 3), vI 6], qBx 1 w 0 zC 0 zL) := by unfold asF; rw [hw, hz, hlong, hm, hn]; rfl
         have hm0 : m = 0 := by simpa using hn
         subst hm0
         rw [hF]
         repeat' (first | (with_reducible first | refine XG_split (fun hq => ?_) (fun hq => ?_) | refine MX1.of 4000 (by simp) ?_ | refine MX2.of 4000 (by simp) ?_ | refine And.intro ?_ ?_) | ((with_reducible first | refine Or.inl (And.intro (And.intro mixedP ?_) ?_) | refine Or.inl (And.intro mixedP ?_)); kernel_rfl) | simp only [go_sem,Nat.reduceEqDiff,Nat.reduceAdd,Nat.reduceMul,Nat.reduceLeDiff,Int.reduceBEq,hI,hJ,zQ,qBx,zC,zL,upd_ne,hij,hji,hjn,hin,ne_eq,not_false_eq_true,List.cons_append,List.nil_append,cC,Clause.av,Clause.ds,show ((0 : Int)).toNat = 0 from rfl,show ((1 : Int)).toNat = 1 from rfl,show ((2 : Int)).toNat = 2 from rfl,show ((3 : Int)).toNat = 3 from rfl,show ((4 : Int)).toNat = 4 from rfl,hw,hz,h1,h3,bne,hm,hn])
         all_goals first | exact tk _ (by decide) (by decide) | exact tk _ (by omega) (by omega) | exact hrs _ | skip
         all_goals first | omega | (unfold maxLen; omega) | (right; omega) | (left; simp; done) | (simp only [wk3,wkL2,wk2,wkL,wk1_d,wk1_own,wk1_nil,and_self]; done) | (intro i hi; simp only [upd]; (repeat' split); all_goals first | rfl | omega) | skip
       | false =>
         have hF : asF R = (.tup [vI (posOf R.T R.s 4 + q4), vI e4], qBx 1 w m (cC c4) 0 zL) := by unfold asF asF1; rw [hw, hz, hlong, hm, hn, hA4]; rfl
         rw [hF]
         repeat' (first | (with_reducible first | refine XG_split (fun hq => ?_) (fun hq => ?_) | refine MX1.of 4000 (by simp) ?_ | refine MX2.of 4000 (by simp) ?_ | refine And.intro ?_ ?_) | ((with_reducible first | refine Or.inl (And.intro (And.intro mixedP ?_) ?_) | refine Or.inl (And.intro mixedP ?_)); kernel_rfl) | simp only [go_sem,Nat.reduceEqDiff,Nat.reduceAdd,Nat.reduceMul,Nat.reduceLeDiff,Int.reduceBEq,hI,hJ,zQ,qBx,zC,zL,upd_ne,hij,hji,hjn,hin,ne_eq,not_false_eq_true,List.cons_append,List.nil_append,cC,Clause.av,Clause.ds,show ((0 : Int)).toNat = 0 from rfl,show ((1 : Int)).toNat = 1 from rfl,show ((2 : Int)).toNat = 2 from rfl,show ((3 : Int)).toNat = 3 from rfl,show ((4 : Int)).toNat = 4 from rfl,hw,hz,h1,h3,bne,hm,hn,hC4])
         all_goals first | exact tk _ (by decide) (by decide) | exact tk _ (by omega) (by omega) | exact hrs _ | skip
         all_goals first | omega | (unfold maxLen; omega) | (right; omega) | (left; simp; done) | (simp only [wk3,wkL2,wk2,wkL,wk1_d,wk1_own,wk1_nil,and_self]; done) | (intro i hi; simp only [upd]; (repeat' split); all_goals first | rfl | omega) | skip
end Go.Proofs.YtfhpecgknmfnnaaGreatDoor.M
end
section
namespace Go.R
open Go.RowKit
def putM (w : World) (b : Nat) (es : Array MapEntry) (clock : Nat) (s : ByteArray) (v : Value) : World := { w with heap := w.heap.setIfInBounds b (.map (es.push ⟨.string s, v, clock⟩) (clock + 1)) }
theorem run_putM {P : Program} {ty k e : TypeId} {w : World} {b : Nat} {es : Array MapEntry} {clock : Nat} {s : ByteArray} {v : Value} (ht : P.underlying ty = some (.map k e)) (hk : P.underlying k = some .string) (hb : w.heap[b]? = some (.map es clock))
 (hf : Instr.findNow .string (.string s) es.toList 0 = some none) : (Instr.mapUpdate ty (.map (some b)) (.string s) v).run P w = .ok () (putM w b es clock s v) := by
 have hkey : MapKept.IsKey .string (.string s) := trivial
 simp [Instr.mapUpdate, run_underlying ht, MapKept.run_getObj_map hb, MapKept.run_checkKey hk hkey, MapKept.run_findKey hk hf, MapKept.run_setObj_map _ hb, Result.andThen, putM]
theorem putM_at {w : World} {b : Nat} {es : Array MapEntry} {clock : Nat} {s : ByteArray} {v : Value} (hb : w.heap[b]? = some (.map es clock)) : (putM w b es clock s v).heap[b]? = some (.map (es.push ⟨.string s, v, clock⟩) (clock + 1)) := (MapKept.heap_set hb).1
theorem putM_ne {w : World} {b r : Nat} {es : Array MapEntry} {clock : Nat} {s : ByteArray} {v : Value} (h : r ≠ b) : (putM w b es clock s v).heap[r]? = w.heap[r]? := by
 simp [putM, Ne.symm h]
theorem putM_size (w : World) (b : Nat) (es : Array MapEntry) (clock : Nat) (s : ByteArray) (v : Value) : (putM w b es clock s v).heap.size = w.heap.size := by simp [putM]
end Go.R
namespace Go.Proofs.YtfhpecgknmfnnaaGreatDoor.M
open Go.R Go.RowKit
open Go.Proofs.YtfhpecgknmfnnaaGreatDoorW.PrintWords Go.Proofs.YtfhpecgknmfnnaaGreatDoorW.PrintMore
abbrev kindO (k : Int) : Obj := .cells #[.int .u8 k] 5
theorem words1_calls (k : Int) (w : World) : Calls Tryz.prog 40 #[.int .u8 k] w fun e w' => e = .returned (.func (.func 41) #[] #[.pointer (some ⟨w.heap.size, 0, none⟩)]) ∧ w' = w.alloc (kindO k) := by
 have hmf := @hmf
 go_enter Tryz.func40, Tryz.ntmps40
 go_wp2
 exact bodyPost_ret (v := .func (.func 41) #[] #[.pointer (some ⟨w.heap.size, 0, none⟩)]) (by simp [results, Tryz.results40, go_sem]) rfl ⟨rfl, rfl⟩
abbrev ptrV (b : Nat) : Value := .pointer (some ⟨b, 0, none⟩)
abbrev litF (b : Nat) : Value := .func (.func 41) #[] #[ptrV b]
abbrev clF (f : Nat) : Value := .func (.func f) #[] #[]
def wE1 (B : Nat) : Array MapEntry := (#[]).push ⟨.string wQuery, litF (B + 1), 0⟩
def wE2 (B : Nat) : Array MapEntry := ((wE1 B)).push ⟨.string wProve, litF (B + 2), 1⟩
def wE3 (B : Nat) : Array MapEntry := ((wE2 B)).push ⟨.string wAudit, clF 43, 2⟩
def wE4 (B : Nat) : Array MapEntry := ((wE3 B)).push ⟨.string wRevoke, clF 45, 3⟩
def wE5 (B : Nat) : Array MapEntry := ((wE4 B)).push ⟨.string wAssert, clF 47, 4⟩
def wordsPost (w w' : World) : Prop := w'.heap[w.heap.size]? = some (.map (wE5 w.heap.size) 5) ∧ w'.heap[w.heap.size + 1]? = some (kindO 3) ∧ w'.heap[w.heap.size + 2]? = some (kindO 4) ∧ Below w.heap.size w w'
theorem putM_below {B : Nat} {w0 w : World} {b : Nat} {es : Array MapEntry} {clock : Nat} {s : ByteArray} {v : Value} (h : Below B w0 w) (hb : B ≤ b) : Below B w0 (putM w b es clock s v) :=
 ⟨h.os, h.tape, h.output, by rw [putM_size]; exact h.size, fun k hk => (putM_ne (by omega)).trans (h.block k hk)⟩
set_option maxHeartbeats 4000000 in
set_option maxRecDepth 100000 in
theorem words_calls (w : World) : Calls Tryz.prog 14 #[] w fun e w' => e = .returned (.map (some w.heap.size)) ∧ wordsPost w w' := by
 have hmm := @run_makeMap Tryz.prog
 have hty : ∀ (b : Nat) (s : ByteArray) (v : Value) (es : Array MapEntry) (clock : Nat) (w : World), w.heap[b]? = some (.map es clock) → Instr.findNow .string (.string s) es.toList 0 = some none → (Instr.mapUpdate 55 (.map (some b)) (.string s) v).run Tryz.prog w = .ok () (putM w b es clock s v) :=
  fun b s v es clock w h1 h2 => run_putM (k := 9) (e := 54) (by kernel_rfl) (by kernel_rfl) h1 h2
 have e1 : (w.alloc (Obj.map #[] 0)).heap.size = w.heap.size + 1 := by simp
 obtain ⟨w2, hw2⟩ : ∃ w2, w2 = (w.alloc (Obj.map #[] 0)).alloc (kindO 3) := ⟨_, rfl⟩
 have s2 : w2.heap.size = w.heap.size + 2 := by rw [hw2]; simp
 have m2 : w2.heap[w.heap.size]? = some (.map #[] 0) := by rw [hw2]; exact blk_alloc (heap_alloc_new w _) _
 have k2 : w2.heap[w.heap.size + 1]? = some (kindO 3) := by rw [hw2, ← e1]; exact heap_alloc_new _ _
 have b2 : Below w.heap.size w w2 := by rw [hw2]; exact ((Below.refl _ _).alloc (Nat.le_refl _) _).alloc (by rw [e1]; omega) _
 have hU1 := hty w.heap.size wQuery (litF (w.heap.size + 1)) #[] 0 w2 m2 rfl
 have m3 := putM_at (s := wQuery) (v := litF (w.heap.size + 1)) m2
 have b3 := putM_below (s := wQuery) (v := litF (w.heap.size + 1)) (es := #[]) (clock := 0) b2 (Nat.le_refl _)
 have s3 : (putM w2 w.heap.size #[] 0 wQuery (litF (w.heap.size + 1))).heap.size = w.heap.size + 2 := by rw [putM_size, s2]
 have k3 : (putM w2 w.heap.size #[] 0 wQuery (litF (w.heap.size + 1))).heap[w.heap.size + 1]? = some (kindO 3) := by rw [putM_ne (by omega), k2]
 obtain ⟨w3, hw3⟩ : ∃ w3, w3 = putM w2 w.heap.size #[] 0 wQuery (litF (w.heap.size + 1)) := ⟨_, rfl⟩
 rw [← hw3] at hU1 m3 b3 s3 k3
 obtain ⟨w4, hw4⟩ : ∃ w4, w4 = w3.alloc (kindO 4) := ⟨_, rfl⟩
 have m4 : w4.heap[w.heap.size]? = some (.map (wE1 w.heap.size) 1) := by rw [hw4]; exact blk_alloc m3 _
 have k4 : w4.heap[w.heap.size + 1]? = some (kindO 3) := by rw [hw4]; exact blk_alloc k3 _
 have j4 : w4.heap[w.heap.size + 2]? = some (kindO 4) := by rw [hw4, ← s3]; exact heap_alloc_new _ _
 have b4 : Below w.heap.size w w4 := by rw [hw4]; exact b3.alloc (by rw [s3]; omega) _
 have hU2 := hty w.heap.size wProve (litF (w.heap.size + 2)) (wE1 w.heap.size) 1 w4 m4 rfl
 have m5 : (putM w4 w.heap.size (wE1 w.heap.size) 1 wProve (litF (w.heap.size + 2))).heap[w.heap.size]? = some (.map (wE2 w.heap.size) 2) := putM_at m4
 have b5 : Below w.heap.size w (putM w4 w.heap.size (wE1 w.heap.size) 1 wProve (litF (w.heap.size + 2))) := putM_below b4 (Nat.le_refl _)
 have k5 : (putM w4 w.heap.size (wE1 w.heap.size) 1 wProve (litF (w.heap.size + 2))).heap[w.heap.size + 1]? = some (kindO 3) := by rw [putM_ne (by omega), k4]
 have j5 : (putM w4 w.heap.size (wE1 w.heap.size) 1 wProve (litF (w.heap.size + 2))).heap[w.heap.size + 2]? = some (kindO 4) := by rw [putM_ne (by omega), j4]
 obtain ⟨w5, hw5⟩ : ∃ w5, w5 = putM w4 w.heap.size (wE1 w.heap.size) 1 wProve (litF (w.heap.size + 2)) := ⟨_, rfl⟩
 rw [← hw5] at hU2 m5 b5 k5 j5
 have hU3 := hty w.heap.size wAudit (clF 43) (wE2 w.heap.size) 2 w5 m5 rfl
 have m6 : (putM w5 w.heap.size (wE2 w.heap.size) 2 wAudit (clF 43)).heap[w.heap.size]? = some (.map (wE3 w.heap.size) 3) := putM_at m5
 have b6 : Below w.heap.size w (putM w5 w.heap.size (wE2 w.heap.size) 2 wAudit (clF 43)) := putM_below b5 (Nat.le_refl _)
 have k6 : (putM w5 w.heap.size (wE2 w.heap.size) 2 wAudit (clF 43)).heap[w.heap.size + 1]? = some (kindO 3) := by rw [putM_ne (by omega), k5]
 have j6 : (putM w5 w.heap.size (wE2 w.heap.size) 2 wAudit (clF 43)).heap[w.heap.size + 2]? = some (kindO 4) := by rw [putM_ne (by omega), j5]
 obtain ⟨w6, hw6⟩ : ∃ w6, w6 = putM w5 w.heap.size (wE2 w.heap.size) 2 wAudit (clF 43) := ⟨_, rfl⟩
 rw [← hw6] at hU3 m6 b6 k6 j6
 have hU4 := hty w.heap.size wRevoke (clF 45) (wE3 w.heap.size) 3 w6 m6 rfl
 have m7 : (putM w6 w.heap.size (wE3 w.heap.size) 3 wRevoke (clF 45)).heap[w.heap.size]? = some (.map (wE4 w.heap.size) 4) := putM_at m6
 have b7 : Below w.heap.size w (putM w6 w.heap.size (wE3 w.heap.size) 3 wRevoke (clF 45)) := putM_below b6 (Nat.le_refl _)
 have k7 : (putM w6 w.heap.size (wE3 w.heap.size) 3 wRevoke (clF 45)).heap[w.heap.size + 1]? = some (kindO 3) := by rw [putM_ne (by omega), k6]
 have j7 : (putM w6 w.heap.size (wE3 w.heap.size) 3 wRevoke (clF 45)).heap[w.heap.size + 2]? = some (kindO 4) := by rw [putM_ne (by omega), j6]
 obtain ⟨w7, hw7⟩ : ∃ w7, w7 = putM w6 w.heap.size (wE3 w.heap.size) 3 wRevoke (clF 45) := ⟨_, rfl⟩
 rw [← hw7] at hU4 m7 b7 k7 j7
 have hU5 := hty w.heap.size wAssert (clF 47) (wE4 w.heap.size) 4 w7 m7 rfl
 have m8 : (putM w7 w.heap.size (wE4 w.heap.size) 4 wAssert (clF 47)).heap[w.heap.size]? = some (.map (wE5 w.heap.size) 5) := putM_at m7
 have b8 : Below w.heap.size w (putM w7 w.heap.size (wE4 w.heap.size) 4 wAssert (clF 47)) := putM_below b7 (Nat.le_refl _)
 have k8 : (putM w7 w.heap.size (wE4 w.heap.size) 4 wAssert (clF 47)).heap[w.heap.size + 1]? = some (kindO 3) := by rw [putM_ne (by omega), k7]
 have j8 : (putM w7 w.heap.size (wE4 w.heap.size) 4 wAssert (clF 47)).heap[w.heap.size + 2]? = some (kindO 4) := by rw [putM_ne (by omega), j7]
 obtain ⟨w8, hw8⟩ : ∃ w8, w8 = putM w7 w.heap.size (wE4 w.heap.size) 4 wAssert (clF 47) := ⟨_, rfl⟩
 rw [← hw8] at hU5 m8 b8 k8 j8
 have hE : wordsPost w w8 := ⟨m8, k8, j8, b8⟩
 clear m8 k8 j8 b8 hw8 m7 k7 j7 b7 hw7 m6 k6 j6 b6 hw6 m5 k5 j5 b5 hw5 m4 k4 j4 b4 m3 b3 k3 hw3 m2 k2 b2 s2 hty
 replace hw2 := Aside0.mk hw2
 replace hw4 := Aside0.mk hw4
 replace e1 := Aside0.mk e1
 replace s3 := Aside0.mk s3
 replace hE := Aside0.mk hE
 go_enter Tryz.func14, Tryz.ntmps14
 go_wp2_with fail
 refine (words1_calls 3 _).mono ?_
 rintro e w2' ⟨rfl, rfl⟩
 rw [e1.out, ← hw2.out]
 go_wp2_with fail
 refine (words1_calls 4 _).mono ?_
 rintro e w2' ⟨rfl, rfl⟩
 rw [s3.out, ← hw4.out]
 go_wp2_with fail
 exact bodyPost_ret (v := .map (some w.heap.size)) (by simp [results, Tryz.results14, go_sem]) rfl ⟨rfl, hE.out⟩
abbrev wKs : List ByteArray := [wQuery, wProve, wAudit, wRevoke, wAssert]
abbrev fnA (k : Int) : AV := .fn (.func 41) [] [.e [.v (.int .u8 k)]]
abbrev fnB (f : Nat) : AV := .fn (.func f) [] []
abbrev wVs : List AV := [fnA 3, fnA 4, fnB 43, fnB 45, fnB 47]
def g0 (r : AV) : List AV → Option AV
 | [] => some r
 | _ => none
@[go_sem] theorem g0_nil (r : AV) : g0 r [] = some r := rfl
abbrev wordsS : Fs := .pureIf (fun _ => True) (g0 (.mp wKs wVs))
theorem repK {c : Cx} {h : AH} {w w' : World} {b : Nat} {k : Int} (hl : w.heap.size ≤ b) (hb : w'.heap[b]? = some (kindO k)) : ARep (c.hold w w') h w' (litF b) (fnA k) := by
 have hlt := (Array.getElem?_eq_some_iff.1 hb).1
 refine .fn _ [] [ptrV b] [] _ rfl rep_nil rfl (rep_cons (.e b 0 _ (fun _ => .int .u8 k) (fun j x hx => ?_) fun j x hx => ?_) rep_nil)
 · match j with
   | 0 => exact ⟨(blk_cell hb 0).trans rfl, by unfold Cx.lo Cx.hold; simp only; rw [if_pos ⟨hl, hlt⟩]; trivial⟩
   | j + 1 => simp at hx
 · match j with
   | 0 => simp at hx; subst hx; exact .v _ rfl
   | j + 1 => simp at hx
theorem repF {c : Cx} {h : AH} {w : World} (f : Nat) : ARep c h w (clF f) (fnB f) := .fn _ [] [] [] [] rfl rep_nil rfl rep_nil
theorem words_ok : FsOk Tryz.prog 14 wordsS := by
 refine of_hold Tryz.func14 rfl (by kernel_rfl) ?_
 intro args r c h n w vals hp hg hw hl hr
 unfold g0 at hg
 split at hg
 · cases hg
   match vals, hl with
   | [], _ =>
     refine (words_calls w).mono fun e w' hq => ?_
     obtain ⟨rfl, h1, h2, h3, hb⟩ := hq
     have l1 := (Array.getElem?_eq_some_iff.1 h1).1
     refine ⟨_, rfl, hb, .mp _ _ _ wKs wVs ?_ h1 rfl rfl ?_⟩
     · show (if w.heap.size ≤ w.heap.size ∧ w.heap.size < w'.heap.size then none else _) = none
       rw [if_pos ⟨Nat.le_refl _, l1⟩]
     · exact rep_cons (repK (by omega) h2) (rep_cons (repK (by omega) h3) (rep_cons (repF _) (rep_cons (repF _) (rep_cons (repF _) rep_nil))))
 · cases hg
end Go.Proofs.YtfhpecgknmfnnaaGreatDoor.M
end
section
namespace Go.Proofs.YtfhpecgknmfnnaaGreatDoor.M
open Go.R
theorem li_out (k : Int) (T : List Tok) (s : ByteArray) : (∃ a e cs, liF k ⟨s, T⟩ = (.tup [vI a, vI e], cs) ∧ (e != 0) = true ∧ liT k T s = (Req.z, a, e)) ∨
 (∃ a l, liF k ⟨s, T⟩ = (.tup [vI a, vI 0], qBx k noStr 0 zC 0 (cL' l)) ∧ liT k T s = (⟨k, noStr, 0, Clause.z, 0, l⟩, 0, 0)) := by
 obtain ⟨l, q, e, hC⟩ : ∃ l q e, litAt T s 1 = (l, q, e) := ⟨_, _, _, rfl⟩
 have hC2 : litA (restS s (posOf T s 1)) = (l, q, e) := hC
 have hf : liF k ⟨s, T⟩ = (.tup [vI (posOf T s 1 + q), vI e], qBx k noStr 0 zC 0 (cL' l)) := by unfold liF; simp only [hC]
 cases he : e != 0 with
 | true => exact .inl ⟨_, _, _, hf, he, by unfold liT; simp only [hC2, he, if_true]⟩
 | false =>
   obtain rfl : e = 0 := by simpa using he
   exact .inr ⟨_, l, hf, by unfold liT; simp only [hC2, he, Bool.false_eq_true, if_false]⟩
theorem au_out (T : List Tok) (s : ByteArray) : (∃ a e cs, auF ⟨s, T⟩ = (.tup [vI a, vI e], cs) ∧ (e != 0) = true ∧ auT T s = (Req.z, a, e)) ∨
 (∃ a, auF ⟨s, T⟩ = (.tup [vI a, vI 0], qBx 5 noStr 0 zC 0 zL) ∧ auT T s = (⟨5, noStr, 0, Clause.z, 0, Lit.z⟩, 0, 0)) := by
 unfold auF auT endsT
 cases h : decide (1 < T.length) with
 | true => exact .inl ⟨_, _, _, by simp only [h, if_true]; rfl, rfl, rfl⟩
 | false => exact .inr ⟨0, by simp only [h, Bool.false_eq_true, if_false], rfl⟩
theorem re_out (T : List Tok) (s : ByteArray) : (∃ a e cs, reF ⟨s, T⟩ = (.tup [vI a, vI e], cs) ∧ (e != 0) = true ∧ reT T s = (Req.z, a, e)) ∨
 (∃ a m, reF ⟨s, T⟩ = (.tup [vI a, vI 0], qBx 2 noStr 0 zC m zL) ∧ reT T s = (⟨2, noStr, 0, Clause.z, m, Lit.z⟩, 0, 0)) := by
 unfold reF reT endsT
 cases hn : numB (wordB T s 1 3) == 0 with
 | true => exact .inl ⟨_, _, _, by simp only [hn, if_true]; rfl, rfl, rfl⟩
 | false =>
   cases h : decide (2 < T.length) with
   | true => exact .inl ⟨_, _, _, by simp only [hn, h, Bool.false_eq_true, if_false, if_true]; rfl, rfl, rfl⟩
   | false => exact .inr ⟨0, _, by simp only [hn, h, Bool.false_eq_true, if_false], rfl⟩
theorem as1_out (T : List Tok) (s : ByteArray) (life : Int) (k : Nat) : (∃ a e cs, asF1 ⟨s, T⟩ life k = (.tup [vI a, vI e], cs) ∧ (e != 0) = true ∧ asAns (wordB T s 1 1) life (posOf T s k) (clauseA (restS s (posOf T s k))) = (Req.z, a, e)) ∨
 (∃ a w f c, asF1 ⟨s, T⟩ life k = (.tup [vI a, vI 0], qBx 1 w f (cC c) 0 zL) ∧ asAns (wordB T s 1 1) life (posOf T s k) (clauseA (restS s (posOf T s k))) = (⟨1, w, f, c, 0, Lit.z⟩, 0, 0)) := by
 obtain ⟨c, q, e, hC⟩ : ∃ c q e, clauseAt T s k = (c, q, e) := ⟨_, _, _, rfl⟩
 have hC2 : clauseA (restS s (posOf T s k)) = (c, q, e) := hC
 have hf : asF1 ⟨s, T⟩ life k = (.tup [vI (posOf T s k + q), vI e], qBx 1 (wordB T s 1 1) life (cC c) 0 zL) := by unfold asF1; simp only [hC]
 rw [hC2]
 cases he : e != 0 with
 | true => exact .inl ⟨_, _, _, hf, he, by unfold asAns; simp only [he, if_true]⟩
 | false =>
   obtain rfl : e = 0 := by simpa using he
   exact .inr ⟨_, _, _, c, hf, by unfold asAns; simp only [he, Bool.false_eq_true, if_false]⟩
theorem as_out (T : List Tok) (s : ByteArray) : (∃ a e cs, asF ⟨s, T⟩ = (.tup [vI a, vI e], cs) ∧ (e != 0) = true ∧ asT T s = (Req.z, a, e)) ∨
 (∃ a w f c, asF ⟨s, T⟩ = (.tup [vI a, vI 0], qBx 1 w f (cC c) 0 zL) ∧ asT T s = (⟨1, w, f, c, 0, Lit.z⟩, 0, 0)) := by
 unfold asF asT
 cases hz : (wordB T s 1 1).size == 0 with
 | true => exact .inl ⟨_, _, _, by simp only [hz, if_true]; rfl, rfl, rfl⟩
 | false =>
   cases hl : longB T s with
   | true =>
     cases hn : numB (wordB T s 3 3) == 0 with
     | true => exact .inl ⟨_, _, _, by simp only [hz, hl, hn, Bool.false_eq_true, if_false, if_true]; rfl, rfl, rfl⟩
     | false =>
       simp only [hz, hl, hn, Bool.false_eq_true, if_false, if_true]
       exact as1_out T s _ 4
   | false =>
     simp only [hz, hl, Bool.false_eq_true, if_false]
     exact as1_out T s 0 2
theorem ba_beq (a b : ByteArray) : ((a == b) = true) = (a = b) := by
 obtain ⟨a⟩ := a
 obtain ⟨b⟩ := b
 have h : ((⟨a⟩ : ByteArray) == ⟨b⟩) = (a == b) := rfl
 rw [h, beq_iff_eq, ByteArray.mk.injEq]
theorem find_word (w : ByteArray) : (w = wQuery ∧ mpFind w wKs wVs = fnA 3) ∨ (w = wProve ∧ mpFind w wKs wVs = fnA 4) ∨ (w = wAudit ∧ mpFind w wKs wVs = fnB 43) ∨ (w = wRevoke ∧ mpFind w wKs wVs = fnB 45) ∨
 (w = wAssert ∧ mpFind w wKs wVs = fnB 47) ∨ ((w ≠ wQuery ∧ w ≠ wProve ∧ w ≠ wAudit ∧ w ≠ wRevoke ∧ w ≠ wAssert) ∧ mpFind w wKs wVs = .d (.v .nilFunc)) := by
 simp only [wKs, wVs, mpFind, ba_beq]
 by_cases h1 : w = wQuery
 · exact .inl ⟨h1, by rw [if_pos h1]⟩
 by_cases h2 : w = wProve
 · exact .inr (.inl ⟨h2, by rw [if_neg h1, if_pos h2]⟩)
 by_cases h3 : w = wAudit
 · exact .inr (.inr (.inl ⟨h3, by rw [if_neg h1, if_neg h2, if_pos h3]⟩))
 by_cases h4 : w = wRevoke
 · exact .inr (.inr (.inr (.inl ⟨h4, by rw [if_neg h1, if_neg h2, if_neg h3, if_pos h4]⟩)))
 by_cases h5 : w = wAssert
 · exact .inr (.inr (.inr (.inr (.inl ⟨h5, by rw [if_neg h1, if_neg h2, if_neg h3, if_neg h4, if_pos h5]⟩))))
 · exact .inr (.inr (.inr (.inr (.inr ⟨⟨h1, h2, h3, h4, h5⟩, by rw [if_neg h1, if_neg h2, if_neg h3, if_neg h4, if_neg h5]⟩))))
theorem beq_no {w x : ByteArray} (h : w ≠ x) : ¬ ((w.toList == x.toList) = true) := by
 rw [beq_iff_eq]
 exact fun e => h (toList_inj e)
theorem beq_diff {a b : ByteArray} (h : (a.data == b.data) = false) : ¬ ((a.toList == b.toList) = true) := beq_no fun e => by rw [e] at h; simp at h
theorem req_query {T : List Tok} {s : ByteArray} (h : wordB T s 0 1 = wQuery) : reqT T s = liT 3 T s := by
 unfold reqT
 rw [h, if_neg (beq_diff rfl), if_neg (beq_diff rfl), if_pos (by simp)]
theorem req_prove {T : List Tok} {s : ByteArray} (h : wordB T s 0 1 = wProve) : reqT T s = liT 4 T s := by
 unfold reqT
 rw [h, if_neg (beq_diff rfl), if_neg (beq_diff rfl), if_neg (beq_diff rfl), if_pos (by simp)]
theorem req_audit {T : List Tok} {s : ByteArray} (h : wordB T s 0 1 = wAudit) : reqT T s = auT T s := by
 unfold reqT
 rw [h, if_neg (beq_diff rfl), if_neg (beq_diff rfl), if_neg (beq_diff rfl), if_neg (beq_diff rfl), if_pos (by simp)]
theorem req_revoke {T : List Tok} {s : ByteArray} (h : wordB T s 0 1 = wRevoke) : reqT T s = reT T s := by
 unfold reqT
 rw [h, if_neg (beq_diff rfl), if_pos (by simp)]
theorem req_assert {T : List Tok} {s : ByteArray} (h : wordB T s 0 1 = wAssert) : reqT T s = asT T s := by
 unfold reqT
 rw [h, if_pos (by simp)]
theorem req_none {T : List Tok} {s w : ByteArray} (hw : wordB T s 0 1 = w) (h : w ≠ wQuery ∧ w ≠ wProve ∧ w ≠ wAudit ∧ w ≠ wRevoke ∧ w ≠ wAssert) : reqT T s = (Req.z, posOf T s 0, 6) := by
 obtain ⟨h1, h2, h3, h4, h5⟩ := h
 unfold reqT
 rw [hw, if_neg (beq_no h5), if_neg (beq_no h4), if_neg (beq_no h1), if_neg (beq_no h2), if_neg (beq_no h3)]
@[go_sem] theorem liW_o : liW.o = obRq := rfl
@[go_sem] theorem liW_cap : liW.cap = capK := rfl
@[go_sem] theorem liW_pre : liW.pre = rqOk := rfl
@[go_sem] theorem auW_o : auW.o = obRq := rfl
@[go_sem] theorem auW_cap : auW.cap = capN := rfl
@[go_sem] theorem auW_pre : auW.pre = rqOk := rfl
@[go_sem] theorem reW_o : reW.o = obRq := rfl
@[go_sem] theorem reW_cap : reW.cap = capN := rfl
@[go_sem] theorem reW_pre : reW.pre = rqOk := rfl
@[go_sem] theorem asW_o : asW.o = obRq := rfl
@[go_sem] theorem asW_cap : asW.cap = capN := rfl
@[go_sem] theorem asW_pre : asW.pre = rqOk := rfl
abbrev preqS : Fs := .pureIf (g1p aStr fun s => (s.size : Int) ≤ 9223372036854775807) (g1 aStr fun s => .tup [(reqA s).1.av, vI (reqA s).2.1, vI (reqA s).2.2])
set_option maxRecDepth 20000 in
set_option maxHeartbeats 8000000 in
theorem preq_ok : FsOk Tryz.prog 5 preqS := by
 refine of_Y1 (E := EqT.no _) (F := (((((((Ft.no.put 13 pallS).put 14 wordsS).put 15 rtextS).put 16 atS).put 41 (owS liW)).put 43 (owS auW)).put 45 (owS reW)).put 47 (owS asW)) vS (fun _ _ => aStr_le) Tryz.func5 rfl (by kernel_rfl) [.cell 2 33, .tmp 3, .tmp 4] rfl Tryz.ntmps5 (by decide) (((((((((FtOk.no _).put pall_ok).put words_ok).put rtext_ok).put at_ok).put words1_ok).put words2_ok).put words3_ok).put words4_ok) ?_
 intro s h n hp hok
 have hTok := allT_ok s
 obtain ⟨T, p0, e0, hA⟩ : ∃ T p0 e0, allT s = (T, p0, e0) := ⟨_, _, _, rfl⟩
 rw [hA] at hTok
 have hTok : TokOk s T := hTok
 have tk : ∀ k : Int, 0 ≤ k → k ≤ 10 → toksP s T k := fun k h0 h1 => ⟨hp, hTok, h0, by omega⟩
 have hrq : rqOk ⟨s, T⟩ := ⟨hp, hTok⟩
 have hR : reqA s = if (e0 != 0) = true then (Req.z, p0, e0) else reqT T s := by unfold reqA; rw [hA]
 have n12 : n + 1 ≠ n + 2 := by omega
 cases he : e0 != 0 with
 | true =>
   rw [he, if_pos rfl] at hR
   repeat' (first | (with_reducible first | refine XG_split (fun hq => ?_) (fun hq => ?_) | refine MX1.of 4000 (by simp) ?_ | refine MX2.of 4000 (by simp) ?_ | refine And.intro ?_ ?_) | ((with_reducible first | refine Or.inl (And.intro (And.intro mixedP ?_) ?_) | refine Or.inl (And.intro mixedP ?_)); kernel_rfl) | simp only [go_sem,Nat.reduceEqDiff,Nat.reduceAdd,Nat.reduceMul,Nat.reduceLeDiff,Int.reduceBEq,Req.av,Req.ds,Req.z,Clause.z,Lit.z,Term.z,Val.z,List.map_nil,hA,he,fnA,fnB,qBx,zC,zL,cC,cL',List.cons_append,List.nil_append,show ((0 : Int)).toNat = 0 from rfl,show ((0 : Int) != 0) = false from rfl,hR])
   all_goals first | exact hp | exact tk _ (by decide) (by decide) | exact hrq | rfl | omega | skip
   all_goals first | omega | (unfold maxLen; omega) | (right; omega) | (left; simp; done) | (simp only [wk3,wkL2,wk2,wkL,wk1_d,wk1_own,wk1_nil,and_self]; done) | (intro i hi; simp only [upd]; (repeat' split); all_goals first | rfl | omega) | skip
 | false =>
   rw [he, if_neg (by decide)] at hR
   obtain ⟨w, hw⟩ : ∃ w, wordB T s 0 1 = w := ⟨_, rfl⟩
   rcases find_word w with ⟨h1, hF⟩ | ⟨h1, hF⟩ | ⟨h1, hF⟩ | ⟨h1, hF⟩ | ⟨h1, hF⟩ | ⟨h1, hF⟩
   · rw [req_query (hw.trans h1)] at hR
     have hU : liW.f 3 ⟨s, T⟩ = liF 3 ⟨s, T⟩ := rfl
     rcases li_out 3 T s with ⟨a, e, cs, hf, he2, hL⟩ | ⟨a, l, hf, hL⟩
     · rw [hL] at hR
       rw [hf] at hU
       repeat' (first | (with_reducible first | refine XG_split (fun hq => ?_) (fun hq => ?_) | refine MX1.of 4000 (by simp) ?_ | refine MX2.of 4000 (by simp) ?_ | refine And.intro ?_ ?_) | ((with_reducible first | refine Or.inl (And.intro (And.intro mixedP ?_) ?_) | refine Or.inl (And.intro mixedP ?_)); kernel_rfl) | simp only [go_sem,Nat.reduceEqDiff,Nat.reduceAdd,Nat.reduceMul,Nat.reduceLeDiff,Int.reduceBEq,Req.av,Req.ds,Req.z,Clause.z,Lit.z,Term.z,Val.z,List.map_nil,hA,he,fnA,fnB,qBx,zC,zL,cC,cL',List.cons_append,List.nil_append,show ((0 : Int)).toNat = 0 from rfl,show ((0 : Int) != 0) = false from rfl,hR,hw,hF,hU,he2])
       all_goals first | exact hp | exact tk _ (by decide) (by decide) | exact hrq | rfl | omega | skip
       all_goals first | omega | (unfold maxLen; omega) | (right; omega) | (left; simp; done) | (simp only [wk3,wkL2,wk2,wkL,wk1_d,wk1_own,wk1_nil,and_self]; done) | (intro i hi; simp only [upd]; (repeat' split); all_goals first | rfl | omega) | skip
     · rw [hL] at hR
       rw [hf] at hU
       repeat' (first | (with_reducible first | refine XG_split (fun hq => ?_) (fun hq => ?_) | refine MX1.of 4000 (by simp) ?_ | refine MX2.of 4000 (by simp) ?_ | refine And.intro ?_ ?_) | ((with_reducible first | refine Or.inl (And.intro (And.intro mixedP ?_) ?_) | refine Or.inl (And.intro mixedP ?_)); kernel_rfl) | simp only [go_sem,Nat.reduceEqDiff,Nat.reduceAdd,Nat.reduceMul,Nat.reduceLeDiff,Int.reduceBEq,Req.av,Req.ds,Req.z,Clause.z,Lit.z,Term.z,Val.z,List.map_nil,hA,he,fnA,fnB,qBx,zC,zL,cC,cL',List.cons_append,List.nil_append,show ((0 : Int)).toNat = 0 from rfl,show ((0 : Int) != 0) = false from rfl,hR,hw,hF,hU])
       all_goals first | exact hp | exact tk _ (by decide) (by decide) | exact hrq | rfl | omega | skip
       all_goals first | omega | (unfold maxLen; omega) | (right; omega) | (left; simp; done) | (simp only [wk3,wkL2,wk2,wkL,wk1_d,wk1_own,wk1_nil,and_self]; done) | (intro i hi; simp only [upd]; (repeat' split); all_goals first | rfl | omega) | skip
   · rw [req_prove (hw.trans h1)] at hR
     have hU : liW.f 4 ⟨s, T⟩ = liF 4 ⟨s, T⟩ := rfl
     rcases li_out 4 T s with ⟨a, e, cs, hf, he2, hL⟩ | ⟨a, l, hf, hL⟩
     · rw [hL] at hR
       rw [hf] at hU
       repeat' (first | (with_reducible first | refine XG_split (fun hq => ?_) (fun hq => ?_) | refine MX1.of 4000 (by simp) ?_ | refine MX2.of 4000 (by simp) ?_ | refine And.intro ?_ ?_) | ((with_reducible first | refine Or.inl (And.intro (And.intro mixedP ?_) ?_) | refine Or.inl (And.intro mixedP ?_)); kernel_rfl) | simp only [go_sem,Nat.reduceEqDiff,Nat.reduceAdd,Nat.reduceMul,Nat.reduceLeDiff,Int.reduceBEq,Req.av,Req.ds,Req.z,Clause.z,Lit.z,Term.z,Val.z,List.map_nil,hA,he,fnA,fnB,qBx,zC,zL,cC,cL',List.cons_append,List.nil_append,show ((0 : Int)).toNat = 0 from rfl,show ((0 : Int) != 0) = false from rfl,hR,hw,hF,hU,he2])
       all_goals first | exact hp | exact tk _ (by decide) (by decide) | exact hrq | rfl | omega | skip
       all_goals first | omega | (unfold maxLen; omega) | (right; omega) | (left; simp; done) | (simp only [wk3,wkL2,wk2,wkL,wk1_d,wk1_own,wk1_nil,and_self]; done) | (intro i hi; simp only [upd]; (repeat' split); all_goals first | rfl | omega) | skip
     · rw [hL] at hR
       rw [hf] at hU
       repeat' (first | (with_reducible first | refine XG_split (fun hq => ?_) (fun hq => ?_) | refine MX1.of 4000 (by simp) ?_ | refine MX2.of 4000 (by simp) ?_ | refine And.intro ?_ ?_) | ((with_reducible first | refine Or.inl (And.intro (And.intro mixedP ?_) ?_) | refine Or.inl (And.intro mixedP ?_)); kernel_rfl) | simp only [go_sem,Nat.reduceEqDiff,Nat.reduceAdd,Nat.reduceMul,Nat.reduceLeDiff,Int.reduceBEq,Req.av,Req.ds,Req.z,Clause.z,Lit.z,Term.z,Val.z,List.map_nil,hA,he,fnA,fnB,qBx,zC,zL,cC,cL',List.cons_append,List.nil_append,show ((0 : Int)).toNat = 0 from rfl,show ((0 : Int) != 0) = false from rfl,hR,hw,hF,hU])
       all_goals first | exact hp | exact tk _ (by decide) (by decide) | exact hrq | rfl | omega | skip
       all_goals first | omega | (unfold maxLen; omega) | (right; omega) | (left; simp; done) | (simp only [wk3,wkL2,wk2,wkL,wk1_d,wk1_own,wk1_nil,and_self]; done) | (intro i hi; simp only [upd]; (repeat' split); all_goals first | rfl | omega) | skip
   · rw [req_audit (hw.trans h1)] at hR
     have hU : auW.f 0 ⟨s, T⟩ = auF ⟨s, T⟩ := rfl
     rcases au_out T s with ⟨a, e, cs, hf, he2, hL⟩ | ⟨a, hf, hL⟩
     · rw [hL] at hR
       rw [hf] at hU
       repeat' (first | (with_reducible first | refine XG_split (fun hq => ?_) (fun hq => ?_) | refine MX1.of 4000 (by simp) ?_ | refine MX2.of 4000 (by simp) ?_ | refine And.intro ?_ ?_) | ((with_reducible first | refine Or.inl (And.intro (And.intro mixedP ?_) ?_) | refine Or.inl (And.intro mixedP ?_)); kernel_rfl) | simp only [go_sem,Nat.reduceEqDiff,Nat.reduceAdd,Nat.reduceMul,Nat.reduceLeDiff,Int.reduceBEq,Req.av,Req.ds,Req.z,Clause.z,Lit.z,Term.z,Val.z,List.map_nil,hA,he,fnA,fnB,qBx,zC,zL,cC,cL',List.cons_append,List.nil_append,show ((0 : Int)).toNat = 0 from rfl,show ((0 : Int) != 0) = false from rfl,hR,hw,hF,hU,he2])
       all_goals first | exact hp | exact tk _ (by decide) (by decide) | exact hrq | rfl | omega | skip
       all_goals first | omega | (unfold maxLen; omega) | (right; omega) | (left; simp; done) | (simp only [wk3,wkL2,wk2,wkL,wk1_d,wk1_own,wk1_nil,and_self]; done) | (intro i hi; simp only [upd]; (repeat' split); all_goals first | rfl | omega) | skip
     · rw [hL] at hR
       rw [hf] at hU
       repeat' (first | (with_reducible first | refine XG_split (fun hq => ?_) (fun hq => ?_) | refine MX1.of 4000 (by simp) ?_ | refine MX2.of 4000 (by simp) ?_ | refine And.intro ?_ ?_) | ((with_reducible first | refine Or.inl (And.intro (And.intro mixedP ?_) ?_) | refine Or.inl (And.intro mixedP ?_)); kernel_rfl) | simp only [go_sem,Nat.reduceEqDiff,Nat.reduceAdd,Nat.reduceMul,Nat.reduceLeDiff,Int.reduceBEq,Req.av,Req.ds,Req.z,Clause.z,Lit.z,Term.z,Val.z,List.map_nil,hA,he,fnA,fnB,qBx,zC,zL,cC,cL',List.cons_append,List.nil_append,show ((0 : Int)).toNat = 0 from rfl,show ((0 : Int) != 0) = false from rfl,hR,hw,hF,hU])
       all_goals first | exact hp | exact tk _ (by decide) (by decide) | exact hrq | rfl | omega | skip
       all_goals first | omega | (unfold maxLen; omega) | (right; omega) | (left; simp; done) | (simp only [wk3,wkL2,wk2,wkL,wk1_d,wk1_own,wk1_nil,and_self]; done) | (intro i hi; simp only [upd]; (repeat' split); all_goals first | rfl | omega) | skip
   · rw [req_revoke (hw.trans h1)] at hR
     have hU : reW.f 0 ⟨s, T⟩ = reF ⟨s, T⟩ := rfl
     rcases re_out T s with ⟨a, e, cs, hf, he2, hL⟩ | ⟨a, m, hf, hL⟩
     · rw [hL] at hR
       rw [hf] at hU
       repeat' (first | (with_reducible first | refine XG_split (fun hq => ?_) (fun hq => ?_) | refine MX1.of 4000 (by simp) ?_ | refine MX2.of 4000 (by simp) ?_ | refine And.intro ?_ ?_) | ((with_reducible first | refine Or.inl (And.intro (And.intro mixedP ?_) ?_) | refine Or.inl (And.intro mixedP ?_)); kernel_rfl) | simp only [go_sem,Nat.reduceEqDiff,Nat.reduceAdd,Nat.reduceMul,Nat.reduceLeDiff,Int.reduceBEq,Req.av,Req.ds,Req.z,Clause.z,Lit.z,Term.z,Val.z,List.map_nil,hA,he,fnA,fnB,qBx,zC,zL,cC,cL',List.cons_append,List.nil_append,show ((0 : Int)).toNat = 0 from rfl,show ((0 : Int) != 0) = false from rfl,hR,hw,hF,hU,he2])
       all_goals first | exact hp | exact tk _ (by decide) (by decide) | exact hrq | rfl | omega | skip
       all_goals first | omega | (unfold maxLen; omega) | (right; omega) | (left; simp; done) | (simp only [wk3,wkL2,wk2,wkL,wk1_d,wk1_own,wk1_nil,and_self]; done) | (intro i hi; simp only [upd]; (repeat' split); all_goals first | rfl | omega) | skip
     · rw [hL] at hR
       rw [hf] at hU
       repeat' (first | (with_reducible first | refine XG_split (fun hq => ?_) (fun hq => ?_) | refine MX1.of 4000 (by simp) ?_ | refine MX2.of 4000 (by simp) ?_ | refine And.intro ?_ ?_) | ((with_reducible first | refine Or.inl (And.intro (And.intro mixedP ?_) ?_) | refine Or.inl (And.intro mixedP ?_)); kernel_rfl) | simp only [go_sem,Nat.reduceEqDiff,Nat.reduceAdd,Nat.reduceMul,Nat.reduceLeDiff,Int.reduceBEq,Req.av,Req.ds,Req.z,Clause.z,Lit.z,Term.z,Val.z,List.map_nil,hA,he,fnA,fnB,qBx,zC,zL,cC,cL',List.cons_append,List.nil_append,show ((0 : Int)).toNat = 0 from rfl,show ((0 : Int) != 0) = false from rfl,hR,hw,hF,hU])
       all_goals first | exact hp | exact tk _ (by decide) (by decide) | exact hrq | rfl | omega | skip
       all_goals first | omega | (unfold maxLen; omega) | (right; omega) | (left; simp; done) | (simp only [wk3,wkL2,wk2,wkL,wk1_d,wk1_own,wk1_nil,and_self]; done) | (intro i hi; simp only [upd]; (repeat' split); all_goals first | rfl | omega) | skip
   · rw [req_assert (hw.trans h1)] at hR
     have hU : asW.f 0 ⟨s, T⟩ = asF ⟨s, T⟩ := rfl
     rcases as_out T s with ⟨a, e, cs, hf, he2, hL⟩ | ⟨a, w2, f, c, hf, hL⟩
     · rw [hL] at hR
       rw [hf] at hU
       repeat' (first | (with_reducible first | refine XG_split (fun hq => ?_) (fun hq => ?_) | refine MX1.of 4000 (by simp) ?_ | refine MX2.of 4000 (by simp) ?_ | refine And.intro ?_ ?_) | ((with_reducible first | refine Or.inl (And.intro (And.intro mixedP ?_) ?_) | refine Or.inl (And.intro mixedP ?_)); kernel_rfl) | simp only [go_sem,Nat.reduceEqDiff,Nat.reduceAdd,Nat.reduceMul,Nat.reduceLeDiff,Int.reduceBEq,Req.av,Req.ds,Req.z,Clause.z,Lit.z,Term.z,Val.z,List.map_nil,hA,he,fnA,fnB,qBx,zC,zL,cC,cL',List.cons_append,List.nil_append,show ((0 : Int)).toNat = 0 from rfl,show ((0 : Int) != 0) = false from rfl,hR,hw,hF,hU,he2])
       all_goals first | exact hp | exact tk _ (by decide) (by decide) | exact hrq | rfl | omega | skip
       all_goals first | omega | (unfold maxLen; omega) | (right; omega) | (left; simp; done) | (simp only [wk3,wkL2,wk2,wkL,wk1_d,wk1_own,wk1_nil,and_self]; done) | (intro i hi; simp only [upd]; (repeat' split); all_goals first | rfl | omega) | skip
     · rw [hL] at hR
       rw [hf] at hU
       repeat' (first | (with_reducible first | refine XG_split (fun hq => ?_) (fun hq => ?_) | refine MX1.of 4000 (by simp) ?_ | refine MX2.of 4000 (by simp) ?_ | refine And.intro ?_ ?_) | ((with_reducible first | refine Or.inl (And.intro (And.intro mixedP ?_) ?_) | refine Or.inl (And.intro mixedP ?_)); kernel_rfl) | simp only [go_sem,Nat.reduceEqDiff,Nat.reduceAdd,Nat.reduceMul,Nat.reduceLeDiff,Int.reduceBEq,Req.av,Req.ds,Req.z,Clause.z,Lit.z,Term.z,Val.z,List.map_nil,hA,he,fnA,fnB,qBx,zC,zL,cC,cL',List.cons_append,List.nil_append,show ((0 : Int)).toNat = 0 from rfl,show ((0 : Int) != 0) = false from rfl,hR,hw,hF,hU])
       all_goals first | exact hp | exact tk _ (by decide) (by decide) | exact hrq | rfl | omega | skip
       all_goals first | omega | (unfold maxLen; omega) | (right; omega) | (left; simp; done) | (simp only [wk3,wkL2,wk2,wkL,wk1_d,wk1_own,wk1_nil,and_self]; done) | (intro i hi; simp only [upd]; (repeat' split); all_goals first | rfl | omega) | skip
   · rw [req_none hw h1] at hR
     repeat' (first | (with_reducible first | refine XG_split (fun hq => ?_) (fun hq => ?_) | refine MX1.of 4000 (by simp) ?_ | refine MX2.of 4000 (by simp) ?_ | refine And.intro ?_ ?_) | ((with_reducible first | refine Or.inl (And.intro (And.intro mixedP ?_) ?_) | refine Or.inl (And.intro mixedP ?_)); kernel_rfl) | simp only [go_sem,Nat.reduceEqDiff,Nat.reduceAdd,Nat.reduceMul,Nat.reduceLeDiff,Int.reduceBEq,Req.av,Req.ds,Req.z,Clause.z,Lit.z,Term.z,Val.z,List.map_nil,hA,he,fnA,fnB,qBx,zC,zL,cC,cL',List.cons_append,List.nil_append,show ((0 : Int)).toNat = 0 from rfl,show ((0 : Int) != 0) = false from rfl,hR,hw,hF])
     all_goals first | exact hp | exact tk _ (by decide) (by decide) | exact hrq | rfl | omega | skip
     all_goals first | omega | (unfold maxLen; omega) | (right; omega) | (left; simp; done) | (simp only [wk3,wkL2,wk2,wkL,wk1_d,wk1_own,wk1_nil,and_self]; done) | (intro i hi; simp only [upd]; (repeat' split); all_goals first | rfl | omega) | skip
end Go.Proofs.YtfhpecgknmfnnaaGreatDoor.M
end
section
namespace Go.Proofs.YtfhpecgknmfnnaaGreatDoor.M
open Go.R
theorem empty_str (s : ByteArray) : (s.toList == (⟨#[]⟩ : ByteArray).toList) = (s.size == 0) := by
 rw [Bool.eq_iff_iff, beq_iff_eq, beq_iff_eq]
 constructor
 · intro h; rw [toList_inj h]; rfl
 · intro h
   have : s = ⟨#[]⟩ := by
    obtain ⟨⟨l⟩⟩ := s
    cases l with
    | nil => rfl
    | cons a l => simp [ByteArray.size] at h
   rw [this]
abbrev nameS : Fs := .pureIf (fun _ => True) (g1 aStr fun s => vB (nameB s))
theorem name_ok : FsOk Tryz.prog 36 nameS := by
 refine FsOk.of_calls Tryz.func36 rfl (by kernel_rfl) ?_
 intro args r _ h
 obtain ⟨x, s, rfl, hx, rfl⟩ := g1_eq h
 obtain rfl := aStr_eq hx
 exact ⟨[.string s], _, rfl, fun _ _ _ => .d _ _ (.v _ rfl), fun w => (name_calls s w).mono fun e w' ⟨h1, h2⟩ => ⟨h1, by subst h2; exact Go.RowKit.Below.refl _ _⟩⟩
abbrev goodS : Fs := .pure (g1 aVal fun v => vB (goodV v))
theorem good_ok : FsOk Tryz.prog 122 goodS := by
 refine of_X1 (E := EqT.no _) (F := Ft.no.put 36 nameS) Val.av (fun _ _ => aVal_le) Tryz.func122 rfl (by kernel_rfl) [.tmp 2] rfl Tryz.ntmps122 (by decide) ((FtOk.no _).put name_ok) ?_
 intro v h n hok
 repeat' (first | (with_reducible refine XG_split (fun hq => ?_) (fun hq => ?_)) | (with_reducible refine Or.inl (And.intro (And.intro mixedP ?_) ?_); kernel_rfl) | (with_reducible refine MX1.of 4000 (by simp) ?_) | (with_reducible refine MX2.of 4000 (by simp) ?_) | (with_reducible refine And.intro ?_ ?_) | simp only [go_sem,Nat.reduceEqDiff,Nat.reduceAdd,Nat.reduceMul,Nat.reduceLeDiff,Val.av,empty_str])
 all_goals (refine wk_v (congrArg Value.bool ?_); simp [goodV, *])
end Go.Proofs.YtfhpecgknmfnnaaGreatDoor.M
end
section
namespace Go.Proofs.YtfhpecgknmfnnaaGreatDoor.M
open Go.R Go.Proofs.YtfhpecgknmfnnaaGreatDoorW.PrintWords Go.Proofs.YtfhpecgknmfnnaaGreatDoorW.PrintMore
theorem bytesOf_all (s : ByteArray) (p : Int → Bool) : (List.range s.size).all (fun i => p (byteAt s i)) = (bytesOf s).all p := by
 have key : ∀ k : Nat, k ≤ s.size → ((bytesOf s).drop (s.size - k)).all p = (List.range k).all fun i => p (byteAt s ((s.size - k + i : Nat) : Int)) := by
  intro k
  induction k with
  | zero => intro _; rw [Nat.sub_zero, List.drop_eq_nil_iff.2 (by rw [bytesOf_length]; exact Nat.le_refl _)]; rfl
  | succ k ih =>
    intro hk
    have h1 : s.size - (k + 1) < s.size := by omega
    rw [bytesOf_drop s _ h1, List.all_cons, show s.size - (k + 1) + 1 = s.size - k by omega, ih (by omega), List.range_succ_eq_map, List.all_cons, List.all_map, Nat.add_zero, byteAt_bt]
    congr 1
    congr 1
    funext i
    simp only [Function.comp]
    rw [show s.size - k + i = s.size - (k + 1) + (i + 1) by omega]
 have := key s.size (Nat.le_refl _)
 rw [Nat.sub_self, List.drop_zero] at this
 rw [this]
 simp only [Nat.zero_add]
theorem tw_len (p : Int → Bool) : ∀ l : List Int, (l.takeWhile p).length = l.length ↔ l.all p = true
 | [] => by simp
 | c :: l => by
   rw [List.takeWhile_cons, List.all_cons]
   cases hc : p c with
   | true =>
     rw [if_pos rfl, List.length_cons, List.length_cons, Bool.true_and, ← tw_len p l]
     omega
   | false => simp
theorem runTo_all {s : ByteArray} (h : 0 < s.size) (hc : pieceB (bt s 0) = true) : (runTo s 1 = s.size ↔ (bytesOf s).all pieceB = true) := by
 have hd := bytesOf_drop s 0 h
 rw [List.drop_zero] at hd
 have hl : ((bytesOf s).drop 1).length = s.size - 1 := by rw [List.length_drop, bytesOf_length]
 rw [hd, List.all_cons, show (bt s ((0 : Nat) : Int)) = bt s 0 from rfl, hc, Bool.true_and]
 unfold runTo
 rw [← tw_len, Nat.zero_add]
 have := (List.takeWhile_prefix pieceB (l := (bytesOf s).drop 1)).length_le
 omega
theorem upp_facts {c : Int} (h : uppB c = true) : 65 ≤ c ∧ c ≤ 90 ∧ pieceB c = true ∧ lowB c = false := by
 unfold uppB at h
 simp only [Bool.and_eq_true, decide_eq_true_eq] at h
 refine ⟨h.1, h.2, ?_, ?_⟩
 · unfold pieceB uppB
   simp [h.1, h.2]
 · unfold lowB
   have : ¬ 97 ≤ c := by omega
   simp [this]
theorem nameB_upp {s : ByteArray} (h : 0 < s.size) (hu : uppB (bt s 0) = true) : nameB s = false := by
 have hd := bytesOf_drop s 0 h
 rw [List.drop_zero] at hd
 unfold nameB
 rw [hd]
 have := (upp_facts hu).2.2.2
 rw [show bt s ((0 : Nat) : Int) = bt s 0 from rfl]
 simp [nameGo, this]
theorem word_upp {s : ByteArray} (h : 0 < s.size) (hu : uppB (bt s 0) = true) : (s.toList == [110, 111, 116] || s.toList == [115, 97, 121, 115]) = false := by
 have key : ∀ (c : UInt8) (t : List UInt8), s.toList = c :: t → bt s 0 = (c.toNat : Int) := by
  intro c t e
  rw [toList_eq] at e
  have hb : bytesOf s = (c.toNat : Int) :: t.map fun b => (b.toNat : Int) := by
   unfold bytesOf
   rw [e]
   rfl
  have := bytesOf_head s h
  rw [hb] at this
  simpa using this.symm
 rw [Bool.or_eq_false_iff]
 constructor
 · rw [beq_eq_false_iff_ne]
   intro e
   rw [key _ _ e] at hu
   cases hu
 · rw [beq_eq_false_iff_ne]
   intro e
   rw [key _ _ e] at hu
   cases hu
theorem sortK_upp {s : ByteArray} (h : 0 < s.size) (hu : uppB (bt s 0) = true) : (sortK s == 2) = decide (s.size ≤ 16) := by
 unfold sortK
 rw [word_upp h hu, nameB_upp h hu, hu, decide_eq_true h]
 by_cases h16 : s.size ≤ 16
 · have : decide ((s.size : Int) ≤ 16) = true := decide_eq_true (by omega)
   simp [this, h16]
 · have : decide ((s.size : Int) ≤ 16) = false := decide_eq_false (by omega)
   simp [this, h16]
   split <;> decide
theorem sortK_two {p : ByteArray} (h : sortK p = 2) : uppB (bt p 0) = true ∧ 0 < p.size := by
 unfold sortK at h
 split at h
 · cases h
 · split at h
   · cases h
   · split at h
     · rename_i hq
       simp only [Bool.and_eq_true, decide_eq_true_eq] at hq
       exact ⟨hq.1.2, hq.1.1⟩
     · split at h <;> cases h
theorem bt_extract {s : ByteArray} {q : Nat} (h : 0 < q) (hq : q ≤ s.size) : bt (s.extract 0 q) 0 = bt s 0 := by
 have h1 : 0 < (s.extract 0 q).size := by simp; omega
 have e1 := bytesOf_head _ h1
 have e2 := bytesOf_head s (by omega)
 rw [bytesOf_extract, List.drop_zero] at e1
 have hd := bytesOf_drop s 0 (by omega)
 rw [List.drop_zero] at hd
 obtain ⟨m, rfl⟩ : ∃ m, q = m + 1 := ⟨q - 1, by omega⟩
 rw [hd, List.take_succ_cons, List.head?_cons] at e1
 simpa using e1.symm
theorem extract_all (s : ByteArray) : s.extract 0 s.size = s := by
 refine bytesOf_inj ?_
 rw [bytesOf_extract, List.drop_zero, List.take_of_length_le (by rw [bytesOf_length]; exact Nat.le_refl _)]
theorem pieceTok_kind {s : ByteArray} {q : Nat} (h : 0 < q) (hq : q ≤ s.size) (hu : uppB (bt s 0) = false) : ((pieceTok s 0 q).1.kind == 2) = false := by
 unfold pieceTok
 split
 · rfl
 · rw [beq_eq_false_iff_ne]
   intro e
   have := (sortK_two e).1
   rw [bt_extract h hq, hu] at this
   cases this
theorem var_law (s : ByteArray) : ((oneT s 0).2 == 0 && (oneT s 0).1.kind == 2 && (oneT s 0).1.hi == (s.size : Int)) = varB s := by
 rcases Nat.eq_zero_or_pos s.size with h0 | h0
 · have : oneT s 0 = (Tok.z, 1) := by unfold oneT; rw [if_pos (by omega)]
   rw [this]
   unfold varB
   rw [h0]
   rfl
 have hv : varB s = (decide (s.size ≤ 16) && uppB (bt s 0) && (bytesOf s).all pieceB) := by
  unfold varB
  rw [decide_eq_true h0, Bool.true_and, bytesOf_all, byteAt_bt]
 rw [hv]
 have hb0 : bt s ((0 : Nat) : Int) = bt s 0 := rfl
 cases hu : uppB (bt s 0) with
 | true =>
   obtain ⟨u1, u2, u3, _⟩ := upp_facts hu
   have ho : oneT s 0 = pieceTok s 0 (runTo s (0 + 1)) := by
    unfold oneT
    rw [if_neg (by omega)]
    have e1 : (bt s 0 == 32 || bt s 0 == 9) = false := by
     rw [Bool.or_eq_false_iff, beq_eq_false_iff_ne, beq_eq_false_iff_ne]; omega
    have e2 : (bt s 0 == 45) = false := by rw [beq_eq_false_iff_ne]; omega
    simp only [hb0, e1, e2, u3, Bool.false_eq_true, if_false, if_true]
   rw [ho]
   have hq1 := runTo_ge s (0 + 1)
   have hq2 := runTo_le s (0 + 1) (by omega)
   have ha := runTo_all h0 u3
   cases hall : (bytesOf s).all pieceB with
   | true =>
     have hr : runTo s (0 + 1) = s.size := ha.2 hall
     rw [hr]
     unfold pieceTok
     rw [extract_all]
     have hk := sortK_upp h0 hu
     by_cases hk0 : sortK s = 0
     · rw [if_pos hk0]
       rw [hk0] at hk
       rw [← hk]
       rfl
     · rw [if_neg hk0]
       simp only [hk]
       simp
   | false =>
     have hr : runTo s (0 + 1) ≠ s.size := fun e => by rw [ha.1 e] at hall; cases hall
     simp only [Bool.and_false]
     unfold pieceTok
     split
     · rfl
     · simp only
       have : (((runTo s (0 + 1) : Nat) : Int) == (s.size : Int)) = false := by rw [beq_eq_false_iff_ne]; omega
       rw [this, Bool.and_false]
 | false =>
   simp only [Bool.and_false, Bool.false_and]
   have hk : ((oneT s 0).1.kind == 2) = false := by
    unfold oneT
    rw [if_neg (by omega)]
    simp only [hb0]
    have hq1 := runTo_ge s (0 + 1)
    have hq2 := runTo_le s (0 + 1) (by omega)
    repeat' split
    all_goals first | rfl | exact pieceTok_kind (by omega) hq2 hu
   rw [hk, Bool.and_false, Bool.false_and]
end Go.Proofs.YtfhpecgknmfnnaaGreatDoor.M
end
section
namespace Go.R
open Go.RowKit
inductive Tr where
 | fin
 | q (k : Nat) (r : Tr)
 | one (k : Nat) (r : Tr)
 | two (k1 : Nat) (r1 : Tr) (k2 : Nat) (r2 : Tr)
def Tr.len : Tr → Nat
 | .fin => 0
 | .q _ r => r.len + 1
 | .one _ r => r.len + 1
 | .two _ r1 _ _ => r1.len + 1
section
variable {P : Program} {ops : Array Oper} {Q : Exit → Act → World → Prop}
def qB (ops : Array Oper) (k : Nat) : Bool := match ops[k]? with
 | some o => o.guard.isNone && noCall o
 | none => false
def oB (ops : Array Oper) (k : Nat) : Bool := (ops[k]?).isSome
def trB (ops : Array Oper) : Tr → Array Bool → Bool
 | .fin, listed => (Region.ready .any ops listed).isEmpty
 | .q k r, listed => qB ops k && (Region.ready .any ops listed).contains k && Region.free .any ops listed k && trB ops r (listed.setIfInBounds k true)
 | .one k r, listed => oB ops k && (Region.ready .any ops listed == [k]) && trB ops r (listed.setIfInBounds k true)
 | .two k1 r1 k2 r2, listed => oB ops k1 && oB ops k2 && (Region.ready .any ops listed == [k1, k2]) && (r1.len == r2.len) && trB ops r1 (listed.setIfInBounds k1 true) && trB ops r2 (listed.setIfInBounds k2 true)
def wpTr (P : Program) (ops : Array Oper) (C : World → Prop) (Q : Exit → Act → World → Prop) : Tr → Array Bool → Act → World → Prop
 | .fin, listed, a, w => C w ∧ Q .normal a w
 | .q k r, listed, a, w => ∃ o v, ops[k]? = some o ∧ QY P ops C o v a ∧ wpTr P ops C Q r (listed.setIfInBounds k true) (a.put o.dst v) w
 | .one k r, listed, a, w => C w ∧ wpOp P ops Q k (wpTr P ops C Q r (listed.setIfInBounds k true)) a w
 | .two k1 r1 k2 r2, listed, a, w => C w ∧ wpOp P ops Q k1 (wpTr P ops C Q r1 (listed.setIfInBounds k1 true)) a w ∧ wpOp P ops Q k2 (wpTr P ops C Q r2 (listed.setIfInBounds k2 true)) a w
theorem closed_set {listed : Array Bool} {k : Nat} (hcl : ∀ k o, ops[k]? = some o → listed.getD k true = true → ∀ e ∈ o.after, Region.binds .any e = true → listed.getD e.on false = true) (hr : k ∈ Region.ready .any ops listed) :
 ∀ k' o', ops[k']? = some o' → (listed.setIfInBounds k true).getD k' true = true → ∀ e ∈ o'.after, Region.binds .any e = true → (listed.setIfInBounds k true).getD e.on false = true := by
 intro k' o' ho' hl e he hb
 by_cases hk : k = k'
 · subst hk
   obtain ⟨_, o2, h2, hall⟩ := mem_ready.1 hr
   rw [ho'] at h2
   cases h2
   exact getD_set_true (hall e he hb)
 · rw [getD_set_ne true hk] at hl
   exact getD_set_true (hcl k' o' ho' hl e he hb)
theorem wpM_of_tr {C : World → Prop} (hsel : Region.noSelect ops = true) : ∀ (t : Tr) (listed : Array Bool) (a : Act) (w : World),
 trB ops t listed = true → (∀ k o, ops[k]? = some o → listed.getD k true = true → ∀ e ∈ o.after, Region.binds .any e = true → listed.getD e.on false = true) → listed.size = ops.size →
 wpTr P ops C (NoPanic Q) t listed a w → wpM P .any ops (fun _ w => C w) (NoPanic Q) t.len listed a w
 | .fin, listed, a, w, hB, _, _, h => ⟨h.1, by simpa [trB] using hB, h.2⟩
 | .q k r, listed, a, w, hB, hcl, hsz, h => by
   simp only [trB, Bool.and_eq_true] at hB
   obtain ⟨⟨⟨hq, hr⟩, hfree⟩, hB'⟩ := hB
   obtain ⟨o, v, ho, hy, hK⟩ := h
   have hkr : k ∈ Region.ready .any ops listed := by simpa using hr
   have hrest := wpM_of_tr hsel r _ _ w hB' (closed_set hcl hkr) (by simp [hsz]) hK
   have hheld : Held .any ops k listed := held_of_closed hcl hsz (mem_ready.1 hkr).1
   exact wpM_first ho (Region.noSelect_spec hsel) (fun l w hh hg => ⟨hg, hg⟩) r.len listed a w (fun j oj hj hne hun hno => Region.free_spec ho hfree j oj hj hne hun hno) hkr hheld hy hrest
 | .one k r, listed, a, w, hB, hcl, hsz, h => by
   simp only [trB, Bool.and_eq_true] at hB
   obtain ⟨⟨hq, hr⟩, hB'⟩ := hB
   have hr : Region.ready .any ops listed = [k] := by simpa using hr
   have hkr : k ∈ Region.ready .any ops listed := by rw [hr]; simp
   exact wpM_only hr h.1 (wpOp_mono (fun a' w' h' => wpM_of_tr hsel r _ a' w' hB' (closed_set hcl hkr) (by simp [hsz]) h') h.2)
 | .two k1 r1 k2 r2, listed, a, w, hB, hcl, hsz, h => by
   simp only [trB, Bool.and_eq_true] at hB
   obtain ⟨⟨⟨⟨⟨q1, q2⟩, hr⟩, hlen⟩, hB1⟩, hB2⟩ := hB
   have hr : Region.ready .any ops listed = [k1, k2] := by simpa using hr
   have hlen : r1.len = r2.len := by simpa using hlen
   have hk1 : k1 ∈ Region.ready .any ops listed := by rw [hr]; simp
   have hk2 : k2 ∈ Region.ready .any ops listed := by rw [hr]; simp
   refine ⟨h.1, fun h0 => (by rw [h0] at hk1; cases hk1), fun i hi => ?_⟩
   rw [hr] at hi
   simp only [List.mem_cons, List.not_mem_nil, or_false] at hi
   rcases hi with rfl | rfl
   · exact wpOp_mono (fun a' w' h' => wpM_of_tr hsel r1 _ a' w' hB1 (closed_set hcl hk1) (by simp [hsz]) h') h.2.1
   · have := wpOp_mono (fun a' w' h' => wpM_of_tr (C := C) hsel r2 _ a' w' hB2 (closed_set hcl hk2) (by simp [hsz]) h') h.2.2
     rw [← hlen] at this
     exact this
theorem wp_region_tr {id : Nat} {C : World → Prop} {t : Tr} {a : Act} {w : World} (hm : P.follows .mixedOrders = true) (hsel : Region.noSelect ops = true) (hlen : t.len = ops.size)
 (hB : trB ops t (Array.replicate ops.size false) = true) (h : wpTr P ops C (NoPanic Q) t (Array.replicate ops.size false) a { w with drawn := w.drawn + 1 }) : (Code.region id ops true).wp P Q a w := by
 have H := wpM_of_tr hsel t _ a _ hB (fun k o ho hl => by
  have hk := (Array.getElem?_eq_some_iff.1 ho).1
  simp [hk] at hl) (by simp) h
 rw [hlen] at H
 exact wp_region_noPanic (wp_region_any hm (wpAny_of_M (G := fun _ w => C w) _ _ _ _ H))
end
section
variable {P : Program} {E : EqT P} {F : Ft} {T T1 : List Nat} {ops : Array Oper}
def MT (E : EqT P) (F : Ft) (T T1 : List Nat) (ops : Array Oper) : Tr → Nat → (Exit → St → Prop) → St → Prop
 | .fin, b, Q, s => Q .normal ⟨s.t, s.h, b, s.n⟩
 | .q k r, b, Q, s => False
 | .one k r, b, Q, s => xops P F.tb T1 ops (opsAt ops [k]) s fun s' => s'.t.length ≤ 1000000 → MT E F T T1 ops r b Q s'
 | .two k1 r1 k2 r2, b, Q, s => (xops P F.tb T1 ops (opsAt ops [k1]) s fun s' => s'.t.length ≤ 1000000 → MT E F T T1 ops r1 b Q s') ∧ xops P F.tb T1 ops (opsAt ops [k2]) s fun s' => s'.t.length ≤ 1000000 → MT E F T T1 ops r2 b Q s'
def MTq (E : EqT P) (F : Ft) (T T1 : List Nat) (ops : Array Oper) (qs : List Nat) (r : Tr) (b : Nat) (Q : Exit → St → Prop) (s : St) : Prop :=
 xopsW P F.tb T1 ops qs s fun s1 => s1.t.length ≤ 1000000 → MT E F T T1 ops r b Q ⟨s1.t, s1.h, s1.n, s1.n⟩
variable {b : Nat} {Q : Exit → St → Prop} {s : St} {k k1 k2 : Nat} {r r1 r2 : Tr} {qs : List Nat}
theorem MTq.nil (h : MT E F T T1 ops r b Q ⟨s.t, s.h, s.n, s.n⟩) : MTq E F T T1 ops [] r b Q s := fun _ => h
theorem MTq.of (f : Nat) (hl : s.t.length ≤ 1000000) (hL : ldK T1 ops k s.t) (h : X E F T (fun _ s' => MTq E F T T1 ops qs r b Q s') f (.opsQ ops (opsAt ops [k])) [] s) : MTq E F T T1 ops (k :: qs) r b Q s := by
 refine ⟨hL, ?_⟩
 rw [X_eq] at h
 exact (Xi_sound f).2.2.2.1 ops _ [] s hl h
theorem MT.fin (h : Q .normal ⟨s.t, s.h, b, s.n⟩) : MT E F T T1 ops .fin b Q s := h
theorem MT.one (f : Nat) (hl : s.t.length ≤ 1000000) (h : X E F T1 (fun _ s' => MT E F T T1 ops r b Q s') f (.ops ops (opsAt ops [k])) [] s) : MT E F T T1 ops (.one k r) b Q s := by
 rw [X_eq] at h
 exact (Xi_sound f).2.2.1 ops _ [] s hl h
theorem MT.two (f : Nat) (hl : s.t.length ≤ 1000000) (h1 : X E F T1 (fun _ s' => MT E F T T1 ops r1 b Q s') f (.ops ops (opsAt ops [k1])) [] s) (h2 : X E F T1 (fun _ s' => MT E F T T1 ops r2 b Q s') f (.ops ops (opsAt ops [k2])) [] s) : MT E F T T1 ops (.two k1 r1 k2 r2) b Q s := by
 rw [X_eq] at h1 h2
 exact ⟨(Xi_sound f).2.2.1 ops _ [] s hl h1, (Xi_sound f).2.2.1 ops _ [] s hl h2⟩
end
section
variable {P : Program} {C : Tb} {E : EqT P} {F : Ft} {c c0 c' : Cx} {s s1 s2 : St} {a : Act} {w w0 w' : World} {h h0 h1 h' : AH} {n n' : Nat} {T T1 : List Nat} {ops : Array Oper} {Q : Exit → Act → World → Prop} {Cl : World → Prop}
theorem oB_some {k : Nat} (h : oB ops k = true) : ∃ o, ops[k]? = some o ∧ opsAt ops [k] = [o] := by
 unfold oB at h
 cases ho : ops[k]? with
 | none => simp [ho] at h
 | some o => exact ⟨o, rfl, by simp [opsAt, ho]⟩
theorem tr_one (hC : TbOk P C) {k : Nat} {K : St → Prop} {N : Act → World → Prop} (I : SI T c0 h0 w0 c s a w) (hl : s.t.length ≤ 1000000) (hk : oB ops k = true) (hx : xops P C T ops (opsAt ops [k]) s fun s' => s'.t.length ≤ 1000000 → K s')
 (hn : ∀ c' s' a' w', SI T c0 h0 w0 c' s' a' w' → s'.b = s.b → s'.t.length = s.t.length → K s' → N a' w') : wpOp P ops Q k N a w := by
 obtain ⟨o, ho, hat⟩ := oB_some hk
 rw [hat] at hx
 simp only [xops] at hx
 unfold wpOp
 simp only [ho]
 cases hg : o.guard with
 | none =>
   simp only [hg] at hx
   rw [if_pos (by simp [Region.wanted, hg])]
   exact .inl (aop_wp hC I (xop_aop hx) fun c' v r h' n' w' hr I' => hn _ _ _ _ I' rfl (putT_length _ _ _) (hr (by rw [putT_length]; exact hl)))
 | some jw =>
   obtain ⟨j, want⟩ := jw
   simp only [hg] at hx
   obtain ⟨d, hd, hx⟩ := onO_iff hx
   rcases onG_iff hx with ⟨q, hq, hx⟩ | ⟨hq, hx⟩
   case inr =>
    have hv := I.undef hq
    have hy : Region.wanted o (yielded ops a.tmps) = false := by
     simp only [Region.wanted, hg, yielded, hd, Option.bind_some, hv]
     rfl
    rw [if_neg (by rw [hy]; simp)]
    exact hn _ _ _ _ (I.next (d := o.dst) (v := undef) (r := .tup []) I.srep.wd (Ext.refl _ _ _) (Fr.refl _ _ _ _) undef_rep (Nat.le_refl _)) rfl (by rw [putT_length]) (hx (by rw [putT_length]; exact hl))
   have hv := I.bool hq
   have hy : Region.wanted o (yielded ops a.tmps) = (q == want) := by
    simp only [Region.wanted, hg, yielded, hd, Option.bind_some, hv]
    cases q <;> cases want <;> rfl
   have I1 : SI T c0 h0 w0 c { s with t := s.t.set d (.d (.v (.bool q))) } a w := I.setT fun v hv' => by rw [hv] at hv'; cases hv'; exact .d _ _ (.v _ rfl)
   have hll : ∀ r : AV, (putT (s.t.set d (.d (.v (.bool q)))) o.dst r).length = s.t.length := fun r => by rw [putT_length]; simp
   have skip : (K ⟨putT (s.t.set d (.d (.v (.bool q)))) o.dst (.tup []), s.h, s.b, s.n⟩) → N (a.put o.dst undef) w := fun hK =>
    hn _ _ _ _ (I1.next (d := o.dst) (v := undef) (r := .tup []) I1.srep.wd (Ext.refl _ _ _) (Fr.refl _ _ _ _) undef_rep (Nat.le_refl _)) rfl (hll _) hK
   cases want <;> cases q
   · rw [if_pos (by rw [hy]; rfl)]
     exact .inl (aop_wp hC I1 (xop_aop (hx.2 rfl)) fun c' v r h' n' w' hr I' => hn _ _ _ _ I' rfl (hll _) (hr (by show (putT _ _ _).length ≤ _; rw [hll]; exact hl)))
   · rw [if_neg (by rw [hy]; simp)]
     exact skip (hx.1 rfl (by show (putT _ _ _).length ≤ _; rw [hll]; exact hl))
   · rw [if_neg (by rw [hy]; simp)]
     exact skip (hx.2 rfl (by show (putT _ _ _).length ≤ _; rw [hll]; exact hl))
   · rw [if_pos (by rw [hy]; rfl)]
     exact .inl (aop_wp hC I1 (xop_aop (hx.1 rfl)) fun c' v r h' n' w' hr I' => hn _ _ _ _ I' rfl (hll _) (hr (by show (putT _ _ _).length ≤ _; rw [hll]; exact hl)))
theorem tr_walk (hC : TbOk P F.tb) {Qs : Exit → St → Prop} {b n0 L : Nat} (hL : L ≤ 1000000)
 (fin : ∀ c3 s3 a3 w3, SI T1 c h1 w c3 s3 a3 w3 → s3.b = n0 → s3.t.length = L → Qs .normal ⟨s3.t, s3.h, b, s3.n⟩ → Q .normal a3 w3) :
 ∀ (t : Tr) (c2 : Cx) (s2 : St) (a2 : Act) (w2 : World) (listed : Array Bool), SI T1 c h1 w c2 s2 a2 w2 → s2.b = n0 → s2.t.length = L → trB ops t listed = true → MT E F T T1 ops t b Qs s2 → wpTr P ops (SameBut T1 c h1 w) Q t listed a2 w2
 | .fin, c2, s2, a2, w2, listed, J, hb, hl, hB, hM => ⟨fun b hb hne => J.fr.far b hb hne, fin c2 s2 a2 w2 J hb hl hM⟩
 | .q k r, c2, s2, a2, w2, listed, J, hb, hl, hB, hM => hM.elim
 | .one k r, c2, s2, a2, w2, listed, J, hb, hl, hB, hM => by
   simp only [trB, Bool.and_eq_true] at hB
   obtain ⟨⟨hk, _⟩, hB'⟩ := hB
   exact ⟨fun b hb hne => J.fr.far b hb hne, tr_one hC J (by omega) hk hM fun c' s' a' w' J' e1 e2 hK => tr_walk hC hL fin r c' s' a' w' _ J' (e1.trans hb) (e2.trans hl) hB' hK⟩
 | .two k1 r1 k2 r2, c2, s2, a2, w2, listed, J, hb, hl, hB, hM => by
   simp only [trB, Bool.and_eq_true] at hB
   obtain ⟨⟨⟨⟨⟨hk1, hk2⟩, _⟩, _⟩, hB1⟩, hB2⟩ := hB
   exact ⟨fun b hb hne => J.fr.far b hb hne, tr_one hC J (by omega) hk1 hM.1 fun c' s' a' w' J' e1 e2 hK => tr_walk hC hL fin r1 c' s' a' w' _ J' (e1.trans hb) (e2.trans hl) hB1 hK,
    tr_one hC J (by omega) hk2 hM.2 fun c' s' a' w' J' e1 e2 hK => tr_walk hC hL fin r2 c' s' a' w' _ J' (e1.trans hb) (e2.trans hl) hB2 hK⟩
theorem tr_qs {K : St → Prop} {r : Tr} : ∀ (qs : List Nat) (s : St) (a : Act) (listed : Array Bool), SI T c0 h0 w0 c s a w → s.t.length ≤ 1000000 → trB ops (qs.foldr Tr.q r) listed = true → xopsW P C T1 ops qs s K →
 (∀ s' a' l', SI T c0 h0 w0 c s' a' w → s'.b = s.b → s'.h = s.h → s'.n = s.n → s'.t.length = s.t.length → trB ops r l' = true → K s' → wpTr P ops (SameBut T1 c s.h w) Q r l' a' w) → wpTr P ops (SameBut T1 c s.h w) Q (qs.foldr Tr.q r) listed a w
 | [], s, a, listed, I, _, hB, hK, hn => hn s a listed I rfl rfl rfl rfl hB hK
 | k :: qs, s, a, listed, I, hsl, hB, hK, hn => by
   simp only [List.foldr_cons, trB, Bool.and_eq_true] at hB
   obtain ⟨⟨⟨hq, _⟩, _⟩, hB'⟩ := hB
   obtain ⟨o, ho, hg, hat⟩ : ∃ o, ops[k]? = some o ∧ o.guard = none ∧ opsAt ops [k] = [o] := by
    unfold qB at hq
    cases ho : ops[k]? with
    | none => simp [ho] at hq
    | some o => exact ⟨o, rfl, by simp [ho] at hq; exact hq.1, by simp [opsAt, ho]⟩
   obtain ⟨hL, hK⟩ := hK
   simp only [ho] at hL
   rw [hat] at hK
   simp only [xopsQ, hg] at hK
   obtain ⟨v, rr, h1, h2, h3⟩ := quiet_QYW (ops := ops) I hg hL (xopQ_aopQ hK)
   refine ⟨o, v, ho, ?_, ?_⟩
   · rcases h1 with ⟨g1, g2⟩ | g
     · exact .inl ⟨g1, fun w' hw' => g2 w' (.inr hw')⟩
     · exact .inr g
   · refine tr_qs qs { s with t := putT s.t o.dst rr } _ _ (I.next (d := o.dst) (v := v) I.srep.wd (Ext.refl _ _ _) (Fr.refl _ _ _ _) h2 (Nat.le_refl _)) (by simp only [putT_length]; exact hsl) hB' (h3 (by simp only [putT_length]; exact hsl)) fun s' a' l' I' e1 e2 e3 e4 hB2 hK' => ?_
     exact hn s' a' l' I' e1 e2 e3 (e4.trans (putT_length _ _ _)) hB2 hK'
theorem AW.treeX {id : Nat} {Qs : Exit → St → Prop} (T1 qs : List Nat) (r : Tr) (hm : P.follows .mixedOrders = true) (hB : (Region.noSelect ops && ((qs.foldr Tr.q r).len == ops.size) && trB ops (qs.foldr Tr.q r) (Array.replicate ops.size false)) = true)
 (hl : s.t.length ≤ 1000000) (hT1 : ∀ i, i ∈ T1 → i ∈ T ∨ s.b ≤ i) (h : MTq E F T T1 ops qs r s.b Qs s) : AW P F.tb T (.region id ops true) Qs s := by
 simp only [Bool.and_eq_true, beq_iff_eq] at hB
 obtain ⟨⟨hsel, hlen⟩, hB⟩ := hB
 intro c0 h0 w0 c a w hC I
 have I1 := I.drew
 refine wp_region_tr (C := SameBut T1 c s.h { w with drawn := w.drawn + 1 }) (t := qs.foldr Tr.q r) hm hsel hlen hB ?_
 refine tr_qs qs s a _ I1 hl hB h fun s1 a1 l1 J1 e1 e2 e3 e4 hB2 hK => ?_
 have base : SI T1 c s.h { w with drawn := w.drawn + 1 } c ⟨s1.t, s1.h, s1.n, s1.n⟩ a1 { w with drawn := w.drawn + 1 } :=
  ⟨⟨J1.srep.size, J1.srep.tmp, J1.srep.defers, J1.srep.wd⟩, by rw [e2]; exact Ext.refl _ _ _, by rw [e2]; exact Fr.refl _ _ _ _, fun i hi => by rw [← e2]; exact J1.srep.wd.new i hi, Nat.le_refl _⟩
 refine tr_walk (n0 := s1.n) (L := s.t.length) hC hl (fun c3 s3 a3 w3 J f1 f2 hQ => ?_) r c ⟨s1.t, s1.h, s1.n, s1.n⟩ a1 _ l1 base rfl e4 hB2 (hK (by rw [e4]; exact hl))
 refine ⟨c3, ⟨s3.t, s3.h, s.b, s3.n⟩, ⟨⟨J.srep.size, J.srep.tmp, J.srep.defers, J.srep.wd⟩, ?_, ?_, I.new0, ?_⟩, rfl, f2, hQ⟩
 · have g := J1.ext
   rw [e2] at g
   exact g.trans J.ext
 · have g := J1.fr
   have g2 := J1.ext
   rw [e2] at g g2
   refine ⟨fun b hb hne => (J.fr.far b (Nat.lt_of_lt_of_le hb g2.size) (fun i hi e => ?_)).trans (g.far b hb hne), fun i b e hb => g.old i b (J.fr.old i b e (Nat.lt_of_lt_of_le hb g2.size)) hb⟩
   have := g.old i b e hb
   rcases hT1 i hi with hi | hi
   · exact hne i hi this
   · rw [I.new0 i hi] at this; cases this
 · have g1 := J.le
   have g2 := I.le
   simp only at g1 f1 ⊢
   omega
end
section
variable {P : Program} {c c0 c' : Cx} {s s1 s2 : St} {a : Act} {w w0 w' : World} {h h0 h' : AH} {n n' : Nat} {T : List Nat}
theorem nil_own (c : Cx) (h : AH) (w : World) (n z : Nat) : ARep { c with τ := upd c.τ n (none, 0) } (upd h n (.tok 0 z)) w (.slice none 0 0) (.own n z []) := by
 have hd : DRep { c with τ := upd c.τ n (none, 0) } w (.slice none ([] : List (List DV)).length 0) (.sl z []) := .sl none 0 z [] (fun _ _ => .bool false) (Nat.le_refl _) (by simp) (fun a ha => by cases ha) (fun _ => ⟨rfl, rfl⟩) (fun a ha => by cases ha) (fun i j row x hi => by simp at hi)
 exact .own none 0 n z [] 0 hd (upd_same _ _ _) (Nat.le_refl _) (fun _ => upd_same _ _ _)
theorem Wk.nil {t : List AV} {b j : Nat} (z : Nat) (hj : t[j]? = some (.d (.v (.slice none 0 0)))) : Wk T ⟨t, h, b, n⟩ ⟨t.set j (.own n z []), upd h n (.tok 0 z), b, n + 1⟩ := by
 refine ⟨rfl, by simp, fun c0 h0 w0 c a w I => ⟨{ c with τ := upd c.τ n (none, 0) }, ?_⟩⟩
 obtain ⟨g1, g2⟩ := I.srep.wd.newNil z
 have hfr := newNil_fr (T := may T b) I.srep.wd z
 have I2 := I.next (d := none) (v := .bool false) (r := .any) g1 g2 hfr (.any _) (Nat.le_succ _)
 refine I2.setT (d := j) (r := .own n z []) fun v hv => ?_
 have hv' : a.tmps[j]? = some v := hv
 have := I.srep.tmp j v _ hv' hj
 obtain rfl := cval_rep this rfl
 exact nil_own c h w n z
end
end Go.R
end
section
namespace Go.Proofs.YtfhpecgknmfnnaaGreatDoor.M
open Go.R Go.Proofs.YtfhpecgknmfnnaaGreatDoorW.PrintWords Go.Proofs.YtfhpecgknmfnnaaGreatDoorW.PrintMore
theorem noGuardV : Tryz.prog.eqGuardType Tryz.prog.depth 23 = false := by kernel_rfl
theorem equalIn_val (a a' : ByteArray) (n n' : Int) (w : World) : (Op.equalIn 10000 23 (.agg #[.string a, .int .i64 n]) (.agg #[.string a', .int .i64 n'])).run Tryz.prog w = .ok (a.toList == a'.toList && n == n') w := by
 rw [run_equalIn_agg w 9999 _ _ _ undV heldV, eqFields_map, e2]
 simp [go_sem, eqF3, und_s, und_i]
 by_cases h1 : a.toList = a'.toList <;> by_cases h3 : n = n' <;> simp [*]
def eqTV : EqT Tryz.prog := ⟨fun t us vs => if t = 23 then (match us, vs with
    | [.string a, .int .i64 n], [.string a', .int .i64 n'] => some (a.toList == a'.toList && n == n')
    | _, _ => none) else eqT.eq t us vs, fun t us vs b h op x y w => by
 split at h
 · rename_i e
   subst e
   split at h
   · cases h
     refine ⟨?_, ?_⟩ <;> (rintro rfl; simp only [Sem.run_bind, run_eqGuard_agg _ _ _ _ _ _ _ noGuardV, Result.andThen_ok, run_eql_struct, run_neq_struct, equalIn_val])
   · cases h
 · exact eqT.ok t us vs b h op x y w⟩
@[go_sem] theorem eqTV_val (a a' : ByteArray) (n n' : Int) : eqTV.eq 23 [.string a, .int .i64 n] [.string a', .int .i64 n'] = some (a.toList == a'.toList && n == n') := rfl
@[go_sem] theorem eqTV_term (a b a' b' : ByteArray) (n n' : Int) : eqTV.eq 25 [.string a, .string b, .int .i64 n] [.string a', .string b', .int .i64 n'] = some (a.toList == a'.toList && (b.toList == b'.toList && n == n')) := rfl
def szS (s : ByteArray) : Prop := s.size ≤ 1099511627776
def szT (t : Term) : Prop := szS t.var
def szL (l : Lit) : Prop := szT l.who ∧ l.args.length ≤ 1099511627776 ∧ ∀ t ∈ l.args, szT t
def szC (c : Clause) : Prop := szL c.head ∧ c.body.length ≤ 1099511627776 ∧ ∀ l ∈ c.body, szL l
abbrev lexOneS : Fs := .pureIf (g2p aStr aI64 fun s p => szS s ∧ 0 ≤ p) (g2 aStr aI64 fun s p => .tup [(oneT s p.toNat).1.av, vI (oneT s p.toNat).2])
theorem lexOne_ok : FsOk Tryz.prog 39 lexOneS := by
 refine FsOk.of_calls Tryz.func39 rfl (by kernel_rfl) ?_
 intro args r hp h
 obtain ⟨x, y, s, p, rfl, hx, hy, rfl⟩ := g2_eq h
 obtain rfl := aStr_eq hx
 have hy' : y = vI p := by
  unfold aI64 at hy
  split at hy
  · cases hy; rfl
  · cases hy
 subst hy'
 obtain ⟨hs, hp0⟩ := hp s rfl p rfl
 obtain ⟨q, rfl⟩ := Int.eq_ofNat_of_zero_le hp0
 refine ⟨[.string s, .int .i64 q], .tuple #[.agg #[.int .u8 (oneT s q).1.kind, .int .i64 (oneT s q).1.lo, .int .i64 (oneT s q).1.hi], .int .i64 (oneT s q).2], rfl, fun c h w => ?_, fun w => one_calls s q w (by unfold szS at hs; unfold maxLen; omega)⟩
 refine .tup [.agg #[.int .u8 (oneT s q).1.kind, .int .i64 (oneT s q).1.lo, .int .i64 (oneT s q).1.hi], .int .i64 (oneT s q).2] [(oneT s q).1.av, vI (oneT s q).2] rfl fun j v x hv hx => ?_
 match j with
 | 0 =>
   simp only [List.getElem?_cons_zero, Option.some.injEq] at hv hx
   subst hv; subst hx
   refine .agg [.int .u8 (oneT s q).1.kind, .int .i64 (oneT s q).1.lo, .int .i64 (oneT s q).1.hi] [.d (.v (.int .u8 (oneT s q).1.kind)), .d (.v (.int .i64 (oneT s q).1.lo)), .d (.v (.int .i64 (oneT s q).1.hi))] rfl fun j v x hv hx => ?_
   match j with
   | 0 => simp only [List.getElem?_cons_zero, Option.some.injEq] at hv hx; subst hv; subst hx; exact .d _ _ (.v _ rfl)
   | 1 => simp only [List.getElem?_cons_succ, List.getElem?_cons_zero, Option.some.injEq] at hv hx; subst hv; subst hx; exact .d _ _ (.v _ rfl)
   | 2 => simp only [List.getElem?_cons_succ, List.getElem?_cons_zero, Option.some.injEq] at hv hx; subst hv; subst hx; exact .d _ _ (.v _ rfl)
   | j + 3 => simp at hv
 | 1 =>
   simp only [List.getElem?_cons_succ, List.getElem?_cons_zero, Option.some.injEq] at hv hx
   subst hv; subst hx
   exact .d _ _ (.v _ rfl)
 | j + 2 => simp at hv
abbrev variableS : Fs := .pureIf (g1p aStr szS) (g1 aStr fun s => vB (varB s))
abbrev ptermS : Fs := .pureIf (g1p aTerm szT) (g1 aTerm fun t => vB (termB t))
abbrev notTermS : Fs := .pureIf (g1p aTerm szT) (g1 aTerm fun t => vB (!termB t))
def aFn (f : FuncId) : AV → Option Unit
 | .fn (.func g) [] [] => if g = f then some () else none
 | _ => none
theorem aFn_le {f : FuncId} {x : AV} {u : Unit} (h : aFn f x = some u) : AV.le x (.fn (.func f) [] []) := by
 unfold aFn at h
 split at h
 · split at h
   · rename_i e; subst e; exact AV.le.refl _
   · cases h
 · cases h
@[go_sem] theorem aFn_self (f : FuncId) : aFn f (.fn (.func f) [] []) = some () := by simp [aFn]
def idxL {α : Type} (p : α → Bool) (l : List α) : Int := if l.any p then ((l.findIdx p : Nat) : Int) else -1
abbrev idxTermS : Fs := .pureIf (g2p aTerms (aFn 99) fun l _ => l.length ≤ 1099511627776 ∧ ∀ t ∈ l, szT t) (g2 aTerms (aFn 99) fun l _ => vI (idxL (fun t => !termB t) l))
abbrev hasTermS : Fs := .pureIf (g2p aTerms (aFn 99) fun l _ => l.length ≤ 1099511627776 ∧ ∀ t ∈ l, szT t) (g2 aTerms (aFn 99) fun l _ => vB (l.any fun t => !termB t))
abbrev patomS : Fs := .pureIf (g1p aLit szL) (g1 aLit fun l => vB (saidB l))
abbrev pliteralS : Fs := .pureIf (g1p aLit szL) (g1 aLit fun l => vB (literalB l))
abbrev pcheckLitS : Fs := .pureIf (g1p aLit szL) (g1 aLit fun l => vB (checkLitB l))
abbrev notLitS : Fs := .pureIf (g1p aLit szL) (g1 aLit fun l => vB (!literalB l))
abbrev idxLitS : Fs := .pureIf (g2p aLits (aFn 67) fun l _ => l.length ≤ 1099511627776 ∧ ∀ t ∈ l, szL t) (g2 aLits (aFn 67) fun l _ => vI (idxL (fun t => !literalB t) l))
abbrev hasLitS : Fs := .pureIf (g2p aLits (aFn 67) fun l _ => l.length ≤ 1099511627776 ∧ ∀ t ∈ l, szL t) (g2 aLits (aFn 67) fun l _ => vB (l.any fun t => !literalB t))
abbrev pcheckS : Fs := .pureIf (g1p aClause szC) (g1 aClause fun c => vB (checkB c))
theorem idx_ge {α : Type} (p : α → Bool) (l : List α) : decide ((0 : Int) ≤ idxL p l) = l.any p := by
 unfold idxL
 cases h : l.any p with
 | true => simp
 | false => simp
theorem idx_hit {α : Type} {p : α → Bool} {l : List α} {k : Nat} (hk : k < l.length) (hp : p l[k] = true) (h : ∀ i, (hi : i < k) → p (l[i]'(by omega)) = false) : idxL p l = k := by
 unfold idxL
 have ha : l.any p = true := List.any_eq_true.2 ⟨l[k], List.getElem_mem hk, hp⟩
 rw [if_pos ha]
 congr 1
 exact (List.findIdx_eq hk).2 ⟨hp, fun j hj => h j hj⟩
theorem idx_miss {α : Type} {p : α → Bool} {l : List α} (h : ∀ i, (hi : i < l.length) → p l[i] = false) : idxL p l = -1 := by
 unfold idxL
 have ha : l.any p = false := by
  rw [List.any_eq_false]
  intro x hx
  obtain ⟨i, hi, rfl⟩ := List.getElem_of_mem hx
  simp [h i hi]
 rw [ha]
 rfl
set_option maxRecDepth 10000 in
set_option maxHeartbeats 2000000 in
theorem variable_ok : FsOk Tryz.prog 121 variableS := by
 refine of_Y1 (E := EqT.no _) (F := Ft.no.put 39 lexOneS) vS (fun _ _ => aStr_le) Tryz.func121 rfl (by kernel_rfl) [.tmp 2] rfl Tryz.ntmps121 (by decide) ((FtOk.no _).put lexOne_ok) ?_
 intro s h n hp hok
 have hv := var_law s
 repeat' (first | (with_reducible first | refine XG_split (fun hq => ?_) (fun hq => ?_) | refine MX1.of 4000 (by simp) ?_ | refine MX2.of 4000 (by simp) ?_ | refine And.intro ?_ ?_) | ((with_reducible first | refine Or.inl (And.intro (And.intro mixedP ?_) ?_) | refine Or.inl (And.intro mixedP ?_)); kernel_rfl) | simp only [go_sem,Nat.reduceEqDiff,Nat.reduceAdd,Nat.reduceMul,Nat.reduceLeDiff,Int.reduceBEq,Tok.av])
 all_goals first | exact ⟨hp, Int.le_refl _⟩ | skip
 all_goals first | omega | (unfold maxLen; omega) | (right; omega) | (left; simp; done) | (simp only [wk3,wkL2,wk2,wkL,wk1_d,wk1_own,wk1_nil,and_self]; done) | (intro i hi; simp only [upd]; (repeat' split); all_goals first | rfl | omega) | skip
 all_goals (refine wk_v (congrArg Value.bool ?_); rw [← hv]; simp [*])
set_option maxRecDepth 10000 in
set_option maxHeartbeats 2000000 in
theorem pterm_ok : FsOk Tryz.prog 97 ptermS := by
 refine of_Y1 (E := eqTV) (F := (Ft.no.put 121 variableS).put 122 goodS) Term.av (fun _ _ => aTerm_le) Tryz.func97 rfl (by kernel_rfl) [.tmp 2] rfl Tryz.ntmps97 (by decide) (((FtOk.no _).put variable_ok).put good_ok) ?_
 intro t h n hp hok
 cases hv : t.var.size == 0 with
 | true =>
   have hT : termB t = goodV t.val := by unfold termB; rw [if_neg (by have := beq_iff_eq.1 hv; omega)]
   repeat' (first | (with_reducible first | refine XG_split (fun hq => ?_) (fun hq => ?_) | refine MX1.of 4000 (by simp) ?_ | refine MX2.of 4000 (by simp) ?_ | refine And.intro ?_ ?_) | ((with_reducible first | refine Or.inl (And.intro (And.intro mixedP ?_) ?_) | refine Or.inl (And.intro mixedP ?_)); kernel_rfl) | simp only [go_sem,Nat.reduceEqDiff,Nat.reduceAdd,Nat.reduceMul,Nat.reduceLeDiff,Int.reduceBEq,Term.av,empty_str,hv,hT,cvals,cval])
   all_goals first | omega | (unfold maxLen; omega) | (right; omega) | (left; simp; done) | (simp only [wk3,wkL2,wk2,wkL,wk1_d,wk1_own,wk1_nil,and_self]; done) | (intro i hi; simp only [upd]; (repeat' split); all_goals first | rfl | omega) | skip
 | false =>
   have hT : termB t = (varB t.var && (t.val.sym.size == 0 && t.val.num == 0)) := by unfold termB; rw [if_pos (by have := beq_eq_false_iff_ne.1 hv; omega)]
   cases hw : (t.val.sym.size == 0 && t.val.num == 0) with
   | true =>
     repeat' (first | (with_reducible first | refine XG_split (fun hq => ?_) (fun hq => ?_) | refine MX1.of 4000 (by simp) ?_ | refine MX2.of 4000 (by simp) ?_ | refine And.intro ?_ ?_) | ((with_reducible first | refine Or.inl (And.intro (And.intro mixedP ?_) ?_) | refine Or.inl (And.intro mixedP ?_)); kernel_rfl) | simp only [go_sem,Nat.reduceEqDiff,Nat.reduceAdd,Nat.reduceMul,Nat.reduceLeDiff,Int.reduceBEq,Term.av,empty_str,hv,hT,hw,cvals,cval,Bool.and_true,Bool.and_false])
     all_goals first | exact hp | skip
     all_goals first | omega | (unfold maxLen; omega) | (right; omega) | (left; simp; done) | (simp only [wk3,wkL2,wk2,wkL,wk1_d,wk1_own,wk1_nil,and_self]; done) | (intro i hi; simp only [upd]; (repeat' split); all_goals first | rfl | omega) | skip
   | false =>
     repeat' (first | (with_reducible first | refine XG_split (fun hq => ?_) (fun hq => ?_) | refine MX1.of 4000 (by simp) ?_ | refine MX2.of 4000 (by simp) ?_ | refine And.intro ?_ ?_) | ((with_reducible first | refine Or.inl (And.intro (And.intro mixedP ?_) ?_) | refine Or.inl (And.intro mixedP ?_)); kernel_rfl) | simp only [go_sem,Nat.reduceEqDiff,Nat.reduceAdd,Nat.reduceMul,Nat.reduceLeDiff,Int.reduceBEq,Term.av,empty_str,hv,hT,hw,cvals,cval,Bool.and_true,Bool.and_false])
     all_goals first | omega | (unfold maxLen; omega) | (right; omega) | (left; simp; done) | (simp only [wk3,wkL2,wk2,wkL,wk1_d,wk1_own,wk1_nil,and_self]; done) | (intro i hi; simp only [upd]; (repeat' split); all_goals first | rfl | omega) | skip
set_option maxRecDepth 10000 in
set_option maxHeartbeats 2000000 in
theorem notTerm_ok : FsOk Tryz.prog 99 notTermS := by
 refine of_Y1 (E := EqT.no _) (F := Ft.no.put 97 ptermS) Term.av (fun _ _ => aTerm_le) Tryz.func99 rfl (by kernel_rfl) [.tmp 2] rfl Tryz.ntmps99 (by decide) ((FtOk.no _).put pterm_ok) ?_
 intro t h n hp hok
 repeat' (first | (with_reducible first | refine XG_split (fun hq => ?_) (fun hq => ?_) | refine MX1.of 4000 (by simp) ?_ | refine MX2.of 4000 (by simp) ?_ | refine And.intro ?_ ?_) | ((with_reducible first | refine Or.inl (And.intro (And.intro mixedP ?_) ?_) | refine Or.inl (And.intro mixedP ?_)); kernel_rfl) | simp only [go_sem,Nat.reduceEqDiff,Nat.reduceAdd,Nat.reduceMul,Nat.reduceLeDiff,Int.reduceBEq,Term.av])
 all_goals first | exact hp | skip
 all_goals first | omega | (unfold maxLen; omega) | (right; omega) | (left; simp; done) | (simp only [wk3,wkL2,wk2,wkL,wk1_d,wk1_own,wk1_nil,and_self]; done) | (intro i hi; simp only [upd]; (repeat' split); all_goals first | rfl | omega) | skip
set_option maxRecDepth 10000 in
set_option maxHeartbeats 2000000 in
theorem idxTerm_ok : FsOk Tryz.prog 123 idxTermS := by
 refine of_Y2 (E := EqT.no _) (F := Ft.no.put 99 notTermS) (fun l => .d (.sl 3 (l.map Term.cells))) (fun _ => .fn (.func 99) [] []) (fun _ _ => aTerms_le) (fun _ _ => aFn_le) Tryz.func123 rfl (by kernel_rfl) [.tmp 4] rfl Tryz.ntmps123 (by decide) ((FtOk.no _).put notTerm_ok) ?_
 intro l u h n hp hok
 obtain ⟨hl, hsz⟩ := hp
 repeat' (first | (with_reducible first | refine XG_split (fun hq => ?_) (fun hq => ?_) | refine MX1.of 4000 (by simp) ?_ | refine MX2.of 4000 (by simp) ?_ | refine And.intro ?_ ?_) | ((with_reducible first | refine Or.inl (And.intro (And.intro mixedP ?_) ?_) | refine Or.inl (And.intro mixedP ?_)); kernel_rfl) | simp only [go_sem,Nat.reduceEqDiff,Nat.reduceAdd,Nat.reduceMul,Nat.reduceLeDiff,Int.reduceBEq])
 all_goals first | omega | (unfold maxLen; omega) | (right; omega) | (left; simp; done) | (simp only [wk3,wkL2,wk2,wkL,wk1_d,wk1_own,wk1_nil,and_self]; done) | (intro i hi; simp only [upd]; (repeat' split); all_goals first | rfl | omega) | skip
 refine AW.loopJ (E := EqT.no _) (S := fun k : Nat => ⟨fr [(0, .d (.sl 3 (l.map Term.cells))), (1, .fn (.func 99) [] []), (7, vI l.length), (8, vI k)] (List.replicate 19 .any), h, n, n⟩) (I := fun k => k ≤ l.length ∧ ∀ i, (hi : i < k) → (hl : i < l.length) → (!termB l[i]) = false) (μ := fun k => l.length - k) 0 ⟨Nat.zero_le _, fun i hi => absurd hi (Nat.not_lt_zero i)⟩ ?_ 4000 (fun _ => by simp only [fr_len, List.length_replicate]; decide) ?_
 · exact Wk.same (by simp only [go_sem]) hok (Nat.le_refl _) (by simp only [go_sem])
 · rintro k ⟨hk, hA⟩
   rcases Nat.lt_or_ge k l.length with hkl | hkl
   · have hs := hsz _ (List.getElem_mem hkl)
     cases hq : !termB l[k] with
     | true =>
       have hR := idx_hit (p := fun t => !termB t) hkl hq fun i hi => hA i hi (by omega)
       repeat' (first | (with_reducible first | refine XG_split (fun hq => ?_) (fun hq => ?_) | refine MX1.of 4000 (by simp) ?_ | refine MX2.of 4000 (by simp) ?_ | refine And.intro ?_ ?_) | ((with_reducible first | refine Or.inl (And.intro (And.intro mixedP ?_) ?_) | refine Or.inl (And.intro mixedP ?_)); kernel_rfl) | simp only [go_sem,Nat.reduceEqDiff,Nat.reduceAdd,Nat.reduceMul,Nat.reduceLeDiff,Int.reduceBEq,decide_eq_true hkl,List.getElem?_eq_getElem hkl,hq,hR,Term.av,Lit.av])
       all_goals first | exact hs | skip
       all_goals first | omega | (unfold maxLen; omega) | (right; omega) | (left; simp; done) | (simp only [wk3,wkL2,wk2,wkL,wk1_d,wk1_own,wk1_nil,and_self]; done) | (intro i hi; simp only [upd]; (repeat' split); all_goals first | rfl | omega) | skip
     | false =>
       repeat' (first | (with_reducible first | refine XG_split (fun hq => ?_) (fun hq => ?_) | refine MX1.of 4000 (by simp) ?_ | refine MX2.of 4000 (by simp) ?_ | refine And.intro ?_ ?_) | ((with_reducible first | refine Or.inl (And.intro (And.intro mixedP ?_) ?_) | refine Or.inl (And.intro mixedP ?_)); kernel_rfl) | simp only [go_sem,Nat.reduceEqDiff,Nat.reduceAdd,Nat.reduceMul,Nat.reduceLeDiff,Int.reduceBEq,decide_eq_true hkl,List.getElem?_eq_getElem hkl,hq,Term.av,Lit.av])
       all_goals first | exact hs | skip
       all_goals first | omega | (unfold maxLen; omega) | (right; omega) | (left; simp; done) | (simp only [wk3,wkL2,wk2,wkL,wk1_d,wk1_own,wk1_nil,and_self]; done) | (intro i hi; simp only [upd]; (repeat' split); all_goals first | rfl | omega) | skip
       refine ⟨k + 1, ⟨hkl, fun i hi hil => ?_⟩, Wk.same (by simp only [go_sem]) hok (Nat.le_refl _) (by simp only [go_sem]), by omega⟩
       rcases Nat.lt_or_ge i k with h' | h'
       · exact hA i h' hil
       · obtain rfl : i = k := by omega
         exact hq
   · have hR := idx_miss (p := fun t => !termB t) (l := l) fun i hi => hA i (by omega) hi
     repeat' (first | (with_reducible first | refine XG_split (fun hq => ?_) (fun hq => ?_) | refine MX1.of 4000 (by simp) ?_ | refine MX2.of 4000 (by simp) ?_ | refine And.intro ?_ ?_) | ((with_reducible first | refine Or.inl (And.intro (And.intro mixedP ?_) ?_) | refine Or.inl (And.intro mixedP ?_)); kernel_rfl) | simp only [go_sem,Nat.reduceEqDiff,Nat.reduceAdd,Nat.reduceMul,Nat.reduceLeDiff,Int.reduceBEq,decide_eq_false (Nat.not_lt.2 hkl),hR])
     all_goals first | omega | (unfold maxLen; omega) | (right; omega) | (left; simp; done) | (simp only [wk3,wkL2,wk2,wkL,wk1_d,wk1_own,wk1_nil,and_self]; done) | (intro i hi; simp only [upd]; (repeat' split); all_goals first | rfl | omega) | skip
set_option maxRecDepth 10000 in
set_option maxHeartbeats 2000000 in
theorem hasTerm_ok : FsOk Tryz.prog 98 hasTermS := by
 refine of_Y2 (E := EqT.no _) (F := Ft.no.put 123 idxTermS) (fun l => .d (.sl 3 (l.map Term.cells))) (fun _ => .fn (.func 99) [] []) (fun _ _ => aTerms_le) (fun _ _ => aFn_le) Tryz.func98 rfl (by kernel_rfl) [.tmp 4] rfl Tryz.ntmps98 (by decide) ((FtOk.no _).put idxTerm_ok) ?_
 intro l u h n hp hok
 repeat' (first | (with_reducible first | refine XG_split (fun hq => ?_) (fun hq => ?_) | refine MX1.of 4000 (by simp) ?_ | refine MX2.of 4000 (by simp) ?_ | refine And.intro ?_ ?_) | ((with_reducible first | refine Or.inl (And.intro (And.intro mixedP ?_) ?_) | refine Or.inl (And.intro mixedP ?_)); kernel_rfl) | simp only [go_sem,Nat.reduceEqDiff,Nat.reduceAdd,Nat.reduceMul,Nat.reduceLeDiff,Int.reduceBEq,aFn_self,idx_ge])
 all_goals first | exact hp | exact hp.1 | exact hp.2 | skip
 all_goals first | omega | (unfold maxLen; omega) | (right; omega) | (left; simp; done) | (simp only [wk3,wkL2,wk2,wkL,wk1_d,wk1_own,wk1_nil,and_self]; done) | (intro i hi; simp only [upd]; (repeat' split); all_goals first | rfl | omega) | skip
set_option maxRecDepth 10000 in
set_option maxHeartbeats 2000000 in
theorem patom_ok : FsOk Tryz.prog 69 patomS := by
 refine of_Y1 (E := EqT.no _) (F := ((Ft.no.put 36 nameS).put 97 ptermS).put 98 hasTermS) Lit.av (fun _ _ => aLit_le) Tryz.func69 rfl (by kernel_rfl) [.tmp 2] rfl Tryz.ntmps69 (by decide) ((((FtOk.no _).put name_ok).put pterm_ok).put hasTerm_ok) ?_
 intro l h n hp hok
 obtain ⟨hw, hl, ha⟩ := hp
 have hany : (!(l.args.any fun t => !termB t)) = termsB l.args := by
  unfold termsB
  rw [List.all_eq_not_any_not]
 cases hN : nameB l.pred with
 | false =>
   have hS : saidB l = false := by unfold saidB; rw [hN]; simp
   repeat' (first | (with_reducible first | refine XG_split (fun hq => ?_) (fun hq => ?_) | refine MX1.of 4000 (by simp) ?_ | refine MX2.of 4000 (by simp) ?_ | refine And.intro ?_ ?_) | ((with_reducible first | refine Or.inl (And.intro (And.intro mixedP ?_) ?_) | refine Or.inl (And.intro mixedP ?_)); kernel_rfl) | simp only [go_sem,Nat.reduceEqDiff,Nat.reduceAdd,Nat.reduceMul,Nat.reduceLeDiff,Int.reduceBEq,Lit.av,empty_str,aFn_self,hN,hS])
   all_goals first | omega | (unfold maxLen; omega) | (right; omega) | (left; simp; done) | (simp only [wk3,wkL2,wk2,wkL,wk1_d,wk1_own,wk1_nil,and_self]; done) | (intro i hi; simp only [upd]; (repeat' split); all_goals first | rfl | omega) | skip
 | true =>
   cases h4 : decide (4 < l.args.length) with
   | true =>
     have hS : saidB l = false := by
      have : decide (l.args.length ≤ 4) = false := decide_eq_false (by have := of_decide_eq_true h4; omega)
      unfold saidB
      rw [this]
      simp
     repeat' (first | (with_reducible first | refine XG_split (fun hq => ?_) (fun hq => ?_) | refine MX1.of 4000 (by simp) ?_ | refine MX2.of 4000 (by simp) ?_ | refine And.intro ?_ ?_) | ((with_reducible first | refine Or.inl (And.intro (And.intro mixedP ?_) ?_) | refine Or.inl (And.intro mixedP ?_)); kernel_rfl) | simp only [go_sem,Nat.reduceEqDiff,Nat.reduceAdd,Nat.reduceMul,Nat.reduceLeDiff,Int.reduceBEq,Lit.av,empty_str,aFn_self,hN,h4,hS])
     all_goals first | omega | (unfold maxLen; omega) | (right; omega) | (left; simp; done) | (simp only [wk3,wkL2,wk2,wkL,wk1_d,wk1_own,wk1_nil,and_self]; done) | (intro i hi; simp only [upd]; (repeat' split); all_goals first | rfl | omega) | skip
   | false =>
     have h4' : decide (l.args.length ≤ 4) = true := decide_eq_true (by have := of_decide_eq_false h4; omega)
     have hS : saidB l = ((ownT l.who || termB l.who && (decide (0 < l.who.var.size) || decide (0 < l.who.val.sym.size))) && termsB l.args) := by
      unfold saidB
      rw [hN, h4', Bool.and_true, Bool.and_true]
     cases hv : l.who.var.size == 0 with
     | false =>
       have hv0 : ¬ l.who.var.size = 0 := beq_eq_false_iff_ne.1 hv
       have hS2 : saidB l = (termB l.who && termsB l.args) := by
        rw [hS]
        have e1 : ownT l.who = false := by unfold ownT; rw [hv]; rfl
        have e2 : decide (0 < l.who.var.size) = true := decide_eq_true (by omega)
        rw [e1, e2]
        simp
       cases ht : termB l.who with
       | false =>
         rw [ht, Bool.false_and] at hS2
         repeat' (first | (with_reducible first | refine XG_split (fun hq => ?_) (fun hq => ?_) | refine MX1.of 4000 (by simp) ?_ | refine MX2.of 4000 (by simp) ?_ | refine And.intro ?_ ?_) | ((with_reducible first | refine Or.inl (And.intro (And.intro mixedP ?_) ?_) | refine Or.inl (And.intro mixedP ?_)); kernel_rfl) | simp only [go_sem,Nat.reduceEqDiff,Nat.reduceAdd,Nat.reduceMul,Nat.reduceLeDiff,Int.reduceBEq,Lit.av,empty_str,aFn_self,hN,h4,hv,ht,hS2,hany])
         all_goals first | exact hw | exact ha | skip
         all_goals first | omega | (unfold maxLen; omega) | (right; omega) | (left; simp; done) | (simp only [wk3,wkL2,wk2,wkL,wk1_d,wk1_own,wk1_nil,and_self]; done) | (intro i hi; simp only [upd]; (repeat' split); all_goals first | rfl | omega) | skip
       | true =>
         rw [ht, Bool.true_and] at hS2
         repeat' (first | (with_reducible first | refine XG_split (fun hq => ?_) (fun hq => ?_) | refine MX1.of 4000 (by simp) ?_ | refine MX2.of 4000 (by simp) ?_ | refine And.intro ?_ ?_) | ((with_reducible first | refine Or.inl (And.intro (And.intro mixedP ?_) ?_) | refine Or.inl (And.intro mixedP ?_)); kernel_rfl) | simp only [go_sem,Nat.reduceEqDiff,Nat.reduceAdd,Nat.reduceMul,Nat.reduceLeDiff,Int.reduceBEq,Lit.av,empty_str,aFn_self,hN,h4,hv,ht,hS2,hany])
         all_goals first | exact hw | exact ha | skip
         all_goals first | omega | (unfold maxLen; omega) | (right; omega) | (left; simp; done) | (simp only [wk3,wkL2,wk2,wkL,wk1_d,wk1_own,wk1_nil,and_self]; done) | (intro i hi; simp only [upd]; (repeat' split); all_goals first | rfl | omega) | skip
     | true =>
       have hv0 : l.who.var.size = 0 := beq_iff_eq.1 hv
       have e2 : decide (0 < l.who.var.size) = false := decide_eq_false (by omega)
       have ht : termB l.who = goodV l.who.val := by unfold termB; rw [if_neg (by omega)]
       cases hs : l.who.val.sym.size == 0 with
       | false =>
         have hs0 : ¬ l.who.val.sym.size = 0 := beq_eq_false_iff_ne.1 hs
         have hS2 : saidB l = (goodV l.who.val && termsB l.args) := by
          rw [hS]
          have e1 : ownT l.who = false := by unfold ownT; rw [hs, Bool.and_false]; rfl
          have e3 : decide (0 < l.who.val.sym.size) = true := decide_eq_true (by omega)
          rw [e1, e2, e3, ht]
          simp
         cases hg : goodV l.who.val with
         | false =>
           rw [hg, Bool.false_and] at hS2
           repeat' (first | (with_reducible first | refine XG_split (fun hq => ?_) (fun hq => ?_) | refine MX1.of 4000 (by simp) ?_ | refine MX2.of 4000 (by simp) ?_ | refine And.intro ?_ ?_) | ((with_reducible first | refine Or.inl (And.intro (And.intro mixedP ?_) ?_) | refine Or.inl (And.intro mixedP ?_)); kernel_rfl) | simp only [go_sem,Nat.reduceEqDiff,Nat.reduceAdd,Nat.reduceMul,Nat.reduceLeDiff,Int.reduceBEq,Lit.av,empty_str,aFn_self,hN,h4,hv,hs,ht,hg,hS2,hany])
           all_goals first | exact hw | exact ha | skip
           all_goals first | omega | (unfold maxLen; omega) | (right; omega) | (left; simp; done) | (simp only [wk3,wkL2,wk2,wkL,wk1_d,wk1_own,wk1_nil,and_self]; done) | (intro i hi; simp only [upd]; (repeat' split); all_goals first | rfl | omega) | skip
         | true =>
           rw [hg, Bool.true_and] at hS2
           repeat' (first | (with_reducible first | refine XG_split (fun hq => ?_) (fun hq => ?_) | refine MX1.of 4000 (by simp) ?_ | refine MX2.of 4000 (by simp) ?_ | refine And.intro ?_ ?_) | ((with_reducible first | refine Or.inl (And.intro (And.intro mixedP ?_) ?_) | refine Or.inl (And.intro mixedP ?_)); kernel_rfl) | simp only [go_sem,Nat.reduceEqDiff,Nat.reduceAdd,Nat.reduceMul,Nat.reduceLeDiff,Int.reduceBEq,Lit.av,empty_str,aFn_self,hN,h4,hv,hs,ht,hg,hS2,hany])
           all_goals first | exact hw | exact ha | skip
           all_goals first | omega | (unfold maxLen; omega) | (right; omega) | (left; simp; done) | (simp only [wk3,wkL2,wk2,wkL,wk1_d,wk1_own,wk1_nil,and_self]; done) | (intro i hi; simp only [upd]; (repeat' split); all_goals first | rfl | omega) | skip
       | true =>
         have hg : goodV l.who.val = true := by unfold goodV; rw [hs]; rfl
         have e3 : decide (0 < l.who.val.sym.size) = false := decide_eq_false (by have := beq_iff_eq.1 hs; omega)
         have hS2 : saidB l = (l.who.val.num == 0 && termsB l.args) := by
          rw [hS]
          unfold ownT
          rw [hv, hs, e2, e3]
          simp
         cases hn : l.who.val.num == 0 with
         | false =>
           rw [hn, Bool.false_and] at hS2
           have hn' : (l.who.val.num != 0) = true := by simp only [bne, hn]; rfl
           repeat' (first | (with_reducible first | refine XG_split (fun hq => ?_) (fun hq => ?_) | refine MX1.of 4000 (by simp) ?_ | refine MX2.of 4000 (by simp) ?_ | refine And.intro ?_ ?_) | ((with_reducible first | refine Or.inl (And.intro (And.intro mixedP ?_) ?_) | refine Or.inl (And.intro mixedP ?_)); kernel_rfl) | simp only [go_sem,Nat.reduceEqDiff,Nat.reduceAdd,Nat.reduceMul,Nat.reduceLeDiff,Int.reduceBEq,Lit.av,empty_str,aFn_self,hN,h4,hv,hs,ht,hg,hn',hS2,hany])
           all_goals first | exact hw | exact ha | skip
           all_goals first | omega | (unfold maxLen; omega) | (right; omega) | (left; simp; done) | (simp only [wk3,wkL2,wk2,wkL,wk1_d,wk1_own,wk1_nil,and_self]; done) | (intro i hi; simp only [upd]; (repeat' split); all_goals first | rfl | omega) | skip
         | true =>
           rw [hn, Bool.true_and] at hS2
           have hn' : (l.who.val.num != 0) = false := by simp only [bne, hn]; rfl
           repeat' (first | (with_reducible first | refine XG_split (fun hq => ?_) (fun hq => ?_) | refine MX1.of 4000 (by simp) ?_ | refine MX2.of 4000 (by simp) ?_ | refine And.intro ?_ ?_) | ((with_reducible first | refine Or.inl (And.intro (And.intro mixedP ?_) ?_) | refine Or.inl (And.intro mixedP ?_)); kernel_rfl) | simp only [go_sem,Nat.reduceEqDiff,Nat.reduceAdd,Nat.reduceMul,Nat.reduceLeDiff,Int.reduceBEq,Lit.av,empty_str,aFn_self,hN,h4,hv,hs,ht,hg,hn',hS2,hany])
           all_goals first | exact hw | exact ha | skip
           all_goals first | omega | (unfold maxLen; omega) | (right; omega) | (left; simp; done) | (simp only [wk3,wkL2,wk2,wkL,wk1_d,wk1_own,wk1_nil,and_self]; done) | (intro i hi; simp only [upd]; (repeat' split); all_goals first | rfl | omega) | skip
set_option maxRecDepth 10000 in
set_option maxHeartbeats 2000000 in
theorem pliteral_ok : FsOk Tryz.prog 68 pliteralS := by
 refine of_Y1 (E := eqTV) (F := (Ft.no.put 69 patomS).put 97 ptermS) Lit.av (fun _ _ => aLit_le) Tryz.func68 rfl (by kernel_rfl) [.tmp 2] rfl Tryz.ntmps68 (by decide) (((FtOk.no _).put patom_ok).put pterm_ok) ?_
 intro l h n hp hok
 have hp' := hp
 obtain ⟨hw, hl, ha⟩ := hp
 by_cases k1 : l.kind = 1
 · have hS : literalB l = saidB l := by unfold literalB; rw [k1]; rfl
   have c1 : (l.kind == 1) = true := by simp [k1]
   repeat' (first | (with_reducible first | refine XG_split (fun hq => ?_) (fun hq => ?_) | refine MX1.of 4000 (by simp) ?_ | refine MX2.of 4000 (by simp) ?_ | refine And.intro ?_ ?_) | ((with_reducible first | refine Or.inl (And.intro (And.intro mixedP ?_) ?_) | refine Or.inl (And.intro mixedP ?_)); kernel_rfl) | simp only [go_sem,Nat.reduceEqDiff,Nat.reduceAdd,Nat.reduceMul,Nat.reduceLeDiff,Int.reduceBEq,Lit.av,empty_str,cvals,cval,c1,hS])
   all_goals first | exact hp' | skip
   all_goals first | omega | (unfold maxLen; omega) | (right; omega) | (left; simp; done) | (simp only [wk3,wkL2,wk2,wkL,wk1_d,wk1_own,wk1_nil,and_self]; done) | (intro i hi; simp only [upd]; (repeat' split); all_goals first | rfl | omega) | skip
 by_cases k2 : l.kind = 2
 · have hS : literalB l = saidB l := by unfold literalB; rw [k2]; rfl
   have c1 : (l.kind == 1) = false := by simp [k1]
   have c2 : (l.kind == 2) = true := by simp [k2]
   repeat' (first | (with_reducible first | refine XG_split (fun hq => ?_) (fun hq => ?_) | refine MX1.of 4000 (by simp) ?_ | refine MX2.of 4000 (by simp) ?_ | refine And.intro ?_ ?_) | ((with_reducible first | refine Or.inl (And.intro (And.intro mixedP ?_) ?_) | refine Or.inl (And.intro mixedP ?_)); kernel_rfl) | simp only [go_sem,Nat.reduceEqDiff,Nat.reduceAdd,Nat.reduceMul,Nat.reduceLeDiff,Int.reduceBEq,Lit.av,empty_str,cvals,cval,c1,c2,hS])
   all_goals first | exact hp' | skip
   all_goals first | omega | (unfold maxLen; omega) | (right; omega) | (left; simp; done) | (simp only [wk3,wkL2,wk2,wkL,wk1_d,wk1_own,wk1_nil,and_self]; done) | (intro i hi; simp only [upd]; (repeat' split); all_goals first | rfl | omega) | skip
 have c1 : (l.kind == 1) = false := by simp [k1]
 have c2 : (l.kind == 2) = false := by simp [k2]
 by_cases k34 : l.kind = 3 ∨ l.kind = 4
 · have hS : literalB l = (l.pred.size == 0 && ownT l.who && l.args.length == 2 && termsB l.args) := by
    unfold literalB
    rw [c1, c2]
    rcases k34 with k | k <;> rw [k] <;> simp
   have hk : (l.kind == 3) = true ∨ (l.kind == 3) = false ∧ (l.kind == 4) = true := by
    rcases k34 with k | k
    · left; rw [k]; rfl
    · right; rw [k]; exact ⟨rfl, rfl⟩
   have hown : (l.who.var.size == 0 && (l.who.val.sym.size == 0 && l.who.val.num == 0)) = ownT l.who := by unfold ownT; rw [Bool.and_assoc]
   cases hpr : l.pred.size == 0 with
   | false =>
     rw [hpr] at hS
     simp only [Bool.false_and] at hS
     rcases hk with hk | ⟨hk, hk'⟩
     · repeat' (first | (with_reducible first | refine XG_split (fun hq => ?_) (fun hq => ?_) | refine MX1.of 4000 (by simp) ?_ | refine MX2.of 4000 (by simp) ?_ | refine And.intro ?_ ?_) | ((with_reducible first | refine Or.inl (And.intro (And.intro mixedP ?_) ?_) | refine Or.inl (And.intro mixedP ?_)); kernel_rfl) | simp only [go_sem,Nat.reduceEqDiff,Nat.reduceAdd,Nat.reduceMul,Nat.reduceLeDiff,Int.reduceBEq,Lit.av,empty_str,cvals,cval,c1,c2,hk,hpr,hS])
       all_goals first | omega | (unfold maxLen; omega) | (right; omega) | (left; simp; done) | (simp only [wk3,wkL2,wk2,wkL,wk1_d,wk1_own,wk1_nil,and_self]; done) | (intro i hi; simp only [upd]; (repeat' split); all_goals first | rfl | omega) | skip
     · repeat' (first | (with_reducible first | refine XG_split (fun hq => ?_) (fun hq => ?_) | refine MX1.of 4000 (by simp) ?_ | refine MX2.of 4000 (by simp) ?_ | refine And.intro ?_ ?_) | ((with_reducible first | refine Or.inl (And.intro (And.intro mixedP ?_) ?_) | refine Or.inl (And.intro mixedP ?_)); kernel_rfl) | simp only [go_sem,Nat.reduceEqDiff,Nat.reduceAdd,Nat.reduceMul,Nat.reduceLeDiff,Int.reduceBEq,Lit.av,empty_str,cvals,cval,c1,c2,hk,hk',hpr,hS])
       all_goals first | omega | (unfold maxLen; omega) | (right; omega) | (left; simp; done) | (simp only [wk3,wkL2,wk2,wkL,wk1_d,wk1_own,wk1_nil,and_self]; done) | (intro i hi; simp only [upd]; (repeat' split); all_goals first | rfl | omega) | skip
   | true =>
     cases ho : ownT l.who with
     | false =>
       rw [ho] at hS hown
       simp only [Bool.and_false, Bool.false_and] at hS
       rcases hk with hk | ⟨hk, hk'⟩
       · repeat' (first | (with_reducible first | refine XG_split (fun hq => ?_) (fun hq => ?_) | refine MX1.of 4000 (by simp) ?_ | refine MX2.of 4000 (by simp) ?_ | refine And.intro ?_ ?_) | ((with_reducible first | refine Or.inl (And.intro (And.intro mixedP ?_) ?_) | refine Or.inl (And.intro mixedP ?_)); kernel_rfl) | simp only [go_sem,Nat.reduceEqDiff,Nat.reduceAdd,Nat.reduceMul,Nat.reduceLeDiff,Int.reduceBEq,Lit.av,empty_str,cvals,cval,c1,c2,hk,hpr,hown,hS])
         all_goals first | omega | (unfold maxLen; omega) | (right; omega) | (left; simp; done) | (simp only [wk3,wkL2,wk2,wkL,wk1_d,wk1_own,wk1_nil,and_self]; done) | (intro i hi; simp only [upd]; (repeat' split); all_goals first | rfl | omega) | skip
       · repeat' (first | (with_reducible first | refine XG_split (fun hq => ?_) (fun hq => ?_) | refine MX1.of 4000 (by simp) ?_ | refine MX2.of 4000 (by simp) ?_ | refine And.intro ?_ ?_) | ((with_reducible first | refine Or.inl (And.intro (And.intro mixedP ?_) ?_) | refine Or.inl (And.intro mixedP ?_)); kernel_rfl) | simp only [go_sem,Nat.reduceEqDiff,Nat.reduceAdd,Nat.reduceMul,Nat.reduceLeDiff,Int.reduceBEq,Lit.av,empty_str,cvals,cval,c1,c2,hk,hk',hpr,hown,hS])
         all_goals first | omega | (unfold maxLen; omega) | (right; omega) | (left; simp; done) | (simp only [wk3,wkL2,wk2,wkL,wk1_d,wk1_own,wk1_nil,and_self]; done) | (intro i hi; simp only [upd]; (repeat' split); all_goals first | rfl | omega) | skip
     | true =>
       rw [ho] at hown
       rw [hpr, ho] at hS
       cases h2 : l.args.length == 2 with
       | false =>
         rw [h2] at hS
         simp only [Bool.and_false, Bool.false_and] at hS
         rcases hk with hk | ⟨hk, hk'⟩
         · repeat' (first | (with_reducible first | refine XG_split (fun hq => ?_) (fun hq => ?_) | refine MX1.of 4000 (by simp) ?_ | refine MX2.of 4000 (by simp) ?_ | refine And.intro ?_ ?_) | ((with_reducible first | refine Or.inl (And.intro (And.intro mixedP ?_) ?_) | refine Or.inl (And.intro mixedP ?_)); kernel_rfl) | simp only [go_sem,Nat.reduceEqDiff,Nat.reduceAdd,Nat.reduceMul,Nat.reduceLeDiff,Int.reduceBEq,Lit.av,empty_str,cvals,cval,c1,c2,hk,hpr,hown,h2,hS])
           all_goals first | omega | (unfold maxLen; omega) | (right; omega) | (left; simp; done) | (simp only [wk3,wkL2,wk2,wkL,wk1_d,wk1_own,wk1_nil,and_self]; done) | (intro i hi; simp only [upd]; (repeat' split); all_goals first | rfl | omega) | skip
         · repeat' (first | (with_reducible first | refine XG_split (fun hq => ?_) (fun hq => ?_) | refine MX1.of 4000 (by simp) ?_ | refine MX2.of 4000 (by simp) ?_ | refine And.intro ?_ ?_) | ((with_reducible first | refine Or.inl (And.intro (And.intro mixedP ?_) ?_) | refine Or.inl (And.intro mixedP ?_)); kernel_rfl) | simp only [go_sem,Nat.reduceEqDiff,Nat.reduceAdd,Nat.reduceMul,Nat.reduceLeDiff,Int.reduceBEq,Lit.av,empty_str,cvals,cval,c1,c2,hk,hk',hpr,hown,h2,hS])
           all_goals first | omega | (unfold maxLen; omega) | (right; omega) | (left; simp; done) | (simp only [wk3,wkL2,wk2,wkL,wk1_d,wk1_own,wk1_nil,and_self]; done) | (intro i hi; simp only [upd]; (repeat' split); all_goals first | rfl | omega) | skip
       | true =>
         rw [h2] at hS
         simp only [Bool.true_and] at hS
         obtain ⟨a, b, hab⟩ : ∃ a b, l.args = [a, b] := by
          have := beq_iff_eq.1 h2
          match l.args, this with
          | [a, b], _ => exact ⟨a, b, rfl⟩
         rw [hab] at hS
         have hSa : termsB [a, b] = (termB a && termB b) := by unfold termsB; simp
         rw [hSa] at hS
         have sa : szT a := ha a (by rw [hab]; simp)
         have sb : szT b := ha b (by rw [hab]; simp)
         cases hta : termB a with
         | false =>
           rw [hta, Bool.false_and] at hS
           rcases hk with hk | ⟨hk, hk'⟩
           · repeat' (first | (with_reducible first | refine XG_split (fun hq => ?_) (fun hq => ?_) | refine MX1.of 4000 (by simp) ?_ | refine MX2.of 4000 (by simp) ?_ | refine And.intro ?_ ?_) | ((with_reducible first | refine Or.inl (And.intro (And.intro mixedP ?_) ?_) | refine Or.inl (And.intro mixedP ?_)); kernel_rfl) | simp only [go_sem,Nat.reduceEqDiff,Nat.reduceAdd,Nat.reduceMul,Nat.reduceLeDiff,Int.reduceBEq,Lit.av,empty_str,cvals,cval,c1,c2,hk,hpr,hown,hab,hta,hS,Term.av])
             all_goals first | exact sa | exact sb | skip
             all_goals first | omega | (unfold maxLen; omega) | (right; omega) | (left; simp; done) | (simp only [wk3,wkL2,wk2,wkL,wk1_d,wk1_own,wk1_nil,and_self]; done) | (intro i hi; simp only [upd]; (repeat' split); all_goals first | rfl | omega) | skip
           · repeat' (first | (with_reducible first | refine XG_split (fun hq => ?_) (fun hq => ?_) | refine MX1.of 4000 (by simp) ?_ | refine MX2.of 4000 (by simp) ?_ | refine And.intro ?_ ?_) | ((with_reducible first | refine Or.inl (And.intro (And.intro mixedP ?_) ?_) | refine Or.inl (And.intro mixedP ?_)); kernel_rfl) | simp only [go_sem,Nat.reduceEqDiff,Nat.reduceAdd,Nat.reduceMul,Nat.reduceLeDiff,Int.reduceBEq,Lit.av,empty_str,cvals,cval,c1,c2,hk,hk',hpr,hown,hab,hta,hS,Term.av])
             all_goals first | exact sa | exact sb | skip
             all_goals first | omega | (unfold maxLen; omega) | (right; omega) | (left; simp; done) | (simp only [wk3,wkL2,wk2,wkL,wk1_d,wk1_own,wk1_nil,and_self]; done) | (intro i hi; simp only [upd]; (repeat' split); all_goals first | rfl | omega) | skip
         | true =>
           rw [hta, Bool.true_and] at hS
           rcases hk with hk | ⟨hk, hk'⟩
           · repeat' (first | (with_reducible first | refine XG_split (fun hq => ?_) (fun hq => ?_) | refine MX1.of 4000 (by simp) ?_ | refine MX2.of 4000 (by simp) ?_ | refine And.intro ?_ ?_) | ((with_reducible first | refine Or.inl (And.intro (And.intro mixedP ?_) ?_) | refine Or.inl (And.intro mixedP ?_)); kernel_rfl) | simp only [go_sem,Nat.reduceEqDiff,Nat.reduceAdd,Nat.reduceMul,Nat.reduceLeDiff,Int.reduceBEq,Lit.av,empty_str,cvals,cval,c1,c2,hk,hpr,hown,hab,hta,hS,Term.av])
             all_goals first | exact sa | exact sb | skip
             all_goals first | omega | (unfold maxLen; omega) | (right; omega) | (left; simp; done) | (simp only [wk3,wkL2,wk2,wkL,wk1_d,wk1_own,wk1_nil,and_self]; done) | (intro i hi; simp only [upd]; (repeat' split); all_goals first | rfl | omega) | skip
           · repeat' (first | (with_reducible first | refine XG_split (fun hq => ?_) (fun hq => ?_) | refine MX1.of 4000 (by simp) ?_ | refine MX2.of 4000 (by simp) ?_ | refine And.intro ?_ ?_) | ((with_reducible first | refine Or.inl (And.intro (And.intro mixedP ?_) ?_) | refine Or.inl (And.intro mixedP ?_)); kernel_rfl) | simp only [go_sem,Nat.reduceEqDiff,Nat.reduceAdd,Nat.reduceMul,Nat.reduceLeDiff,Int.reduceBEq,Lit.av,empty_str,cvals,cval,c1,c2,hk,hk',hpr,hown,hab,hta,hS,Term.av])
             all_goals first | exact sa | exact sb | skip
             all_goals first | omega | (unfold maxLen; omega) | (right; omega) | (left; simp; done) | (simp only [wk3,wkL2,wk2,wkL,wk1_d,wk1_own,wk1_nil,and_self]; done) | (intro i hi; simp only [upd]; (repeat' split); all_goals first | rfl | omega) | skip
 · have c3 : (l.kind == 3) = false := by rw [beq_eq_false_iff_ne]; exact fun e => k34 (.inl e)
   have c4 : (l.kind == 4) = false := by rw [beq_eq_false_iff_ne]; exact fun e => k34 (.inr e)
   have hS : literalB l = false := by unfold literalB; rw [c1, c2, c3, c4]; rfl
   repeat' (first | (with_reducible first | refine XG_split (fun hq => ?_) (fun hq => ?_) | refine MX1.of 4000 (by simp) ?_ | refine MX2.of 4000 (by simp) ?_ | refine And.intro ?_ ?_) | ((with_reducible first | refine Or.inl (And.intro (And.intro mixedP ?_) ?_) | refine Or.inl (And.intro mixedP ?_)); kernel_rfl) | simp only [go_sem,Nat.reduceEqDiff,Nat.reduceAdd,Nat.reduceMul,Nat.reduceLeDiff,Int.reduceBEq,Lit.av,empty_str,cvals,cval,c1,c2,c3,c4,hS])
   all_goals first | omega | (unfold maxLen; omega) | (right; omega) | (left; simp; done) | (simp only [wk3,wkL2,wk2,wkL,wk1_d,wk1_own,wk1_nil,and_self]; done) | (intro i hi; simp only [upd]; (repeat' split); all_goals first | rfl | omega) | skip
set_option maxRecDepth 10000 in
set_option maxHeartbeats 2000000 in
theorem pcheckLit_ok : FsOk Tryz.prog 38 pcheckLitS := by
 refine of_Y1 (E := EqT.no _) (F := Ft.no.put 69 patomS) Lit.av (fun _ _ => aLit_le) Tryz.func38 rfl (by kernel_rfl) [.tmp 2] rfl Tryz.ntmps38 (by decide) ((FtOk.no _).put patom_ok) ?_
 intro l h n hp hok
 cases k1 : l.kind == 1 with
 | true =>
   have hS : checkLitB l = saidB l := by unfold checkLitB; rw [k1]; rfl
   repeat' (first | (with_reducible first | refine XG_split (fun hq => ?_) (fun hq => ?_) | refine MX1.of 4000 (by simp) ?_ | refine MX2.of 4000 (by simp) ?_ | refine And.intro ?_ ?_) | ((with_reducible first | refine Or.inl (And.intro (And.intro mixedP ?_) ?_) | refine Or.inl (And.intro mixedP ?_)); kernel_rfl) | simp only [go_sem,Nat.reduceEqDiff,Nat.reduceAdd,Nat.reduceMul,Nat.reduceLeDiff,Int.reduceBEq,Lit.av,k1,hS])
   all_goals first | exact hp | skip
   all_goals first | omega | (unfold maxLen; omega) | (right; omega) | (left; simp; done) | (simp only [wk3,wkL2,wk2,wkL,wk1_d,wk1_own,wk1_nil,and_self]; done) | (intro i hi; simp only [upd]; (repeat' split); all_goals first | rfl | omega) | skip
 | false =>
   have hS : checkLitB l = false := by unfold checkLitB; rw [k1]; rfl
   repeat' (first | (with_reducible first | refine XG_split (fun hq => ?_) (fun hq => ?_) | refine MX1.of 4000 (by simp) ?_ | refine MX2.of 4000 (by simp) ?_ | refine And.intro ?_ ?_) | ((with_reducible first | refine Or.inl (And.intro (And.intro mixedP ?_) ?_) | refine Or.inl (And.intro mixedP ?_)); kernel_rfl) | simp only [go_sem,Nat.reduceEqDiff,Nat.reduceAdd,Nat.reduceMul,Nat.reduceLeDiff,Int.reduceBEq,Lit.av,k1,hS])
   all_goals first | exact hp | skip
   all_goals first | omega | (unfold maxLen; omega) | (right; omega) | (left; simp; done) | (simp only [wk3,wkL2,wk2,wkL,wk1_d,wk1_own,wk1_nil,and_self]; done) | (intro i hi; simp only [upd]; (repeat' split); all_goals first | rfl | omega) | skip
set_option maxRecDepth 10000 in
set_option maxHeartbeats 2000000 in
theorem notLit_ok : FsOk Tryz.prog 67 notLitS := by
 refine of_Y1 (E := EqT.no _) (F := Ft.no.put 68 pliteralS) Lit.av (fun _ _ => aLit_le) Tryz.func67 rfl (by kernel_rfl) [.tmp 2] rfl Tryz.ntmps67 (by decide) ((FtOk.no _).put pliteral_ok) ?_
 intro t h n hp hok
 repeat' (first | (with_reducible first | refine XG_split (fun hq => ?_) (fun hq => ?_) | refine MX1.of 4000 (by simp) ?_ | refine MX2.of 4000 (by simp) ?_ | refine And.intro ?_ ?_) | ((with_reducible first | refine Or.inl (And.intro (And.intro mixedP ?_) ?_) | refine Or.inl (And.intro mixedP ?_)); kernel_rfl) | simp only [go_sem,Nat.reduceEqDiff,Nat.reduceAdd,Nat.reduceMul,Nat.reduceLeDiff,Int.reduceBEq,Lit.av])
 all_goals first | exact hp | skip
 all_goals first | omega | (unfold maxLen; omega) | (right; omega) | (left; simp; done) | (simp only [wk3,wkL2,wk2,wkL,wk1_d,wk1_own,wk1_nil,and_self]; done) | (intro i hi; simp only [upd]; (repeat' split); all_goals first | rfl | omega) | skip
set_option maxRecDepth 10000 in
set_option maxHeartbeats 2000000 in
theorem idxLit_ok : FsOk Tryz.prog 96 idxLitS := by
 refine of_Y2 (E := EqT.no _) (F := Ft.no.put 67 notLitS) (fun l => .d (.sl 6 (l.map Lit.cells))) (fun _ => .fn (.func 67) [] []) (fun _ _ => aLits_le) (fun _ _ => aFn_le) Tryz.func96 rfl (by kernel_rfl) [.tmp 4] rfl Tryz.ntmps96 (by decide) ((FtOk.no _).put notLit_ok) ?_
 intro l u h n hp hok
 obtain ⟨hl, hsz⟩ := hp
 repeat' (first | (with_reducible first | refine XG_split (fun hq => ?_) (fun hq => ?_) | refine MX1.of 4000 (by simp) ?_ | refine MX2.of 4000 (by simp) ?_ | refine And.intro ?_ ?_) | ((with_reducible first | refine Or.inl (And.intro (And.intro mixedP ?_) ?_) | refine Or.inl (And.intro mixedP ?_)); kernel_rfl) | simp only [go_sem,Nat.reduceEqDiff,Nat.reduceAdd,Nat.reduceMul,Nat.reduceLeDiff,Int.reduceBEq])
 all_goals first | omega | (unfold maxLen; omega) | (right; omega) | (left; simp; done) | (simp only [wk3,wkL2,wk2,wkL,wk1_d,wk1_own,wk1_nil,and_self]; done) | (intro i hi; simp only [upd]; (repeat' split); all_goals first | rfl | omega) | skip
 refine AW.loopJ (E := EqT.no _) (S := fun k : Nat => ⟨fr [(0, .d (.sl 6 (l.map Lit.cells))), (1, .fn (.func 67) [] []), (7, vI l.length), (8, vI k)] (List.replicate 19 .any), h, n, n⟩) (I := fun k => k ≤ l.length ∧ ∀ i, (hi : i < k) → (hl : i < l.length) → (!literalB l[i]) = false) (μ := fun k => l.length - k) 0 ⟨Nat.zero_le _, fun i hi => absurd hi (Nat.not_lt_zero i)⟩ ?_ 4000 (fun _ => by simp only [fr_len, List.length_replicate]; decide) ?_
 · exact Wk.same (by simp only [go_sem]) hok (Nat.le_refl _) (by simp only [go_sem])
 · rintro k ⟨hk, hA⟩
   rcases Nat.lt_or_ge k l.length with hkl | hkl
   · have hs := hsz _ (List.getElem_mem hkl)
     cases hq : !literalB l[k] with
     | true =>
       have hR := idx_hit (p := fun t => !literalB t) hkl hq fun i hi => hA i hi (by omega)
       repeat' (first | (with_reducible first | refine XG_split (fun hq => ?_) (fun hq => ?_) | refine MX1.of 4000 (by simp) ?_ | refine MX2.of 4000 (by simp) ?_ | refine And.intro ?_ ?_) | ((with_reducible first | refine Or.inl (And.intro (And.intro mixedP ?_) ?_) | refine Or.inl (And.intro mixedP ?_)); kernel_rfl) | simp only [go_sem,Nat.reduceEqDiff,Nat.reduceAdd,Nat.reduceMul,Nat.reduceLeDiff,Int.reduceBEq,decide_eq_true hkl,List.getElem?_eq_getElem hkl,hq,hR,Term.av,Lit.av])
       all_goals first | exact hs | skip
       all_goals first | omega | (unfold maxLen; omega) | (right; omega) | (left; simp; done) | (simp only [wk3,wkL2,wk2,wkL,wk1_d,wk1_own,wk1_nil,and_self]; done) | (intro i hi; simp only [upd]; (repeat' split); all_goals first | rfl | omega) | skip
     | false =>
       repeat' (first | (with_reducible first | refine XG_split (fun hq => ?_) (fun hq => ?_) | refine MX1.of 4000 (by simp) ?_ | refine MX2.of 4000 (by simp) ?_ | refine And.intro ?_ ?_) | ((with_reducible first | refine Or.inl (And.intro (And.intro mixedP ?_) ?_) | refine Or.inl (And.intro mixedP ?_)); kernel_rfl) | simp only [go_sem,Nat.reduceEqDiff,Nat.reduceAdd,Nat.reduceMul,Nat.reduceLeDiff,Int.reduceBEq,decide_eq_true hkl,List.getElem?_eq_getElem hkl,hq,Term.av,Lit.av])
       all_goals first | exact hs | skip
       all_goals first | omega | (unfold maxLen; omega) | (right; omega) | (left; simp; done) | (simp only [wk3,wkL2,wk2,wkL,wk1_d,wk1_own,wk1_nil,and_self]; done) | (intro i hi; simp only [upd]; (repeat' split); all_goals first | rfl | omega) | skip
       refine ⟨k + 1, ⟨hkl, fun i hi hil => ?_⟩, Wk.same (by simp only [go_sem]) hok (Nat.le_refl _) (by simp only [go_sem]), by omega⟩
       rcases Nat.lt_or_ge i k with h' | h'
       · exact hA i h' hil
       · obtain rfl : i = k := by omega
         exact hq
   · have hR := idx_miss (p := fun t => !literalB t) (l := l) fun i hi => hA i (by omega) hi
     repeat' (first | (with_reducible first | refine XG_split (fun hq => ?_) (fun hq => ?_) | refine MX1.of 4000 (by simp) ?_ | refine MX2.of 4000 (by simp) ?_ | refine And.intro ?_ ?_) | ((with_reducible first | refine Or.inl (And.intro (And.intro mixedP ?_) ?_) | refine Or.inl (And.intro mixedP ?_)); kernel_rfl) | simp only [go_sem,Nat.reduceEqDiff,Nat.reduceAdd,Nat.reduceMul,Nat.reduceLeDiff,Int.reduceBEq,decide_eq_false (Nat.not_lt.2 hkl),hR])
     all_goals first | omega | (unfold maxLen; omega) | (right; omega) | (left; simp; done) | (simp only [wk3,wkL2,wk2,wkL,wk1_d,wk1_own,wk1_nil,and_self]; done) | (intro i hi; simp only [upd]; (repeat' split); all_goals first | rfl | omega) | skip
set_option maxRecDepth 10000 in
set_option maxHeartbeats 2000000 in
theorem hasLit_ok : FsOk Tryz.prog 66 hasLitS := by
 refine of_Y2 (E := EqT.no _) (F := Ft.no.put 96 idxLitS) (fun l => .d (.sl 6 (l.map Lit.cells))) (fun _ => .fn (.func 67) [] []) (fun _ _ => aLits_le) (fun _ _ => aFn_le) Tryz.func66 rfl (by kernel_rfl) [.tmp 4] rfl Tryz.ntmps66 (by decide) ((FtOk.no _).put idxLit_ok) ?_
 intro l u h n hp hok
 repeat' (first | (with_reducible first | refine XG_split (fun hq => ?_) (fun hq => ?_) | refine MX1.of 4000 (by simp) ?_ | refine MX2.of 4000 (by simp) ?_ | refine And.intro ?_ ?_) | ((with_reducible first | refine Or.inl (And.intro (And.intro mixedP ?_) ?_) | refine Or.inl (And.intro mixedP ?_)); kernel_rfl) | simp only [go_sem,Nat.reduceEqDiff,Nat.reduceAdd,Nat.reduceMul,Nat.reduceLeDiff,Int.reduceBEq,aFn_self,idx_ge])
 all_goals first | exact hp | exact hp.1 | exact hp.2 | skip
 all_goals first | omega | (unfold maxLen; omega) | (right; omega) | (left; simp; done) | (simp only [wk3,wkL2,wk2,wkL,wk1_d,wk1_own,wk1_nil,and_self]; done) | (intro i hi; simp only [upd]; (repeat' split); all_goals first | rfl | omega) | skip
set_option maxRecDepth 10000 in
set_option maxHeartbeats 2000000 in
theorem pcheck_ok : FsOk Tryz.prog 37 pcheckS := by
 refine of_Y1 (E := eqTV) (F := (Ft.no.put 38 pcheckLitS).put 66 hasLitS) Clause.av (fun _ _ => aClause_le) Tryz.func37 rfl (by kernel_rfl) [.tmp 2] rfl Tryz.ntmps37 (by decide) (((FtOk.no _).put pcheckLit_ok).put hasLit_ok) ?_
 intro c h n hp hok
 obtain ⟨hh, hl, hb⟩ := hp
 have hany : (!(c.body.any fun t => !literalB t)) = c.body.all literalB := by
  rw [List.all_eq_not_any_not]
 have hown : (c.head.who.var.size == 0 && (c.head.who.val.sym.size == 0 && c.head.who.val.num == 0)) = ownT c.head.who := by unfold ownT; rw [Bool.and_assoc]
 cases h1 : checkLitB c.head with
 | false =>
   have hS : checkB c = false := by unfold checkB; rw [h1]; rfl
   repeat' (first | (with_reducible first | refine XG_split (fun hq => ?_) (fun hq => ?_) | refine MX1.of 4000 (by simp) ?_ | refine MX2.of 4000 (by simp) ?_ | refine And.intro ?_ ?_) | ((with_reducible first | refine Or.inl (And.intro (And.intro mixedP ?_) ?_) | refine Or.inl (And.intro mixedP ?_)); kernel_rfl) | simp only [go_sem,Nat.reduceEqDiff,Nat.reduceAdd,Nat.reduceMul,Nat.reduceLeDiff,Int.reduceBEq,Clause.av,Lit.av,empty_str,cvals,cval,aFn_self,hS,h1])
   all_goals first | exact hh | exact hb | skip
   all_goals first | omega | (unfold maxLen; omega) | (right; omega) | (left; simp; done) | (simp only [wk3,wkL2,wk2,wkL,wk1_d,wk1_own,wk1_nil,and_self]; done) | (intro i hi; simp only [upd]; (repeat' split); all_goals first | rfl | omega) | skip
 | true =>
   cases h2 : ownT c.head.who with
   | false =>
     rw [h2] at hown
     have hS : checkB c = false := by unfold checkB; rw [h1, h2]; rfl
     repeat' (first | (with_reducible first | refine XG_split (fun hq => ?_) (fun hq => ?_) | refine MX1.of 4000 (by simp) ?_ | refine MX2.of 4000 (by simp) ?_ | refine And.intro ?_ ?_) | ((with_reducible first | refine Or.inl (And.intro (And.intro mixedP ?_) ?_) | refine Or.inl (And.intro mixedP ?_)); kernel_rfl) | simp only [go_sem,Nat.reduceEqDiff,Nat.reduceAdd,Nat.reduceMul,Nat.reduceLeDiff,Int.reduceBEq,Clause.av,Lit.av,empty_str,cvals,cval,aFn_self,hS,h1,hown])
     all_goals first | exact hh | exact hb | skip
     all_goals first | omega | (unfold maxLen; omega) | (right; omega) | (left; simp; done) | (simp only [wk3,wkL2,wk2,wkL,wk1_d,wk1_own,wk1_nil,and_self]; done) | (intro i hi; simp only [upd]; (repeat' split); all_goals first | rfl | omega) | skip
   | true =>
     rw [h2] at hown
     cases h6 : decide (6 < c.body.length) with
     | true =>
       have h6' : decide (c.body.length ≤ 6) = false := decide_eq_false (by have := of_decide_eq_true h6; omega)
       have hS : checkB c = false := by unfold checkB; rw [h1, h2, h6']; rfl
       repeat' (first | (with_reducible first | refine XG_split (fun hq => ?_) (fun hq => ?_) | refine MX1.of 4000 (by simp) ?_ | refine MX2.of 4000 (by simp) ?_ | refine And.intro ?_ ?_) | ((with_reducible first | refine Or.inl (And.intro (And.intro mixedP ?_) ?_) | refine Or.inl (And.intro mixedP ?_)); kernel_rfl) | simp only [go_sem,Nat.reduceEqDiff,Nat.reduceAdd,Nat.reduceMul,Nat.reduceLeDiff,Int.reduceBEq,Clause.av,Lit.av,empty_str,cvals,cval,aFn_self,hS,h1,hown,h6,hany])
       all_goals first | exact hh | exact hb | skip
       all_goals first | omega | (unfold maxLen; omega) | (right; omega) | (left; simp; done) | (simp only [wk3,wkL2,wk2,wkL,wk1_d,wk1_own,wk1_nil,and_self]; done) | (intro i hi; simp only [upd]; (repeat' split); all_goals first | rfl | omega) | skip
     | false =>
       have h6' : decide (c.body.length ≤ 6) = true := decide_eq_true (by have := of_decide_eq_false h6; omega)
       have hS : checkB c = c.body.all literalB := by unfold checkB; rw [h1, h2, h6']; rfl
       repeat' (first | (with_reducible first | refine XG_split (fun hq => ?_) (fun hq => ?_) | refine MX1.of 4000 (by simp) ?_ | refine MX2.of 4000 (by simp) ?_ | refine And.intro ?_ ?_) | ((with_reducible first | refine Or.inl (And.intro (And.intro mixedP ?_) ?_) | refine Or.inl (And.intro mixedP ?_)); kernel_rfl) | simp only [go_sem,Nat.reduceEqDiff,Nat.reduceAdd,Nat.reduceMul,Nat.reduceLeDiff,Int.reduceBEq,Clause.av,Lit.av,empty_str,cvals,cval,aFn_self,hS,h1,hown,h6,hany])
       all_goals first | exact hh | exact hb | skip
       all_goals first | omega | (unfold maxLen; omega) | (right; omega) | (left; simp; done) | (simp only [wk3,wkL2,wk2,wkL,wk1_d,wk1_own,wk1_nil,and_self]; done) | (intro i hi; simp only [upd]; (repeat' split); all_goals first | rfl | omega) | skip
end Go.Proofs.YtfhpecgknmfnnaaGreatDoor.M
end
section
namespace Go.Proofs.YtfhpecgknmfnnaaGreatDoor.M
open Go.R
def tI (t : Term) : Prop := i64 t.val.num
def litI (l : Lit) : Prop := tI l.who ∧ ∀ t ∈ l.args, tI t
def argsGo : Nat → ByteArray → List Term → ByteArray
 | _, out, [] => out
 | 0, out, t :: r => argsGo 1 (out ++ ⟨#[40]⟩ ++ termText t) r
 | k + 1, out, t :: r => argsGo (k + 2) (out ++ ⟨#[44, 32]⟩ ++ termText t) r
def litAhead (l : Lit) : ByteArray :=
 let a : ByteArray := if l.kind == 2 then ⟨#[110, 111, 116, 32]⟩ else ⟨#[]⟩
 let b := if ownT l.who then a else a ++ (termText l.who ++ ⟨#[32, 115, 97, 121, 115, 32]⟩)
 b ++ l.pred
def litBehind (l : Lit) (out : ByteArray) : ByteArray := if 0 < l.args.length then out ++ ⟨#[41]⟩ else out
def termAt (l : List Term) (i : Nat) : ByteArray := match l[i]? with | some t => termText t | none => ⟨#[]⟩
def litText (l : Lit) : ByteArray :=
 if l.kind == 3 then termAt l.args 0 ++ ⟨#[32, 60, 32]⟩ ++ termAt l.args 1
 else if l.kind == 4 then termAt l.args 0 ++ ⟨#[32, 33, 61, 32]⟩ ++ termAt l.args 1
 else litBehind l (argsGo 0 (litAhead l) l.args)
theorem nameB_size {s : ByteArray} (h : nameB s = true) : s.size ≤ 16 := by
 unfold nameB at h
 simp only [Bool.and_eq_true, decide_eq_true_eq] at h
 exact h.1.1.2
theorem numText_size {n : Int} (h : i64 n) : (numText n).size ≤ 20 := by
 obtain ⟨h1, h2⟩ := h
 unfold numText
 split
 · rw [strOf_size, List.length_cons]
   have := decL_len 18 (-n).toNat (by omega)
   omega
 · rw [strOf_size]
   exact decL_len 19 n.toNat (by omega)
theorem textB_size {v : Val} (h : i64 v.num) : (textB v).size ≤ 20 := by
 unfold textB
 split
 · rename_i hg
   split
   · rename_i hs
     have h1 : v.sym.size ≠ 0 := by omega
     simp [goodV, h1] at hg
     have := nameB_size hg.1
     omega
   · exact numText_size h
 · exact Nat.zero_le _
theorem termText_size {t : Term} (h : tI t) (hb : termB t = true) : (termText t).size ≤ 20 := by
 unfold termText
 split
 · rename_i hv
   simp [termB, hv, varB] at hb
   omega
 · exact textB_size h
end Go.Proofs.YtfhpecgknmfnnaaGreatDoor.M
end
