import Derived.Test.YtfhpecgknmfnnaaGreatDoorB9
import Derived.Test.YtfhpecgknmfnnaaGreatDoorB3
import Derived.Test.YtfhpecgknmfnnaaGreatDoorB7
import Derived.ChangeSame
import Derived.RowKit3
import Derived.Below
import Derived.Test.YtfhpecgknmfnnaaGreatDoorRows
import Derived.Deep.Slices
import Derived.Carry
import Derived.Test.YtfhpecgknmfnnaaGreatDoorB8
set_option linter.unusedVariables false
set_option linter.unusedSimpArgs false
section
namespace Go.Proofs.YtfhpecgknmfnnaaGreatDoor.M
open Go.R
def restQ (q : Req) : Req :=
 if (q.kind == 1) = true then ⟨q.kind, q.label, q.life, q.clause, 0, Lit.z⟩
 else if (q.kind == 2) = true then ⟨q.kind, noStr, 0, Clause.z, q.no, Lit.z⟩
 else if (q.kind == 3 || q.kind == 4) = true then ⟨q.kind, noStr, 0, Clause.z, 0, q.lit⟩
 else ⟨q.kind, noStr, 0, Clause.z, 0, Lit.z⟩
def mayQ (q : Req) : Bool :=
 if (q.kind == 1) = true then checkB q.clause && (nameB q.label && (decide (0 ≤ q.life) && decide (q.life ≤ maxTick)))
 else if (q.kind == 2) = true then decide (1 ≤ q.no) && decide (q.no ≤ maxTick)
 else if (q.kind == 3 || q.kind == 4) = true then checkLitB q.lit
 else if (q.kind == 5) = true then true else false
theorem noneB_iff (l : Lit) : noneB l = true ↔ l = Lit.z := by
 obtain ⟨k, ⟨v, ⟨a, m⟩⟩, p, l⟩ := l
 unfold noneB Lit.z Term.z Val.z
 simp only [Bool.and_eq_true, beq_iff_eq, Lit.mk.injEq, Term.mk.injEq, Val.mk.injEq, List.length_eq_zero_iff]
 have e : ∀ s : ByteArray, s.size = 0 ↔ s = noStr := fun s => ⟨fun h => ByteArray.ext (Array.eq_empty_of_size_eq_zero h), fun h => by rw [h]; rfl⟩
 rw [e, e, e]
 constructor
 · rintro ⟨h1, h2, ⟨h3, h4, h5⟩, h6⟩
   exact ⟨h1, ⟨h3, h4, h5⟩, h2, h6⟩
 · rintro ⟨h1, ⟨h3, h4, h5⟩, h2, h6⟩
   exact ⟨h1, h2, ⟨h3, h4, h5⟩, h6⟩
theorem size_zero (s : ByteArray) : s.size = 0 ↔ s = noStr := by
 exact ⟨fun h => ByteArray.ext (Array.eq_empty_of_size_eq_zero h), fun h => by rw [h]; rfl⟩
theorem bareB_iff (q : Req) : bareB q = true ↔ q.label = noStr ∧ q.life = 0 ∧ q.no = 0 ∧ q.lit = Lit.z ∧ q.clause.head = Lit.z ∧ q.clause.body = [] := by
 unfold bareB
 simp only [Bool.and_eq_true, noneB_iff, beq_iff_eq, List.length_eq_zero_iff, size_zero]
theorem eqB_iff {α : Type} (a b : α) : eqB a b = true ↔ a = b := by
 constructor
 · intro h
   by_cases e : a = b
   · exact e
   · rw [eqB_false e] at h; cases h
 · intro h
   rw [h, eqB_true rfl]
theorem check_may (q : Req) : (mayQ q && eqB q (restQ q)) = checkQ q := by
 rw [Bool.eq_iff_iff, Bool.and_eq_true, eqB_iff]
 obtain ⟨k, l, f, c, m, t⟩ := q
 unfold mayQ restQ checkQ
 cases k1 : k == 1 with
 | true =>
   simp only [k1, if_true, Bool.and_eq_true, bareB_iff, Req.mk.injEq]
   constructor
   · rintro ⟨⟨h1, h2, h3, h4⟩, -, -, -, -, h5, h6⟩
     exact ⟨⟨(by trivial), (by trivial), h5, h6, (by trivial), (by trivial)⟩, h2, h3, h4, h1⟩
   · rintro ⟨⟨-, -, h5, h6, -, -⟩, h2, h3, h4, h1⟩
     exact ⟨⟨h1, h2, h3, h4⟩, (by trivial), (by trivial), (by trivial), (by trivial), h5, h6⟩
 | false =>
   cases k2 : k == 2 with
   | true =>
     simp only [k1, k2, if_true, Bool.false_eq_true, if_false, Bool.and_eq_true, bareB_iff, Req.mk.injEq]
     constructor
     · rintro ⟨⟨h1, h2⟩, -, rfl, rfl, rfl, -, rfl⟩
       exact ⟨⟨(by trivial), (by trivial), (by trivial), (by trivial), (by trivial), (by trivial)⟩, h1, h2⟩
     · rintro ⟨⟨rfl, rfl, -, rfl, h5, h6⟩, h1, h2⟩
       refine ⟨⟨h1, h2⟩, (by trivial), (by trivial), (by trivial), ?_, (by trivial), (by trivial)⟩
       obtain ⟨a, b⟩ := c
       simp only at h5 h6
       rw [h5, h6]
       rfl
   | false =>
     cases k3 : k == 3 || k == 4 with
     | true =>
       simp only [k1, k2, k3, if_true, Bool.false_eq_true, if_false, Bool.and_eq_true, bareB_iff, Req.mk.injEq]
       constructor
       · rintro ⟨h1, -, rfl, rfl, rfl, rfl, -⟩
         exact ⟨⟨(by trivial), (by trivial), (by trivial), (by trivial), (by trivial), (by trivial)⟩, h1⟩
       · rintro ⟨⟨rfl, rfl, rfl, -, h5, h6⟩, h1⟩
         refine ⟨h1, (by trivial), (by trivial), (by trivial), ?_, (by trivial), (by trivial)⟩
         obtain ⟨a, b⟩ := c
         simp only at h5 h6
         rw [h5, h6]
         rfl
     | false =>
       cases k5 : k == 5 with
       | true =>
         simp only [k1, k2, k3, k5, if_true, Bool.false_eq_true, if_false, Bool.and_eq_true, bareB_iff, Req.mk.injEq]
         constructor
         · rintro ⟨-, -, rfl, rfl, rfl, rfl, rfl⟩
           exact ⟨(by trivial), (by trivial), (by trivial), (by trivial), (by trivial), (by trivial)⟩
         · rintro ⟨rfl, rfl, rfl, rfl, h5, h6⟩
           refine ⟨trivial, (by trivial), (by trivial), (by trivial), ?_, (by trivial), (by trivial)⟩
           obtain ⟨a, b⟩ := c
           simp only at h5 h6
           rw [h5, h6]
           rfl
       | false =>
         simp only [k1, k2, k3, k5, Bool.false_eq_true, if_false, false_and]
abbrev rprintS : Fs := .pureIf (g1p aReq fun q => reqI q ∧ smallR q ∧ q.label.size ≤ 1099511627776) (g1 aReq fun q => .tup [vS (printQ q).1, vI (printQ q).2])
set_option maxRecDepth 20000 in
set_option maxHeartbeats 8000000 in
theorem rprint_ok : FsOk Tryz.prog 11 rprintS := by
 refine of_Y1 (E := EqT.no _) (F := ((((Ft.no.put 31 printS).put 34 printLitS).put 32 refNameS).put 33 numS).put 8 rsameS) Req.av (fun _ _ => aReq_le) Tryz.func11 rfl (by kernel_rfl) [.tmp 2, .tmp 3] rfl Tryz.ntmps11 (by decide) ((((((FtOk.no _).put refPrint_ok).put refPrintLit_ok).put refName_ok).put num_ok).put rsame_ok) ?_
 intro q h n hp hok
 obtain ⟨⟨hi1, hi2, hi3, hi4⟩, hz, hlz⟩ := hp
 have hi5 : -9223372036854775808 ≤ q.life ∧ q.life ≤ 9223372036854775807 := hi3
 have hi6 : -9223372036854775808 ≤ q.no ∧ q.no ≤ 9223372036854775807 := hi4
 have a0 : (⟨q.kind, q.label, q.life, ⟨⟨q.clause.head.kind, ⟨q.clause.head.who.var, ⟨q.clause.head.who.val.sym, q.clause.head.who.val.num⟩⟩, q.clause.head.pred, q.clause.head.args⟩, q.clause.body⟩, q.no, ⟨q.lit.kind, ⟨q.lit.who.var, ⟨q.lit.who.val.sym, q.lit.who.val.num⟩⟩, q.lit.pred, q.lit.args⟩⟩ : Req) = q := rfl
 have a1 : (⟨q.lit.kind, ⟨q.lit.who.var, ⟨q.lit.who.val.sym, q.lit.who.val.num⟩⟩, q.lit.pred, q.lit.args⟩ : Lit) = q.lit := rfl
 have a2 : (⟨⟨q.clause.head.kind, ⟨q.clause.head.who.var, ⟨q.clause.head.who.val.sym, q.clause.head.who.val.num⟩⟩, q.clause.head.pred, q.clause.head.args⟩, q.clause.body⟩ : Clause) = q.clause := rfl
 have s1 := printB_size hi1
 have s2 := printLitB_size hi2
 have s3 := numText_size hi3
 have s4 := numText_size hi4
 have hn0 : n + 1 ≠ n := by omega
 have hn1 : n ≠ n + 1 := by omega
 have gLA : (⟨#[97, 115, 115, 101, 114, 116, 32]⟩ : ByteArray).size = 7 := rfl
 have gLR : (⟨#[114, 101, 118, 111, 107, 101, 32]⟩ : ByteArray).size = 7 := rfl
 have gLQ : (⟨#[113, 117, 101, 114, 121, 32]⟩ : ByteArray).size = 6 := rfl
 have gLP : (⟨#[112, 114, 111, 118, 101, 32]⟩ : ByteArray).size = 6 := rfl
 have gLF : (⟨#[102, 111, 114, 32]⟩ : ByteArray).size = 4 := rfl
 have gLS : (⟨#[32]⟩ : ByteArray).size = 1 := rfl
 have gLU : (⟨#[97, 117, 100, 105, 116]⟩ : ByteArray).size = 5 := rfl
 have fLA : #[(97 : UInt8), 115, 115, 101, 114, 116, 32].size = 7 := rfl
 have fLR : #[(114 : UInt8), 101, 118, 111, 107, 101, 32].size = 7 := rfl
 have fLQ : #[(113 : UInt8), 117, 101, 114, 121, 32].size = 6 := rfl
 have fLP : #[(112 : UInt8), 114, 111, 118, 101, 32].size = 6 := rfl
 have fLF : #[(102 : UInt8), 111, 114, 32].size = 4 := rfl
 have fLS : #[(32 : UInt8)].size = 1 := rfl
 have fLU : #[(97 : UInt8), 117, 100, 105, 116].size = 5 := rfl
 have hout : ∀ s, outQ s = if decide (4096 < (s.size : Int)) = true then (noStr, 2) else (s, 0) := fun _ => rfl
 obtain ⟨o, ho⟩ : ∃ o, mayQ q = o := ⟨_, rfl⟩
 obtain ⟨b, hb⟩ : ∃ b, eqB q (restQ q) = b := ⟨_, rfl⟩
 have hck : checkQ q = (o && b) := by rw [← check_may, ho, hb]
 cases k1 : q.kind == 1 with
 | true =>
   obtain ⟨⟨t, e⟩, ht⟩ : ∃ t, printB q.clause = t := ⟨_, rfl⟩
   rw [ht] at s1
   have s1 : t.size ≤ 2000 := s1
   have he : (e == 0) = checkB q.clause := by
    unfold printB at ht
    cases hc : checkB q.clause <;> rw [hc] at ht <;> cases ht <;> rfl
   have hb' : eqB q ⟨q.kind, q.label, q.life, q.clause, 0, ⟨0, ⟨⟨#[]⟩, ⟨⟨#[]⟩, 0⟩⟩, ⟨#[]⟩, []⟩⟩ = b := by
    have : restQ q = ⟨q.kind, q.label, q.life, q.clause, 0, Lit.z⟩ := by unfold restQ; rw [k1, if_pos rfl]
    rw [this] at hb
    exact hb
   have hm : mayQ q = (checkB q.clause && (nameB q.label && (decide (0 ≤ q.life) && decide (q.life ≤ 1099511627776)))) := by unfold mayQ; rw [k1, if_pos rfl]
   cases k2 : decide (0 < q.life) with
   | true =>
     have hT : textQ q = (⟨#[97, 115, 115, 101, 114, 116, 32]⟩ : ByteArray) ++ q.label ++ (⟨#[32]⟩ : ByteArray) ++ ((⟨#[102, 111, 114, 32]⟩ : ByteArray) ++ numText q.life ++ (⟨#[32]⟩ : ByteArray)) ++ t := by unfold textQ; rw [k1, k2, ht]; rfl
     cases c1 : checkB q.clause with
     | false =>
       have ho1 : o = false := by rw [← ho, hm, c1]; rfl
       have hN : printQ q = (noStr, 1) := by unfold printQ; rw [hck, ho1]; rfl
       have hd := hi3.1
       have hq := hi3.1
       repeat' (first | (with_reducible refine Or.inr (AW.mixWX (E := EqT.no _) [n + 1] [0,1,2,3,4,5] [6,7,8,9,10,11] [] mixedP ?_ ?_ ?_ ?_); decide +kernel; (simp only [List.length_cons,List.length_nil]; decide); (intro j hj; simp only [List.mem_singleton] at hj; subst hj; refine Or.inr ?_; dsimp only; omega)) | (with_reducible refine (AW.mixWX (E := EqT.no _) [n + 1] [0,1,2,3,4,5] [6,7,8,9,10,11] [] mixedP ?_ ?_ ?_ ?_); decide +kernel; (simp only [List.length_cons,List.length_nil]; decide); (intro j hj; simp only [List.mem_singleton] at hj; subst hj; refine Or.inr ?_; dsimp only; omega)) | (with_reducible refine MW0.of 4000 (by simp) ?_ ?_) | (with_reducible refine MW0.nil ?_) | (with_reducible refine MW1.of 4000 (by simp) ?_) | (with_reducible first | refine XG_split (fun hq => ?_) (fun hq => ?_) | refine MX1.of 4000 (by simp) ?_ | refine MX2.of 4000 (by simp) ?_ | refine And.intro ?_ ?_) | ((with_reducible first | refine Or.inl (And.intro (And.intro mixedP ?_) ?_) | refine Or.inl (And.intro mixedP ?_)); kernel_rfl) | simp only [go_sem,ldK,ldW,blindK,List.mem_singleton,Nat.reduceEqDiff,Nat.reduceAdd,Nat.reduceMul,Nat.reduceLeDiff,Int.reduceBEq,Req.av,Req.ds,Lit.av,Lit.ds,Clause.av,Clause.ds,a1,a2,a0,k1,upd_ne,hn0,hn1,List.length_map,c1,ht,he,k2])
       all_goals try simp only [ByteArray.size_append, Int.natCast_add, fLA, fLR, fLQ, fLP, fLF, fLS, fLU, gLA, gLR, gLQ, gLP, gLF, gLS, gLU]
       all_goals first | omega | exact hz | exact hi1 | exact hi2 | exact hi3 | exact hi4 | exact ⟨hi3.1,hi3.2⟩ | skip
       all_goals first | omega | (unfold maxLen; omega) | (right; omega) | (left; simp; done) | (simp only [wk3,wkL2,wk2,wkL,wk1_d,wk1_own,wk1_nil,and_self]; done) | (intro i hi; simp only [upd]; (repeat' split); all_goals first | rfl | omega) | skip
       all_goals first | (rw [hN]; exact wk3_eq rfl) | (exfalso; simp only [ByteArray.size_append, Int.natCast_add, fLA, fLR, fLQ, fLP, fLF, fLS, fLU, gLA, gLR, gLQ, gLP, gLF, gLS, gLU, decide_eq_true_eq, decide_eq_false_iff_not] at hd hq; omega) | trace_state
     | true =>
       cases c2 : nameB q.label with
       | false =>
         have ho1 : o = false := by rw [← ho, hm, c1, c2]; rfl
         have hN : printQ q = (noStr, 1) := by unfold printQ; rw [hck, ho1]; rfl
         have hd := hi3.1
         have hq := hi3.1
         repeat' (first | (with_reducible refine Or.inr (AW.mixWX (E := EqT.no _) [n + 1] [0,1,2,3,4,5] [6,7,8,9,10,11] [] mixedP ?_ ?_ ?_ ?_); decide +kernel; (simp only [List.length_cons,List.length_nil]; decide); (intro j hj; simp only [List.mem_singleton] at hj; subst hj; refine Or.inr ?_; dsimp only; omega)) | (with_reducible refine (AW.mixWX (E := EqT.no _) [n + 1] [0,1,2,3,4,5] [6,7,8,9,10,11] [] mixedP ?_ ?_ ?_ ?_); decide +kernel; (simp only [List.length_cons,List.length_nil]; decide); (intro j hj; simp only [List.mem_singleton] at hj; subst hj; refine Or.inr ?_; dsimp only; omega)) | (with_reducible refine MW0.of 4000 (by simp) ?_ ?_) | (with_reducible refine MW0.nil ?_) | (with_reducible refine MW1.of 4000 (by simp) ?_) | (with_reducible first | refine XG_split (fun hq => ?_) (fun hq => ?_) | refine MX1.of 4000 (by simp) ?_ | refine MX2.of 4000 (by simp) ?_ | refine And.intro ?_ ?_) | ((with_reducible first | refine Or.inl (And.intro (And.intro mixedP ?_) ?_) | refine Or.inl (And.intro mixedP ?_)); kernel_rfl) | simp only [go_sem,ldK,ldW,blindK,List.mem_singleton,Nat.reduceEqDiff,Nat.reduceAdd,Nat.reduceMul,Nat.reduceLeDiff,Int.reduceBEq,Req.av,Req.ds,Lit.av,Lit.ds,Clause.av,Clause.ds,a1,a2,a0,k1,upd_ne,hn0,hn1,List.length_map,c1,c2,ht,he,k2])
         all_goals try simp only [ByteArray.size_append, Int.natCast_add, fLA, fLR, fLQ, fLP, fLF, fLS, fLU, gLA, gLR, gLQ, gLP, gLF, gLS, gLU]
         all_goals first | omega | exact hz | exact hi1 | exact hi2 | exact hi3 | exact hi4 | exact ⟨hi3.1,hi3.2⟩ | skip
         all_goals first | omega | (unfold maxLen; omega) | (right; omega) | (left; simp; done) | (simp only [wk3,wkL2,wk2,wkL,wk1_d,wk1_own,wk1_nil,and_self]; done) | (intro i hi; simp only [upd]; (repeat' split); all_goals first | rfl | omega) | skip
         all_goals first | (rw [hN]; exact wk3_eq rfl) | (exfalso; simp only [ByteArray.size_append, Int.natCast_add, fLA, fLR, fLQ, fLP, fLF, fLS, fLU, gLA, gLR, gLQ, gLP, gLF, gLS, gLU, decide_eq_true_eq, decide_eq_false_iff_not] at hd hq; omega) | trace_state
       | true =>
         cases c3 : decide (0 ≤ q.life) with
         | false =>
           have ho1 : o = false := by rw [← ho, hm, c1, c2, c3]; rfl
           have hN : printQ q = (noStr, 1) := by unfold printQ; rw [hck, ho1]; rfl
           have hd := hi3.1
           have hq := hi3.1
           repeat' (first | (with_reducible refine Or.inr (AW.mixWX (E := EqT.no _) [n + 1] [0,1,2,3,4,5] [6,7,8,9,10,11] [] mixedP ?_ ?_ ?_ ?_); decide +kernel; (simp only [List.length_cons,List.length_nil]; decide); (intro j hj; simp only [List.mem_singleton] at hj; subst hj; refine Or.inr ?_; dsimp only; omega)) | (with_reducible refine (AW.mixWX (E := EqT.no _) [n + 1] [0,1,2,3,4,5] [6,7,8,9,10,11] [] mixedP ?_ ?_ ?_ ?_); decide +kernel; (simp only [List.length_cons,List.length_nil]; decide); (intro j hj; simp only [List.mem_singleton] at hj; subst hj; refine Or.inr ?_; dsimp only; omega)) | (with_reducible refine MW0.of 4000 (by simp) ?_ ?_) | (with_reducible refine MW0.nil ?_) | (with_reducible refine MW1.of 4000 (by simp) ?_) | (with_reducible first | refine XG_split (fun hq => ?_) (fun hq => ?_) | refine MX1.of 4000 (by simp) ?_ | refine MX2.of 4000 (by simp) ?_ | refine And.intro ?_ ?_) | ((with_reducible first | refine Or.inl (And.intro (And.intro mixedP ?_) ?_) | refine Or.inl (And.intro mixedP ?_)); kernel_rfl) | simp only [go_sem,ldK,ldW,blindK,List.mem_singleton,Nat.reduceEqDiff,Nat.reduceAdd,Nat.reduceMul,Nat.reduceLeDiff,Int.reduceBEq,Req.av,Req.ds,Lit.av,Lit.ds,Clause.av,Clause.ds,a1,a2,a0,k1,upd_ne,hn0,hn1,List.length_map,c1,c2,c3,ht,he,k2])
           all_goals try simp only [ByteArray.size_append, Int.natCast_add, fLA, fLR, fLQ, fLP, fLF, fLS, fLU, gLA, gLR, gLQ, gLP, gLF, gLS, gLU]
           all_goals first | omega | exact hz | exact hi1 | exact hi2 | exact hi3 | exact hi4 | exact ⟨hi3.1,hi3.2⟩ | skip
           all_goals first | omega | (unfold maxLen; omega) | (right; omega) | (left; simp; done) | (simp only [wk3,wkL2,wk2,wkL,wk1_d,wk1_own,wk1_nil,and_self]; done) | (intro i hi; simp only [upd]; (repeat' split); all_goals first | rfl | omega) | skip
           all_goals first | (rw [hN]; exact wk3_eq rfl) | (exfalso; simp only [ByteArray.size_append, Int.natCast_add, fLA, fLR, fLQ, fLP, fLF, fLS, fLU, gLA, gLR, gLQ, gLP, gLF, gLS, gLU, decide_eq_true_eq, decide_eq_false_iff_not] at hd hq; omega) | trace_state
         | true =>
           cases c4 : decide (q.life ≤ 1099511627776) with
           | false =>
             have ho1 : o = false := by rw [← ho, hm, c1, c2, c3, c4]; rfl
             have hN : printQ q = (noStr, 1) := by unfold printQ; rw [hck, ho1]; rfl
             have hd := hi3.1
             have hq := hi3.1
             repeat' (first | (with_reducible refine Or.inr (AW.mixWX (E := EqT.no _) [n + 1] [0,1,2,3,4,5] [6,7,8,9,10,11] [] mixedP ?_ ?_ ?_ ?_); decide +kernel; (simp only [List.length_cons,List.length_nil]; decide); (intro j hj; simp only [List.mem_singleton] at hj; subst hj; refine Or.inr ?_; dsimp only; omega)) | (with_reducible refine (AW.mixWX (E := EqT.no _) [n + 1] [0,1,2,3,4,5] [6,7,8,9,10,11] [] mixedP ?_ ?_ ?_ ?_); decide +kernel; (simp only [List.length_cons,List.length_nil]; decide); (intro j hj; simp only [List.mem_singleton] at hj; subst hj; refine Or.inr ?_; dsimp only; omega)) | (with_reducible refine MW0.of 4000 (by simp) ?_ ?_) | (with_reducible refine MW0.nil ?_) | (with_reducible refine MW1.of 4000 (by simp) ?_) | (with_reducible first | refine XG_split (fun hq => ?_) (fun hq => ?_) | refine MX1.of 4000 (by simp) ?_ | refine MX2.of 4000 (by simp) ?_ | refine And.intro ?_ ?_) | ((with_reducible first | refine Or.inl (And.intro (And.intro mixedP ?_) ?_) | refine Or.inl (And.intro mixedP ?_)); kernel_rfl) | simp only [go_sem,ldK,ldW,blindK,List.mem_singleton,Nat.reduceEqDiff,Nat.reduceAdd,Nat.reduceMul,Nat.reduceLeDiff,Int.reduceBEq,Req.av,Req.ds,Lit.av,Lit.ds,Clause.av,Clause.ds,a1,a2,a0,k1,upd_ne,hn0,hn1,List.length_map,c1,c2,c3,c4,ht,he,k2])
             all_goals try simp only [ByteArray.size_append, Int.natCast_add, fLA, fLR, fLQ, fLP, fLF, fLS, fLU, gLA, gLR, gLQ, gLP, gLF, gLS, gLU]
             all_goals first | omega | exact hz | exact hi1 | exact hi2 | exact hi3 | exact hi4 | exact ⟨hi3.1,hi3.2⟩ | skip
             all_goals first | omega | (unfold maxLen; omega) | (right; omega) | (left; simp; done) | (simp only [wk3,wkL2,wk2,wkL,wk1_d,wk1_own,wk1_nil,and_self]; done) | (intro i hi; simp only [upd]; (repeat' split); all_goals first | rfl | omega) | skip
             all_goals first | (rw [hN]; exact wk3_eq rfl) | (exfalso; simp only [ByteArray.size_append, Int.natCast_add, fLA, fLR, fLQ, fLP, fLF, fLS, fLU, gLA, gLR, gLQ, gLP, gLF, gLS, gLU, decide_eq_true_eq, decide_eq_false_iff_not] at hd hq; omega) | trace_state
           | true =>
             have ho1 : o = true := by rw [← ho, hm, c1, c2, c3, c4]; rfl
             have hlab := nameB_size c2
             cases b with
             | false =>
               have hN : printQ q = (noStr, 1) := by unfold printQ; rw [hck, ho1]; rfl
               cases hd : decide (4096 < ((textQ q).size : Int))
               all_goals
                rw [hT] at hd
                repeat' (first | (with_reducible refine Or.inr (AW.mixWX (E := EqT.no _) [n + 1] [0,1,2,3,4,5] [6,7,8,9,10,11] [] mixedP ?_ ?_ ?_ ?_); decide +kernel; (simp only [List.length_cons,List.length_nil]; decide); (intro j hj; simp only [List.mem_singleton] at hj; subst hj; refine Or.inr ?_; dsimp only; omega)) | (with_reducible refine (AW.mixWX (E := EqT.no _) [n + 1] [0,1,2,3,4,5] [6,7,8,9,10,11] [] mixedP ?_ ?_ ?_ ?_); decide +kernel; (simp only [List.length_cons,List.length_nil]; decide); (intro j hj; simp only [List.mem_singleton] at hj; subst hj; refine Or.inr ?_; dsimp only; omega)) | (with_reducible refine MW0.of 4000 (by simp) ?_ ?_) | (with_reducible refine MW0.nil ?_) | (with_reducible refine MW1.of 4000 (by simp) ?_) | (with_reducible first | refine XG_split (fun hq => ?_) (fun hq => ?_) | refine MX1.of 4000 (by simp) ?_ | refine MX2.of 4000 (by simp) ?_ | refine And.intro ?_ ?_) | ((with_reducible first | refine Or.inl (And.intro (And.intro mixedP ?_) ?_) | refine Or.inl (And.intro mixedP ?_)); kernel_rfl) | simp only [go_sem,ldK,ldW,blindK,List.mem_singleton,Nat.reduceEqDiff,Nat.reduceAdd,Nat.reduceMul,Nat.reduceLeDiff,Int.reduceBEq,Req.av,Req.ds,Lit.av,Lit.ds,Clause.av,Clause.ds,a1,a2,a0,k1,upd_ne,hn0,hn1,List.length_map,c1,c2,c3,c4,hb',ht,he,k2])
                all_goals try simp only [ByteArray.size_append, Int.natCast_add, fLA, fLR, fLQ, fLP, fLF, fLS, fLU, gLA, gLR, gLQ, gLP, gLF, gLS, gLU]
                all_goals first | omega | exact hz | exact hi1 | exact hi2 | exact hi3 | exact hi4 | exact ⟨hi3.1,hi3.2⟩ | skip
                all_goals first | omega | (unfold maxLen; omega) | (right; omega) | (left; simp; done) | (simp only [wk3,wkL2,wk2,wkL,wk1_d,wk1_own,wk1_nil,and_self]; done) | (intro i hi; simp only [upd]; (repeat' split); all_goals first | rfl | omega) | skip
                all_goals first | (rw [hN]; exact wk3_eq rfl) | (exfalso; simp only [ByteArray.size_append, Int.natCast_add, fLA, fLR, fLQ, fLP, fLF, fLS, fLU, gLA, gLR, gLQ, gLP, gLF, gLS, gLU, decide_eq_true_eq, decide_eq_false_iff_not] at hd hq; omega) | trace_state
             | true =>
               have hN : printQ q = outQ (textQ q) := by unfold printQ; rw [hck, ho1]; rfl
               cases hd : decide (4096 < ((textQ q).size : Int)) with
               | true =>
                 have hN2 : printQ q = (noStr, 2) := by rw [hN, hout, hd]; rfl
                 rw [hT] at hd
                 try rw [hT] at hN2
                 repeat' (first | (with_reducible refine Or.inr (AW.mixWX (E := EqT.no _) [n + 1] [0,1,2,3,4,5] [6,7,8,9,10,11] [] mixedP ?_ ?_ ?_ ?_); decide +kernel; (simp only [List.length_cons,List.length_nil]; decide); (intro j hj; simp only [List.mem_singleton] at hj; subst hj; refine Or.inr ?_; dsimp only; omega)) | (with_reducible refine (AW.mixWX (E := EqT.no _) [n + 1] [0,1,2,3,4,5] [6,7,8,9,10,11] [] mixedP ?_ ?_ ?_ ?_); decide +kernel; (simp only [List.length_cons,List.length_nil]; decide); (intro j hj; simp only [List.mem_singleton] at hj; subst hj; refine Or.inr ?_; dsimp only; omega)) | (with_reducible refine MW0.of 4000 (by simp) ?_ ?_) | (with_reducible refine MW0.nil ?_) | (with_reducible refine MW1.of 4000 (by simp) ?_) | (with_reducible first | refine XG_split (fun hq => ?_) (fun hq => ?_) | refine MX1.of 4000 (by simp) ?_ | refine MX2.of 4000 (by simp) ?_ | refine And.intro ?_ ?_) | ((with_reducible first | refine Or.inl (And.intro (And.intro mixedP ?_) ?_) | refine Or.inl (And.intro mixedP ?_)); kernel_rfl) | simp only [go_sem,ldK,ldW,blindK,List.mem_singleton,Nat.reduceEqDiff,Nat.reduceAdd,Nat.reduceMul,Nat.reduceLeDiff,Int.reduceBEq,Req.av,Req.ds,Lit.av,Lit.ds,Clause.av,Clause.ds,a1,a2,a0,k1,upd_ne,hn0,hn1,List.length_map,c1,c2,c3,c4,hb',ht,he,k2])
                 all_goals try simp only [ByteArray.size_append, Int.natCast_add, fLA, fLR, fLQ, fLP, fLF, fLS, fLU, gLA, gLR, gLQ, gLP, gLF, gLS, gLU]
                 all_goals first | omega | exact hz | exact hi1 | exact hi2 | exact hi3 | exact hi4 | exact ⟨hi3.1,hi3.2⟩ | skip
                 all_goals first | omega | (unfold maxLen; omega) | (right; omega) | (left; simp; done) | (simp only [wk3,wkL2,wk2,wkL,wk1_d,wk1_own,wk1_nil,and_self]; done) | (intro i hi; simp only [upd]; (repeat' split); all_goals first | rfl | omega) | skip
                 all_goals first | (rw [hN2]; exact wk3_eq rfl) | (exfalso; simp only [ByteArray.size_append, Int.natCast_add, fLA, fLR, fLQ, fLP, fLF, fLS, fLU, gLA, gLR, gLQ, gLP, gLF, gLS, gLU, decide_eq_true_eq, decide_eq_false_iff_not] at hd hq; omega) | trace_state
               | false =>
                 have hN2 : printQ q = (textQ q, 0) := by rw [hN, hout, hd]; rfl
                 rw [hT] at hd
                 try rw [hT] at hN2
                 repeat' (first | (with_reducible refine Or.inr (AW.mixWX (E := EqT.no _) [n + 1] [0,1,2,3,4,5] [6,7,8,9,10,11] [] mixedP ?_ ?_ ?_ ?_); decide +kernel; (simp only [List.length_cons,List.length_nil]; decide); (intro j hj; simp only [List.mem_singleton] at hj; subst hj; refine Or.inr ?_; dsimp only; omega)) | (with_reducible refine (AW.mixWX (E := EqT.no _) [n + 1] [0,1,2,3,4,5] [6,7,8,9,10,11] [] mixedP ?_ ?_ ?_ ?_); decide +kernel; (simp only [List.length_cons,List.length_nil]; decide); (intro j hj; simp only [List.mem_singleton] at hj; subst hj; refine Or.inr ?_; dsimp only; omega)) | (with_reducible refine MW0.of 4000 (by simp) ?_ ?_) | (with_reducible refine MW0.nil ?_) | (with_reducible refine MW1.of 4000 (by simp) ?_) | (with_reducible first | refine XG_split (fun hq => ?_) (fun hq => ?_) | refine MX1.of 4000 (by simp) ?_ | refine MX2.of 4000 (by simp) ?_ | refine And.intro ?_ ?_) | ((with_reducible first | refine Or.inl (And.intro (And.intro mixedP ?_) ?_) | refine Or.inl (And.intro mixedP ?_)); kernel_rfl) | simp only [go_sem,ldK,ldW,blindK,List.mem_singleton,Nat.reduceEqDiff,Nat.reduceAdd,Nat.reduceMul,Nat.reduceLeDiff,Int.reduceBEq,Req.av,Req.ds,Lit.av,Lit.ds,Clause.av,Clause.ds,a1,a2,a0,k1,upd_ne,hn0,hn1,List.length_map,c1,c2,c3,c4,hb',ht,he,k2])
                 all_goals try simp only [ByteArray.size_append, Int.natCast_add, fLA, fLR, fLQ, fLP, fLF, fLS, fLU, gLA, gLR, gLQ, gLP, gLF, gLS, gLU]
                 all_goals first | omega | exact hz | exact hi1 | exact hi2 | exact hi3 | exact hi4 | exact ⟨hi3.1,hi3.2⟩ | skip
                 all_goals first | omega | (unfold maxLen; omega) | (right; omega) | (left; simp; done) | (simp only [wk3,wkL2,wk2,wkL,wk1_d,wk1_own,wk1_nil,and_self]; done) | (intro i hi; simp only [upd]; (repeat' split); all_goals first | rfl | omega) | skip
                 all_goals first | (rw [hN2]; exact wk3_eq rfl) | (exfalso; simp only [ByteArray.size_append, Int.natCast_add, fLA, fLR, fLQ, fLP, fLF, fLS, fLU, gLA, gLR, gLQ, gLP, gLF, gLS, gLU, decide_eq_true_eq, decide_eq_false_iff_not] at hd hq; omega) | trace_state
   | false =>
     have hT : textQ q = (⟨#[97, 115, 115, 101, 114, 116, 32]⟩ : ByteArray) ++ q.label ++ (⟨#[32]⟩ : ByteArray) ++ t := by unfold textQ; rw [k1, k2, ht]; rfl
     cases c1 : checkB q.clause with
     | false =>
       have ho1 : o = false := by rw [← ho, hm, c1]; rfl
       have hN : printQ q = (noStr, 1) := by unfold printQ; rw [hck, ho1]; rfl
       have hd := hi3.1
       have hq := hi3.1
       repeat' (first | (with_reducible refine Or.inr (AW.mixWX (E := EqT.no _) [n + 1] [0,1,2,3,4,5] [6,7,8,9,10,11] [] mixedP ?_ ?_ ?_ ?_); decide +kernel; (simp only [List.length_cons,List.length_nil]; decide); (intro j hj; simp only [List.mem_singleton] at hj; subst hj; refine Or.inr ?_; dsimp only; omega)) | (with_reducible refine (AW.mixWX (E := EqT.no _) [n + 1] [0,1,2,3,4,5] [6,7,8,9,10,11] [] mixedP ?_ ?_ ?_ ?_); decide +kernel; (simp only [List.length_cons,List.length_nil]; decide); (intro j hj; simp only [List.mem_singleton] at hj; subst hj; refine Or.inr ?_; dsimp only; omega)) | (with_reducible refine MW0.of 4000 (by simp) ?_ ?_) | (with_reducible refine MW0.nil ?_) | (with_reducible refine MW1.of 4000 (by simp) ?_) | (with_reducible first | refine XG_split (fun hq => ?_) (fun hq => ?_) | refine MX1.of 4000 (by simp) ?_ | refine MX2.of 4000 (by simp) ?_ | refine And.intro ?_ ?_) | ((with_reducible first | refine Or.inl (And.intro (And.intro mixedP ?_) ?_) | refine Or.inl (And.intro mixedP ?_)); kernel_rfl) | simp only [go_sem,ldK,ldW,blindK,List.mem_singleton,Nat.reduceEqDiff,Nat.reduceAdd,Nat.reduceMul,Nat.reduceLeDiff,Int.reduceBEq,Req.av,Req.ds,Lit.av,Lit.ds,Clause.av,Clause.ds,a1,a2,a0,k1,upd_ne,hn0,hn1,List.length_map,c1,ht,he,k2])
       all_goals try simp only [ByteArray.size_append, Int.natCast_add, fLA, fLR, fLQ, fLP, fLF, fLS, fLU, gLA, gLR, gLQ, gLP, gLF, gLS, gLU]
       all_goals first | omega | exact hz | exact hi1 | exact hi2 | exact hi3 | exact hi4 | exact ⟨hi3.1,hi3.2⟩ | skip
       all_goals first | omega | (unfold maxLen; omega) | (right; omega) | (left; simp; done) | (simp only [wk3,wkL2,wk2,wkL,wk1_d,wk1_own,wk1_nil,and_self]; done) | (intro i hi; simp only [upd]; (repeat' split); all_goals first | rfl | omega) | skip
       all_goals first | (rw [hN]; exact wk3_eq rfl) | (exfalso; simp only [ByteArray.size_append, Int.natCast_add, fLA, fLR, fLQ, fLP, fLF, fLS, fLU, gLA, gLR, gLQ, gLP, gLF, gLS, gLU, decide_eq_true_eq, decide_eq_false_iff_not] at hd hq; omega) | trace_state
     | true =>
       cases c2 : nameB q.label with
       | false =>
         have ho1 : o = false := by rw [← ho, hm, c1, c2]; rfl
         have hN : printQ q = (noStr, 1) := by unfold printQ; rw [hck, ho1]; rfl
         have hd := hi3.1
         have hq := hi3.1
         repeat' (first | (with_reducible refine Or.inr (AW.mixWX (E := EqT.no _) [n + 1] [0,1,2,3,4,5] [6,7,8,9,10,11] [] mixedP ?_ ?_ ?_ ?_); decide +kernel; (simp only [List.length_cons,List.length_nil]; decide); (intro j hj; simp only [List.mem_singleton] at hj; subst hj; refine Or.inr ?_; dsimp only; omega)) | (with_reducible refine (AW.mixWX (E := EqT.no _) [n + 1] [0,1,2,3,4,5] [6,7,8,9,10,11] [] mixedP ?_ ?_ ?_ ?_); decide +kernel; (simp only [List.length_cons,List.length_nil]; decide); (intro j hj; simp only [List.mem_singleton] at hj; subst hj; refine Or.inr ?_; dsimp only; omega)) | (with_reducible refine MW0.of 4000 (by simp) ?_ ?_) | (with_reducible refine MW0.nil ?_) | (with_reducible refine MW1.of 4000 (by simp) ?_) | (with_reducible first | refine XG_split (fun hq => ?_) (fun hq => ?_) | refine MX1.of 4000 (by simp) ?_ | refine MX2.of 4000 (by simp) ?_ | refine And.intro ?_ ?_) | ((with_reducible first | refine Or.inl (And.intro (And.intro mixedP ?_) ?_) | refine Or.inl (And.intro mixedP ?_)); kernel_rfl) | simp only [go_sem,ldK,ldW,blindK,List.mem_singleton,Nat.reduceEqDiff,Nat.reduceAdd,Nat.reduceMul,Nat.reduceLeDiff,Int.reduceBEq,Req.av,Req.ds,Lit.av,Lit.ds,Clause.av,Clause.ds,a1,a2,a0,k1,upd_ne,hn0,hn1,List.length_map,c1,c2,ht,he,k2])
         all_goals try simp only [ByteArray.size_append, Int.natCast_add, fLA, fLR, fLQ, fLP, fLF, fLS, fLU, gLA, gLR, gLQ, gLP, gLF, gLS, gLU]
         all_goals first | omega | exact hz | exact hi1 | exact hi2 | exact hi3 | exact hi4 | exact ⟨hi3.1,hi3.2⟩ | skip
         all_goals first | omega | (unfold maxLen; omega) | (right; omega) | (left; simp; done) | (simp only [wk3,wkL2,wk2,wkL,wk1_d,wk1_own,wk1_nil,and_self]; done) | (intro i hi; simp only [upd]; (repeat' split); all_goals first | rfl | omega) | skip
         all_goals first | (rw [hN]; exact wk3_eq rfl) | (exfalso; simp only [ByteArray.size_append, Int.natCast_add, fLA, fLR, fLQ, fLP, fLF, fLS, fLU, gLA, gLR, gLQ, gLP, gLF, gLS, gLU, decide_eq_true_eq, decide_eq_false_iff_not] at hd hq; omega) | trace_state
       | true =>
         cases c3 : decide (0 ≤ q.life) with
         | false =>
           have ho1 : o = false := by rw [← ho, hm, c1, c2, c3]; rfl
           have hN : printQ q = (noStr, 1) := by unfold printQ; rw [hck, ho1]; rfl
           have hd := hi3.1
           have hq := hi3.1
           repeat' (first | (with_reducible refine Or.inr (AW.mixWX (E := EqT.no _) [n + 1] [0,1,2,3,4,5] [6,7,8,9,10,11] [] mixedP ?_ ?_ ?_ ?_); decide +kernel; (simp only [List.length_cons,List.length_nil]; decide); (intro j hj; simp only [List.mem_singleton] at hj; subst hj; refine Or.inr ?_; dsimp only; omega)) | (with_reducible refine (AW.mixWX (E := EqT.no _) [n + 1] [0,1,2,3,4,5] [6,7,8,9,10,11] [] mixedP ?_ ?_ ?_ ?_); decide +kernel; (simp only [List.length_cons,List.length_nil]; decide); (intro j hj; simp only [List.mem_singleton] at hj; subst hj; refine Or.inr ?_; dsimp only; omega)) | (with_reducible refine MW0.of 4000 (by simp) ?_ ?_) | (with_reducible refine MW0.nil ?_) | (with_reducible refine MW1.of 4000 (by simp) ?_) | (with_reducible first | refine XG_split (fun hq => ?_) (fun hq => ?_) | refine MX1.of 4000 (by simp) ?_ | refine MX2.of 4000 (by simp) ?_ | refine And.intro ?_ ?_) | ((with_reducible first | refine Or.inl (And.intro (And.intro mixedP ?_) ?_) | refine Or.inl (And.intro mixedP ?_)); kernel_rfl) | simp only [go_sem,ldK,ldW,blindK,List.mem_singleton,Nat.reduceEqDiff,Nat.reduceAdd,Nat.reduceMul,Nat.reduceLeDiff,Int.reduceBEq,Req.av,Req.ds,Lit.av,Lit.ds,Clause.av,Clause.ds,a1,a2,a0,k1,upd_ne,hn0,hn1,List.length_map,c1,c2,c3,ht,he,k2])
           all_goals try simp only [ByteArray.size_append, Int.natCast_add, fLA, fLR, fLQ, fLP, fLF, fLS, fLU, gLA, gLR, gLQ, gLP, gLF, gLS, gLU]
           all_goals first | omega | exact hz | exact hi1 | exact hi2 | exact hi3 | exact hi4 | exact ⟨hi3.1,hi3.2⟩ | skip
           all_goals first | omega | (unfold maxLen; omega) | (right; omega) | (left; simp; done) | (simp only [wk3,wkL2,wk2,wkL,wk1_d,wk1_own,wk1_nil,and_self]; done) | (intro i hi; simp only [upd]; (repeat' split); all_goals first | rfl | omega) | skip
           all_goals first | (rw [hN]; exact wk3_eq rfl) | (exfalso; simp only [ByteArray.size_append, Int.natCast_add, fLA, fLR, fLQ, fLP, fLF, fLS, fLU, gLA, gLR, gLQ, gLP, gLF, gLS, gLU, decide_eq_true_eq, decide_eq_false_iff_not] at hd hq; omega) | trace_state
         | true =>
           cases c4 : decide (q.life ≤ 1099511627776) with
           | false =>
             have ho1 : o = false := by rw [← ho, hm, c1, c2, c3, c4]; rfl
             have hN : printQ q = (noStr, 1) := by unfold printQ; rw [hck, ho1]; rfl
             have hd := hi3.1
             have hq := hi3.1
             repeat' (first | (with_reducible refine Or.inr (AW.mixWX (E := EqT.no _) [n + 1] [0,1,2,3,4,5] [6,7,8,9,10,11] [] mixedP ?_ ?_ ?_ ?_); decide +kernel; (simp only [List.length_cons,List.length_nil]; decide); (intro j hj; simp only [List.mem_singleton] at hj; subst hj; refine Or.inr ?_; dsimp only; omega)) | (with_reducible refine (AW.mixWX (E := EqT.no _) [n + 1] [0,1,2,3,4,5] [6,7,8,9,10,11] [] mixedP ?_ ?_ ?_ ?_); decide +kernel; (simp only [List.length_cons,List.length_nil]; decide); (intro j hj; simp only [List.mem_singleton] at hj; subst hj; refine Or.inr ?_; dsimp only; omega)) | (with_reducible refine MW0.of 4000 (by simp) ?_ ?_) | (with_reducible refine MW0.nil ?_) | (with_reducible refine MW1.of 4000 (by simp) ?_) | (with_reducible first | refine XG_split (fun hq => ?_) (fun hq => ?_) | refine MX1.of 4000 (by simp) ?_ | refine MX2.of 4000 (by simp) ?_ | refine And.intro ?_ ?_) | ((with_reducible first | refine Or.inl (And.intro (And.intro mixedP ?_) ?_) | refine Or.inl (And.intro mixedP ?_)); kernel_rfl) | simp only [go_sem,ldK,ldW,blindK,List.mem_singleton,Nat.reduceEqDiff,Nat.reduceAdd,Nat.reduceMul,Nat.reduceLeDiff,Int.reduceBEq,Req.av,Req.ds,Lit.av,Lit.ds,Clause.av,Clause.ds,a1,a2,a0,k1,upd_ne,hn0,hn1,List.length_map,c1,c2,c3,c4,ht,he,k2])
             all_goals try simp only [ByteArray.size_append, Int.natCast_add, fLA, fLR, fLQ, fLP, fLF, fLS, fLU, gLA, gLR, gLQ, gLP, gLF, gLS, gLU]
             all_goals first | omega | exact hz | exact hi1 | exact hi2 | exact hi3 | exact hi4 | exact ⟨hi3.1,hi3.2⟩ | skip
             all_goals first | omega | (unfold maxLen; omega) | (right; omega) | (left; simp; done) | (simp only [wk3,wkL2,wk2,wkL,wk1_d,wk1_own,wk1_nil,and_self]; done) | (intro i hi; simp only [upd]; (repeat' split); all_goals first | rfl | omega) | skip
             all_goals first | (rw [hN]; exact wk3_eq rfl) | (exfalso; simp only [ByteArray.size_append, Int.natCast_add, fLA, fLR, fLQ, fLP, fLF, fLS, fLU, gLA, gLR, gLQ, gLP, gLF, gLS, gLU, decide_eq_true_eq, decide_eq_false_iff_not] at hd hq; omega) | trace_state
           | true =>
             have ho1 : o = true := by rw [← ho, hm, c1, c2, c3, c4]; rfl
             have hlab := nameB_size c2
             cases b with
             | false =>
               have hN : printQ q = (noStr, 1) := by unfold printQ; rw [hck, ho1]; rfl
               cases hd : decide (4096 < ((textQ q).size : Int))
               all_goals
                rw [hT] at hd
                repeat' (first | (with_reducible refine Or.inr (AW.mixWX (E := EqT.no _) [n + 1] [0,1,2,3,4,5] [6,7,8,9,10,11] [] mixedP ?_ ?_ ?_ ?_); decide +kernel; (simp only [List.length_cons,List.length_nil]; decide); (intro j hj; simp only [List.mem_singleton] at hj; subst hj; refine Or.inr ?_; dsimp only; omega)) | (with_reducible refine (AW.mixWX (E := EqT.no _) [n + 1] [0,1,2,3,4,5] [6,7,8,9,10,11] [] mixedP ?_ ?_ ?_ ?_); decide +kernel; (simp only [List.length_cons,List.length_nil]; decide); (intro j hj; simp only [List.mem_singleton] at hj; subst hj; refine Or.inr ?_; dsimp only; omega)) | (with_reducible refine MW0.of 4000 (by simp) ?_ ?_) | (with_reducible refine MW0.nil ?_) | (with_reducible refine MW1.of 4000 (by simp) ?_) | (with_reducible first | refine XG_split (fun hq => ?_) (fun hq => ?_) | refine MX1.of 4000 (by simp) ?_ | refine MX2.of 4000 (by simp) ?_ | refine And.intro ?_ ?_) | ((with_reducible first | refine Or.inl (And.intro (And.intro mixedP ?_) ?_) | refine Or.inl (And.intro mixedP ?_)); kernel_rfl) | simp only [go_sem,ldK,ldW,blindK,List.mem_singleton,Nat.reduceEqDiff,Nat.reduceAdd,Nat.reduceMul,Nat.reduceLeDiff,Int.reduceBEq,Req.av,Req.ds,Lit.av,Lit.ds,Clause.av,Clause.ds,a1,a2,a0,k1,upd_ne,hn0,hn1,List.length_map,c1,c2,c3,c4,hb',ht,he,k2])
                all_goals try simp only [ByteArray.size_append, Int.natCast_add, fLA, fLR, fLQ, fLP, fLF, fLS, fLU, gLA, gLR, gLQ, gLP, gLF, gLS, gLU]
                all_goals first | omega | exact hz | exact hi1 | exact hi2 | exact hi3 | exact hi4 | exact ⟨hi3.1,hi3.2⟩ | skip
                all_goals first | omega | (unfold maxLen; omega) | (right; omega) | (left; simp; done) | (simp only [wk3,wkL2,wk2,wkL,wk1_d,wk1_own,wk1_nil,and_self]; done) | (intro i hi; simp only [upd]; (repeat' split); all_goals first | rfl | omega) | skip
                all_goals first | (rw [hN]; exact wk3_eq rfl) | (exfalso; simp only [ByteArray.size_append, Int.natCast_add, fLA, fLR, fLQ, fLP, fLF, fLS, fLU, gLA, gLR, gLQ, gLP, gLF, gLS, gLU, decide_eq_true_eq, decide_eq_false_iff_not] at hd hq; omega) | trace_state
             | true =>
               have hN : printQ q = outQ (textQ q) := by unfold printQ; rw [hck, ho1]; rfl
               cases hd : decide (4096 < ((textQ q).size : Int)) with
               | true =>
                 have hN2 : printQ q = (noStr, 2) := by rw [hN, hout, hd]; rfl
                 rw [hT] at hd
                 try rw [hT] at hN2
                 repeat' (first | (with_reducible refine Or.inr (AW.mixWX (E := EqT.no _) [n + 1] [0,1,2,3,4,5] [6,7,8,9,10,11] [] mixedP ?_ ?_ ?_ ?_); decide +kernel; (simp only [List.length_cons,List.length_nil]; decide); (intro j hj; simp only [List.mem_singleton] at hj; subst hj; refine Or.inr ?_; dsimp only; omega)) | (with_reducible refine (AW.mixWX (E := EqT.no _) [n + 1] [0,1,2,3,4,5] [6,7,8,9,10,11] [] mixedP ?_ ?_ ?_ ?_); decide +kernel; (simp only [List.length_cons,List.length_nil]; decide); (intro j hj; simp only [List.mem_singleton] at hj; subst hj; refine Or.inr ?_; dsimp only; omega)) | (with_reducible refine MW0.of 4000 (by simp) ?_ ?_) | (with_reducible refine MW0.nil ?_) | (with_reducible refine MW1.of 4000 (by simp) ?_) | (with_reducible first | refine XG_split (fun hq => ?_) (fun hq => ?_) | refine MX1.of 4000 (by simp) ?_ | refine MX2.of 4000 (by simp) ?_ | refine And.intro ?_ ?_) | ((with_reducible first | refine Or.inl (And.intro (And.intro mixedP ?_) ?_) | refine Or.inl (And.intro mixedP ?_)); kernel_rfl) | simp only [go_sem,ldK,ldW,blindK,List.mem_singleton,Nat.reduceEqDiff,Nat.reduceAdd,Nat.reduceMul,Nat.reduceLeDiff,Int.reduceBEq,Req.av,Req.ds,Lit.av,Lit.ds,Clause.av,Clause.ds,a1,a2,a0,k1,upd_ne,hn0,hn1,List.length_map,c1,c2,c3,c4,hb',ht,he,k2])
                 all_goals try simp only [ByteArray.size_append, Int.natCast_add, fLA, fLR, fLQ, fLP, fLF, fLS, fLU, gLA, gLR, gLQ, gLP, gLF, gLS, gLU]
                 all_goals first | omega | exact hz | exact hi1 | exact hi2 | exact hi3 | exact hi4 | exact ⟨hi3.1,hi3.2⟩ | skip
                 all_goals first | omega | (unfold maxLen; omega) | (right; omega) | (left; simp; done) | (simp only [wk3,wkL2,wk2,wkL,wk1_d,wk1_own,wk1_nil,and_self]; done) | (intro i hi; simp only [upd]; (repeat' split); all_goals first | rfl | omega) | skip
                 all_goals first | (rw [hN2]; exact wk3_eq rfl) | (exfalso; simp only [ByteArray.size_append, Int.natCast_add, fLA, fLR, fLQ, fLP, fLF, fLS, fLU, gLA, gLR, gLQ, gLP, gLF, gLS, gLU, decide_eq_true_eq, decide_eq_false_iff_not] at hd hq; omega) | trace_state
               | false =>
                 have hN2 : printQ q = (textQ q, 0) := by rw [hN, hout, hd]; rfl
                 rw [hT] at hd
                 try rw [hT] at hN2
                 repeat' (first | (with_reducible refine Or.inr (AW.mixWX (E := EqT.no _) [n + 1] [0,1,2,3,4,5] [6,7,8,9,10,11] [] mixedP ?_ ?_ ?_ ?_); decide +kernel; (simp only [List.length_cons,List.length_nil]; decide); (intro j hj; simp only [List.mem_singleton] at hj; subst hj; refine Or.inr ?_; dsimp only; omega)) | (with_reducible refine (AW.mixWX (E := EqT.no _) [n + 1] [0,1,2,3,4,5] [6,7,8,9,10,11] [] mixedP ?_ ?_ ?_ ?_); decide +kernel; (simp only [List.length_cons,List.length_nil]; decide); (intro j hj; simp only [List.mem_singleton] at hj; subst hj; refine Or.inr ?_; dsimp only; omega)) | (with_reducible refine MW0.of 4000 (by simp) ?_ ?_) | (with_reducible refine MW0.nil ?_) | (with_reducible refine MW1.of 4000 (by simp) ?_) | (with_reducible first | refine XG_split (fun hq => ?_) (fun hq => ?_) | refine MX1.of 4000 (by simp) ?_ | refine MX2.of 4000 (by simp) ?_ | refine And.intro ?_ ?_) | ((with_reducible first | refine Or.inl (And.intro (And.intro mixedP ?_) ?_) | refine Or.inl (And.intro mixedP ?_)); kernel_rfl) | simp only [go_sem,ldK,ldW,blindK,List.mem_singleton,Nat.reduceEqDiff,Nat.reduceAdd,Nat.reduceMul,Nat.reduceLeDiff,Int.reduceBEq,Req.av,Req.ds,Lit.av,Lit.ds,Clause.av,Clause.ds,a1,a2,a0,k1,upd_ne,hn0,hn1,List.length_map,c1,c2,c3,c4,hb',ht,he,k2])
                 all_goals try simp only [ByteArray.size_append, Int.natCast_add, fLA, fLR, fLQ, fLP, fLF, fLS, fLU, gLA, gLR, gLQ, gLP, gLF, gLS, gLU]
                 all_goals first | omega | exact hz | exact hi1 | exact hi2 | exact hi3 | exact hi4 | exact ⟨hi3.1,hi3.2⟩ | skip
                 all_goals first | omega | (unfold maxLen; omega) | (right; omega) | (left; simp; done) | (simp only [wk3,wkL2,wk2,wkL,wk1_d,wk1_own,wk1_nil,and_self]; done) | (intro i hi; simp only [upd]; (repeat' split); all_goals first | rfl | omega) | skip
                 all_goals first | (rw [hN2]; exact wk3_eq rfl) | (exfalso; simp only [ByteArray.size_append, Int.natCast_add, fLA, fLR, fLQ, fLP, fLF, fLS, fLU, gLA, gLR, gLQ, gLP, gLF, gLS, gLU, decide_eq_true_eq, decide_eq_false_iff_not] at hd hq; omega) | trace_state
 | false =>
   have hzz : Clause.z = ⟨⟨0, ⟨⟨#[]⟩, ⟨⟨#[]⟩, 0⟩⟩, ⟨#[]⟩, []⟩, []⟩ := rfl
   cases k2 : q.kind == 2 with
   | true =>
     have hb' : eqB q ⟨q.kind, ⟨#[]⟩, 0, ⟨⟨0, ⟨⟨#[]⟩, ⟨⟨#[]⟩, 0⟩⟩, ⟨#[]⟩, []⟩, []⟩, q.no, ⟨0, ⟨⟨#[]⟩, ⟨⟨#[]⟩, 0⟩⟩, ⟨#[]⟩, []⟩⟩ = b := by
      have : restQ q = ⟨q.kind, noStr, 0, Clause.z, q.no, Lit.z⟩ := by unfold restQ; rw [k1, k2]; rfl
      rw [this] at hb
      exact hb
     have hm : mayQ q = (decide (1 ≤ q.no) && decide (q.no ≤ 1099511627776)) := by unfold mayQ; rw [k1, k2]; rfl
     have hT : textQ q = (⟨#[114, 101, 118, 111, 107, 101, 32]⟩ : ByteArray) ++ numText q.no := by unfold textQ; rw [k1, k2]; rfl
     cases c1 : decide (1 ≤ q.no) with
     | false =>
       have ho1 : o = false := by rw [← ho, hm, c1]; rfl
       have hN : printQ q = (noStr, 1) := by unfold printQ; rw [hck, ho1]; rfl
       have hd := hi3.1
       have hq := hi3.1
       repeat' (first | (with_reducible refine Or.inr (AW.mixWX (E := EqT.no _) [n + 1] [0,1,2,3,4,5] [6,7,8,9,10,11] [] mixedP ?_ ?_ ?_ ?_); decide +kernel; (simp only [List.length_cons,List.length_nil]; decide); (intro j hj; simp only [List.mem_singleton] at hj; subst hj; refine Or.inr ?_; dsimp only; omega)) | (with_reducible refine (AW.mixWX (E := EqT.no _) [n + 1] [0,1,2,3,4,5] [6,7,8,9,10,11] [] mixedP ?_ ?_ ?_ ?_); decide +kernel; (simp only [List.length_cons,List.length_nil]; decide); (intro j hj; simp only [List.mem_singleton] at hj; subst hj; refine Or.inr ?_; dsimp only; omega)) | (with_reducible refine MW0.of 4000 (by simp) ?_ ?_) | (with_reducible refine MW0.nil ?_) | (with_reducible refine MW1.of 4000 (by simp) ?_) | (with_reducible first | refine XG_split (fun hq => ?_) (fun hq => ?_) | refine MX1.of 4000 (by simp) ?_ | refine MX2.of 4000 (by simp) ?_ | refine And.intro ?_ ?_) | ((with_reducible first | refine Or.inl (And.intro (And.intro mixedP ?_) ?_) | refine Or.inl (And.intro mixedP ?_)); kernel_rfl) | simp only [go_sem,ldK,ldW,blindK,List.mem_singleton,Nat.reduceEqDiff,Nat.reduceAdd,Nat.reduceMul,Nat.reduceLeDiff,Int.reduceBEq,Req.av,Req.ds,Lit.av,Lit.ds,Clause.av,Clause.ds,a1,a2,a0,k1,upd_ne,hn0,hn1,List.length_map,c1,k2])
       all_goals try simp only [ByteArray.size_append, Int.natCast_add, fLA, fLR, fLQ, fLP, fLF, fLS, fLU, gLA, gLR, gLQ, gLP, gLF, gLS, gLU]
       all_goals first | omega | exact hz | exact hi1 | exact hi2 | exact hi3 | exact hi4 | exact ⟨hi3.1,hi3.2⟩ | skip
       all_goals first | omega | (unfold maxLen; omega) | (right; omega) | (left; simp; done) | (simp only [wk3,wkL2,wk2,wkL,wk1_d,wk1_own,wk1_nil,and_self]; done) | (intro i hi; simp only [upd]; (repeat' split); all_goals first | rfl | omega) | skip
       all_goals first | (rw [hN]; exact wk3_eq rfl) | (exfalso; simp only [ByteArray.size_append, Int.natCast_add, fLA, fLR, fLQ, fLP, fLF, fLS, fLU, gLA, gLR, gLQ, gLP, gLF, gLS, gLU, decide_eq_true_eq, decide_eq_false_iff_not] at hd hq; omega) | trace_state
     | true =>
       cases c2 : decide (q.no ≤ 1099511627776) with
       | false =>
         have ho1 : o = false := by rw [← ho, hm, c1, c2]; rfl
         have hN : printQ q = (noStr, 1) := by unfold printQ; rw [hck, ho1]; rfl
         have hd := hi3.1
         have hq := hi3.1
         repeat' (first | (with_reducible refine Or.inr (AW.mixWX (E := EqT.no _) [n + 1] [0,1,2,3,4,5] [6,7,8,9,10,11] [] mixedP ?_ ?_ ?_ ?_); decide +kernel; (simp only [List.length_cons,List.length_nil]; decide); (intro j hj; simp only [List.mem_singleton] at hj; subst hj; refine Or.inr ?_; dsimp only; omega)) | (with_reducible refine (AW.mixWX (E := EqT.no _) [n + 1] [0,1,2,3,4,5] [6,7,8,9,10,11] [] mixedP ?_ ?_ ?_ ?_); decide +kernel; (simp only [List.length_cons,List.length_nil]; decide); (intro j hj; simp only [List.mem_singleton] at hj; subst hj; refine Or.inr ?_; dsimp only; omega)) | (with_reducible refine MW0.of 4000 (by simp) ?_ ?_) | (with_reducible refine MW0.nil ?_) | (with_reducible refine MW1.of 4000 (by simp) ?_) | (with_reducible first | refine XG_split (fun hq => ?_) (fun hq => ?_) | refine MX1.of 4000 (by simp) ?_ | refine MX2.of 4000 (by simp) ?_ | refine And.intro ?_ ?_) | ((with_reducible first | refine Or.inl (And.intro (And.intro mixedP ?_) ?_) | refine Or.inl (And.intro mixedP ?_)); kernel_rfl) | simp only [go_sem,ldK,ldW,blindK,List.mem_singleton,Nat.reduceEqDiff,Nat.reduceAdd,Nat.reduceMul,Nat.reduceLeDiff,Int.reduceBEq,Req.av,Req.ds,Lit.av,Lit.ds,Clause.av,Clause.ds,a1,a2,a0,k1,upd_ne,hn0,hn1,List.length_map,c1,c2,k2])
         all_goals try simp only [ByteArray.size_append, Int.natCast_add, fLA, fLR, fLQ, fLP, fLF, fLS, fLU, gLA, gLR, gLQ, gLP, gLF, gLS, gLU]
         all_goals first | omega | exact hz | exact hi1 | exact hi2 | exact hi3 | exact hi4 | exact ⟨hi3.1,hi3.2⟩ | skip
         all_goals first | omega | (unfold maxLen; omega) | (right; omega) | (left; simp; done) | (simp only [wk3,wkL2,wk2,wkL,wk1_d,wk1_own,wk1_nil,and_self]; done) | (intro i hi; simp only [upd]; (repeat' split); all_goals first | rfl | omega) | skip
         all_goals first | (rw [hN]; exact wk3_eq rfl) | (exfalso; simp only [ByteArray.size_append, Int.natCast_add, fLA, fLR, fLQ, fLP, fLF, fLS, fLU, gLA, gLR, gLQ, gLP, gLF, gLS, gLU, decide_eq_true_eq, decide_eq_false_iff_not] at hd hq; omega) | trace_state
       | true =>
         have ho1 : o = true := by rw [← ho, hm, c1, c2]; rfl
         cases b with
         | false =>
           have hN : printQ q = (noStr, 1) := by unfold printQ; rw [hck, ho1]; rfl
           cases hd : decide (4096 < ((textQ q).size : Int))
           all_goals
            rw [hT] at hd
            repeat' (first | (with_reducible refine Or.inr (AW.mixWX (E := EqT.no _) [n + 1] [0,1,2,3,4,5] [6,7,8,9,10,11] [] mixedP ?_ ?_ ?_ ?_); decide +kernel; (simp only [List.length_cons,List.length_nil]; decide); (intro j hj; simp only [List.mem_singleton] at hj; subst hj; refine Or.inr ?_; dsimp only; omega)) | (with_reducible refine (AW.mixWX (E := EqT.no _) [n + 1] [0,1,2,3,4,5] [6,7,8,9,10,11] [] mixedP ?_ ?_ ?_ ?_); decide +kernel; (simp only [List.length_cons,List.length_nil]; decide); (intro j hj; simp only [List.mem_singleton] at hj; subst hj; refine Or.inr ?_; dsimp only; omega)) | (with_reducible refine MW0.of 4000 (by simp) ?_ ?_) | (with_reducible refine MW0.nil ?_) | (with_reducible refine MW1.of 4000 (by simp) ?_) | (with_reducible first | refine XG_split (fun hq => ?_) (fun hq => ?_) | refine MX1.of 4000 (by simp) ?_ | refine MX2.of 4000 (by simp) ?_ | refine And.intro ?_ ?_) | ((with_reducible first | refine Or.inl (And.intro (And.intro mixedP ?_) ?_) | refine Or.inl (And.intro mixedP ?_)); kernel_rfl) | simp only [go_sem,ldK,ldW,blindK,List.mem_singleton,Nat.reduceEqDiff,Nat.reduceAdd,Nat.reduceMul,Nat.reduceLeDiff,Int.reduceBEq,Req.av,Req.ds,Lit.av,Lit.ds,Clause.av,Clause.ds,a1,a2,a0,k1,upd_ne,hn0,hn1,List.length_map,c1,c2,hb',k2])
            all_goals try simp only [ByteArray.size_append, Int.natCast_add, fLA, fLR, fLQ, fLP, fLF, fLS, fLU, gLA, gLR, gLQ, gLP, gLF, gLS, gLU]
            all_goals first | omega | exact hz | exact hi1 | exact hi2 | exact hi3 | exact hi4 | exact ⟨hi3.1,hi3.2⟩ | skip
            all_goals first | omega | (unfold maxLen; omega) | (right; omega) | (left; simp; done) | (simp only [wk3,wkL2,wk2,wkL,wk1_d,wk1_own,wk1_nil,and_self]; done) | (intro i hi; simp only [upd]; (repeat' split); all_goals first | rfl | omega) | skip
            all_goals first | (rw [hN]; exact wk3_eq rfl) | (exfalso; simp only [ByteArray.size_append, Int.natCast_add, fLA, fLR, fLQ, fLP, fLF, fLS, fLU, gLA, gLR, gLQ, gLP, gLF, gLS, gLU, decide_eq_true_eq, decide_eq_false_iff_not] at hd hq; omega) | trace_state
         | true =>
           have hN : printQ q = outQ (textQ q) := by unfold printQ; rw [hck, ho1]; rfl
           cases hd : decide (4096 < ((textQ q).size : Int)) with
           | true =>
             have hN2 : printQ q = (noStr, 2) := by rw [hN, hout, hd]; rfl
             rw [hT] at hd
             try rw [hT] at hN2
             repeat' (first | (with_reducible refine Or.inr (AW.mixWX (E := EqT.no _) [n + 1] [0,1,2,3,4,5] [6,7,8,9,10,11] [] mixedP ?_ ?_ ?_ ?_); decide +kernel; (simp only [List.length_cons,List.length_nil]; decide); (intro j hj; simp only [List.mem_singleton] at hj; subst hj; refine Or.inr ?_; dsimp only; omega)) | (with_reducible refine (AW.mixWX (E := EqT.no _) [n + 1] [0,1,2,3,4,5] [6,7,8,9,10,11] [] mixedP ?_ ?_ ?_ ?_); decide +kernel; (simp only [List.length_cons,List.length_nil]; decide); (intro j hj; simp only [List.mem_singleton] at hj; subst hj; refine Or.inr ?_; dsimp only; omega)) | (with_reducible refine MW0.of 4000 (by simp) ?_ ?_) | (with_reducible refine MW0.nil ?_) | (with_reducible refine MW1.of 4000 (by simp) ?_) | (with_reducible first | refine XG_split (fun hq => ?_) (fun hq => ?_) | refine MX1.of 4000 (by simp) ?_ | refine MX2.of 4000 (by simp) ?_ | refine And.intro ?_ ?_) | ((with_reducible first | refine Or.inl (And.intro (And.intro mixedP ?_) ?_) | refine Or.inl (And.intro mixedP ?_)); kernel_rfl) | simp only [go_sem,ldK,ldW,blindK,List.mem_singleton,Nat.reduceEqDiff,Nat.reduceAdd,Nat.reduceMul,Nat.reduceLeDiff,Int.reduceBEq,Req.av,Req.ds,Lit.av,Lit.ds,Clause.av,Clause.ds,a1,a2,a0,k1,upd_ne,hn0,hn1,List.length_map,c1,c2,hb',k2])
             all_goals try simp only [ByteArray.size_append, Int.natCast_add, fLA, fLR, fLQ, fLP, fLF, fLS, fLU, gLA, gLR, gLQ, gLP, gLF, gLS, gLU]
             all_goals first | omega | exact hz | exact hi1 | exact hi2 | exact hi3 | exact hi4 | exact ⟨hi3.1,hi3.2⟩ | skip
             all_goals first | omega | (unfold maxLen; omega) | (right; omega) | (left; simp; done) | (simp only [wk3,wkL2,wk2,wkL,wk1_d,wk1_own,wk1_nil,and_self]; done) | (intro i hi; simp only [upd]; (repeat' split); all_goals first | rfl | omega) | skip
             all_goals first | (rw [hN2]; exact wk3_eq rfl) | (exfalso; simp only [ByteArray.size_append, Int.natCast_add, fLA, fLR, fLQ, fLP, fLF, fLS, fLU, gLA, gLR, gLQ, gLP, gLF, gLS, gLU, decide_eq_true_eq, decide_eq_false_iff_not] at hd hq; omega) | trace_state
           | false =>
             have hN2 : printQ q = (textQ q, 0) := by rw [hN, hout, hd]; rfl
             rw [hT] at hd
             try rw [hT] at hN2
             repeat' (first | (with_reducible refine Or.inr (AW.mixWX (E := EqT.no _) [n + 1] [0,1,2,3,4,5] [6,7,8,9,10,11] [] mixedP ?_ ?_ ?_ ?_); decide +kernel; (simp only [List.length_cons,List.length_nil]; decide); (intro j hj; simp only [List.mem_singleton] at hj; subst hj; refine Or.inr ?_; dsimp only; omega)) | (with_reducible refine (AW.mixWX (E := EqT.no _) [n + 1] [0,1,2,3,4,5] [6,7,8,9,10,11] [] mixedP ?_ ?_ ?_ ?_); decide +kernel; (simp only [List.length_cons,List.length_nil]; decide); (intro j hj; simp only [List.mem_singleton] at hj; subst hj; refine Or.inr ?_; dsimp only; omega)) | (with_reducible refine MW0.of 4000 (by simp) ?_ ?_) | (with_reducible refine MW0.nil ?_) | (with_reducible refine MW1.of 4000 (by simp) ?_) | (with_reducible first | refine XG_split (fun hq => ?_) (fun hq => ?_) | refine MX1.of 4000 (by simp) ?_ | refine MX2.of 4000 (by simp) ?_ | refine And.intro ?_ ?_) | ((with_reducible first | refine Or.inl (And.intro (And.intro mixedP ?_) ?_) | refine Or.inl (And.intro mixedP ?_)); kernel_rfl) | simp only [go_sem,ldK,ldW,blindK,List.mem_singleton,Nat.reduceEqDiff,Nat.reduceAdd,Nat.reduceMul,Nat.reduceLeDiff,Int.reduceBEq,Req.av,Req.ds,Lit.av,Lit.ds,Clause.av,Clause.ds,a1,a2,a0,k1,upd_ne,hn0,hn1,List.length_map,c1,c2,hb',k2])
             all_goals try simp only [ByteArray.size_append, Int.natCast_add, fLA, fLR, fLQ, fLP, fLF, fLS, fLU, gLA, gLR, gLQ, gLP, gLF, gLS, gLU]
             all_goals first | omega | exact hz | exact hi1 | exact hi2 | exact hi3 | exact hi4 | exact ⟨hi3.1,hi3.2⟩ | skip
             all_goals first | omega | (unfold maxLen; omega) | (right; omega) | (left; simp; done) | (simp only [wk3,wkL2,wk2,wkL,wk1_d,wk1_own,wk1_nil,and_self]; done) | (intro i hi; simp only [upd]; (repeat' split); all_goals first | rfl | omega) | skip
             all_goals first | (rw [hN2]; exact wk3_eq rfl) | (exfalso; simp only [ByteArray.size_append, Int.natCast_add, fLA, fLR, fLQ, fLP, fLF, fLS, fLU, gLA, gLR, gLQ, gLP, gLF, gLS, gLU, decide_eq_true_eq, decide_eq_false_iff_not] at hd hq; omega) | trace_state
   | false =>
     cases k3 : q.kind == 3 with
     | true =>
       have k4 : (q.kind == 4) = false := by rw [beq_iff_eq] at k3; rw [k3]; rfl
       obtain ⟨⟨t, e⟩, ht⟩ : ∃ t, printLitB q.lit = t := ⟨_, rfl⟩
       rw [ht] at s2
       have s2 : t.size ≤ 2000 := s2
       have he : (e == 0) = checkLitB q.lit := by
        unfold printLitB at ht
        cases hc : checkLitB q.lit <;> rw [hc] at ht <;> cases ht <;> rfl
       have hb' : eqB q ⟨q.kind, ⟨#[]⟩, 0, ⟨⟨0, ⟨⟨#[]⟩, ⟨⟨#[]⟩, 0⟩⟩, ⟨#[]⟩, []⟩, []⟩, 0, q.lit⟩ = b := by
        have : restQ q = ⟨q.kind, noStr, 0, Clause.z, 0, q.lit⟩ := by unfold restQ; rw [k1, k2, k3]; rfl
        rw [this] at hb
        exact hb
       have hm : mayQ q = checkLitB q.lit := by unfold mayQ; rw [k1, k2, k3]; rfl
       have hT : textQ q = (⟨#[113, 117, 101, 114, 121, 32]⟩ : ByteArray) ++ t := by unfold textQ; rw [k1, k2, k3, ht]; rfl
       cases c1 : checkLitB q.lit with
       | false =>
         have ho1 : o = false := by rw [← ho, hm, c1]
         have hN : printQ q = (noStr, 1) := by unfold printQ; rw [hck, ho1]; rfl
         have hd := hi3.1
         have hq := hi3.1
         repeat' (first | (with_reducible refine Or.inr (AW.mixWX (E := EqT.no _) [n + 1] [0,1,2,3,4,5] [6,7,8,9,10,11] [] mixedP ?_ ?_ ?_ ?_); decide +kernel; (simp only [List.length_cons,List.length_nil]; decide); (intro j hj; simp only [List.mem_singleton] at hj; subst hj; refine Or.inr ?_; dsimp only; omega)) | (with_reducible refine (AW.mixWX (E := EqT.no _) [n + 1] [0,1,2,3,4,5] [6,7,8,9,10,11] [] mixedP ?_ ?_ ?_ ?_); decide +kernel; (simp only [List.length_cons,List.length_nil]; decide); (intro j hj; simp only [List.mem_singleton] at hj; subst hj; refine Or.inr ?_; dsimp only; omega)) | (with_reducible refine MW0.of 4000 (by simp) ?_ ?_) | (with_reducible refine MW0.nil ?_) | (with_reducible refine MW1.of 4000 (by simp) ?_) | (with_reducible first | refine XG_split (fun hq => ?_) (fun hq => ?_) | refine MX1.of 4000 (by simp) ?_ | refine MX2.of 4000 (by simp) ?_ | refine And.intro ?_ ?_) | ((with_reducible first | refine Or.inl (And.intro (And.intro mixedP ?_) ?_) | refine Or.inl (And.intro mixedP ?_)); kernel_rfl) | simp only [go_sem,ldK,ldW,blindK,List.mem_singleton,Nat.reduceEqDiff,Nat.reduceAdd,Nat.reduceMul,Nat.reduceLeDiff,Int.reduceBEq,Req.av,Req.ds,Lit.av,Lit.ds,Clause.av,Clause.ds,a1,a2,a0,k1,upd_ne,hn0,hn1,List.length_map,c1,ht,he,k2,k3,k4])
         all_goals try simp only [ByteArray.size_append, Int.natCast_add, fLA, fLR, fLQ, fLP, fLF, fLS, fLU, gLA, gLR, gLQ, gLP, gLF, gLS, gLU]
         all_goals first | omega | exact hz | exact hi1 | exact hi2 | exact hi3 | exact hi4 | exact ⟨hi3.1,hi3.2⟩ | skip
         all_goals first | omega | (unfold maxLen; omega) | (right; omega) | (left; simp; done) | (simp only [wk3,wkL2,wk2,wkL,wk1_d,wk1_own,wk1_nil,and_self]; done) | (intro i hi; simp only [upd]; (repeat' split); all_goals first | rfl | omega) | skip
         all_goals first | (rw [hN]; exact wk3_eq rfl) | (exfalso; simp only [ByteArray.size_append, Int.natCast_add, fLA, fLR, fLQ, fLP, fLF, fLS, fLU, gLA, gLR, gLQ, gLP, gLF, gLS, gLU, decide_eq_true_eq, decide_eq_false_iff_not] at hd hq; omega) | trace_state
       | true =>
         have ho1 : o = true := by rw [← ho, hm, c1]
         cases b with
         | false =>
           have hN : printQ q = (noStr, 1) := by unfold printQ; rw [hck, ho1]; rfl
           cases hd : decide (4096 < ((textQ q).size : Int))
           all_goals
            rw [hT] at hd
            repeat' (first | (with_reducible refine Or.inr (AW.mixWX (E := EqT.no _) [n + 1] [0,1,2,3,4,5] [6,7,8,9,10,11] [] mixedP ?_ ?_ ?_ ?_); decide +kernel; (simp only [List.length_cons,List.length_nil]; decide); (intro j hj; simp only [List.mem_singleton] at hj; subst hj; refine Or.inr ?_; dsimp only; omega)) | (with_reducible refine (AW.mixWX (E := EqT.no _) [n + 1] [0,1,2,3,4,5] [6,7,8,9,10,11] [] mixedP ?_ ?_ ?_ ?_); decide +kernel; (simp only [List.length_cons,List.length_nil]; decide); (intro j hj; simp only [List.mem_singleton] at hj; subst hj; refine Or.inr ?_; dsimp only; omega)) | (with_reducible refine MW0.of 4000 (by simp) ?_ ?_) | (with_reducible refine MW0.nil ?_) | (with_reducible refine MW1.of 4000 (by simp) ?_) | (with_reducible first | refine XG_split (fun hq => ?_) (fun hq => ?_) | refine MX1.of 4000 (by simp) ?_ | refine MX2.of 4000 (by simp) ?_ | refine And.intro ?_ ?_) | ((with_reducible first | refine Or.inl (And.intro (And.intro mixedP ?_) ?_) | refine Or.inl (And.intro mixedP ?_)); kernel_rfl) | simp only [go_sem,ldK,ldW,blindK,List.mem_singleton,Nat.reduceEqDiff,Nat.reduceAdd,Nat.reduceMul,Nat.reduceLeDiff,Int.reduceBEq,Req.av,Req.ds,Lit.av,Lit.ds,Clause.av,Clause.ds,a1,a2,a0,k1,upd_ne,hn0,hn1,List.length_map,c1,hb',ht,he,k2,k3,k4])
            all_goals try simp only [ByteArray.size_append, Int.natCast_add, fLA, fLR, fLQ, fLP, fLF, fLS, fLU, gLA, gLR, gLQ, gLP, gLF, gLS, gLU]
            all_goals first | omega | exact hz | exact hi1 | exact hi2 | exact hi3 | exact hi4 | exact ⟨hi3.1,hi3.2⟩ | skip
            all_goals first | omega | (unfold maxLen; omega) | (right; omega) | (left; simp; done) | (simp only [wk3,wkL2,wk2,wkL,wk1_d,wk1_own,wk1_nil,and_self]; done) | (intro i hi; simp only [upd]; (repeat' split); all_goals first | rfl | omega) | skip
            all_goals first | (rw [hN]; exact wk3_eq rfl) | (exfalso; simp only [ByteArray.size_append, Int.natCast_add, fLA, fLR, fLQ, fLP, fLF, fLS, fLU, gLA, gLR, gLQ, gLP, gLF, gLS, gLU, decide_eq_true_eq, decide_eq_false_iff_not] at hd hq; omega) | trace_state
         | true =>
           have hN : printQ q = outQ (textQ q) := by unfold printQ; rw [hck, ho1]; rfl
           cases hd : decide (4096 < ((textQ q).size : Int)) with
           | true =>
             have hN2 : printQ q = (noStr, 2) := by rw [hN, hout, hd]; rfl
             rw [hT] at hd
             try rw [hT] at hN2
             repeat' (first | (with_reducible refine Or.inr (AW.mixWX (E := EqT.no _) [n + 1] [0,1,2,3,4,5] [6,7,8,9,10,11] [] mixedP ?_ ?_ ?_ ?_); decide +kernel; (simp only [List.length_cons,List.length_nil]; decide); (intro j hj; simp only [List.mem_singleton] at hj; subst hj; refine Or.inr ?_; dsimp only; omega)) | (with_reducible refine (AW.mixWX (E := EqT.no _) [n + 1] [0,1,2,3,4,5] [6,7,8,9,10,11] [] mixedP ?_ ?_ ?_ ?_); decide +kernel; (simp only [List.length_cons,List.length_nil]; decide); (intro j hj; simp only [List.mem_singleton] at hj; subst hj; refine Or.inr ?_; dsimp only; omega)) | (with_reducible refine MW0.of 4000 (by simp) ?_ ?_) | (with_reducible refine MW0.nil ?_) | (with_reducible refine MW1.of 4000 (by simp) ?_) | (with_reducible first | refine XG_split (fun hq => ?_) (fun hq => ?_) | refine MX1.of 4000 (by simp) ?_ | refine MX2.of 4000 (by simp) ?_ | refine And.intro ?_ ?_) | ((with_reducible first | refine Or.inl (And.intro (And.intro mixedP ?_) ?_) | refine Or.inl (And.intro mixedP ?_)); kernel_rfl) | simp only [go_sem,ldK,ldW,blindK,List.mem_singleton,Nat.reduceEqDiff,Nat.reduceAdd,Nat.reduceMul,Nat.reduceLeDiff,Int.reduceBEq,Req.av,Req.ds,Lit.av,Lit.ds,Clause.av,Clause.ds,a1,a2,a0,k1,upd_ne,hn0,hn1,List.length_map,c1,hb',ht,he,k2,k3,k4])
             all_goals try simp only [ByteArray.size_append, Int.natCast_add, fLA, fLR, fLQ, fLP, fLF, fLS, fLU, gLA, gLR, gLQ, gLP, gLF, gLS, gLU]
             all_goals first | omega | exact hz | exact hi1 | exact hi2 | exact hi3 | exact hi4 | exact ⟨hi3.1,hi3.2⟩ | skip
             all_goals first | omega | (unfold maxLen; omega) | (right; omega) | (left; simp; done) | (simp only [wk3,wkL2,wk2,wkL,wk1_d,wk1_own,wk1_nil,and_self]; done) | (intro i hi; simp only [upd]; (repeat' split); all_goals first | rfl | omega) | skip
             all_goals first | (rw [hN2]; exact wk3_eq rfl) | (exfalso; simp only [ByteArray.size_append, Int.natCast_add, fLA, fLR, fLQ, fLP, fLF, fLS, fLU, gLA, gLR, gLQ, gLP, gLF, gLS, gLU, decide_eq_true_eq, decide_eq_false_iff_not] at hd hq; omega) | trace_state
           | false =>
             have hN2 : printQ q = (textQ q, 0) := by rw [hN, hout, hd]; rfl
             rw [hT] at hd
             try rw [hT] at hN2
             repeat' (first | (with_reducible refine Or.inr (AW.mixWX (E := EqT.no _) [n + 1] [0,1,2,3,4,5] [6,7,8,9,10,11] [] mixedP ?_ ?_ ?_ ?_); decide +kernel; (simp only [List.length_cons,List.length_nil]; decide); (intro j hj; simp only [List.mem_singleton] at hj; subst hj; refine Or.inr ?_; dsimp only; omega)) | (with_reducible refine (AW.mixWX (E := EqT.no _) [n + 1] [0,1,2,3,4,5] [6,7,8,9,10,11] [] mixedP ?_ ?_ ?_ ?_); decide +kernel; (simp only [List.length_cons,List.length_nil]; decide); (intro j hj; simp only [List.mem_singleton] at hj; subst hj; refine Or.inr ?_; dsimp only; omega)) | (with_reducible refine MW0.of 4000 (by simp) ?_ ?_) | (with_reducible refine MW0.nil ?_) | (with_reducible refine MW1.of 4000 (by simp) ?_) | (with_reducible first | refine XG_split (fun hq => ?_) (fun hq => ?_) | refine MX1.of 4000 (by simp) ?_ | refine MX2.of 4000 (by simp) ?_ | refine And.intro ?_ ?_) | ((with_reducible first | refine Or.inl (And.intro (And.intro mixedP ?_) ?_) | refine Or.inl (And.intro mixedP ?_)); kernel_rfl) | simp only [go_sem,ldK,ldW,blindK,List.mem_singleton,Nat.reduceEqDiff,Nat.reduceAdd,Nat.reduceMul,Nat.reduceLeDiff,Int.reduceBEq,Req.av,Req.ds,Lit.av,Lit.ds,Clause.av,Clause.ds,a1,a2,a0,k1,upd_ne,hn0,hn1,List.length_map,c1,hb',ht,he,k2,k3,k4])
             all_goals try simp only [ByteArray.size_append, Int.natCast_add, fLA, fLR, fLQ, fLP, fLF, fLS, fLU, gLA, gLR, gLQ, gLP, gLF, gLS, gLU]
             all_goals first | omega | exact hz | exact hi1 | exact hi2 | exact hi3 | exact hi4 | exact ⟨hi3.1,hi3.2⟩ | skip
             all_goals first | omega | (unfold maxLen; omega) | (right; omega) | (left; simp; done) | (simp only [wk3,wkL2,wk2,wkL,wk1_d,wk1_own,wk1_nil,and_self]; done) | (intro i hi; simp only [upd]; (repeat' split); all_goals first | rfl | omega) | skip
             all_goals first | (rw [hN2]; exact wk3_eq rfl) | (exfalso; simp only [ByteArray.size_append, Int.natCast_add, fLA, fLR, fLQ, fLP, fLF, fLS, fLU, gLA, gLR, gLQ, gLP, gLF, gLS, gLU, decide_eq_true_eq, decide_eq_false_iff_not] at hd hq; omega) | trace_state
     | false =>
       cases k4 : q.kind == 4 with
       | true =>
         obtain ⟨⟨t, e⟩, ht⟩ : ∃ t, printLitB q.lit = t := ⟨_, rfl⟩
         rw [ht] at s2
         have s2 : t.size ≤ 2000 := s2
         have he : (e == 0) = checkLitB q.lit := by
          unfold printLitB at ht
          cases hc : checkLitB q.lit <;> rw [hc] at ht <;> cases ht <;> rfl
         have hb' : eqB q ⟨q.kind, ⟨#[]⟩, 0, ⟨⟨0, ⟨⟨#[]⟩, ⟨⟨#[]⟩, 0⟩⟩, ⟨#[]⟩, []⟩, []⟩, 0, q.lit⟩ = b := by
          have : restQ q = ⟨q.kind, noStr, 0, Clause.z, 0, q.lit⟩ := by unfold restQ; rw [k1, k2, k3, k4]; rfl
          rw [this] at hb
          exact hb
         have hm : mayQ q = checkLitB q.lit := by unfold mayQ; rw [k1, k2, k3, k4]; rfl
         have hT : textQ q = (⟨#[112, 114, 111, 118, 101, 32]⟩ : ByteArray) ++ t := by unfold textQ; rw [k1, k2, k3, k4, ht]; rfl
         cases c1 : checkLitB q.lit with
         | false =>
           have ho1 : o = false := by rw [← ho, hm, c1]
           have hN : printQ q = (noStr, 1) := by unfold printQ; rw [hck, ho1]; rfl
           have hd := hi3.1
           have hq := hi3.1
           repeat' (first | (with_reducible refine Or.inr (AW.mixWX (E := EqT.no _) [n + 1] [0,1,2,3,4,5] [6,7,8,9,10,11] [] mixedP ?_ ?_ ?_ ?_); decide +kernel; (simp only [List.length_cons,List.length_nil]; decide); (intro j hj; simp only [List.mem_singleton] at hj; subst hj; refine Or.inr ?_; dsimp only; omega)) | (with_reducible refine (AW.mixWX (E := EqT.no _) [n + 1] [0,1,2,3,4,5] [6,7,8,9,10,11] [] mixedP ?_ ?_ ?_ ?_); decide +kernel; (simp only [List.length_cons,List.length_nil]; decide); (intro j hj; simp only [List.mem_singleton] at hj; subst hj; refine Or.inr ?_; dsimp only; omega)) | (with_reducible refine MW0.of 4000 (by simp) ?_ ?_) | (with_reducible refine MW0.nil ?_) | (with_reducible refine MW1.of 4000 (by simp) ?_) | (with_reducible first | refine XG_split (fun hq => ?_) (fun hq => ?_) | refine MX1.of 4000 (by simp) ?_ | refine MX2.of 4000 (by simp) ?_ | refine And.intro ?_ ?_) | ((with_reducible first | refine Or.inl (And.intro (And.intro mixedP ?_) ?_) | refine Or.inl (And.intro mixedP ?_)); kernel_rfl) | simp only [go_sem,ldK,ldW,blindK,List.mem_singleton,Nat.reduceEqDiff,Nat.reduceAdd,Nat.reduceMul,Nat.reduceLeDiff,Int.reduceBEq,Req.av,Req.ds,Lit.av,Lit.ds,Clause.av,Clause.ds,a1,a2,a0,k1,upd_ne,hn0,hn1,List.length_map,c1,ht,he,k2,k3,k4])
           all_goals try simp only [ByteArray.size_append, Int.natCast_add, fLA, fLR, fLQ, fLP, fLF, fLS, fLU, gLA, gLR, gLQ, gLP, gLF, gLS, gLU]
           all_goals first | omega | exact hz | exact hi1 | exact hi2 | exact hi3 | exact hi4 | exact ⟨hi3.1,hi3.2⟩ | skip
           all_goals first | omega | (unfold maxLen; omega) | (right; omega) | (left; simp; done) | (simp only [wk3,wkL2,wk2,wkL,wk1_d,wk1_own,wk1_nil,and_self]; done) | (intro i hi; simp only [upd]; (repeat' split); all_goals first | rfl | omega) | skip
           all_goals first | (rw [hN]; exact wk3_eq rfl) | (exfalso; simp only [ByteArray.size_append, Int.natCast_add, fLA, fLR, fLQ, fLP, fLF, fLS, fLU, gLA, gLR, gLQ, gLP, gLF, gLS, gLU, decide_eq_true_eq, decide_eq_false_iff_not] at hd hq; omega) | trace_state
         | true =>
           have ho1 : o = true := by rw [← ho, hm, c1]
           cases b with
           | false =>
             have hN : printQ q = (noStr, 1) := by unfold printQ; rw [hck, ho1]; rfl
             cases hd : decide (4096 < ((textQ q).size : Int))
             all_goals
              rw [hT] at hd
              repeat' (first | (with_reducible refine Or.inr (AW.mixWX (E := EqT.no _) [n + 1] [0,1,2,3,4,5] [6,7,8,9,10,11] [] mixedP ?_ ?_ ?_ ?_); decide +kernel; (simp only [List.length_cons,List.length_nil]; decide); (intro j hj; simp only [List.mem_singleton] at hj; subst hj; refine Or.inr ?_; dsimp only; omega)) | (with_reducible refine (AW.mixWX (E := EqT.no _) [n + 1] [0,1,2,3,4,5] [6,7,8,9,10,11] [] mixedP ?_ ?_ ?_ ?_); decide +kernel; (simp only [List.length_cons,List.length_nil]; decide); (intro j hj; simp only [List.mem_singleton] at hj; subst hj; refine Or.inr ?_; dsimp only; omega)) | (with_reducible refine MW0.of 4000 (by simp) ?_ ?_) | (with_reducible refine MW0.nil ?_) | (with_reducible refine MW1.of 4000 (by simp) ?_) | (with_reducible first | refine XG_split (fun hq => ?_) (fun hq => ?_) | refine MX1.of 4000 (by simp) ?_ | refine MX2.of 4000 (by simp) ?_ | refine And.intro ?_ ?_) | ((with_reducible first | refine Or.inl (And.intro (And.intro mixedP ?_) ?_) | refine Or.inl (And.intro mixedP ?_)); kernel_rfl) | simp only [go_sem,ldK,ldW,blindK,List.mem_singleton,Nat.reduceEqDiff,Nat.reduceAdd,Nat.reduceMul,Nat.reduceLeDiff,Int.reduceBEq,Req.av,Req.ds,Lit.av,Lit.ds,Clause.av,Clause.ds,a1,a2,a0,k1,upd_ne,hn0,hn1,List.length_map,c1,hb',ht,he,k2,k3,k4])
              all_goals try simp only [ByteArray.size_append, Int.natCast_add, fLA, fLR, fLQ, fLP, fLF, fLS, fLU, gLA, gLR, gLQ, gLP, gLF, gLS, gLU]
              all_goals first | omega | exact hz | exact hi1 | exact hi2 | exact hi3 | exact hi4 | exact ⟨hi3.1,hi3.2⟩ | skip
              all_goals first | omega | (unfold maxLen; omega) | (right; omega) | (left; simp; done) | (simp only [wk3,wkL2,wk2,wkL,wk1_d,wk1_own,wk1_nil,and_self]; done) | (intro i hi; simp only [upd]; (repeat' split); all_goals first | rfl | omega) | skip
              all_goals first | (rw [hN]; exact wk3_eq rfl) | (exfalso; simp only [ByteArray.size_append, Int.natCast_add, fLA, fLR, fLQ, fLP, fLF, fLS, fLU, gLA, gLR, gLQ, gLP, gLF, gLS, gLU, decide_eq_true_eq, decide_eq_false_iff_not] at hd hq; omega) | trace_state
           | true =>
             have hN : printQ q = outQ (textQ q) := by unfold printQ; rw [hck, ho1]; rfl
             cases hd : decide (4096 < ((textQ q).size : Int)) with
             | true =>
               have hN2 : printQ q = (noStr, 2) := by rw [hN, hout, hd]; rfl
               rw [hT] at hd
               try rw [hT] at hN2
               repeat' (first | (with_reducible refine Or.inr (AW.mixWX (E := EqT.no _) [n + 1] [0,1,2,3,4,5] [6,7,8,9,10,11] [] mixedP ?_ ?_ ?_ ?_); decide +kernel; (simp only [List.length_cons,List.length_nil]; decide); (intro j hj; simp only [List.mem_singleton] at hj; subst hj; refine Or.inr ?_; dsimp only; omega)) | (with_reducible refine (AW.mixWX (E := EqT.no _) [n + 1] [0,1,2,3,4,5] [6,7,8,9,10,11] [] mixedP ?_ ?_ ?_ ?_); decide +kernel; (simp only [List.length_cons,List.length_nil]; decide); (intro j hj; simp only [List.mem_singleton] at hj; subst hj; refine Or.inr ?_; dsimp only; omega)) | (with_reducible refine MW0.of 4000 (by simp) ?_ ?_) | (with_reducible refine MW0.nil ?_) | (with_reducible refine MW1.of 4000 (by simp) ?_) | (with_reducible first | refine XG_split (fun hq => ?_) (fun hq => ?_) | refine MX1.of 4000 (by simp) ?_ | refine MX2.of 4000 (by simp) ?_ | refine And.intro ?_ ?_) | ((with_reducible first | refine Or.inl (And.intro (And.intro mixedP ?_) ?_) | refine Or.inl (And.intro mixedP ?_)); kernel_rfl) | simp only [go_sem,ldK,ldW,blindK,List.mem_singleton,Nat.reduceEqDiff,Nat.reduceAdd,Nat.reduceMul,Nat.reduceLeDiff,Int.reduceBEq,Req.av,Req.ds,Lit.av,Lit.ds,Clause.av,Clause.ds,a1,a2,a0,k1,upd_ne,hn0,hn1,List.length_map,c1,hb',ht,he,k2,k3,k4])
               all_goals try simp only [ByteArray.size_append, Int.natCast_add, fLA, fLR, fLQ, fLP, fLF, fLS, fLU, gLA, gLR, gLQ, gLP, gLF, gLS, gLU]
               all_goals first | omega | exact hz | exact hi1 | exact hi2 | exact hi3 | exact hi4 | exact ⟨hi3.1,hi3.2⟩ | skip
               all_goals first | omega | (unfold maxLen; omega) | (right; omega) | (left; simp; done) | (simp only [wk3,wkL2,wk2,wkL,wk1_d,wk1_own,wk1_nil,and_self]; done) | (intro i hi; simp only [upd]; (repeat' split); all_goals first | rfl | omega) | skip
               all_goals first | (rw [hN2]; exact wk3_eq rfl) | (exfalso; simp only [ByteArray.size_append, Int.natCast_add, fLA, fLR, fLQ, fLP, fLF, fLS, fLU, gLA, gLR, gLQ, gLP, gLF, gLS, gLU, decide_eq_true_eq, decide_eq_false_iff_not] at hd hq; omega) | trace_state
             | false =>
               have hN2 : printQ q = (textQ q, 0) := by rw [hN, hout, hd]; rfl
               rw [hT] at hd
               try rw [hT] at hN2
               repeat' (first | (with_reducible refine Or.inr (AW.mixWX (E := EqT.no _) [n + 1] [0,1,2,3,4,5] [6,7,8,9,10,11] [] mixedP ?_ ?_ ?_ ?_); decide +kernel; (simp only [List.length_cons,List.length_nil]; decide); (intro j hj; simp only [List.mem_singleton] at hj; subst hj; refine Or.inr ?_; dsimp only; omega)) | (with_reducible refine (AW.mixWX (E := EqT.no _) [n + 1] [0,1,2,3,4,5] [6,7,8,9,10,11] [] mixedP ?_ ?_ ?_ ?_); decide +kernel; (simp only [List.length_cons,List.length_nil]; decide); (intro j hj; simp only [List.mem_singleton] at hj; subst hj; refine Or.inr ?_; dsimp only; omega)) | (with_reducible refine MW0.of 4000 (by simp) ?_ ?_) | (with_reducible refine MW0.nil ?_) | (with_reducible refine MW1.of 4000 (by simp) ?_) | (with_reducible first | refine XG_split (fun hq => ?_) (fun hq => ?_) | refine MX1.of 4000 (by simp) ?_ | refine MX2.of 4000 (by simp) ?_ | refine And.intro ?_ ?_) | ((with_reducible first | refine Or.inl (And.intro (And.intro mixedP ?_) ?_) | refine Or.inl (And.intro mixedP ?_)); kernel_rfl) | simp only [go_sem,ldK,ldW,blindK,List.mem_singleton,Nat.reduceEqDiff,Nat.reduceAdd,Nat.reduceMul,Nat.reduceLeDiff,Int.reduceBEq,Req.av,Req.ds,Lit.av,Lit.ds,Clause.av,Clause.ds,a1,a2,a0,k1,upd_ne,hn0,hn1,List.length_map,c1,hb',ht,he,k2,k3,k4])
               all_goals try simp only [ByteArray.size_append, Int.natCast_add, fLA, fLR, fLQ, fLP, fLF, fLS, fLU, gLA, gLR, gLQ, gLP, gLF, gLS, gLU]
               all_goals first | omega | exact hz | exact hi1 | exact hi2 | exact hi3 | exact hi4 | exact ⟨hi3.1,hi3.2⟩ | skip
               all_goals first | omega | (unfold maxLen; omega) | (right; omega) | (left; simp; done) | (simp only [wk3,wkL2,wk2,wkL,wk1_d,wk1_own,wk1_nil,and_self]; done) | (intro i hi; simp only [upd]; (repeat' split); all_goals first | rfl | omega) | skip
               all_goals first | (rw [hN2]; exact wk3_eq rfl) | (exfalso; simp only [ByteArray.size_append, Int.natCast_add, fLA, fLR, fLQ, fLP, fLF, fLS, fLU, gLA, gLR, gLQ, gLP, gLF, gLS, gLU, decide_eq_true_eq, decide_eq_false_iff_not] at hd hq; omega) | trace_state
       | false =>
         have hb' : eqB q ⟨q.kind, ⟨#[]⟩, 0, ⟨⟨0, ⟨⟨#[]⟩, ⟨⟨#[]⟩, 0⟩⟩, ⟨#[]⟩, []⟩, []⟩, 0, ⟨0, ⟨⟨#[]⟩, ⟨⟨#[]⟩, 0⟩⟩, ⟨#[]⟩, []⟩⟩ = b := by
          have : restQ q = ⟨q.kind, noStr, 0, Clause.z, 0, Lit.z⟩ := by unfold restQ; rw [k1, k2, k3, k4]; rfl
          rw [this] at hb
          exact hb
         cases k5 : q.kind == 5 with
         | true =>
           have hm : mayQ q = true := by unfold mayQ; rw [k1, k2, k3, k4, k5]; rfl
           have hT : textQ q = (⟨#[97, 117, 100, 105, 116]⟩ : ByteArray) := by unfold textQ; rw [k1, k2, k3, k4, k5]; rfl
           have ho1 : o = true := by rw [← ho, hm]
           cases b with
           | false =>
             have hN : printQ q = (noStr, 1) := by unfold printQ; rw [hck, ho1]; rfl
             cases hd : decide (4096 < ((textQ q).size : Int))
             all_goals
              rw [hT] at hd
              repeat' (first | (with_reducible refine Or.inr (AW.mixWX (E := EqT.no _) [n + 1] [0,1,2,3,4,5] [6,7,8,9,10,11] [] mixedP ?_ ?_ ?_ ?_); decide +kernel; (simp only [List.length_cons,List.length_nil]; decide); (intro j hj; simp only [List.mem_singleton] at hj; subst hj; refine Or.inr ?_; dsimp only; omega)) | (with_reducible refine (AW.mixWX (E := EqT.no _) [n + 1] [0,1,2,3,4,5] [6,7,8,9,10,11] [] mixedP ?_ ?_ ?_ ?_); decide +kernel; (simp only [List.length_cons,List.length_nil]; decide); (intro j hj; simp only [List.mem_singleton] at hj; subst hj; refine Or.inr ?_; dsimp only; omega)) | (with_reducible refine MW0.of 4000 (by simp) ?_ ?_) | (with_reducible refine MW0.nil ?_) | (with_reducible refine MW1.of 4000 (by simp) ?_) | (with_reducible first | refine XG_split (fun hq => ?_) (fun hq => ?_) | refine MX1.of 4000 (by simp) ?_ | refine MX2.of 4000 (by simp) ?_ | refine And.intro ?_ ?_) | ((with_reducible first | refine Or.inl (And.intro (And.intro mixedP ?_) ?_) | refine Or.inl (And.intro mixedP ?_)); kernel_rfl) | simp only [go_sem,ldK,ldW,blindK,List.mem_singleton,Nat.reduceEqDiff,Nat.reduceAdd,Nat.reduceMul,Nat.reduceLeDiff,Int.reduceBEq,Req.av,Req.ds,Lit.av,Lit.ds,Clause.av,Clause.ds,a1,a2,a0,k1,upd_ne,hn0,hn1,List.length_map,hb',k2,k3,k4,k5])
              all_goals try simp only [ByteArray.size_append, Int.natCast_add, fLA, fLR, fLQ, fLP, fLF, fLS, fLU, gLA, gLR, gLQ, gLP, gLF, gLS, gLU]
              all_goals first | omega | exact hz | exact hi1 | exact hi2 | exact hi3 | exact hi4 | exact ⟨hi3.1,hi3.2⟩ | skip
              all_goals first | omega | (unfold maxLen; omega) | (right; omega) | (left; simp; done) | (simp only [wk3,wkL2,wk2,wkL,wk1_d,wk1_own,wk1_nil,and_self]; done) | (intro i hi; simp only [upd]; (repeat' split); all_goals first | rfl | omega) | skip
              all_goals first | (rw [hN]; exact wk3_eq rfl) | (exfalso; simp only [ByteArray.size_append, Int.natCast_add, fLA, fLR, fLQ, fLP, fLF, fLS, fLU, gLA, gLR, gLQ, gLP, gLF, gLS, gLU, decide_eq_true_eq, decide_eq_false_iff_not] at hd hq; omega) | trace_state
           | true =>
             have hN : printQ q = outQ (textQ q) := by unfold printQ; rw [hck, ho1]; rfl
             cases hd : decide (4096 < ((textQ q).size : Int)) with
             | true =>
               have hN2 : printQ q = (noStr, 2) := by rw [hN, hout, hd]; rfl
               rw [hT] at hd
               try rw [hT] at hN2
               repeat' (first | (with_reducible refine Or.inr (AW.mixWX (E := EqT.no _) [n + 1] [0,1,2,3,4,5] [6,7,8,9,10,11] [] mixedP ?_ ?_ ?_ ?_); decide +kernel; (simp only [List.length_cons,List.length_nil]; decide); (intro j hj; simp only [List.mem_singleton] at hj; subst hj; refine Or.inr ?_; dsimp only; omega)) | (with_reducible refine (AW.mixWX (E := EqT.no _) [n + 1] [0,1,2,3,4,5] [6,7,8,9,10,11] [] mixedP ?_ ?_ ?_ ?_); decide +kernel; (simp only [List.length_cons,List.length_nil]; decide); (intro j hj; simp only [List.mem_singleton] at hj; subst hj; refine Or.inr ?_; dsimp only; omega)) | (with_reducible refine MW0.of 4000 (by simp) ?_ ?_) | (with_reducible refine MW0.nil ?_) | (with_reducible refine MW1.of 4000 (by simp) ?_) | (with_reducible first | refine XG_split (fun hq => ?_) (fun hq => ?_) | refine MX1.of 4000 (by simp) ?_ | refine MX2.of 4000 (by simp) ?_ | refine And.intro ?_ ?_) | ((with_reducible first | refine Or.inl (And.intro (And.intro mixedP ?_) ?_) | refine Or.inl (And.intro mixedP ?_)); kernel_rfl) | simp only [go_sem,ldK,ldW,blindK,List.mem_singleton,Nat.reduceEqDiff,Nat.reduceAdd,Nat.reduceMul,Nat.reduceLeDiff,Int.reduceBEq,Req.av,Req.ds,Lit.av,Lit.ds,Clause.av,Clause.ds,a1,a2,a0,k1,upd_ne,hn0,hn1,List.length_map,hb',k2,k3,k4,k5])
               all_goals try simp only [ByteArray.size_append, Int.natCast_add, fLA, fLR, fLQ, fLP, fLF, fLS, fLU, gLA, gLR, gLQ, gLP, gLF, gLS, gLU]
               all_goals first | omega | exact hz | exact hi1 | exact hi2 | exact hi3 | exact hi4 | exact ⟨hi3.1,hi3.2⟩ | skip
               all_goals first | omega | (unfold maxLen; omega) | (right; omega) | (left; simp; done) | (simp only [wk3,wkL2,wk2,wkL,wk1_d,wk1_own,wk1_nil,and_self]; done) | (intro i hi; simp only [upd]; (repeat' split); all_goals first | rfl | omega) | skip
               all_goals first | (rw [hN2]; exact wk3_eq rfl) | (exfalso; simp only [ByteArray.size_append, Int.natCast_add, fLA, fLR, fLQ, fLP, fLF, fLS, fLU, gLA, gLR, gLQ, gLP, gLF, gLS, gLU, decide_eq_true_eq, decide_eq_false_iff_not] at hd hq; omega) | trace_state
             | false =>
               have hN2 : printQ q = (textQ q, 0) := by rw [hN, hout, hd]; rfl
               rw [hT] at hd
               try rw [hT] at hN2
               repeat' (first | (with_reducible refine Or.inr (AW.mixWX (E := EqT.no _) [n + 1] [0,1,2,3,4,5] [6,7,8,9,10,11] [] mixedP ?_ ?_ ?_ ?_); decide +kernel; (simp only [List.length_cons,List.length_nil]; decide); (intro j hj; simp only [List.mem_singleton] at hj; subst hj; refine Or.inr ?_; dsimp only; omega)) | (with_reducible refine (AW.mixWX (E := EqT.no _) [n + 1] [0,1,2,3,4,5] [6,7,8,9,10,11] [] mixedP ?_ ?_ ?_ ?_); decide +kernel; (simp only [List.length_cons,List.length_nil]; decide); (intro j hj; simp only [List.mem_singleton] at hj; subst hj; refine Or.inr ?_; dsimp only; omega)) | (with_reducible refine MW0.of 4000 (by simp) ?_ ?_) | (with_reducible refine MW0.nil ?_) | (with_reducible refine MW1.of 4000 (by simp) ?_) | (with_reducible first | refine XG_split (fun hq => ?_) (fun hq => ?_) | refine MX1.of 4000 (by simp) ?_ | refine MX2.of 4000 (by simp) ?_ | refine And.intro ?_ ?_) | ((with_reducible first | refine Or.inl (And.intro (And.intro mixedP ?_) ?_) | refine Or.inl (And.intro mixedP ?_)); kernel_rfl) | simp only [go_sem,ldK,ldW,blindK,List.mem_singleton,Nat.reduceEqDiff,Nat.reduceAdd,Nat.reduceMul,Nat.reduceLeDiff,Int.reduceBEq,Req.av,Req.ds,Lit.av,Lit.ds,Clause.av,Clause.ds,a1,a2,a0,k1,upd_ne,hn0,hn1,List.length_map,hb',k2,k3,k4,k5])
               all_goals try simp only [ByteArray.size_append, Int.natCast_add, fLA, fLR, fLQ, fLP, fLF, fLS, fLU, gLA, gLR, gLQ, gLP, gLF, gLS, gLU]
               all_goals first | omega | exact hz | exact hi1 | exact hi2 | exact hi3 | exact hi4 | exact ⟨hi3.1,hi3.2⟩ | skip
               all_goals first | omega | (unfold maxLen; omega) | (right; omega) | (left; simp; done) | (simp only [wk3,wkL2,wk2,wkL,wk1_d,wk1_own,wk1_nil,and_self]; done) | (intro i hi; simp only [upd]; (repeat' split); all_goals first | rfl | omega) | skip
               all_goals first | (rw [hN2]; exact wk3_eq rfl) | (exfalso; simp only [ByteArray.size_append, Int.natCast_add, fLA, fLR, fLQ, fLP, fLF, fLS, fLU, gLA, gLR, gLQ, gLP, gLF, gLS, gLU, decide_eq_true_eq, decide_eq_false_iff_not] at hd hq; omega) | trace_state
         | false =>
           have ho1 : o = false := by rw [← ho]; unfold mayQ; rw [k1, k2, k3, k4, k5]; rfl
           have hN : printQ q = (noStr, 1) := by unfold printQ; rw [hck, ho1]; rfl
           have hd := hi3.1
           have hq := hi3.1
           repeat' (first | (with_reducible refine Or.inr (AW.mixWX (E := EqT.no _) [n + 1] [0,1,2,3,4,5] [6,7,8,9,10,11] [] mixedP ?_ ?_ ?_ ?_); decide +kernel; (simp only [List.length_cons,List.length_nil]; decide); (intro j hj; simp only [List.mem_singleton] at hj; subst hj; refine Or.inr ?_; dsimp only; omega)) | (with_reducible refine (AW.mixWX (E := EqT.no _) [n + 1] [0,1,2,3,4,5] [6,7,8,9,10,11] [] mixedP ?_ ?_ ?_ ?_); decide +kernel; (simp only [List.length_cons,List.length_nil]; decide); (intro j hj; simp only [List.mem_singleton] at hj; subst hj; refine Or.inr ?_; dsimp only; omega)) | (with_reducible refine MW0.of 4000 (by simp) ?_ ?_) | (with_reducible refine MW0.nil ?_) | (with_reducible refine MW1.of 4000 (by simp) ?_) | (with_reducible first | refine XG_split (fun hq => ?_) (fun hq => ?_) | refine MX1.of 4000 (by simp) ?_ | refine MX2.of 4000 (by simp) ?_ | refine And.intro ?_ ?_) | ((with_reducible first | refine Or.inl (And.intro (And.intro mixedP ?_) ?_) | refine Or.inl (And.intro mixedP ?_)); kernel_rfl) | simp only [go_sem,ldK,ldW,blindK,List.mem_singleton,Nat.reduceEqDiff,Nat.reduceAdd,Nat.reduceMul,Nat.reduceLeDiff,Int.reduceBEq,Req.av,Req.ds,Lit.av,Lit.ds,Clause.av,Clause.ds,a1,a2,a0,k1,upd_ne,hn0,hn1,List.length_map,k2,k3,k4,k5])
           all_goals try simp only [ByteArray.size_append, Int.natCast_add, fLA, fLR, fLQ, fLP, fLF, fLS, fLU, gLA, gLR, gLQ, gLP, gLF, gLS, gLU]
           all_goals first | omega | exact hz | exact hi1 | exact hi2 | exact hi3 | exact hi4 | exact ⟨hi3.1,hi3.2⟩ | skip
           all_goals first | omega | (unfold maxLen; omega) | (right; omega) | (left; simp; done) | (simp only [wk3,wkL2,wk2,wkL,wk1_d,wk1_own,wk1_nil,and_self]; done) | (intro i hi; simp only [upd]; (repeat' split); all_goals first | rfl | omega) | skip
           all_goals first | (rw [hN]; exact wk3_eq rfl) | (exfalso; simp only [ByteArray.size_append, Int.natCast_add, fLA, fLR, fLQ, fLP, fLF, fLS, fLU, gLA, gLR, gLQ, gLP, gLF, gLS, gLU, decide_eq_true_eq, decide_eq_false_iff_not] at hd hq; omega) | trace_state
end Go.Proofs.YtfhpecgknmfnnaaGreatDoor.M
end
section
namespace Go.Proofs.YtfhpecgknmfnnaaGreatDoor.M
open Go.R
section
variable {P : Program} {E : EqT P} {F : Ft}
theorem of_Y0 {r : AV} {f : FuncId} {fn : Func} {code : Code} (hf : P.funcs[f]? = some fn) (hbody : fn.body = some code) (hn : (fn.name == "runtime.NumGoroutine") = false)
 (rs : List ResultVar) {nt : Nat} (hrs : fn.results = rs.toArray) (hnt : fn.ntmps = nt) (hl : nt ≤ 900000) (hF : FtOk P F)
 (H : ∀ h n, HOk n h → X E F [] (FinP P rs n h r) 4000 (.code code) [] ⟨List.replicate nt .any, h, n, n⟩) : FsOk P f (.pure (g0 r)) := by
 refine FsOk.of_XP (E := E) _ hf hbody hn hrs hnt hF (fun _ _ _ => rfl) ?_
 intro args h n r' hp hS hok
 cases args with
 | nil =>
   cases hS
   exact ⟨[], trivial, ⟨hl, by simp⟩, H h n hok⟩
 | cons a l => cases hS
end
abbrev fixedS : Fs := .pure (g0 (vB true))
theorem tup_of {α : Type} {x : α × Int × Int} {p q : Int} (h : x.2 = (p, q)) : x = (x.1, p, q) := by
 obtain ⟨a, b, c⟩ := x
 cases h
 rfl
theorem fx1 : ∃ q, reqA (⟨#[97, 115, 115, 101, 114, 116, 32, 108, 111, 119, 32, 102, 111, 114, 32, 53, 32, 112, 40, 97, 41, 46]⟩ : ByteArray) = (q, 0, 0) ∧ q.life = 5 ∧ q.clause.head.pred = (⟨#[112]⟩ : ByteArray) ∧ printQ q = ((⟨#[97, 115, 115, 101, 114, 116, 32, 108, 111, 119, 32, 102, 111, 114, 32, 53, 32, 112, 40, 97, 41, 46]⟩ : ByteArray), 0) ∧ checkQ q = true ∧ reqI q ∧ szQ q := by
 refine ⟨_, tup_of (by decide +kernel), by decide +kernel, by decide +kernel, by decide +kernel, by decide +kernel, ?_, ?_⟩
 · unfold reqI clauseI litI tI i64
   decide +kernel
 · unfold szQ szC szL szT szS
   decide +kernel
theorem fx2 : ∃ q, reqA (⟨#[97, 115, 115, 101, 114, 116, 32, 108, 111, 119, 32, 102, 111, 114, 40, 88, 41, 32, 58, 45, 32, 112, 40, 88, 41, 46]⟩ : ByteArray) = (q, 0, 0) ∧ q.clause.head.pred = (⟨#[102, 111, 114]⟩ : ByteArray) := ⟨_, tup_of (by decide +kernel), by decide +kernel⟩
theorem fx3 : ∃ q, reqA (⟨#[113, 117, 101, 114, 121, 32, 112, 40, 88]⟩ : ByteArray) = (q, 9, 6) := ⟨_, tup_of (by decide +kernel)⟩
theorem fx4 : ∃ q, reqA (⟨#[114, 101, 118, 111, 107, 101, 32, 48]⟩ : ByteArray) = (q, 7, 6) := ⟨_, tup_of (by decide +kernel)⟩
theorem fx5 : ∃ q, reqA (⟨#[97, 117, 100, 105, 116, 32, 110, 111, 119]⟩ : ByteArray) = (q, 6, 6) := ⟨_, tup_of (by decide +kernel)⟩
set_option maxRecDepth 20000 in
set_option maxHeartbeats 8000000 in
theorem fixed_ok : FsOk Tryz.prog 7 fixedS := by
 refine of_Y0 (E := EqT.no _) (F := ((Ft.no.put 5 preqS).put 9 printQS).put 12 checkQS) Tryz.func7 rfl (by kernel_rfl) [.tmp 0] rfl Tryz.ntmps7 (by decide) ((((FtOk.no _).put preq_ok).put printQ_ok).put checkQ_ok) ?_
 intro h n hok
 obtain ⟨q1, h1, l1, d1, p1, k1, i1, z1⟩ := fx1
 obtain ⟨q2, h2, d2⟩ := fx2
 obtain ⟨q3, h3⟩ := fx3
 obtain ⟨q4, h4⟩ := fx4
 obtain ⟨q5, h5⟩ := fx5
 have a0 : (⟨q1.kind, q1.label, 5, ⟨⟨q1.clause.head.kind, ⟨q1.clause.head.who.var, ⟨q1.clause.head.who.val.sym, q1.clause.head.who.val.num⟩⟩, (⟨#[112]⟩ : ByteArray), q1.clause.head.args⟩, q1.clause.body⟩, q1.no, ⟨q1.lit.kind, ⟨q1.lit.who.var, ⟨q1.lit.who.val.sym, q1.lit.who.val.num⟩⟩, q1.lit.pred, q1.lit.args⟩⟩ : Req) = q1 := by
  rw [← l1, ← d1]
 repeat' (first | (with_reducible first | refine XG_split (fun hq => ?_) (fun hq => ?_) | refine MX1.of 4000 (by simp) ?_ | refine MX2.of 4000 (by simp) ?_ | refine And.intro ?_ ?_) | ((with_reducible first | refine Or.inl (And.intro (And.intro mixedP ?_) ?_) | refine Or.inl (And.intro mixedP ?_)); kernel_rfl) | simp only [go_sem,Nat.reduceEqDiff,Nat.reduceAdd,Nat.reduceMul,Nat.reduceLeDiff,Int.reduceBEq,Req.av,Req.ds,h1,l1,d1,p1,k1,a0,h2,d2,h3,h4,h5,beq_self_eq_true])
 all_goals first | exact ⟨i1, z1⟩ | exact z1 | (show (_ : Int) ≤ _; decide) | skip
 all_goals try refine agree.upd (by omega) ?_
 all_goals first | omega | (unfold maxLen; omega) | (right; omega) | (left; simp; done) | (simp only [wk3,wkL2,wk2,wkL,wk1_d,wk1_own,wk1_nil,and_self]; done) | (intro i hi; simp only [upd]; (repeat' split); all_goals first | rfl | omega) | skip
def allQ (q : Req) : Prop := copyR q ∧ reqI q ∧ szQ q ∧ q.label.size ≤ 1099511627776
theorem all_small {q : Req} (h : allQ q) : smallR q := by
 obtain ⟨⟨⟨h1, h2, h3⟩, h4⟩, -⟩ := h
 exact ⟨⟨by omega, by omega, fun l hl => by have := h3 l hl; omega⟩, by omega⟩
theorem printQ_eq (q : Req) : ∃ t e, printQ q = (t, e) ∧ checkQ q = (e != 1) := by
 unfold printQ outQ
 cases hc : checkQ q with
 | true =>
   rw [if_pos rfl]
   split
   · exact ⟨_, _, rfl, rfl⟩
   · exact ⟨_, _, rfl, rfl⟩
 | false => exact ⟨_, _, rfl, rfl⟩
end Go.Proofs.YtfhpecgknmfnnaaGreatDoor.M
end
section
namespace Go.R
open Go.RowKit Go.ChangeShapes Go.WideShapes
def Cx.fast (w : World) : Cx := ⟨fun b => if b < w.heap.size then none else some 0, fun _ => 0, fun _ => (none, 0)⟩
def AH.none : AH := fun _ => .no
theorem Wd.fast (w : World) (hG : ∀ p ∈ laidL, p.1 < w.heap.size ∧ p.2 w.heap[p.1]?) : Wd (Cx.fast w) AH.none 0 w :=
 ⟨fun i cs hi => (by cases hi), fun i m z cap hi _ => (by cases hi), fun i m z a cap hi _ => (by cases hi), fun i j b _ hi _ => (by cases hi), fun b hb => if_neg (Nat.not_lt.2 hb), fun _ _ => rfl, fun p hp => ⟨if_pos (hG p hp).1, (hG p hp).2⟩⟩
theorem calls_of_fs {P : Program} {f : FuncId} {pre : List AV → Prop} {g : List AV → Option AV} (hF : FsOk P f (.pureIf pre g)) {w : World} {vals : List Value} {args : List AV} {x : Value} (hl : vals.length = args.length)
 (hr : ∀ (j : Nat) v x, vals[j]? = some v → args[j]? = some x → ARep (Cx.fast w) AH.none w v x) (hp : pre args) (hg : g args = some (.d (.v x))) (hG : ∀ p ∈ laidL, p.1 < w.heap.size ∧ p.2 w.heap[p.1]?) :
 Calls P f vals.toArray w fun e w' => e = .returned x ∧ Below w.heap.size w w' := by
 obtain ⟨hent, hcalls⟩ := hF (Cx.fast w) AH.none 0 w vals args (fun r _ _ => r = .d (.v x)) (Wd.fast w hG) hl hr ⟨hp, by
  show onO ((g args).map fun r => (r, AH.none, 0)) _
  rw [hg]
  exact rfl⟩
 refine hcalls.mono fun e w' he => ?_
 obtain ⟨y, r, c', h', n', rfl, r1, r2, r3, r4, r5, rfl⟩ := he
 obtain rfl := cval_rep r4 rfl
 exact ⟨rfl, r2.os, r2.tape, r2.output, r2.size, fun b hb => (r2.all b (if_pos hb)).2⟩
theorem post_below {H : Type} {enc : TypeId × Value → H} {P : Program} {f : Func} {s : ChangeSpec} {apart fresh handsOn again : Bool} {W W' : World} {args : Array Value} {v : Value} {ds gs : List (DataW H)} {before pa pv : List MemPlace}
 (hW : DataW.Whole enc P f.params.toList s.vars apart W args.toList ds gs before)
 (hres : ∀ (b : Nat) (sp : Nat → Bool) (hd : Bool), DataW.TrodAll enc P W' b sp hd f.resultTypes.toList (v.resultList f.resultTypes.size) (s.fn H (ds ++ gs)).results [])
 (hargs : ∀ sp : Nat → Bool, (∀ p ∈ before, sp p.block = true) → DataW.TrodAll enc P W' 0 sp true f.params.toList args.toList (s.fn H (ds ++ gs)).args pa)
 (hvars : ∀ sp : Nat → Bool, (∀ p ∈ before, sp p.block = true) → DataW.TrodVars enc P W' sp s.vars (s.fn H (ds ++ gs)).vars pv)
 (hps : before = pa ++ pv) (hB : Below W.heap.size W W')
 (hok : ∀ (j : Nat) (t : TypeId) (r : Value), f.resultTypes[j]? = some t → (v.resultList f.resultTypes.size)[j]? = some r → Value.okWide P W' .any 0 t r) :
 s.post enc P f apart fresh handsOn again W args v W' := by
 have hlt : ∀ p ∈ before, p.block < W.heap.size := fun p hp => by simpa using hW.lt p hp
 have hold : ∀ p ∈ before, (fun b => decide (b < W.heap.size)) p.block = true := fun p hp => decide_eq_true (hlt p hp)
 refine ⟨ds, gs, before, [], pa, pv, hW, hres _ _ _, hargs _ hold, hvars _ hold, hB.frame _, fun _ => ?_⟩
 obtain ⟨_, _, _, _, _, hz, hn⟩ := hW
 refine ⟨hok, _, _, ([] ++ pa) ++ pv, ⟨[] ++ pa, pv, trodAll_append (hargs _ (fun _ _ => rfl)) (hres _ _ _), hvars _ (fun _ _ => rfl), rfl, ?_, ?_⟩, ?_⟩
 · intro b off hp
   have hp' : MemPlace.cell b off ∈ before := by rw [hps]; simpa using hp
   rw [hB.frozen (p := ⟨b, off, none⟩) (hlt _ hp')]
   exact hz b off hp'
 · intro ha
   have := hn ha
   rw [hps] at this
   simpa using this
 · intro p hp _
   rw [hps]
   simpa using hp
end Go.R
end
section
namespace Go.R
open Go.RowKit Go.ChangeShapes Go.WideShapes
open Go.Proofs.YtfhpecgknmfnnaaGreatDoor.Rows (uptoBulk uptoBulkAll)
section
variable {H : Type}
theorem bulk_one (d : DataW H) : 1 ≤ uptoBulk d := by
 cases d with
 | lit l => cases l <;> simp [uptoBulk]
 | nil => simp [uptoBulk]
 | ptr d => simp [uptoBulk]
 | slice elems spare => simp [uptoBulk]
 | agg parts => simp [uptoBulk]
 | iface t d => simp [uptoBulk]
 | map entries => simp [uptoBulk]
 | held h => simp [uptoBulk]
theorem bulk_part {d : DataW H} {l : List (DataW H)} (h : d ∈ l) : uptoBulk d ≤ uptoBulkAll l := by
 induction l with
 | nil => cases h
 | cons x r ih =>
   simp only [uptoBulkAll]
   cases List.mem_cons.1 h with
   | inl e => subst e; omega
   | inr e => have := ih e; omega
theorem bulk_len (l : List (DataW H)) : l.length ≤ uptoBulkAll l := by
 induction l with
 | nil => simp [uptoBulkAll]
 | cons x r ih => have := bulk_one x; simp only [uptoBulkAll, List.length_cons]; omega
end
structure Opens (P : Program) (t : TypeId) {α : Type} (c : α → List DV) (Q : α → Nat → Prop) : Prop where
 mono : ∀ a m n, Q a m → m ≤ n → Q a n
 get : ∀ {H : Type} (enc : TypeId × Value → H) (w : World) (held : Bool) (fuel : Nat) (cs : List Value) (x : DataW H × List MemPlace), DataW.trod enc P w 0 (fun _ => true) held fuel t cs = some x →
  ∃ a, cs.length = (c a).length ∧ Q a (uptoBulk x.1) ∧ ∀ (j : Nat) v y, cs[j]? = some v → (c a)[j]? = some y → DRep (Cx.fast w) w v y
structure OpensF (P : Program) (fs : List Field) (k : Nat) {α : Type} (c : α → List DV) (Q : α → Nat → Prop) : Prop where
 mono : ∀ a m n, Q a m → m ≤ n → Q a n
 get : ∀ {H : Type} (enc : TypeId × Value → H) (w : World) (held : Bool) (n : Nat) (cs : List Value) (xs : List (DataW H × List MemPlace)), xs.length = fs.length →
  (∀ (i : Nat) (f : Field), fs[i]? = some f → DataW.trod enc P w 0 (fun _ => true) held n f.type ((cs.drop f.offset).take (P.cellsOf f.type)) = xs[i]?) →
  ∃ a, Q a (uptoBulkAll (xs.map (·.1))) ∧ ∀ (j : Nat) v y, cs[k + j]? = some v → (c a)[j]? = some y → DRep (Cx.fast w) w v y
section
variable {P : Program} {t e : TypeId} {α β : Type}
theorem opens_string (ht : P.underlying t = some .string) : Opens P t (fun s : ByteArray => [.v (.string s)]) (fun s n => s.size ≤ n) where
 mono := fun a m n h h' => Nat.le_trans h h'
 get := fun enc w held fuel cs x h => by
  obtain ⟨s, rfl, rfl, _⟩ := DataW.trod_string ht h
  refine ⟨s, rfl, ?_, fun j v y hv hy => ?_⟩
  · have : s.data.toList.length = s.size := by rw [Array.length_toList]; rfl
    show s.size ≤ uptoBulk (.lit (.string s.data.toList))
    simp only [uptoBulk]
    omega
  · cases j with
    | zero =>
      cases hv
      cases hy
      exact .v _ rfl
    | succ j => cases hv
theorem opens_int {k : IntKind} (ht : P.underlying t = some (.int k)) : Opens P t (fun n : Int => [.v (.int k n)]) (fun n _ => k.min ≤ n ∧ n ≤ k.max) where
 mono := fun a m n h _ => h
 get := fun enc w held fuel cs x h => by
  obtain ⟨n, rfl, rfl, hw⟩ := DataW.trod_int ht h
  refine ⟨n, rfl, ?_, fun j v y hv hy => ?_⟩
  · simpa [Go.Lit.wf] using hw
  · cases j with
    | zero =>
      cases hv
      cases hy
      exact .v _ rfl
    | succ j => cases hv
theorem Opens.map {c : α → List DV} {Q : α → Nat → Prop} (h : Opens P t c Q) {c' : β → List DV} {Q' : β → Nat → Prop} (g : α → β) (hc : ∀ a, c' (g a) = c a) (hm : ∀ a m n, Q' a m → m ≤ n → Q' a n) (hQ : ∀ a n, Q a n → Q' (g a) n) : Opens P t c' Q' where
 mono := hm
 get := fun enc w held fuel cs x ht => by
  obtain ⟨a, h1, h2, h3⟩ := h.get enc w held fuel cs x ht
  exact ⟨g a, by rw [hc]; exact h1, hQ _ _ h2, fun j v y hv hy => h3 j v y hv (by rw [← hc]; exact hy)⟩
theorem opensF_nil (k : Nat) : OpensF P [] k (fun _ : Unit => []) (fun _ _ => True) where
 mono := fun _ _ _ h _ => h
 get := fun enc w held n cs xs _ _ => ⟨(), trivial, fun j v y _ hy => by simp at hy⟩
theorem opensF_cons {f : Field} {fs : List Field} {k z : Nat} {c : α → List DV} {Q : α → Nat → Prop} {c' : β → List DV} {Q' : β → Nat → Prop} (h : Opens P f.type c Q) (ho : f.offset = k) (hz : P.cellsOf f.type = z) (hc : ∀ a, (c a).length = z) (hr : OpensF P fs (k + z) c' Q') :
 OpensF P (f :: fs) k (fun x : α × β => c x.1 ++ c' x.2) (fun x n => Q x.1 n ∧ Q' x.2 n) where
 mono := fun a m n ha hn => ⟨h.mono _ _ _ ha.1 hn, hr.mono _ _ _ ha.2 hn⟩
 get := fun enc w held n cs xs hl hx => by
  cases xs with
  | nil => simp at hl
  | cons x xs =>
    have h0 := hx 0 f rfl
    rw [ho, hz] at h0
    obtain ⟨a, h1, h2, h3⟩ := h.get enc w held n _ x h0
    obtain ⟨b, h4, h5⟩ := hr.get enc w held n cs xs (by simpa using hl) (fun i f hf => by simpa using hx (i + 1) f (by simpa using hf))
    refine ⟨(a, b), ⟨h.mono _ _ _ h2 ?_, hr.mono _ _ _ h4 ?_⟩, fun j v y hv hy => ?_⟩
    · simp only [List.map_cons, uptoBulkAll]; omega
    · simp only [List.map_cons, uptoBulkAll]; omega
    · rcases Nat.lt_or_ge j z with hj | hj
      · rw [List.getElem?_append_left (by rw [hc]; exact hj)] at hy
        refine h3 j v y ?_ hy
        rw [List.getElem?_take_of_lt hj, List.getElem?_drop]
        exact hv
      · rw [List.getElem?_append_right (by rw [hc]; exact hj), hc] at hy
        refine h5 (j - z) v y ?_ hy
        rw [show k + z + (j - z) = k + j by omega]
        exact hv
theorem opens_struct {fs : Array Field} {c : α → List DV} {Q : α → Nat → Prop} (ht : P.underlying t = some (.struct fs)) (h : OpensF P fs.toList 0 c Q) (hc : ∀ a, (c a).length = P.cellsOf t) : Opens P t c Q where
 mono := h.mono
 get := fun enc w held fuel cs x hx => by
  obtain ⟨xs, n, _, rfl, hl, hn, hf⟩ := DataW.trod_struct ht hx
  obtain ⟨a, h1, h2⟩ := h.get enc w held n cs xs (by simpa using hn) (fun i f hi => hf i f (by simpa using hi))
  refine ⟨a, by rw [hl, hc], h.mono _ _ _ h1 ?_, fun j v y hv hy => h2 j v y (by rw [Nat.zero_add]; exact hv) hy⟩
  simp only [uptoBulk]
  omega
theorem opens_slice [Inhabited α] {z : Nat} {c : α → List DV} {Q : α → Nat → Prop} (ht : P.underlying t = some (.slice e)) (hz : P.cellsOf e = z) (h0 : 0 < z) (hc : ∀ a, (c a).length = z) (he : Opens P e c Q) :
 Opens P t (fun l : List α => [.sl z (l.map c)]) (fun l n => l.length ≤ n ∧ ∀ a ∈ l, Q a n) where
 mono := fun l m n h hn => ⟨Nat.le_trans h.1 hn, fun a ha => he.mono _ _ _ (h.2 a ha) hn⟩
 get := fun enc w held fuel cs x hx => by
  rcases Go.Deep.open_slice ht hx with ⟨rfl, rfl⟩ | ⟨a, len, cap, m, n, D, Pl, rfl, hb, hlc, hcm, hm, rfl, hel⟩
  · refine ⟨[], rfl, ⟨Nat.zero_le _, fun a ha => absurd ha List.not_mem_nil⟩, fun j v y hv hy => ?_⟩
    cases j with
    | zero =>
      cases hv
      cases hy
      exact .sl none 0 z [] (fun _ _ => undef) (Nat.le_refl _) (fun _ h => absurd h List.not_mem_nil) (fun a h => by cases h) (fun _ => ⟨rfl, rfl⟩) (fun a h => by cases h) (fun i j row x h => by simp at h)
    | succ j => cases hv
  · have hm : m = cap := by simpa using hm
    subst hm
    rw [hz] at hel
    have hone : ∀ i, i < len → ∃ y : α × List Value, w.cells? 0 (a.add (i * z)) z = some y.2 ∧ y.2.length = (c y.1).length ∧ Q y.1 (uptoBulk (D i)) ∧ ∀ (j : Nat) v x, y.2[j]? = some v → (c y.1)[j]? = some x → DRep (Cx.fast w) w v x := fun i hi => by
     obtain ⟨cs', h1, h2⟩ := hel i (by omega)
     obtain ⟨b, h3, h4, h5⟩ := he.get enc w held n cs' _ h2
     exact ⟨(b, cs'), h1, h3, h4, h5⟩
    obtain ⟨Y, hY⟩ := Go.Deep.choose_lt hone
    have hsp : a.spot = none ∨ m = 0 := by
     rcases Nat.eq_zero_or_pos m with q | q
     · exact .inr q
     · left
       obtain ⟨cs', h1, _⟩ := hel 0 q
       obtain ⟨_, h3, h4⟩ := World.cells?_some h1
       have h5 := h4 0 h0
       rw [Nat.zero_mul, Go.Deep.add_add] at h5
       have h6 : w.cell? (a.add (0 + 0)) = some cs'[0] := by rw [h5]; exact List.getElem?_eq_getElem (by omega)
       have e : a.add (0 + 0) = a := by simp [Addr.add]
       rw [e] at h6
       unfold World.cell? at h6
       split at h6
       · split at h6
         · cases h6
         · rename_i hs
           cases hq : a.spot with
           | none => rfl
           | some s => simp [hq] at hs
       · cases h6
    refine ⟨(List.range len).map fun i => (Y i).1, rfl, ⟨?_, fun b hb' => ?_⟩, fun j v y hv hy => ?_⟩
    · rw [List.length_map, List.length_range]
      have := bulk_len ((List.range len).map D)
      rw [List.length_map, List.length_range] at this
      simp only [uptoBulk]
      omega
    · obtain ⟨i, hi, rfl⟩ := List.mem_map.1 hb'
      refine he.mono _ _ _ (hY i (List.mem_range.1 hi)).2.2.1 ?_
      have := bulk_part (List.mem_map_of_mem (f := D) hi)
      simp only [uptoBulk]
      omega
    · cases j with
      | succ j => cases hv
      | zero =>
        cases hv
        cases hy
        have hll : (((List.range len).map fun i => (Y i).1).map c).length = len := by simp
        have key := DRep.sl (c := Cx.fast w) (w := w) (some a) m z (((List.range len).map fun i => (Y i).1).map c) (fun i j => (Y i).2.getD j undef) (by rw [hll]; exact hlc)
         (fun row hr => by
           obtain ⟨b, _, rfl⟩ := List.mem_map.1 hr
           exact hc b)
         (fun a' ha => by cases ha; exact hsp) (fun h => by cases h)
         (fun a' ha i j row x hi hj => by
           cases ha
           have hil : i < len := by
            have := (List.getElem?_eq_some_iff.1 hi).1
            rwa [hll] at this
           have hrow : row = c (Y i).1 := by simpa [hil] using hi.symm
           subst hrow
           have hjz : j < z := by
            have := (List.getElem?_eq_some_iff.1 hj).1
            rwa [hc] at this
           have hsp' := hsp.resolve_right (by omega)
           obtain ⟨_, h3, h4⟩ := World.cells?_some (hY i hil).1
           have h5 := h4 j hjz
           rw [Go.Deep.add_add, addr_add' hsp', ← Nat.add_assoc] at h5
           have h6 : w.cell? ⟨a.block, a.off + i * z + j, none⟩ = some ((Y i).2.getD j undef) := by
            rw [h5, List.getD_eq_getElem?_getD, List.getElem?_eq_getElem (by omega)]
            rfl
           refine ⟨h6, ?_⟩
           have hlt : a.block < w.heap.size := by
            unfold World.cell? at h6
            split at h6
            · rename_i hh
              exact (Array.getElem?_eq_some_iff.1 hh).1
            · cases h6
           unfold Cx.lo Cx.fast
           simp only [hlt, if_true])
         (fun i j row x hi hj => by
           have hil : i < len := by
            have := (List.getElem?_eq_some_iff.1 hi).1
            rwa [hll] at this
           have hrow : row = c (Y i).1 := by simpa [hil] using hi.symm
           subst hrow
           have hjl : j < (Y i).2.length := by
            rw [(hY i hil).2.1]
            exact (List.getElem?_eq_some_iff.1 hj).1
           refine (hY i hil).2.2.2 j _ x ?_ hj
           rw [List.getD_eq_getElem?_getD, List.getElem?_eq_getElem hjl]
           rfl)
        rw [hll] at key
        exact key
theorem opens_arg {fs : Array Field} {c : α → List DV} {Q : α → Nat → Prop} (h : Opens P t c Q) (ht : P.underlying t = some (.struct fs)) {H : Type} {enc : TypeId × Value → H} {w : World} {base : Nat} {v : Value} {d : DataW H} {ps : List MemPlace}
 (hval : Value.okWide P w .any base t v) (hd : DataW.Trod enc P w 0 (fun _ => true) true t v d ps) : ∃ a, Q a (uptoBulk d) ∧ ARep (Cx.fast w) AH.none w v (.agg ((c a).map .d)) := by
 unfold Value.okWide at hval
 rw [ht] at hval
 obtain ⟨cs, rfl, _, _⟩ := hval
 obtain ⟨fuel, hf⟩ := hd
 obtain ⟨a, h1, h2, h3⟩ := h.get enc w true fuel _ _ hf
 have hcs : (Value.agg cs).cells.toList = cs.toList := rfl
 rw [hcs] at h1 h3
 refine ⟨a, h2, ?_⟩
 have := ARep.agg (c := Cx.fast w) (h := AH.none) (w := w) cs.toList ((c a).map .d) (by rw [List.length_map]; exact h1) (fun j v x hv hx => by
  rw [List.getElem?_map] at hx
  cases hy : (c a)[j]? with
  | none => rw [hy] at hx; cases hx
  | some y =>
    rw [hy] at hx
    cases hx
    exact .d _ _ (h3 j v y hv hy))
 exact this
theorem arg_again {H : Type} {enc : TypeId × Value → H} (hl : laidOutB P = true) (hr : P.readableRec t = true) (hrow : t < P.types.size) {W W' : World} {v : Value} {d : DataW H} {ps before : List MemPlace}
 (h : DataW.Trod enc P W 0 (fun _ => true) true t v d ps) (hb : Below W.heap.size W W') (hlt : ∀ x ∈ ps, x.block < W.heap.size) (hin : ∀ x ∈ ps, x ∈ before) (sp : Nat → Bool) (hs : ∀ p ∈ before, sp p.block = true) :
 DataW.Trod enc P W' 0 sp true t v d ps :=
 WideElems.Trod_stays hl hr hrow h (fun x hx => hb.same (hlt x hx)) (fun x hx => hs x (hin x hx))
end
end Go.R
end
section
namespace Go.Proofs.YtfhpecgknmfnnaaGreatDoor.M
open Go.R Go.ChangeShapes Go.WideShapes
open Go.Proofs.YtfhpecgknmfnnaaGreatDoor.Rows (uptoBulk uptoBulkAll)
instance : Inhabited Term := ⟨Term.z⟩
instance : Inhabited Lit := ⟨Lit.z⟩
def valQ (v : Val) (n : Nat) : Prop := v.sym.size ≤ n ∧ (-9223372036854775808 ≤ v.num ∧ v.num ≤ 9223372036854775807)
def termQ (t : Term) (n : Nat) : Prop := t.var.size ≤ n ∧ valQ t.val n
def litQ (l : Lit) (n : Nat) : Prop := (0 ≤ l.kind ∧ l.kind ≤ 255) ∧ termQ l.who n ∧ l.pred.size ≤ n ∧ l.args.length ≤ n ∧ ∀ t ∈ l.args, termQ t n
def clauseQ (c : Clause) (n : Nat) : Prop := litQ c.head n ∧ c.body.length ≤ n ∧ ∀ l ∈ c.body, litQ l n
theorem valQ_mono (v : Val) (m n : Nat) (h : valQ v m) (hn : m ≤ n) : valQ v n := ⟨Nat.le_trans h.1 hn, h.2⟩
theorem termQ_mono (t : Term) (m n : Nat) (h : termQ t m) (hn : m ≤ n) : termQ t n := ⟨Nat.le_trans h.1 hn, valQ_mono _ _ _ h.2 hn⟩
theorem litQ_mono (l : Lit) (m n : Nat) (h : litQ l m) (hn : m ≤ n) : litQ l n :=
 ⟨h.1, termQ_mono _ _ _ h.2.1 hn, Nat.le_trans h.2.2.1 hn, Nat.le_trans h.2.2.2.1 hn, fun t ht => termQ_mono _ _ _ (h.2.2.2.2 t ht) hn⟩
theorem clauseQ_mono (c : Clause) (m n : Nat) (h : clauseQ c m) (hn : m ≤ n) : clauseQ c n := ⟨litQ_mono _ _ _ h.1 hn, Nat.le_trans h.2.1 hn, fun l hl => litQ_mono _ _ _ (h.2.2 l hl) hn⟩
theorem cells_val : Tryz.prog.cellsOf 23 = 2 := by kernel_rfl
theorem cells_term : Tryz.prog.cellsOf 25 = 3 := by kernel_rfl
theorem cells_lit : Tryz.prog.cellsOf 28 = 6 := by kernel_rfl
theorem cells_clause : Tryz.prog.cellsOf 31 = 7 := by kernel_rfl
theorem opens_val : Opens Tryz.prog 23 Val.cells valQ :=
 (opens_struct Tryz.underlying23 (opensF_cons (opens_string Tryz.underlying9) rfl (by kernel_rfl) (fun _ => rfl) (opensF_cons (opens_int Tryz.underlying2) rfl (by kernel_rfl) (fun _ => rfl) (opensF_nil _)))
   (fun _ => cells_val.symm)).map (fun x => ⟨x.1, x.2.1⟩) (fun _ => rfl) valQ_mono (fun x n h => ⟨h.1, h.2.1⟩)
theorem opens_term : Opens Tryz.prog 25 Term.cells termQ :=
 (opens_struct Tryz.underlying25 (opensF_cons (opens_string Tryz.underlying9) rfl (by kernel_rfl) (fun _ => rfl) (opensF_cons opens_val rfl cells_val (fun _ => rfl) (opensF_nil _)))
   (fun _ => cells_term.symm)).map (fun x => ⟨x.1, x.2.1⟩) (fun _ => rfl) termQ_mono (fun x n h => ⟨h.1, h.2.1⟩)
theorem opens_lit : Opens Tryz.prog 28 Lit.cells litQ :=
 (opens_struct Tryz.underlying28 (opensF_cons (opens_int Tryz.underlying5) rfl (by kernel_rfl) (fun _ => rfl) (opensF_cons opens_term rfl cells_term (fun _ => rfl)
   (opensF_cons (opens_string Tryz.underlying9) rfl (by kernel_rfl) (fun _ => rfl) (opensF_cons (opens_slice Tryz.underlying26 cells_term (by decide) (fun _ => rfl) opens_term) rfl (by kernel_rfl) (fun _ => rfl) (opensF_nil _)))))
   (fun _ => cells_lit.symm)).map (fun x => ⟨x.1, x.2.1, x.2.2.1, x.2.2.2.1⟩) (fun _ => rfl) litQ_mono (fun x n h => ⟨h.1, h.2.1, h.2.2.1, h.2.2.2.1⟩)
theorem opens_clause : Opens Tryz.prog 31 Clause.cells clauseQ :=
 (opens_struct Tryz.underlying31 (opensF_cons opens_lit rfl cells_lit (fun _ => rfl) (opensF_cons (opens_slice Tryz.underlying29 cells_lit (by decide) (fun _ => rfl) opens_lit) rfl (by kernel_rfl) (fun _ => rfl) (opensF_nil _)))
   (fun _ => cells_clause.symm)).map (fun x => ⟨x.1, x.2.1⟩) (fun _ => rfl) clauseQ_mono (fun x n h => ⟨h.1, h.2.1⟩)
theorem laid : laidOutB Tryz.prog = true := by kernel_rfl
end Go.Proofs.YtfhpecgknmfnnaaGreatDoor.M
end
section
namespace Go.Proofs.YtfhpecgknmfnnaaGreatDoor.M
open Go.R Go.ChangeShapes Go.WideShapes Go.RowKit
open Go.Proofs.YtfhpecgknmfnnaaGreatDoor.Rows (uptoBulk uptoBulkAll)
theorem litI_of {l : Lit} {n : Nat} (h : litQ l n) : litI l := ⟨h.2.1.2.2, fun t ht => (h.2.2.2.2 t ht).2.2⟩
theorem szL_of {l : Lit} (h : litQ l 1048576) : szL l := by
 obtain ⟨_, h1, _, h3, h4⟩ := h
 exact ⟨by unfold szT szS; have := h1.1; omega, by omega, fun t ht => by unfold szT szS; have := (h4 t ht).1; omega⟩
theorem clauseI_of {c : Clause} (h : clauseQ c 1048576) : copyP c ∧ clauseI c ∧ szC c := by
 obtain ⟨h1, h2, h3⟩ := h
 exact ⟨⟨by omega, by have := h1.2.2.2.1; omega, fun l hl => by have := (h3 l hl).2.2.2.1; omega⟩, ⟨litI_of h1, fun l hl => litI_of (h3 l hl)⟩, ⟨szL_of h1, by omega, fun l hl => szL_of (h3 l hl)⟩⟩
def reqQ (q : Req) (n : Nat) : Prop := (0 ≤ q.kind ∧ q.kind ≤ 255) ∧ q.label.size ≤ n ∧ (-9223372036854775808 ≤ q.life ∧ q.life ≤ 9223372036854775807) ∧ clauseQ q.clause n ∧ (-9223372036854775808 ≤ q.no ∧ q.no ≤ 9223372036854775807) ∧ litQ q.lit n
theorem reqQ_mono (q : Req) (m n : Nat) (h : reqQ q m) (hn : m ≤ n) : reqQ q n := ⟨h.1, Nat.le_trans h.2.1 hn, h.2.2.1, clauseQ_mono _ _ _ h.2.2.2.1 hn, h.2.2.2.2.1, litQ_mono _ _ _ h.2.2.2.2.2 hn⟩
theorem allQ_of {q : Req} (h : reqQ q 1048576) : allQ q := by
 obtain ⟨h1, h2, h3, h4, h5, h6⟩ := h
 obtain ⟨c1, c2, c3⟩ := clauseI_of h4
 exact ⟨⟨c1, by have := h6.2.2.2.1; omega⟩, ⟨c2, litI_of h6, h3, h5⟩, ⟨c3, szL_of h6⟩, by omega⟩
theorem cells_req : Tryz.prog.cellsOf 33 = 17 := by kernel_rfl
theorem opens_req : Opens Tryz.prog 33 Req.cells reqQ :=
 (opens_struct Tryz.underlying33 (opensF_cons (opens_int Tryz.underlying5) rfl (by kernel_rfl) (fun _ => rfl) (opensF_cons (opens_string Tryz.underlying9) rfl (by kernel_rfl) (fun _ => rfl)
   (opensF_cons (opens_int Tryz.underlying2) rfl (by kernel_rfl) (fun _ => rfl) (opensF_cons opens_clause rfl cells_clause (fun _ => rfl) (opensF_cons (opens_int Tryz.underlying3) rfl (by kernel_rfl) (fun _ => rfl) (opensF_cons opens_lit rfl cells_lit (fun _ => rfl) (opensF_nil _)))))))
   (fun _ => cells_req.symm)).map (fun x => ⟨x.1, x.2.1, x.2.2.1, x.2.2.2.1, x.2.2.2.2.1, x.2.2.2.2.2.1⟩) (fun _ => rfl) reqQ_mono (fun x n h => ⟨h.1, h.2.1, h.2.2.1, h.2.2.2.1, h.2.2.2.2.1, h.2.2.2.2.2.1⟩)
section
variable {H : Type} {enc : TypeId × Value → H} {w : World} {base : Nat} {v v0 : Value} {d : DataW H} {ps : List MemPlace}
set_option maxRecDepth 100000 in
theorem open_req (hval : Value.okWide Tryz.prog w .any base 33 v) (hd : DataW.Trod enc Tryz.prog w 0 (fun _ => true) true 33 v d ps) : ∃ q : Req, reqQ q (uptoBulk d) ∧ ARep (Cx.fast w) AH.none w v q.av := by
 obtain ⟨a, h1, h2⟩ := opens_arg opens_req Tryz.underlying33 hval hd
 exact ⟨a, h1, h2⟩
theorem read_req : Tryz.prog.readableRec 33 = true := by kernel_rfl
theorem row_req : 33 < Tryz.prog.types.size := of_decide_eq_true (by kernel_rfl)
theorem args1 {x0 : AV} (h : ARep (Cx.fast w) AH.none w v0 x0) : ∀ (j : Nat) v x, [v0][j]? = some v → [x0][j]? = some x → ARep (Cx.fast w) AH.none w v x := by
 intro j v x hv hx
 cases j with
 | zero =>
   cases hv
   cases hx
   exact h
 | succ j => simp at hv
theorem gTab : Tryz.prog.globalNamed "internal/strconv.uint64pow10" = some 0 := by kernel_rfl
theorem vars_tail {P : Program} {W : World} {x : String × DataW Unit} {r : List (String × DataW Unit)} {ps : List MemPlace} (h : DataW.LaidVars P W (x :: r) ps) : ∃ q, DataW.LaidVars P W r q := by
 obtain ⟨n, d⟩ := x
 obtain ⟨_, _, _, _, _, q, _, _, _, _, h, _⟩ := h
 exact ⟨q, h⟩
theorem tab_of_vars {P : Program} {W : World} {name : String} {k : IntKind} {zs : List Int} {rest : List (String × DataW Unit)} {g : Nat} {t e : TypeId} {n : Nat} {ps : List MemPlace}
 (hg : P.globalNamed name = some g) (hty : (P.globals[g]?).map (·.type) = some t) (ht : P.underlying t = some (.array n e)) (he : P.underlying e = some (.int k)) (hce : P.cellsOf e = 1) (hct : P.cellsOf t = n)
 (h : DataW.LaidVars P W ((name, Lib.tabData k zs) :: rest) ps) : Lib.TabIs P W name k zs := by
 obtain ⟨g', t', cs, fuel, p, q, hg', ht', hvar, hd, _, _⟩ := h
 obtain rfl := Option.some.inj (hg.symm.trans hg')
 obtain rfl := Option.some.inj (hty.symm.trans ht')
 unfold Lib.TabIs
 rw [hvar, ← Lib.cells_of_tab ht he hce hct hd]
abbrev laidRow : List (String × DataW Unit) := [("math/bits.deBruijn32tab", Rows.laid_math_bits_deBruijn32tab), ("math/bits.deBruijn64tab", Rows.laid_math_bits_deBruijn64tab), ("internal/strconv.uint64pow10", Rows.laid_internal_strconv_uint64pow10)]
theorem table {W : World} (h : laidMet Tryz.prog laidRow W) : Lib.TabIs Tryz.prog W "internal/strconv.uint64pow10" .u64 Lib.pow10Tab := by
 obtain ⟨ps, h, _⟩ := h
 obtain ⟨p1, h⟩ := vars_tail h
 obtain ⟨p2, h⟩ := vars_tail h
 exact tab_of_vars (t := 155) (e := 130) (n := 20) (rest := []) gTab (by kernel_rfl) (by kernel_rfl) (by kernel_rfl) (by kernel_rfl) (by kernel_rfl) h
theorem laid_all {W : World} (h : laidMet Tryz.prog laidRow W) : ∀ p ∈ laidL, p.1 < W.heap.size ∧ p.2 W.heap[p.1]? := by
 intro p hp
 have hT := table h
 obtain rfl := List.mem_singleton.1 hp
 have hv : W.var? Tryz.prog "internal/strconv.uint64pow10" = some (Lib.pow10Tab.map fun z => Value.int .u64 z).toArray := hT
 unfold World.var? at hv
 rw [gTab] at hv
 refine ⟨?_, fun w hw => ?_⟩
 · show 0 < W.heap.size
   rcases Nat.eq_zero_or_pos W.heap.size with q | q
   · have : W.heap[0]? = none := Array.getElem?_eq_none (by omega)
     simp [this] at hv
   · exact q
 · show w.var? Tryz.prog "internal/strconv.uint64pow10" = _
   unfold World.var?
   rw [gTab]
   have hw : w.heap[0]? = W.heap[0]? := hw
   simp only [Option.bind_some] at hv ⊢
   rw [hw]
   exact hv
end
def fill (vs : Array Value) : Obj → Obj
 | .cells _ t f => .cells vs t f
 | o => o
def tab32 : List Int := [0, 1, 28, 2, 29, 14, 24, 3, 30, 22, 20, 15, 25, 17, 4, 8, 31, 27, 13, 23, 21, 19, 16, 7, 26, 12, 18, 6, 11, 5, 10, 9]
def tab64 : List Int := [0, 1, 56, 2, 57, 49, 28, 3, 61, 58, 42, 50, 38, 29, 17, 4, 62, 47, 59, 36, 45, 43, 51, 22, 53, 39, 33, 30, 24, 18, 12, 5, 63, 55, 48, 27, 60, 41, 37, 16, 46, 35, 44, 21, 52, 32, 23, 11, 54, 26, 40, 15, 34, 20, 31, 10, 25, 14, 19, 9, 13, 8, 7, 6]
def laidHeap (h : Array Obj) : Array Obj := ((h.modify 0 (fill (Lib.pow10Tab.map fun z => Value.int .u64 z).toArray)).modify 1 (fill (tab32.map fun z => Value.int .u8 z).toArray)).modify 2 (fill (tab64.map fun z => Value.int .u8 z).toArray)
end Go.Proofs.YtfhpecgknmfnnaaGreatDoor.M
end
section
namespace Go.Proofs.YtfhpecgknmfnnaaGreatDoor.M
open Go.R
abbrev lawReqS : Fs := .pureIf (g1p aReq allQ) (g1 aReq fun _ => vB true)
set_option maxRecDepth 20000 in
set_option maxHeartbeats 8000000 in
theorem law4_ok : FsOk Tryz.prog 4 lawReqS := by
 refine of_Y1 (E := EqT.no _) (F := ((((Ft.no.put 9 printQS).put 11 rprintS).put 7 fixedS).put 10 rcopyS).put 12 checkQS) Req.av (fun _ _ => aReq_le) Tryz.func4 rfl (by kernel_rfl) [.tmp 2] rfl Tryz.ntmps4 (by decide) ((((((FtOk.no _).put printQ_ok).put rprint_ok).put fixed_ok).put rcopy_ok).put checkQ_ok) ?_
 intro q h n hp hok
 have hsm := all_small hp
 obtain ⟨hc, hi, hz, hl⟩ := hp
 have a0 : (⟨q.kind, q.label, q.life, ⟨⟨q.clause.head.kind, ⟨q.clause.head.who.var, ⟨q.clause.head.who.val.sym, q.clause.head.who.val.num⟩⟩, q.clause.head.pred, q.clause.head.args⟩, q.clause.body⟩, q.no, ⟨q.lit.kind, ⟨q.lit.who.var, ⟨q.lit.who.val.sym, q.lit.who.val.num⟩⟩, q.lit.pred, q.lit.args⟩⟩ : Req) = q := rfl
 obtain ⟨t, e, hP, hC⟩ := printQ_eq q
 repeat' (first | (with_reducible first | refine XG_split (fun hq => ?_) (fun hq => ?_) | refine MX1.of 4000 (by simp) ?_ | refine MX2.of 4000 (by simp) ?_ | refine And.intro ?_ ?_) | ((with_reducible first | refine Or.inl (And.intro (And.intro mixedP ?_) ?_) | refine Or.inl (And.intro mixedP ?_)); kernel_rfl) | simp only [go_sem,Nat.reduceEqDiff,Nat.reduceAdd,Nat.reduceMul,Nat.reduceLeDiff,Int.reduceBEq,Req.av,Req.ds,a0,hP,hC,beq_self_eq_true])
 all_goals first | exact hc | exact ⟨hi, hz⟩ | exact ⟨hi, hsm, hl⟩ | exact hz | skip
 all_goals first | omega | (unfold maxLen; omega) | (right; omega) | (left; simp; done) | (simp only [wk3,wkL2,wk2,wkL,wk1_d,wk1_own,wk1_nil,and_self]; done) | (intro i hi; simp only [upd]; (repeat' split); all_goals first | rfl | omega) | skip
end Go.Proofs.YtfhpecgknmfnnaaGreatDoor.M
end
section
namespace Go.Proofs.YtfhpecgknmfnnaaGreatDoor.M
open Go.R Go.ChangeShapes Go.WideShapes Go.RowKit
section
variable {w : World} {v0 : Value}
theorem prints_calls {q : Req} (h0 : ARep (Cx.fast w) AH.none w v0 q.av) (q0 : reqQ q 1048576) (hL : laidMet Tryz.prog laidRow w) :
 Calls Tryz.prog 4 #[v0] w fun e w' => e = .returned (.bool true) ∧ Below w.heap.size w w' :=
 calls_of_fs (vals := [v0]) (args := [q.av]) law4_ok rfl (args1 h0) (by
  simp only [go_sem, Req.av, Req.ds]
  exact allQ_of q0) (by simp only [go_sem, Req.av, Req.ds]) (laid_all hL)
end
end Go.Proofs.YtfhpecgknmfnnaaGreatDoor.M
end
