import Derived.Test.YtdhocmakbapfpaaQ9
import Derived.Test.YtdhocmakbapfpaaQ4
import Derived.Test.YtdhocmakbapfpaaQ2
set_option linter.unusedVariables false
set_option linter.unusedSimpArgs false
section
namespace Go.Proofs.Ytdhocmakbapfpaa.M
open Go.R
theorem is_isT (R : Rd) (m : Nat) {x : ByteArray} (hx : 0 < x.size) : R.is m x = isT R.T R.s (R.k + m) x := by
 unfold Rd.is Rd.txt textT isT
 cases R.T[R.k + m]? with
 | some t => rfl
 | none =>
   simp only
   refine Bool.eq_false_iff.2 fun h => ?_
   simp only [beq_iff_eq] at h
   have := toList_injA h
   rw [← this] at hx
   simp [ByteArray.size] at hx
def Out {α β : Type} (p : PR α) (f : α → β) (b : β) (R R' : Rd) : Prop := match p with
 | .ok (a, m) => b = f a ∧ R' = { R with k := m }
 | .error (q, x) => R'.e = x ∧ R'.fr = q ∧ x ≠ 0
structure Sim {α β : Type} (R : Rd) (p : PR α) (f : α → β) (b : β) (R' : Rd) : Prop where
 s : R'.s = R.s
 T : R'.T = R.T
 go : R.e = 0 → Out p f b R R'
 st : R.e ≠ 0 → R'.e = R.e ∧ R'.fr = R.fr
theorem fail_go {R : Rd} {x : Int} (h : R.e = 0) : R.fail x = { R with e := x, fr := posOf R.T R.s R.k } := by
 unfold Rd.fail
 rw [h]
 rfl
theorem fail_st {R : Rd} {x : Int} (h : R.e ≠ 0) : R.fail x = R := by
 unfold Rd.fail
 rw [if_neg (by simpa using h)]
theorem sim_need (R : Rd) {x : ByteArray} (hx : 0 < x.size) : Sim R (needP R.T R.s x R.k) (fun _ => ()) () (R.need x) := by
 have hi := is_isT R 0 hx
 rw [Nat.add_zero] at hi
 unfold Rd.is at hi
 by_cases he : R.e = 0
 · cases hq : isT R.T R.s R.k x with
   | true =>
     have e1 : R.need x = R.adv := by unfold Rd.need; rw [hi, hq, he]; rfl
     have e2 : needP R.T R.s x R.k = .ok ((), R.k + 1) := by unfold needP; rw [if_pos hq]
     rw [e1, e2]
     exact ⟨rfl, rfl, fun _ => ⟨rfl, rfl⟩, fun h => absurd he h⟩
   | false =>
     have e1 : R.need x = R.fail 6 := by unfold Rd.need; rw [hi, hq, Bool.and_false]; rfl
     have e2 : needP R.T R.s x R.k = .error (posOf R.T R.s R.k, 6) := by unfold needP; rw [hq]; rfl
     rw [e1, e2, fail_go he]
     exact ⟨rfl, rfl, fun _ => ⟨rfl, rfl, by decide⟩, fun h => absurd he h⟩
 · have e1 : R.need x = R := by
    unfold Rd.need
    rw [if_neg (by simp [he]), fail_st he]
   rw [e1]
   exact ⟨rfl, rfl, fun h => absurd h he, fun _ => ⟨rfl, rfl⟩⟩
theorem has123 (k : Int) : hasB [1, 2, 3] k = (k == 1 || k == 2 || k == 3) := by
 unfold hasB
 cases h1 : k == 1 <;> cases h2 : k == 2 <;> cases h3 : k == 3 <;> simp [List.contains, List.elem, h1, h2, h3]
theorem has1 (k : Int) : hasB [1] k = (k == 1) := by
 unfold hasB
 cases h1 : k == 1 <;> simp [List.contains, List.elem, h1]
theorem sim_term (R : Rd) : Sim R (termP R.T R.s R.k) id R.term.1 R.term.2 := by
 by_cases he : R.e = 0
 · cases hq : hasB [1, 2, 3] (kindT R.T R.k) with
   | true =>
     have hq' : (R.kd == 1 || R.kd == 2 || R.kd == 3) = true := by rw [← has123]; exact hq
     have e1 : R.term = (if R.kd == 2 then ⟨R.txt 0, Val.z⟩ else ⟨noStr, (readV (R.txt 0)).1⟩, R.adv) := by unfold Rd.term; rw [if_pos (by rw [hq']; simp [he])]
     have e2 : termP R.T R.s R.k = .ok (if kindT R.T R.k == 2 then ⟨textT R.T R.s R.k, Val.z⟩ else ⟨noStr, (readV (textT R.T R.s R.k)).1⟩, R.k + 1) := by
      unfold termP takeP
      rw [if_pos hq]
     rw [e1, e2]
     exact ⟨rfl, rfl, fun _ => ⟨rfl, rfl⟩, fun h => absurd he h⟩
   | false =>
     have hq' : (R.kd == 1 || R.kd == 2 || R.kd == 3) = false := by rw [← has123]; exact hq
     have e1 : R.term = (Term.z, R.fail 6) := by unfold Rd.term; rw [hq', Bool.and_false]; rfl
     have e2 : termP R.T R.s R.k = .error (posOf R.T R.s R.k, 6) := by
      unfold termP takeP
      rw [hq]
      rfl
     rw [e1, e2]
     simp only [fail_go he]
     exact ⟨rfl, rfl, fun _ => ⟨rfl, rfl, by decide⟩, fun h => absurd he h⟩
 · have e1 : R.term = (Term.z, R) := by
    unfold Rd.term
    rw [if_neg (by simp [he]), fail_st he]
   rw [e1]
   exact ⟨rfl, rfl, fun h => absurd h he, fun _ => ⟨rfl, rfl⟩⟩
theorem sim_args : ∀ (f : Nat) (acc : List Term) (R : Rd), Sim R (addL acc (tailP R.T R.s (termP R.T R.s) f R.k)) some (Rd.argsL f acc R).1 (Rd.argsL f acc R).2
 | 0, acc, R => by
   have hi := is_isT R 0 (x := comma) (by decide)
   rw [Nat.add_zero] at hi
   by_cases he : R.e = 0
   · cases hq : isT R.T R.s R.k comma with
     | true =>
       have e1 : Rd.argsL 0 acc R = (none, R.fail 2) := by unfold Rd.argsL; rw [if_pos (by rw [hi, hq]; simp [he])]
       rw [e1, tail_full acc hq]
       simp only [fail_go he]
       exact ⟨rfl, rfl, fun _ => ⟨rfl, rfl, by decide⟩, fun h => absurd he h⟩
     | false =>
       have e1 : Rd.argsL 0 acc R = (some acc, R) := by unfold Rd.argsL; rw [if_neg (by rw [hi, hq]; simp)]
       rw [e1, tail_end acc hq]
       exact ⟨rfl, rfl, fun _ => ⟨rfl, rfl⟩, fun h => absurd he h⟩
   · have e1 : Rd.argsL 0 acc R = (some acc, R) := by unfold Rd.argsL; rw [if_neg (by simp [he])]
     rw [e1]
     exact ⟨rfl, rfl, fun h => absurd h he, fun _ => ⟨rfl, rfl⟩⟩
 | f + 1, acc, R => by
   have hi := is_isT R 0 (x := comma) (by decide)
   rw [Nat.add_zero] at hi
   by_cases he : R.e = 0
   · cases hq : isT R.T R.s R.k comma with
     | true =>
       have e1 : Rd.argsL (f + 1) acc R = Rd.argsL f (acc ++ [R.adv.term.1]) R.adv.term.2 := by rw [Rd.argsL]; rw [if_pos (by rw [hi, hq]; simp [he])]
       rw [e1]
       have ht := sim_term R.adv
       have hg := ht.go he
       have ih := sim_args f (acc ++ [R.adv.term.1]) R.adv.term.2
       refine ⟨ih.s.trans ht.s, ih.T.trans ht.T, fun _ => ?_, fun h => absurd he h⟩
       cases hp : termP R.adv.T R.adv.s R.adv.k with
       | error q =>
         obtain ⟨q, x⟩ := q
         rw [hp] at hg
         have ho : termP R.T R.s (R.k + 1) = .error (q, x) := hp
         rw [tail_stop acc hq ho]
         obtain ⟨h1, h2⟩ := ih.st (by rw [hg.1]; exact hg.2.2)
         exact ⟨h1.trans hg.1, h2.trans hg.2.1, hg.2.2⟩
       | ok am =>
         obtain ⟨a, m⟩ := am
         rw [hp] at hg
         have ho : termP R.T R.s (R.k + 1) = .ok (a, m) := hp
         rw [tail_step acc hq ho]
         obtain ⟨h1, h2⟩ := hg
         have ih2 := ih.go (by rw [h2]; exact he)
         simp only [id] at h1
         rw [h2, h1] at ih2 ⊢
         exact ih2
     | false =>
       have e1 : Rd.argsL (f + 1) acc R = (some acc, R) := by rw [Rd.argsL]; rw [if_neg (by rw [hi, hq]; simp)]
       rw [e1, tail_end acc hq]
       exact ⟨rfl, rfl, fun _ => ⟨rfl, rfl⟩, fun h => absurd he h⟩
   · have e1 : Rd.argsL (f + 1) acc R = (some acc, R) := by rw [Rd.argsL]; rw [if_neg (by simp [he])]
     rw [e1]
     exact ⟨rfl, rfl, fun h => absurd h he, fun _ => ⟨rfl, rfl⟩⟩
theorem sim_atom (R : Rd) : Sim R (atomP R.T R.s R.k) id R.atom.1 R.atom.2 := by
 by_cases he : R.e = 0
 · cases hq : R.kd == 1 with
   | false =>
     have e1 : R.atom = ((noStr, []), R.fail 6) := by unfold Rd.atom; rw [hq, Bool.and_false]; rfl
     have e2 : atomP R.T R.s R.k = .error (posOf R.T R.s R.k, 6) := by
      unfold atomP takeP
      rw [has1, show (kindT R.T R.k == 1) = false from hq]
      rfl
     rw [e1, e2]
     simp only [fail_go he]
     exact ⟨rfl, rfl, fun _ => ⟨rfl, rfl, by decide⟩, fun h => absurd he h⟩
   | true =>
     have hi := is_isT R.adv 0 (x := opens) (by decide)
     rw [Nat.add_zero] at hi
     have e2 : atomP R.T R.s R.k = if isT R.T R.s (R.k + 1) opens then match listP R.T R.s (termP R.T R.s) 4 (R.k + 1 + 1) with
      | .error p => .error p
      | .ok (ts, j) => match needP R.T R.s closes j with
        | .error p => .error p
        | .ok (_, i) => .ok ((textT R.T R.s R.k, ts), i)
      else .ok ((textT R.T R.s R.k, []), R.k + 1) := by
      unfold atomP takeP
      rw [has1, show (kindT R.T R.k == 1) = true from hq]
      rfl
     cases hq2 : isT R.T R.s (R.k + 1) opens with
     | false =>
       have e1 : R.atom = ((R.txt 0, []), R.adv) := by
        unfold Rd.atom
        rw [if_pos (by rw [hq]; simp [he]), if_neg (by rw [hi]; show ¬ isT R.T R.s (R.k + 1) opens = true; rw [hq2]; simp)]
       rw [e1, e2, hq2]
       exact ⟨rfl, rfl, fun _ => ⟨rfl, rfl⟩, fun h => absurd he h⟩
     | true =>
       have e1 : R.atom = match (Rd.argsL 3 [R.adv.adv.term.1] R.adv.adv.term.2).1 with
        | none => ((noStr, []), (Rd.argsL 3 [R.adv.adv.term.1] R.adv.adv.term.2).2)
        | some l => ((R.txt 0, l), (Rd.argsL 3 [R.adv.adv.term.1] R.adv.adv.term.2).2.need closes) := by
        unfold Rd.atom
        rw [if_pos (by rw [hq]; simp [he]), if_pos (by rw [hi]; exact hq2)]
        rfl
       rw [hq2, if_pos rfl] at e2
       have ht := sim_term R.adv.adv
       have ha := sim_args 3 [R.adv.adv.term.1] R.adv.adv.term.2
       have hn := sim_need (Rd.argsL 3 [R.adv.adv.term.1] R.adv.adv.term.2).2 (x := closes) (by decide)
       generalize hA : Rd.argsL 3 [R.adv.adv.term.1] R.adv.adv.term.2 = A at e1 ha hn
       obtain ⟨Al, AR⟩ := A
       simp only at e1 ha hn
       have hs : AR.s = R.s := ha.s.trans ht.s
       have hT : AR.T = R.T := ha.T.trans ht.T
       have hs2 : R.atom.2.s = R.s ∧ R.atom.2.T = R.T := by
        rw [e1]
        cases Al with
        | none => exact ⟨hs, hT⟩
        | some l => exact ⟨hn.s.trans hs, hn.T.trans hT⟩
       refine ⟨hs2.1, hs2.2, fun _ => ?_, fun h => absurd he h⟩
       have hg := ht.go he
       have bad : ∀ (q x : Int), AR.e = x → AR.fr = q → x ≠ 0 → R.atom.2.e = x ∧ R.atom.2.fr = q ∧ x ≠ 0 := by
        intro q x h1 h2 h3
        rw [e1]
        cases Al with
        | none => exact ⟨h1, h2, h3⟩
        | some l =>
          obtain ⟨g1, g2⟩ := hn.st (by rw [h1]; exact h3)
          exact ⟨g1.trans h1, g2.trans h2, h3⟩
       cases hp : termP R.adv.adv.T R.adv.adv.s R.adv.adv.k with
       | error q =>
         obtain ⟨q, x⟩ := q
         rw [hp] at hg
         have ho : listP R.T R.s (termP R.T R.s) 4 (R.k + 1 + 1) = .error (q, x) := by
          unfold listP
          rw [show termP R.T R.s (R.k + 1 + 1) = .error (q, x) from hp]
         rw [e2, ho]
         obtain ⟨h1, h2⟩ := ha.st (by rw [hg.1]; exact hg.2.2)
         exact bad q x (h1.trans hg.1) (h2.trans hg.2.1) hg.2.2
       | ok am =>
         obtain ⟨a, m⟩ := am
         rw [hp] at hg
         obtain ⟨h1, h2⟩ := hg
         simp only [id] at h1
         have ho : listP R.T R.s (termP R.T R.s) 4 (R.k + 1 + 1) = addL [a] (tailP R.T R.s (termP R.T R.s) 3 m) := by
          unfold listP
          rw [show termP R.T R.s (R.k + 1 + 1) = .ok (a, m) from hp]
         have hb := ha.go (by rw [h2]; exact he)
         rw [h1, h2] at hb
         replace hb : Out (addL [a] (tailP R.T R.s (termP R.T R.s) 3 m)) some Al R AR := hb
         rw [e2, ho]
         cases hl : addL [a] (tailP R.T R.s (termP R.T R.s) 3 m) with
         | error q =>
           obtain ⟨q, x⟩ := q
           rw [hl] at hb
           exact bad q x hb.1 hb.2.1 hb.2.2
         | ok lm =>
           obtain ⟨l, j⟩ := lm
           rw [hl] at hb
           obtain ⟨rfl, hAR⟩ := hb
           have hd := hn.go (by rw [hAR]; exact he)
           replace hd : Out (needP R.T R.s closes j) (fun _ => ()) () R (AR.need closes) := by
            rw [hAR] at hd ⊢; exact hd
           simp only at e1 ⊢
           rw [e1]
           cases hnn : needP R.T R.s closes j with
           | error q =>
             obtain ⟨q, x⟩ := q
             rw [hnn] at hd
             exact hd
           | ok lm =>
             obtain ⟨_, i⟩ := lm
             rw [hnn] at hd
             exact ⟨rfl, hd.2⟩
 · have e1 : R.atom = ((noStr, []), R) := by
    unfold Rd.atom
    rw [if_neg (by simp [he]), fail_st he]
   rw [e1]
   exact ⟨rfl, rfl, fun h => absurd h he, fun _ => ⟨rfl, rfl⟩⟩
theorem err_on {R' R'' : Rd} {q x : Int} (h : R'.e = x ∧ R'.fr = q ∧ x ≠ 0) (st : R'.e ≠ 0 → R''.e = R'.e ∧ R''.fr = R'.fr) : R''.e = x ∧ R''.fr = q ∧ x ≠ 0 := by
 obtain ⟨h1, h2, h3⟩ := h
 obtain ⟨g1, g2⟩ := st (by rw [h1]; exact h3)
 exact ⟨g1.trans h1, g2.trans h2, h3⟩
def litK (k : Int) (r : Term × (ByteArray × List Term)) : Lit := ⟨k, r.1, r.2.1, r.2.2⟩
theorem speaks_eq (R : Rd) : (R.kd == 2 || (R.kd == 1 && R.is 1 saysS)) = speaks R.T R.s R.k := by
 rw [is_isT R 1 (x := saysS) (by decide)]
 unfold speaks
 rw [Bool.and_comm (R.kd == 1)]
 rfl
theorem sim_said (R : Rd) (k : Int) : Sim R (saidP R.T R.s R.k) (litK k) (R.said k).1 (R.said k).2 := by
 cases hq : speaks R.T R.s R.k with
 | false =>
   have e1 : R.said k = (⟨k, Term.z, R.atom.1.1, R.atom.1.2⟩, R.atom.2) := by
    unfold Rd.said
    rw [speaks_eq, hq]
    rfl
   have ha := sim_atom R
   rw [e1]
   refine ⟨ha.s, ha.T, fun he => ?_, ha.st⟩
   have hg := ha.go he
   unfold saidP
   rw [hq]
   cases hp : atomP R.T R.s R.k with
   | error q =>
     rw [hp] at hg
     exact hg
   | ok am =>
     rw [hp] at hg
     obtain ⟨h1, h2⟩ := hg
     refine ⟨?_, h2⟩
     rw [h1]
     rfl
 | true =>
   have e1 : R.said k = (⟨k, R.term.1, (R.term.2.need saysS).atom.1.1, (R.term.2.need saysS).atom.1.2⟩, (R.term.2.need saysS).atom.2) := by
    unfold Rd.said
    rw [speaks_eq, hq]
    rfl
   have ht := sim_term R
   have hn := sim_need R.term.2 (x := saysS) (by decide)
   have ha := sim_atom (R.term.2.need saysS)
   rw [e1]
   refine ⟨ha.s.trans (hn.s.trans ht.s), ha.T.trans (hn.T.trans ht.T), fun he => ?_, fun he => ?_⟩
   · have hg := ht.go he
     unfold saidP
     rw [hq]
     simp only [if_true]
     cases hp : termP R.T R.s R.k with
     | error q =>
       obtain ⟨q, x⟩ := q
       rw [hp] at hg
       exact err_on (err_on hg hn.st) ha.st
     | ok am =>
       obtain ⟨who, m⟩ := am
       rw [hp] at hg
       obtain ⟨h1, h2⟩ := hg
       have hb := hn.go (by rw [h2]; exact he)
       rw [h2] at hb
       replace hb : Out (needP R.T R.s says m) (fun _ => ()) () R (R.term.2.need saysS) := by rw [h2]; exact hb
       simp only
       cases hp2 : needP R.T R.s says m with
       | error q =>
         obtain ⟨q, x⟩ := q
         rw [hp2] at hb
         exact err_on hb ha.st
       | ok am =>
         obtain ⟨_, i⟩ := am
         rw [hp2] at hb
         obtain ⟨_, h4⟩ := hb
         have hc := ha.go (by rw [h4]; exact he)
         rw [h4] at hc
         replace hc : Out (atomP R.T R.s i) id (R.term.2.need saysS).atom.1 R (R.term.2.need saysS).atom.2 := by rw [h4]; exact hc
         simp only
         cases hp3 : atomP R.T R.s i with
         | error q =>
           rw [hp3] at hc
           exact hc
         | ok am =>
           rw [hp3] at hc
           obtain ⟨h5, h6⟩ := hc
           refine ⟨?_, h6⟩
           rw [h5, h1]
           rfl
   · obtain ⟨a1, a2⟩ := ht.st he
     obtain ⟨b1, b2⟩ := hn.st (by rw [a1]; exact he)
     obtain ⟨c1, c2⟩ := ha.st (by rw [b1, a1]; exact he)
     exact ⟨c1.trans (b1.trans a1), c2.trans (b2.trans a2)⟩
theorem compare_eq (R : Rd) : R.compare = compares R.T R.s R.k := by
 unfold Rd.compare compares
 rw [is_isT R 1 (x := saysS) (by decide), is_isT R 1 (x := ⟨#[60]⟩) (by decide), is_isT R 1 (x := ⟨#[33, 61]⟩) (by decide)]
 rfl
theorem saidL_out {k : Int} {p : PR (Term × (ByteArray × List Term))} {b : Lit} {R R' : Rd} (h : Out p (litK k) b R R') : Out (saidL k p) id b R R' := by
 cases p with
 | error q => exact h
 | ok am =>
   obtain ⟨⟨who, x, ts⟩, j⟩ := am
   exact h
theorem sim_pair (R : Rd) (k : Int) (a : Term) : R.e = 0 → Out (pairP R.T R.s k a R.k) id (⟨k, Term.z, noStr, [a, R.adv.term.1]⟩ : Lit) R R.adv.term.2 := by
 intro he
 have hg := (sim_term R.adv).go he
 unfold pairP
 replace hg : Out (termP R.T R.s (R.k + 1)) id R.adv.term.1 R R.adv.term.2 := hg
 cases hp : termP R.T R.s (R.k + 1) with
 | error q =>
   rw [hp] at hg
   exact hg
 | ok am =>
   rw [hp] at hg
   obtain ⟨h1, h2⟩ := hg
   refine ⟨?_, h2⟩
   rw [h1]
   rfl
theorem sim_literal (R : Rd) : Sim R (literalP R.T R.s R.k) id R.literal.1 R.literal.2 := by
 have hi := is_isT R 0 (x := nots) (by decide)
 rw [Nat.add_zero] at hi
 cases hq : isT R.T R.s R.k nots with
 | true =>
   have e1 : R.literal = R.adv.said 2 := by
    unfold Rd.literal
    rw [hi, hq]
    rfl
   have e2 : literalP R.T R.s R.k = saidL 2 (saidP R.T R.s (R.k + 1)) := by
    unfold literalP
    rw [hq]
    rfl
   have ha := sim_said R.adv 2
   rw [e1, e2]
   exact ⟨ha.s, ha.T, fun he => saidL_out (R := R) (ha.go he), ha.st⟩
 | false =>
   cases hc : compares R.T R.s R.k with
   | false =>
     have e1 : R.literal = R.said 1 := by
      unfold Rd.literal
      rw [hi, hq, compare_eq, hc]
      rfl
     have e2 : literalP R.T R.s R.k = saidL 1 (saidP R.T R.s R.k) := by
      unfold literalP
      rw [hq, hc]
      rfl
     have ha := sim_said R 1
     rw [e1, e2]
     exact ⟨ha.s, ha.T, fun he => saidL_out (ha.go he), ha.st⟩
   | true =>
     have e1 : R.literal = (⟨R.term.2.mid.1, Term.z, noStr, [R.term.1, R.term.2.mid.2.term.1]⟩, R.term.2.mid.2.term.2) := by
      unfold Rd.literal
      rw [hi, hq, compare_eq, hc]
      rfl
     have ht := sim_term R
     have hz := sim_term R.term.2.mid.2
     have hm := is_isT R.term.2 0 (x := unlike) (by decide)
     rw [Nat.add_zero] at hm
     have hnl := sim_need R.term.2 (x := less) (by decide)
     have hms : R.term.2.mid.2.s = R.term.2.s ∧ R.term.2.mid.2.T = R.term.2.T := by
      unfold Rd.mid
      split
      · exact ⟨rfl, rfl⟩
      · exact ⟨hnl.s, hnl.T⟩
     have hmst : R.term.2.e ≠ 0 → R.term.2.mid.2.e = R.term.2.e ∧ R.term.2.mid.2.fr = R.term.2.fr := by
      intro h
      unfold Rd.mid
      split
      · exact ⟨rfl, rfl⟩
      · exact hnl.st h
     rw [e1]
     refine ⟨hz.s.trans (hms.1.trans ht.s), hz.T.trans (hms.2.trans ht.T), fun he => ?_, fun he => ?_⟩
     · have hg := ht.go he
       unfold literalP
       rw [hq, hc]
       simp only [Bool.false_eq_true, if_false, if_true]
       cases hp : termP R.T R.s R.k with
       | error q =>
         obtain ⟨q, x⟩ := q
         rw [hp] at hg
         exact err_on (err_on hg hmst) hz.st
       | ok am =>
         obtain ⟨a, m⟩ := am
         rw [hp] at hg
         obtain ⟨h1, h2⟩ := hg
         simp only [id] at h1
         simp only
         have hm' : R.term.2.is 0 unlike = isT R.T R.s m unlike := by rw [hm, h2]
         cases hu : isT R.T R.s m unlike with
         | true =>
           have hM : R.term.2.mid = (4, R.term.2.adv) := by
            unfold Rd.mid
            rw [if_pos (by rw [hm', hu])]
           have := sim_pair R.term.2 4 a (by rw [h2]; exact he)
           rw [hM, h1]
           rw [if_pos rfl]
           rw [h2] at this ⊢
           exact this
         | false =>
           have hM : R.term.2.mid = (3, R.term.2.need less) := by
            unfold Rd.mid
            rw [if_neg (by rw [hm', hu]; simp)]
           rw [if_neg (by simp)]
           have hb := hnl.go (by rw [h2]; exact he)
           cases hl : isT R.T R.s m less with
           | true =>
             have hN : R.term.2.need less = R.term.2.adv := by
              have hil := is_isT R.term.2 0 (x := less) (by decide)
              unfold Rd.is at hil
              unfold Rd.need
              rw [hil, Nat.add_zero]
              rw [show isT R.term.2.T R.term.2.s R.term.2.k less = true by rw [h2]; exact hl]
              rw [if_pos (by rw [show R.term.2.e = 0 by rw [h2]; exact he]; rfl)]
             have := sim_pair R.term.2 3 a (by rw [h2]; exact he)
             rw [hM, hN, h1]
             rw [if_pos rfl]
             rw [h2] at this ⊢
             exact this
           | false =>
             rw [if_neg (by simp)]
             have hN : needP R.T R.s less m = .error (posOf R.T R.s m, 6) := by
              unfold needP
              rw [hl]
              rfl
             rw [h2] at hb
             replace hb : Out (needP R.T R.s less m) (fun _ => ()) () R (R.term.2.need less) := by rw [h2]; exact hb
             rw [hN] at hb
             rw [hM] at hz ⊢
             exact err_on hb hz.st
     · obtain ⟨a1, a2⟩ := ht.st he
       obtain ⟨b1, b2⟩ := hmst (by rw [a1]; exact he)
       obtain ⟨c1, c2⟩ := hz.st (by rw [b1, a1]; exact he)
       exact ⟨c1.trans (b1.trans a1), c2.trans (b2.trans a2)⟩
theorem sim_bodyL : ∀ (f : Nat) (acc : List Lit) (R : Rd), Sim R (addL acc (tailP R.T R.s (literalP R.T R.s) f R.k)) id (Rd.bodyL f acc R).1 (Rd.bodyL f acc R).2
 | 0, acc, R => by
   have hi := is_isT R 0 (x := comma) (by decide)
   rw [Nat.add_zero] at hi
   by_cases he : R.e = 0
   · cases hq : isT R.T R.s R.k comma with
     | true =>
       have e1 : Rd.bodyL 0 acc R = (acc, R.fail 2) := by unfold Rd.bodyL; rw [if_pos (by rw [hi, hq]; simp [he])]
       rw [e1, tail_full acc hq]
       simp only [fail_go he]
       exact ⟨rfl, rfl, fun _ => ⟨rfl, rfl, by decide⟩, fun h => absurd he h⟩
     | false =>
       have e1 : Rd.bodyL 0 acc R = (acc, R) := by unfold Rd.bodyL; rw [if_neg (by rw [hi, hq]; simp)]
       rw [e1, tail_end acc hq]
       exact ⟨rfl, rfl, fun _ => ⟨rfl, rfl⟩, fun h => absurd he h⟩
   · have e1 : Rd.bodyL 0 acc R = (acc, R) := by unfold Rd.bodyL; rw [if_neg (by simp [he])]
     rw [e1]
     exact ⟨rfl, rfl, fun h => absurd h he, fun _ => ⟨rfl, rfl⟩⟩
 | f + 1, acc, R => by
   have hi := is_isT R 0 (x := comma) (by decide)
   rw [Nat.add_zero] at hi
   by_cases he : R.e = 0
   · cases hq : isT R.T R.s R.k comma with
     | true =>
       have e1 : Rd.bodyL (f + 1) acc R = Rd.bodyL f (acc ++ [R.adv.literal.1]) R.adv.literal.2 := by rw [Rd.bodyL]; rw [if_pos (by rw [hi, hq]; simp [he])]
       rw [e1]
       have ht := sim_literal R.adv
       have hg := ht.go he
       have ih := sim_bodyL f (acc ++ [R.adv.literal.1]) R.adv.literal.2
       refine ⟨ih.s.trans ht.s, ih.T.trans ht.T, fun _ => ?_, fun h => absurd he h⟩
       cases hp : literalP R.adv.T R.adv.s R.adv.k with
       | error q =>
         obtain ⟨q, x⟩ := q
         rw [hp] at hg
         have ho : literalP R.T R.s (R.k + 1) = .error (q, x) := hp
         rw [tail_stop acc hq ho]
         exact err_on hg ih.st
       | ok am =>
         obtain ⟨a, m⟩ := am
         rw [hp] at hg
         have ho : literalP R.T R.s (R.k + 1) = .ok (a, m) := hp
         rw [tail_step acc hq ho]
         obtain ⟨h1, h2⟩ := hg
         have ih2 := ih.go (by rw [h2]; exact he)
         simp only [id] at h1
         rw [h2, h1] at ih2 ⊢
         exact ih2
     | false =>
       have e1 : Rd.bodyL (f + 1) acc R = (acc, R) := by rw [Rd.bodyL]; rw [if_neg (by rw [hi, hq]; simp)]
       rw [e1, tail_end acc hq]
       exact ⟨rfl, rfl, fun _ => ⟨rfl, rfl⟩, fun h => absurd he h⟩
   · have e1 : Rd.bodyL (f + 1) acc R = (acc, R) := by rw [Rd.bodyL]; rw [if_neg (by simp [he])]
     rw [e1]
     exact ⟨rfl, rfl, fun h => absurd h he, fun _ => ⟨rfl, rfl⟩⟩
theorem sim_body (R : Rd) : Sim R (bodyP R.T R.s R.k) id R.body.1 R.body.2 := by
 have hi := is_isT R 0 (x := turns) (by decide)
 rw [Nat.add_zero] at hi
 by_cases he : R.e = 0
 · cases hq : isT R.T R.s R.k turns with
   | false =>
     have e1 : R.body = ([], R) := by unfold Rd.body; rw [if_neg (by rw [hi, hq]; simp)]
     have e2 : bodyP R.T R.s R.k = .ok ([], R.k) := by unfold bodyP; rw [hq]; rfl
     rw [e1, e2]
     exact ⟨rfl, rfl, fun _ => ⟨rfl, rfl⟩, fun h => absurd he h⟩
   | true =>
     have e1 : R.body = Rd.bodyL 5 [R.adv.literal.1] R.adv.literal.2 := by unfold Rd.body; rw [if_pos (by rw [hi, hq]; simp [he])]
     have e2 : bodyP R.T R.s R.k = listP R.T R.s (literalP R.T R.s) 6 (R.k + 1) := by unfold bodyP; rw [hq]; rfl
     have ht := sim_literal R.adv
     have ih := sim_bodyL 5 [R.adv.literal.1] R.adv.literal.2
     rw [e1, e2]
     refine ⟨ih.s.trans ht.s, ih.T.trans ht.T, fun _ => ?_, fun h => absurd he h⟩
     have hg := ht.go he
     unfold listP
     replace hg : Out (literalP R.T R.s (R.k + 1)) id R.adv.literal.1 R R.adv.literal.2 := hg
     cases hp : literalP R.T R.s (R.k + 1) with
     | error q =>
       obtain ⟨q, x⟩ := q
       rw [hp] at hg
       exact err_on hg ih.st
     | ok am =>
       obtain ⟨a, m⟩ := am
       rw [hp] at hg
       obtain ⟨h1, h2⟩ := hg
       have ih2 := ih.go (by rw [h2]; exact he)
       simp only [id] at h1
       rw [h2, h1] at ih2 ⊢
       exact ih2
 · have e1 : R.body = ([], R) := by unfold Rd.body; rw [if_neg (by simp [he])]
   rw [e1]
   exact ⟨rfl, rfl, fun h => absurd h he, fun _ => ⟨rfl, rfl⟩⟩
theorem ended_st {R : Rd} (h : R.e ≠ 0) : R.ended = R := by
 unfold Rd.ended
 rw [if_neg (by simp [h])]
theorem ended_go {R : Rd} (h : R.e = 0) : R.ended = if R.k < R.T.length then { R with e := 6, fr := posOf R.T R.s R.k } else R := by
 unfold Rd.ended
 rw [h, fail_go h]
 by_cases hk : R.k < R.T.length
 · rw [if_pos (by simp [hk]), if_pos hk]
 · rw [if_neg (by simp [hk]), if_neg hk]
def ansP {α β : Type} (z : β) (f : α → β) : Except (Int × Int) α → β × Int × Int
 | .ok a => (f a, 0, 0)
 | .error (p, x) => (z, p, x)
theorem run_law {α β : Type} {s : ByteArray} {one : List Tok → Nat → PR α} {f : α → β} {z b : β} {R' : Rd} (hE : ((allT s).2.2 != 0) = false) (h : Out (one (allT s).1 0) f b (rd0 s) R') (hs : R'.s = s) (hT : R'.T = (allT s).1) :
 (if R'.ended.e != 0 then (z, R'.ended.fr, R'.ended.e) else (b, 0, 0)) = ansP z f (runP s one) := by
 unfold runP
 rw [hE]
 simp only [Bool.false_eq_true, if_false]
 cases hp : one (allT s).1 0 with
 | error q =>
   obtain ⟨q, x⟩ := q
   rw [hp] at h
   obtain ⟨h1, h2, h3⟩ := h
   rw [ended_st (by rw [h1]; exact h3), h1, h2, if_pos (by simpa using h3)]
   rfl
 | ok am =>
   obtain ⟨a, m⟩ := am
   rw [hp] at h
   obtain ⟨h1, h2⟩ := h
   have he : R'.e = 0 := by rw [h2]; rfl
   have hk : R'.k = m := by rw [h2]
   rw [ended_go he, hk, hT, hs]
   by_cases hm : m < (allT s).1.length
   · rw [if_pos hm]
     simp only [if_pos hm]
     rfl
   · rw [if_neg hm]
     simp only [if_neg hm]
     rw [he, h1]
     rfl
theorem refLit_law (s : ByteArray) : refLitR s = ansP Lit.z litOf (parseLitP s) := by
 unfold refLitR parseLitP
 cases hE : ((allT s).2.2 != 0) with
 | true =>
   unfold runP
   rw [hE]
   rfl
 | false =>
   have ha := sim_said (rd0 s) 1
   rw [if_neg (by simp)]
   exact run_law (one := fun T n => saidP T s n) hE (ha.go rfl) ha.s ha.T
theorem refClause_law (s : ByteArray) : refClauseR s = ansP Clause.z id (parseP s) := by
 unfold refClauseR parseP
 cases hE : ((allT s).2.2 != 0) with
 | true =>
   unfold runP
   rw [hE]
   rfl
 | false =>
   rw [if_neg (by simp)]
   have ha := sim_atom (rd0 s)
   have hb := sim_body (rd0 s).atom.2
   have hn := sim_need (rd0 s).atom.2.body.2 (x := dot) (by decide)
   refine run_law (one := fun T n => clauseP T s n) hE ?_ (hn.s.trans (hb.s.trans ha.s)) (hn.T.trans (hb.T.trans ha.T))
   have h1 := ha.go rfl
   unfold clauseP
   replace h1 : Out (atomP (allT s).1 s 0) id (rd0 s).atom.1 (rd0 s) (rd0 s).atom.2 := h1
   cases hp : atomP (allT s).1 s 0 with
   | error q =>
     obtain ⟨q, x⟩ := q
     rw [hp] at h1
     exact err_on (err_on h1 hb.st) hn.st
   | ok am =>
     obtain ⟨⟨x, ts⟩, m⟩ := am
     rw [hp] at h1
     obtain ⟨g1, g2⟩ := h1
     simp only
     have h2 := hb.go (by rw [g2]; rfl)
     rw [g2] at h2
     replace h2 : Out (bodyP (allT s).1 s m) id (rd0 s).atom.2.body.1 (rd0 s) (rd0 s).atom.2.body.2 := by rw [g2]; exact h2
     cases hp2 : bodyP (allT s).1 s m with
     | error q =>
       obtain ⟨q, x⟩ := q
       rw [hp2] at h2
       exact err_on h2 hn.st
     | ok am =>
       obtain ⟨ls, j⟩ := am
       rw [hp2] at h2
       obtain ⟨g3, g4⟩ := h2
       simp only
       have h3 := hn.go (by rw [g4]; rfl)
       rw [g4] at h3
       replace h3 : Out (needP (allT s).1 s dot j) (fun _ => ()) () (rd0 s) ((rd0 s).atom.2.body.2.need dot) := by rw [g4]; exact h3
       cases hp3 : needP (allT s).1 s dot j with
       | error q =>
         rw [hp3] at h3
         exact h3
       | ok am =>
         obtain ⟨_, i⟩ := am
         rw [hp3] at h3
         obtain ⟨_, g6⟩ := h3
         refine ⟨?_, g6⟩
         simp only [id] at g1 g3
         rw [g1, g3]
         rfl
end Go.Proofs.Ytdhocmakbapfpaa.M
end
section
namespace Go.R
open Go.RowKit
section
variable {c : Cx} {w w' : World} {h : AH} {n : Nat}
def Cx.hold (c : Cx) (w w' : World) : Cx := { c with L := fun b => if w.heap.size ≤ b ∧ b < w'.heap.size then none else c.L b }
theorem Wd.hold (hw : Wd c h n w) (hb : Below w.heap.size w w') : Wd (c.hold w w') h n w' ∧ Ext c h w (c.hold w w') h w' := by
 have old : ∀ b, b < w.heap.size → (c.hold w w').L b = c.L b := fun b hb => if_neg (fun q => absurd q.1 (Nat.not_le.2 hb))
 have q : Ext c h w (c.hold w w') h w' := ⟨hb.os, hb.tape, hb.output, hb.size, fun b off q => by
  unfold Cx.lo
  rw [old b (lo_lt hw q)]
  exact q, fun b off q => cell_of_block (hb.block b (lo_lt hw q)), fun b q => ⟨(old b (all_lt hw q)).trans q, hb.block b (all_lt hw q)⟩, fun _ cs q => ⟨rfl, cs, q⟩, fun _ n _ q => ⟨n, q, Nat.le_refl _, fun _ => rfl⟩⟩
 refine ⟨⟨fun i cs hi => ?_, hw.tokN, fun i m z a cap hi ha => ?_, hw.ne, fun b hb' => ?_, hw.new⟩, q⟩
 · obtain ⟨h1, vals, ty, h2, h3, h4⟩ := hw.box i cs hi
   have hl := (Array.getElem?_eq_some_iff.1 h2).1
   exact ⟨(old _ hl).trans h1, vals, ty, (hb.block _ hl).trans h2, h3, fun j v x hj hx => (h4 j v x hj hx).to q⟩
 · obtain ⟨h1, h2, h3, vals, ty, h4, h5⟩ := hw.tokS i m z a cap hi ha
   have hl := (Array.getElem?_eq_some_iff.1 h4).1
   exact ⟨h1, h2, (old _ hl).trans h3, vals, ty, (hb.block _ hl).trans h4, h5⟩
 · have : (c.hold w w').L b = c.L b := if_neg (fun q => absurd q.2 (Nat.not_lt.2 hb'))
   rw [this]
   exact hw.fresh b (Nat.le_trans hb.size hb')
theorem rep_nil : ∀ (j : Nat) v x, ([] : List Value)[j]? = some v → ([] : List AV)[j]? = some x → ARep c h w v x := fun j v x hv _ => by simp at hv
theorem rep_cons {v : Value} {x : AV} {vs : List Value} {xs : List AV} (h0 : ARep c h w v x) (ht : ∀ (j : Nat) v x, vs[j]? = some v → xs[j]? = some x → ARep c h w v x) : ∀ (j : Nat) u y, (v :: vs)[j]? = some u → (x :: xs)[j]? = some y → ARep c h w u y := fun j u y hu hy => by
 cases j with
 | zero =>
   simp only [List.getElem?_cons_zero, Option.some.injEq] at hu hy
   subst hu; subst hy
   exact h0
 | succ j => exact ht j u y (by simpa using hu) (by simpa using hy)
theorem of_hold {P : Program} {f : FuncId} {fn : Func} {code : Code} {g : List AV → Option AV} {pre : List AV → Prop} (hf : P.funcs[f]? = some fn) (hbody : fn.body = some code) (hn : (fn.name == "runtime.NumGoroutine") = false)
 (H : ∀ (args : List AV) (r : AV) (c : Cx) (h : AH) (n : Nat) (w : World) (vals : List Value), pre args → g args = some r → Wd c h n w → vals.length = args.length → (∀ (j : Nat) v x, vals[j]? = some v → args[j]? = some x → ARep c h w v x) → Calls P f vals.toArray w fun e w' => ∃ v, e = .returned v ∧ Below w.heap.size w w' ∧ ARep (c.hold w w') h w' v r) : FsOk P f (.pureIf pre g) := by
 intro c h n w vals args K hw hl hr hS
 obtain ⟨hpre, hS⟩ := hS
 obtain ⟨q, hq, hK⟩ := onO_iff hS
 refine ⟨Entered.of hf hbody hn, ?_⟩
 simp only [Fs.pureIf] at hq hpre
 cases hg : g args with
 | none => simp [hg] at hq
 | some r =>
   simp only [hg, Option.map_some, Option.some.injEq] at hq
   subst hq
   refine (H args r c h n w vals hpre hg hw hl hr).mono fun e w' ⟨v, he, hb, hv⟩ => ?_
   obtain ⟨g1, g2⟩ := hw.hold hb
   exact ⟨v, r, c.hold w w', h, n, he, g1, g2, ⟨fun b hbl _ => hb.block b hbl, fun i b q _ => q⟩, hv, Nat.le_refl n, hK⟩
end
end Go.R
namespace Go.Proofs.Ytdhocmakbapfpaa.M
open Go.R Go.RowKit
open Go.Proofs.YtdhocmakbapfpaaW.PrintWords Go.Proofs.YtdhocmakbapfpaaW.PrintMore
theorem kd_row {α : Type} {d : Kd α} {e : Nat} {ok : Nat → Prop} {v : Value} {xs : List α} {c : Cx} {w w' : World} (f : α → List DV) (hR : Kd.R d e w' w.heap.size ok v xs) (hf : ∀ x, (f x).length = d.sz)
 (hM : ∀ x cs ok, d.M w' w.heap.size ok x cs → ∀ (j : Nat) u y, cs[j]? = some u → (f x)[j]? = some y → DRep (c.hold w w') w' u y) : DRep (c.hold w w') w' v (.sl d.sz (xs.map f)) := by
 obtain ⟨h0, inner, ho, hr⟩ := hR
 have ho1 := ho
 obtain ⟨hlen, ho2⟩ := ho
 rcases ho2 with ⟨rfl, hn⟩ | ⟨g, cap, cur, rfl, hg, hh, hnc, hcm, hcs, htk⟩
 · obtain rfl := List.eq_nil_of_length_eq_zero hn
   exact .sl none 0 _ [] (fun _ _ => undef) (by simp) (by simp) (fun a h => by cases h) (fun _ => ⟨rfl, rfl⟩) (fun a h => by cases h) (fun i j row x hi => by simp at hi)
 · have hgl : g < w'.heap.size := (Array.getElem?_eq_some_iff.1 hh).1
   have key : ∀ (i j : Nat) row x, (xs.map f)[i]? = some row → row[j]? = some x → ∃ p u, xs[i]? = some p ∧ row = f p ∧ inner[i * d.sz + j]? = some u ∧ ((inner.drop (i * d.sz)).take d.sz)[j]? = some u := by
    intro i j row x hi hj
    rw [List.getElem?_map] at hi
    cases hp : xs[i]? with
    | none => simp [hp] at hi
    | some p =>
      simp only [hp, Option.map_some, Option.some.injEq] at hi
      subst hi
      have hjl : j < d.sz := by rw [← hf p]; exact (List.getElem?_eq_some_iff.1 hj).1
      have hil : i < xs.length := (List.getElem?_eq_some_iff.1 hp).1
      have hb : i * d.sz + j < inner.length := by
       rw [hlen]
       have : (i + 1) * d.sz ≤ xs.length * d.sz := Nat.mul_le_mul_right _ hil
       rw [Nat.succ_mul] at this
       omega
      refine ⟨p, inner[i * d.sz + j], rfl, rfl, List.getElem?_eq_getElem hb, ?_⟩
      rw [List.getElem?_take_of_lt hjl, List.getElem?_drop, List.getElem?_eq_getElem hb]
   have := DRep.sl (c := c.hold w w') (w := w') (some ⟨g, 0, none⟩) cap d.sz (xs.map f) (fun i j => (inner[i * d.sz + j]?).getD undef) (by rw [List.length_map]; exact hnc) (fun row hrow => by
    obtain ⟨x, _, rfl⟩ := List.mem_map.1 hrow
    exact hf x) (fun a ha => by cases ha; rfl) (fun ha => by cases ha) (fun a ha i j row x hi hj => by
    cases ha
    obtain ⟨p, u, hp, rfl, hu, _⟩ := key i j row x hi hj
    refine ⟨?_, ?_⟩
    · have hc := ho1.cells (g := g) rfl _ u hu
      rw [hu]
      simpa [Go.Addr.add_mid, Nat.add_assoc] using hc
    · unfold Cx.lo
      have : (c.hold w w').L g = none := if_pos ⟨hg, hgl⟩
      simp only [this]) (fun i j row x hi hj => by
    obtain ⟨p, u, hp, rfl, hu, hu2⟩ := key i j row x hi hj
    rw [hu]
    exact hM p _ _ (hr.2 i p hp) j u x hu2 hj)
   rwa [List.length_map] at this
theorem term_row {ok : Nat → Prop} {v : Value} {xs : List Term} {c : Cx} {w w' : World} (hR : Kd.R kTerm 25 w' w.heap.size ok v xs) : DRep (c.hold w w') w' v (.sl 3 (xs.map Term.cells)) := by
 refine kd_row (d := kTerm) Term.cells hR (fun _ => rfl) fun t cs ok hM j u y hu hy => ?_
 obtain ⟨_, _, rfl, rfl, _, _, rfl, rfl, rfl⟩ := hM
 match j with
 | 0 => simp [Term.cells] at hu hy; subst hu; subst hy; exact .v _ rfl
 | 1 => simp [Term.cells] at hu hy; subst hu; subst hy; exact .v _ rfl
 | 2 => simp [Term.cells] at hu hy; subst hu; subst hy; exact .v _ rfl
 | j + 3 => simp [Term.cells] at hy
theorem lit_row {ok : Nat → Prop} {v : Value} {xs : List Lit} {c : Cx} {w w' : World} (hR : Kd.R kLit 28 w' w.heap.size ok v xs) : DRep (c.hold w w') w' v (.sl 6 (xs.map Lit.cells)) := by
 refine kd_row (d := kLit) Lit.cells hR (fun _ => rfl) fun l cs ok hM j u y hu hy => ?_
 obtain ⟨_, _, rfl, rfl, _, _, rfl, ⟨_, _, rfl, rfl, _, _, rfl, rfl, rfl⟩, _, _, rfl, rfl, av, rfl, hA⟩ := hM
 match j with
 | 0 => simp [Lit.cells] at hu hy; subst hu; subst hy; exact .v _ rfl
 | 1 => simp [Lit.cells] at hu hy; subst hu; subst hy; exact .v _ rfl
 | 2 => simp [Lit.cells] at hu hy; subst hu; subst hy; exact .v _ rfl
 | 3 => simp [Lit.cells] at hu hy; subst hu; subst hy; exact .v _ rfl
 | 4 => simp [Lit.cells] at hu hy; subst hu; subst hy; exact .v _ rfl
 | 5 => simp [Lit.cells] at hu hy; subst hu; subst hy; exact term_row hA
 | j + 6 => simp [Lit.cells] at hy
section
variable {c : Cx} {w : World} {h : AH}
theorem rep_v (v : Value) (hv : v.oneCell' = true) : ARep c h w v (.d (.v v)) := .d _ _ (.v _ hv)
theorem rep_nilsl (z : Nat) : ARep c h w (.slice none 0 0) (.d (.sl z [])) := .d _ _ (.sl none 0 _ [] (fun _ _ => undef) (by simp) (by simp) (fun a h => by cases h) (fun _ => ⟨rfl, rfl⟩) (fun a h => by cases h) (fun i j row x hi => by simp at hi))
theorem clause_rep {q : Clause} {av bv : Value} (ha : DRep c w av (.sl 3 (q.head.args.map Term.cells))) (hb : DRep c w bv (.sl 6 (q.body.map Lit.cells))) : ARep c h w (clauseV q av bv) q.av :=
 .agg _ _ rfl (rep_cons (rep_v _ rfl) (rep_cons (rep_v _ rfl) (rep_cons (rep_v _ rfl) (rep_cons (rep_v _ rfl) (rep_cons (rep_v _ rfl) (rep_cons (.d _ _ ha) (rep_cons (.d _ _ hb) rep_nil)))))))
theorem lit_rep {q : Lit} {av : Value} (ha : DRep c w av (.sl 3 (q.args.map Term.cells))) : ARep c h w (litV q av) q.av :=
 .agg _ _ rfl (rep_cons (rep_v _ rfl) (rep_cons (rep_v _ rfl) (rep_cons (rep_v _ rfl) (rep_cons (rep_v _ rfl) (rep_cons (rep_v _ rfl) (rep_cons (.d _ _ ha) rep_nil))))))
theorem tup3_rep {v : Value} {x : AV} (hv : ARep c h w v x) (p q : Int) : ARep c h w (.tuple #[v, .int .i64 p, .int .i64 q]) (.tup [x, vI p, vI q]) :=
 .tup [v, .int .i64 p, .int .i64 q] _ rfl (rep_cons hv (rep_cons (rep_v _ rfl) (rep_cons (rep_v _ rfl) rep_nil)))
end
def clauseA (s : ByteArray) : Clause × Int × Int := ansP Clause.z id (parseP s)
def litA (s : ByteArray) : Lit × Int × Int := ansP Lit.z litOf (parseLitP s)
abbrev pparseS : Fs := .pureIf (g1p aStr fun s => (s.size : Int) ≤ 9223372036854775807) (g1 aStr fun s => .tup [(clauseA s).1.av, vI (clauseA s).2.1, vI (clauseA s).2.2])
abbrev pparseLitS : Fs := .pureIf (g1p aStr fun s => (s.size : Int) ≤ 9223372036854775807) (g1 aStr fun s => .tup [(litA s).1.av, vI (litA s).2.1, vI (litA s).2.2])
theorem pparse_ok : FsOk Try.prog 11 pparseS := by
 refine of_hold Try.func11 rfl (by kernel_rfl) ?_
 intro args r c h n w vals hp hg hw hl hr
 obtain ⟨x, s, rfl, hx, rfl⟩ := g1_eq hg
 have hp := hp s hx
 obtain rfl := aStr_eq hx
 match vals, hl with
 | [v], _ =>
   have hv := hr 0 v _ rfl rfl
   obtain rfl := cval_rep hv rfl
   refine (parse_calls s w (by unfold maxLen; omega)).mono fun e w' hq => ?_
   unfold clauseA
   cases hE : parseP s with
   | error q =>
     obtain ⟨p, x⟩ := q
     rw [hE] at hq
     obtain ⟨rfl, hb⟩ := hq
     exact ⟨_, rfl, hb, tup3_rep (.agg _ _ rfl (rep_cons (rep_v _ rfl) (rep_cons (rep_v _ rfl) (rep_cons (rep_v _ rfl) (rep_cons (rep_v _ rfl) (rep_cons (rep_v _ rfl) (rep_cons (rep_nilsl 3) (rep_cons (rep_nilsl 6) rep_nil)))))))) _ _⟩
   | ok q =>
     rw [hE] at hq
     obtain ⟨⟨av, bv, rfl, ha, hb⟩, hbel⟩ := hq
     exact ⟨_, rfl, hbel, tup3_rep (clause_rep (term_row ha) (lit_row hb)) _ _⟩
theorem pparseLit_ok : FsOk Try.prog 15 pparseLitS := by
 refine of_hold Try.func15 rfl (by kernel_rfl) ?_
 intro args r c h n w vals hp hg hw hl hr
 obtain ⟨x, s, rfl, hx, rfl⟩ := g1_eq hg
 have hp := hp s hx
 obtain rfl := aStr_eq hx
 match vals, hl with
 | [v], _ =>
   have hv := hr 0 v _ rfl rfl
   obtain rfl := cval_rep hv rfl
   refine (parseLit_calls s w (by unfold maxLen; omega)).mono fun e w' hq => ?_
   unfold litA
   cases hE : parseLitP s with
   | error q =>
     obtain ⟨p, x⟩ := q
     rw [hE] at hq
     obtain ⟨rfl, hb⟩ := hq
     exact ⟨_, rfl, hb, tup3_rep (.agg _ _ rfl (rep_cons (rep_v _ rfl) (rep_cons (rep_v _ rfl) (rep_cons (rep_v _ rfl) (rep_cons (rep_v _ rfl) (rep_cons (rep_v _ rfl) (rep_cons (rep_nilsl 3) rep_nil))))))) _ _⟩
   | ok q =>
     rw [hE] at hq
     obtain ⟨⟨av, rfl, ha⟩, hbel⟩ := hq
     exact ⟨_, rfl, hbel, tup3_rep (lit_rep (q := litOf q) (term_row ha)) _ _⟩
end Go.Proofs.Ytdhocmakbapfpaa.M
end
section
namespace Go.R
open Go.RowKit
inductive Tr where
 | fin
 | q (k : Nat) (r : Tr)
 | one (k : Nat) (r : Tr)
 | two (k1 : Nat) (r1 : Tr) (k2 : Nat) (r2 : Tr)
def Tr.len : Tr → Nat
 | .fin => 0
 | .q _ r => r.len + 1
 | .one _ r => r.len + 1
 | .two _ r1 _ _ => r1.len + 1
section
variable {P : Program} {ops : Array Oper} {Q : Exit → Act → World → Prop}
def qB (ops : Array Oper) (k : Nat) : Bool := match ops[k]? with
 | some o => o.guard.isNone && noCall o
 | none => false
def oB (ops : Array Oper) (k : Nat) : Bool := match ops[k]? with
 | some o => o.guard.isNone
 | none => false
def trB (ops : Array Oper) : Tr → Array Bool → Bool
 | .fin, listed => (Region.ready .any ops listed).isEmpty
 | .q k r, listed => qB ops k && (Region.ready .any ops listed).contains k && Region.free .any ops listed k && trB ops r (listed.setIfInBounds k true)
 | .one k r, listed => oB ops k && (Region.ready .any ops listed == [k]) && trB ops r (listed.setIfInBounds k true)
 | .two k1 r1 k2 r2, listed => oB ops k1 && oB ops k2 && (Region.ready .any ops listed == [k1, k2]) && (r1.len == r2.len) && trB ops r1 (listed.setIfInBounds k1 true) && trB ops r2 (listed.setIfInBounds k2 true)
def wpTr (P : Program) (ops : Array Oper) (C : World → Prop) (Q : Exit → Act → World → Prop) : Tr → Array Bool → Act → World → Prop
 | .fin, listed, a, w => C w ∧ Q .normal a w
 | .q k r, listed, a, w => ∃ o v, ops[k]? = some o ∧ QY P ops C o v a ∧ wpTr P ops C Q r (listed.setIfInBounds k true) (a.put o.dst v) w
 | .one k r, listed, a, w => C w ∧ wpOp P ops Q k (wpTr P ops C Q r (listed.setIfInBounds k true)) a w
 | .two k1 r1 k2 r2, listed, a, w => C w ∧ wpOp P ops Q k1 (wpTr P ops C Q r1 (listed.setIfInBounds k1 true)) a w ∧ wpOp P ops Q k2 (wpTr P ops C Q r2 (listed.setIfInBounds k2 true)) a w
theorem closed_set {listed : Array Bool} {k : Nat} (hcl : ∀ k o, ops[k]? = some o → listed.getD k true = true → ∀ e ∈ o.after, Region.binds .any e = true → listed.getD e.on false = true) (hr : k ∈ Region.ready .any ops listed) :
 ∀ k' o', ops[k']? = some o' → (listed.setIfInBounds k true).getD k' true = true → ∀ e ∈ o'.after, Region.binds .any e = true → (listed.setIfInBounds k true).getD e.on false = true := by
 intro k' o' ho' hl e he hb
 by_cases hk : k = k'
 · subst hk
   obtain ⟨_, o2, h2, hall⟩ := mem_ready.1 hr
   rw [ho'] at h2
   cases h2
   exact getD_set_true (hall e he hb)
 · rw [getD_set_ne true hk] at hl
   exact getD_set_true (hcl k' o' ho' hl e he hb)
theorem wpM_of_tr {C : World → Prop} (hsel : Region.noSelect ops = true) : ∀ (t : Tr) (listed : Array Bool) (a : Act) (w : World),
 trB ops t listed = true → (∀ k o, ops[k]? = some o → listed.getD k true = true → ∀ e ∈ o.after, Region.binds .any e = true → listed.getD e.on false = true) → listed.size = ops.size →
 wpTr P ops C (NoPanic Q) t listed a w → wpM P .any ops (fun _ w => C w) (NoPanic Q) t.len listed a w
 | .fin, listed, a, w, hB, _, _, h => ⟨h.1, by simpa [trB] using hB, h.2⟩
 | .q k r, listed, a, w, hB, hcl, hsz, h => by
   simp only [trB, Bool.and_eq_true] at hB
   obtain ⟨⟨⟨hq, hr⟩, hfree⟩, hB'⟩ := hB
   obtain ⟨o, v, ho, hy, hK⟩ := h
   have hkr : k ∈ Region.ready .any ops listed := by simpa using hr
   have hrest := wpM_of_tr hsel r _ _ w hB' (closed_set hcl hkr) (by simp [hsz]) hK
   have hheld : Held .any ops k listed := held_of_closed hcl hsz (mem_ready.1 hkr).1
   exact wpM_first ho (Region.noSelect_spec hsel) (fun l w hh hg => ⟨hg, hg⟩) r.len listed a w (fun j oj hj hne hun hno => Region.free_spec ho hfree j oj hj hne hun hno) hkr hheld hy hrest
 | .one k r, listed, a, w, hB, hcl, hsz, h => by
   simp only [trB, Bool.and_eq_true] at hB
   obtain ⟨⟨hq, hr⟩, hB'⟩ := hB
   have hr : Region.ready .any ops listed = [k] := by simpa using hr
   have hkr : k ∈ Region.ready .any ops listed := by rw [hr]; simp
   exact wpM_only hr h.1 (wpOp_mono (fun a' w' h' => wpM_of_tr hsel r _ a' w' hB' (closed_set hcl hkr) (by simp [hsz]) h') h.2)
 | .two k1 r1 k2 r2, listed, a, w, hB, hcl, hsz, h => by
   simp only [trB, Bool.and_eq_true] at hB
   obtain ⟨⟨⟨⟨⟨q1, q2⟩, hr⟩, hlen⟩, hB1⟩, hB2⟩ := hB
   have hr : Region.ready .any ops listed = [k1, k2] := by simpa using hr
   have hlen : r1.len = r2.len := by simpa using hlen
   have hk1 : k1 ∈ Region.ready .any ops listed := by rw [hr]; simp
   have hk2 : k2 ∈ Region.ready .any ops listed := by rw [hr]; simp
   refine ⟨h.1, fun h0 => (by rw [h0] at hk1; cases hk1), fun i hi => ?_⟩
   rw [hr] at hi
   simp only [List.mem_cons, List.not_mem_nil, or_false] at hi
   rcases hi with rfl | rfl
   · exact wpOp_mono (fun a' w' h' => wpM_of_tr hsel r1 _ a' w' hB1 (closed_set hcl hk1) (by simp [hsz]) h') h.2.1
   · have := wpOp_mono (fun a' w' h' => wpM_of_tr (C := C) hsel r2 _ a' w' hB2 (closed_set hcl hk2) (by simp [hsz]) h') h.2.2
     rw [← hlen] at this
     exact this
theorem wp_region_tr {id : Nat} {C : World → Prop} {t : Tr} {a : Act} {w : World} (hm : P.follows .mixedOrders = true) (hsel : Region.noSelect ops = true) (hlen : t.len = ops.size)
 (hB : trB ops t (Array.replicate ops.size false) = true) (h : wpTr P ops C (NoPanic Q) t (Array.replicate ops.size false) a { w with drawn := w.drawn + 1 }) : (Code.region id ops true).wp P Q a w := by
 have H := wpM_of_tr hsel t _ a _ hB (fun k o ho hl => by
  have hk := (Array.getElem?_eq_some_iff.1 ho).1
  simp [hk] at hl) (by simp) h
 rw [hlen] at H
 exact wp_region_noPanic (wp_region_any hm (wpAny_of_M (G := fun _ w => C w) _ _ _ _ H))
end
section
variable {P : Program} {E : EqT P} {F : Ft} {T T1 : List Nat} {ops : Array Oper}
def MT (E : EqT P) (F : Ft) (T T1 : List Nat) (ops : Array Oper) : Tr → Nat → (Exit → St → Prop) → St → Prop
 | .fin, b, Q, s => Q .normal ⟨s.t, s.h, b, s.n⟩
 | .q k r, b, Q, s => False
 | .one k r, b, Q, s => xops P F.tb T1 ops (opsAt ops [k]) s fun s' => s'.t.length ≤ 1000000 → MT E F T T1 ops r b Q s'
 | .two k1 r1 k2 r2, b, Q, s => (xops P F.tb T1 ops (opsAt ops [k1]) s fun s' => s'.t.length ≤ 1000000 → MT E F T T1 ops r1 b Q s') ∧ xops P F.tb T1 ops (opsAt ops [k2]) s fun s' => s'.t.length ≤ 1000000 → MT E F T T1 ops r2 b Q s'
def MTq (E : EqT P) (F : Ft) (T T1 : List Nat) (ops : Array Oper) (qs : List Nat) (r : Tr) (b : Nat) (Q : Exit → St → Prop) (s : St) : Prop :=
 xopsW P F.tb T1 ops qs s fun s1 => s1.t.length ≤ 1000000 → MT E F T T1 ops r b Q ⟨s1.t, s1.h, s1.n, s1.n⟩
variable {b : Nat} {Q : Exit → St → Prop} {s : St} {k k1 k2 : Nat} {r r1 r2 : Tr} {qs : List Nat}
theorem MTq.nil (h : MT E F T T1 ops r b Q ⟨s.t, s.h, s.n, s.n⟩) : MTq E F T T1 ops [] r b Q s := fun _ => h
theorem MTq.of (f : Nat) (hl : s.t.length ≤ 1000000) (hL : ldK T1 ops k s.t) (h : X E F T (fun _ s' => MTq E F T T1 ops qs r b Q s') f (.opsQ ops (opsAt ops [k])) [] s) : MTq E F T T1 ops (k :: qs) r b Q s := by
 refine ⟨hL, ?_⟩
 rw [X_eq] at h
 exact (Xi_sound f).2.2.2.1 ops _ [] s hl h
theorem MT.fin (h : Q .normal ⟨s.t, s.h, b, s.n⟩) : MT E F T T1 ops .fin b Q s := h
theorem MT.one (f : Nat) (hl : s.t.length ≤ 1000000) (h : X E F T1 (fun _ s' => MT E F T T1 ops r b Q s') f (.ops ops (opsAt ops [k])) [] s) : MT E F T T1 ops (.one k r) b Q s := by
 rw [X_eq] at h
 exact (Xi_sound f).2.2.1 ops _ [] s hl h
theorem MT.two (f : Nat) (hl : s.t.length ≤ 1000000) (h1 : X E F T1 (fun _ s' => MT E F T T1 ops r1 b Q s') f (.ops ops (opsAt ops [k1])) [] s) (h2 : X E F T1 (fun _ s' => MT E F T T1 ops r2 b Q s') f (.ops ops (opsAt ops [k2])) [] s) : MT E F T T1 ops (.two k1 r1 k2 r2) b Q s := by
 rw [X_eq] at h1 h2
 exact ⟨(Xi_sound f).2.2.1 ops _ [] s hl h1, (Xi_sound f).2.2.1 ops _ [] s hl h2⟩
end
section
variable {P : Program} {C : Tb} {E : EqT P} {F : Ft} {c c0 c' : Cx} {s s1 s2 : St} {a : Act} {w w0 w' : World} {h h0 h1 h' : AH} {n n' : Nat} {T T1 : List Nat} {ops : Array Oper} {Q : Exit → Act → World → Prop} {Cl : World → Prop}
theorem oB_some {k : Nat} (h : oB ops k = true) : ∃ o, ops[k]? = some o ∧ o.guard = none ∧ opsAt ops [k] = [o] := by
 unfold oB at h
 cases ho : ops[k]? with
 | none => simp [ho] at h
 | some o =>
   simp only [ho, Option.isNone_iff_eq_none] at h
   exact ⟨o, rfl, h, by simp [opsAt, ho]⟩
theorem op_step (hC : TbOk P C) (I : SI T c0 h0 w0 c s a w) {k : Nat} {o : Oper} (ho : ops[k]? = some o) (hg : o.guard = none) {Kx : AV → AH → Nat → Prop} (hx : xop P C o.op o.type s.t s.h s.n (may T s.b) Kx) {K : Act → World → Prop}
 (hn : ∀ c' v r h' n' w', Kx r h' n' → SI T c0 h0 w0 c' ⟨putT s.t o.dst r, h', s.b, n'⟩ (a.put o.dst v) w' → K (a.put o.dst v) w') : wpOp P ops Q k K a w := by
 unfold wpOp
 simp only [ho]
 rw [if_pos (by simp [Region.wanted, hg])]
 exact .inl (aop_wp hC I (xop_aop hx) hn)
theorem tr_one (hC : TbOk P C) {k : Nat} {K : St → Prop} {N : Act → World → Prop} (I : SI T c0 h0 w0 c s a w) (hl : s.t.length ≤ 1000000) (hk : oB ops k = true) (hx : xops P C T ops (opsAt ops [k]) s fun s' => s'.t.length ≤ 1000000 → K s')
 (hn : ∀ c' s' a' w', SI T c0 h0 w0 c' s' a' w' → s'.b = s.b → s'.t.length = s.t.length → K s' → N a' w') : wpOp P ops Q k N a w := by
 obtain ⟨o, ho, hg, hat⟩ := oB_some hk
 rw [hat] at hx
 simp only [xops, hg] at hx
 exact op_step hC I ho hg hx fun c' v r h' n' w' hr I' => hn _ _ _ _ I' rfl (putT_length _ _ _) (hr (by rw [putT_length]; exact hl))
theorem tr_walk (hC : TbOk P F.tb) {Qs : Exit → St → Prop} {b n0 L : Nat} (hL : L ≤ 1000000)
 (fin : ∀ c3 s3 a3 w3, SI T1 c h1 w c3 s3 a3 w3 → s3.b = n0 → s3.t.length = L → Qs .normal ⟨s3.t, s3.h, b, s3.n⟩ → Q .normal a3 w3) :
 ∀ (t : Tr) (c2 : Cx) (s2 : St) (a2 : Act) (w2 : World) (listed : Array Bool), SI T1 c h1 w c2 s2 a2 w2 → s2.b = n0 → s2.t.length = L → trB ops t listed = true → MT E F T T1 ops t b Qs s2 → wpTr P ops (SameBut T1 c h1 w) Q t listed a2 w2
 | .fin, c2, s2, a2, w2, listed, J, hb, hl, hB, hM => ⟨fun b hb hne => J.fr.far b hb hne, fin c2 s2 a2 w2 J hb hl hM⟩
 | .q k r, c2, s2, a2, w2, listed, J, hb, hl, hB, hM => hM.elim
 | .one k r, c2, s2, a2, w2, listed, J, hb, hl, hB, hM => by
   simp only [trB, Bool.and_eq_true] at hB
   obtain ⟨⟨hk, _⟩, hB'⟩ := hB
   exact ⟨fun b hb hne => J.fr.far b hb hne, tr_one hC J (by omega) hk hM fun c' s' a' w' J' e1 e2 hK => tr_walk hC hL fin r c' s' a' w' _ J' (e1.trans hb) (e2.trans hl) hB' hK⟩
 | .two k1 r1 k2 r2, c2, s2, a2, w2, listed, J, hb, hl, hB, hM => by
   simp only [trB, Bool.and_eq_true] at hB
   obtain ⟨⟨⟨⟨⟨hk1, hk2⟩, _⟩, _⟩, hB1⟩, hB2⟩ := hB
   exact ⟨fun b hb hne => J.fr.far b hb hne, tr_one hC J (by omega) hk1 hM.1 fun c' s' a' w' J' e1 e2 hK => tr_walk hC hL fin r1 c' s' a' w' _ J' (e1.trans hb) (e2.trans hl) hB1 hK,
    tr_one hC J (by omega) hk2 hM.2 fun c' s' a' w' J' e1 e2 hK => tr_walk hC hL fin r2 c' s' a' w' _ J' (e1.trans hb) (e2.trans hl) hB2 hK⟩
theorem tr_qs {K : St → Prop} {r : Tr} : ∀ (qs : List Nat) (s : St) (a : Act) (listed : Array Bool), SI T c0 h0 w0 c s a w → s.t.length ≤ 1000000 → trB ops (qs.foldr Tr.q r) listed = true → xopsW P C T1 ops qs s K →
 (∀ s' a' l', SI T c0 h0 w0 c s' a' w → s'.b = s.b → s'.h = s.h → s'.n = s.n → s'.t.length = s.t.length → trB ops r l' = true → K s' → wpTr P ops (SameBut T1 c s.h w) Q r l' a' w) → wpTr P ops (SameBut T1 c s.h w) Q (qs.foldr Tr.q r) listed a w
 | [], s, a, listed, I, _, hB, hK, hn => hn s a listed I rfl rfl rfl rfl hB hK
 | k :: qs, s, a, listed, I, hsl, hB, hK, hn => by
   simp only [List.foldr_cons, trB, Bool.and_eq_true] at hB
   obtain ⟨⟨⟨hq, _⟩, _⟩, hB'⟩ := hB
   obtain ⟨o, ho, hg, hat⟩ := oB_some (ops := ops) (k := k) (by
    unfold qB at hq
    unfold oB
    cases ho : ops[k]? with
    | none => simp [ho] at hq
    | some o => simp [ho] at hq ⊢; exact hq.1)
   obtain ⟨hL, hK⟩ := hK
   simp only [ho] at hL
   rw [hat] at hK
   simp only [xopsQ, hg] at hK
   obtain ⟨v, rr, h1, h2, h3⟩ := quiet_QYW (ops := ops) I hg hL (xopQ_aopQ hK)
   refine ⟨o, v, ho, ?_, ?_⟩
   · rcases h1 with ⟨g1, g2⟩ | g
     · exact .inl ⟨g1, fun w' hw' => g2 w' (.inr hw')⟩
     · exact .inr g
   · refine tr_qs qs { s with t := putT s.t o.dst rr } _ _ (I.next (d := o.dst) (v := v) I.srep.wd (Ext.refl _ _ _) (Fr.refl _ _ _ _) h2 (Nat.le_refl _)) (by simp only [putT_length]; exact hsl) hB' (h3 (by simp only [putT_length]; exact hsl)) fun s' a' l' I' e1 e2 e3 e4 hB2 hK' => ?_
     exact hn s' a' l' I' e1 e2 e3 (e4.trans (putT_length _ _ _)) hB2 hK'
theorem AW.treeX {id : Nat} {Qs : Exit → St → Prop} (T1 qs : List Nat) (r : Tr) (hm : P.follows .mixedOrders = true) (hB : (Region.noSelect ops && ((qs.foldr Tr.q r).len == ops.size) && trB ops (qs.foldr Tr.q r) (Array.replicate ops.size false)) = true)
 (hl : s.t.length ≤ 1000000) (hT1 : ∀ i, i ∈ T1 → i ∈ T ∨ s.b ≤ i) (h : MTq E F T T1 ops qs r s.b Qs s) : AW P F.tb T (.region id ops true) Qs s := by
 simp only [Bool.and_eq_true, beq_iff_eq] at hB
 obtain ⟨⟨hsel, hlen⟩, hB⟩ := hB
 intro c0 h0 w0 c a w hC I
 have I1 := I.drew
 refine wp_region_tr (C := SameBut T1 c s.h { w with drawn := w.drawn + 1 }) (t := qs.foldr Tr.q r) hm hsel hlen hB ?_
 refine tr_qs qs s a _ I1 hl hB h fun s1 a1 l1 J1 e1 e2 e3 e4 hB2 hK => ?_
 have base : SI T1 c s.h { w with drawn := w.drawn + 1 } c ⟨s1.t, s1.h, s1.n, s1.n⟩ a1 { w with drawn := w.drawn + 1 } :=
  ⟨⟨J1.srep.size, J1.srep.tmp, J1.srep.defers, J1.srep.wd⟩, by rw [e2]; exact Ext.refl _ _ _, by rw [e2]; exact Fr.refl _ _ _ _, fun i hi => by rw [← e2]; exact J1.srep.wd.new i hi, Nat.le_refl _⟩
 refine tr_walk (n0 := s1.n) (L := s.t.length) hC hl (fun c3 s3 a3 w3 J f1 f2 hQ => ?_) r c ⟨s1.t, s1.h, s1.n, s1.n⟩ a1 _ l1 base rfl e4 hB2 (hK (by rw [e4]; exact hl))
 refine ⟨c3, ⟨s3.t, s3.h, s.b, s3.n⟩, ⟨⟨J.srep.size, J.srep.tmp, J.srep.defers, J.srep.wd⟩, ?_, ?_, I.new0, ?_⟩, rfl, f2, hQ⟩
 · have g := J1.ext
   rw [e2] at g
   exact g.trans J.ext
 · have g := J1.fr
   have g2 := J1.ext
   rw [e2] at g g2
   refine ⟨fun b hb hne => (J.fr.far b (Nat.lt_of_lt_of_le hb g2.size) (fun i hi e => ?_)).trans (g.far b hb hne), fun i b e hb => g.old i b (J.fr.old i b e (Nat.lt_of_lt_of_le hb g2.size)) hb⟩
   have := g.old i b e hb
   rcases hT1 i hi with hi | hi
   · exact hne i hi this
   · rw [I.new0 i hi] at this; cases this
 · have g1 := J.le
   have g2 := I.le
   simp only at g1 f1 ⊢
   omega
end
section
variable {P : Program} {c c0 c' : Cx} {s s1 s2 : St} {a : Act} {w w0 w' : World} {h h0 h' : AH} {n n' : Nat} {T : List Nat}
theorem nil_own (c : Cx) (h : AH) (w : World) (n z : Nat) : ARep { c with τ := upd c.τ n (none, 0) } (upd h n (.tok 0 z)) w (.slice none 0 0) (.own n z []) := by
 have hd : DRep { c with τ := upd c.τ n (none, 0) } w (.slice none ([] : List (List DV)).length 0) (.sl z []) := .sl none 0 z [] (fun _ _ => .bool false) (Nat.le_refl _) (by simp) (fun a ha => by cases ha) (fun _ => ⟨rfl, rfl⟩) (fun a ha => by cases ha) (fun i j row x hi => by simp at hi)
 exact .own none 0 n z [] 0 hd (upd_same _ _ _) (Nat.le_refl _) (fun _ => upd_same _ _ _)
theorem Wk.nil {t : List AV} {b j : Nat} (z : Nat) (hj : t[j]? = some (.d (.v (.slice none 0 0)))) : Wk T ⟨t, h, b, n⟩ ⟨t.set j (.own n z []), upd h n (.tok 0 z), b, n + 1⟩ := by
 refine ⟨rfl, by simp, fun c0 h0 w0 c a w I => ⟨{ c with τ := upd c.τ n (none, 0) }, ?_⟩⟩
 obtain ⟨g1, g2⟩ := I.srep.wd.newNil z
 have hfr := newNil_fr (T := may T b) I.srep.wd z
 have I2 := I.next (d := none) (v := .bool false) (r := .any) g1 g2 hfr (.any _) (Nat.le_succ _)
 refine I2.setT (d := j) (r := .own n z []) fun v hv => ?_
 have hv' : a.tmps[j]? = some v := hv
 have := I.srep.tmp j v _ hv' hj
 obtain rfl := cval_rep this rfl
 exact nil_own c h w n z
end
end Go.R
end
section
namespace Go.Proofs.Ytdhocmakbapfpaa.M
open Go.R
theorem putL_any {l : List ByteArray} {s : ByteArray} (h : l.any (fun x => x.toList == s.toList) = true) : putL l s = l := if_pos h
theorem putL_not {l : List ByteArray} {s : ByteArray} (h : ¬ l.any (fun x => x.toList == s.toList) = true) : putL l s = l ++ [s] := if_neg h
def put2Run : List AV → AH → Nat → Option (AV × AH × Nat)
 | [.own k 1 xs, .d (.v (.string s))], h, n => match dRows cStr xs with
   | some l => some (.own k 1 ((putL l s).map strRow), upd h k (.tok (putL l s).length 1), n)
   | none => none
 | _, _, _ => none
def put2S : Fs := ⟨put2Run, putPre, putTch⟩
@[go_sem] theorem put2_run (k : Nat) (l : List ByteArray) (s : ByteArray) (h : AH) (n : Nat) : put2S.run [.own k 1 (l.map strRow), .d (.v (.string s))] h n = some (.own k 1 ((putL l s).map strRow), upd h k (.tok (putL l s).length 1), n) := by
  simp only [put2S, put2Run, dStrs]
@[go_sem] theorem put2_pre (k : Nat) (xs : List (List DV)) (s : ByteArray) (h : AH) (n : Nat) : put2S.pre [.own k 1 xs, .d (.v (.string s))] h n = (h k = .tok xs.length 1 ∧ k < n ∧ xs.length ≤ 1099511627776) := rfl
@[go_sem] theorem put2_tch (k z : Nat) (xs : List (List DV)) (x : AV) : put2S.tch [.own k z xs, x] = [k] := rfl
theorem putL_len (l : List ByteArray) (s : ByteArray) : (putL l s).length ≤ l.length + 1 := by
 unfold putL
 split
 · omega
 · simp
def putT (acc : List ByteArray) (t : Term) : List ByteArray := if 0 < t.var.size then putL acc t.var else acc
def litVs (acc : List ByteArray) (l : Lit) : List ByteArray := l.args.foldl putT (putT acc l.who)
def varsL (c : Clause) : List ByteArray := if checkB c then (c.head :: c.body).foldl litVs [] else []
theorem putT_len (l : List ByteArray) (t : Term) : (putT l t).length ≤ l.length + 1 := by
 unfold putT
 split
 · exact putL_len _ _
 · omega
theorem lit_args4 {l : Lit} (hg : literalB l = true) : l.args.length ≤ 4 := by
 unfold literalB at hg
 split at hg
 · unfold saidB at hg
   simp only [Bool.and_eq_true, decide_eq_true_eq] at hg
   exact hg.1.2
 · simp only [Bool.and_eq_true, beq_iff_eq] at hg
   omega
end Go.Proofs.Ytdhocmakbapfpaa.M
end
section
namespace Go.Proofs.Ytdhocmakbapfpaa.M
open Go.R
theorem empty_str (s : ByteArray) : (s.toList == (⟨#[]⟩ : ByteArray).toList) = (s.size == 0) := by
 rw [Bool.eq_iff_iff, beq_iff_eq, beq_iff_eq]
 constructor
 · intro h; rw [toList_inj h]; rfl
 · intro h
   have : s = ⟨#[]⟩ := by
    obtain ⟨⟨l⟩⟩ := s
    cases l with
    | nil => rfl
    | cons a l => simp [ByteArray.size] at h
   rw [this]
abbrev nameS : Fs := .pureIf (fun _ => True) (g1 aStr fun s => vB (nameB s))
theorem name_ok : FsOk Try.prog 77 nameS := by
 refine FsOk.of_calls Try.func77 rfl (by kernel_rfl) ?_
 intro args r _ h
 obtain ⟨x, s, rfl, hx, rfl⟩ := g1_eq h
 obtain rfl := aStr_eq hx
 exact ⟨[.string s], _, rfl, fun _ _ _ => .d _ _ (.v _ rfl), fun w => (name_calls s w).mono fun e w' ⟨h1, h2⟩ => ⟨h1, by subst h2; exact Go.RowKit.Below.refl _ _⟩⟩
abbrev goodS : Fs := .pure (g1 aVal fun v => vB (goodV v))
theorem good_ok : FsOk Try.prog 96 goodS := by
 refine of_X1 (E := EqT.no _) (F := Ft.no.put 77 nameS) Val.av (fun _ _ => aVal_le) Try.func96 rfl (by kernel_rfl) [.tmp 2] rfl Try.ntmps96 (by decide) ((FtOk.no _).put name_ok) ?_
 intro v h n hok
 repeat' (first | (with_reducible refine XG_split (fun hq => ?_) (fun hq => ?_)) | (with_reducible refine Or.inl (And.intro (And.intro mixedP ?_) ?_); kernel_rfl) | (with_reducible refine MX1.of 4000 (by simp) ?_) | (with_reducible refine MX2.of 4000 (by simp) ?_) | (with_reducible refine And.intro ?_ ?_) | simp only [go_sem,Nat.reduceEqDiff,Nat.reduceAdd,Nat.reduceMul,Nat.reduceLeDiff,Val.av,empty_str])
 all_goals (refine wk_v (congrArg Value.bool ?_); simp [goodV, *])
end Go.Proofs.Ytdhocmakbapfpaa.M
end
section
namespace Go.Proofs.Ytdhocmakbapfpaa.M
open Go.R Go.Proofs.YtdhocmakbapfpaaW.PrintWords Go.Proofs.YtdhocmakbapfpaaW.PrintMore
theorem bytesOf_all (s : ByteArray) (p : Int → Bool) : (List.range s.size).all (fun i => p (byteAt s i)) = (bytesOf s).all p := by
 have key : ∀ k : Nat, k ≤ s.size → ((bytesOf s).drop (s.size - k)).all p = (List.range k).all fun i => p (byteAt s ((s.size - k + i : Nat) : Int)) := by
  intro k
  induction k with
  | zero => intro _; rw [Nat.sub_zero, List.drop_eq_nil_iff.2 (by rw [bytesOf_length]; exact Nat.le_refl _)]; rfl
  | succ k ih =>
    intro hk
    have h1 : s.size - (k + 1) < s.size := by omega
    rw [bytesOf_drop s _ h1, List.all_cons, show s.size - (k + 1) + 1 = s.size - k by omega, ih (by omega), List.range_succ_eq_map, List.all_cons, List.all_map, Nat.add_zero, byteAt_bt]
    congr 1
    congr 1
    funext i
    simp only [Function.comp]
    rw [show s.size - k + i = s.size - (k + 1) + (i + 1) by omega]
 have := key s.size (Nat.le_refl _)
 rw [Nat.sub_self, List.drop_zero] at this
 rw [this]
 simp only [Nat.zero_add]
theorem tw_len (p : Int → Bool) : ∀ l : List Int, (l.takeWhile p).length = l.length ↔ l.all p = true
 | [] => by simp
 | c :: l => by
   rw [List.takeWhile_cons, List.all_cons]
   cases hc : p c with
   | true =>
     rw [if_pos rfl, List.length_cons, List.length_cons, Bool.true_and, ← tw_len p l]
     omega
   | false => simp
theorem runTo_all {s : ByteArray} (h : 0 < s.size) (hc : pieceB (bt s 0) = true) : (runTo s 1 = s.size ↔ (bytesOf s).all pieceB = true) := by
 have hd := bytesOf_drop s 0 h
 rw [List.drop_zero] at hd
 have hl : ((bytesOf s).drop 1).length = s.size - 1 := by rw [List.length_drop, bytesOf_length]
 rw [hd, List.all_cons, show (bt s ((0 : Nat) : Int)) = bt s 0 from rfl, hc, Bool.true_and]
 unfold runTo
 rw [← tw_len, Nat.zero_add]
 have := (List.takeWhile_prefix pieceB (l := (bytesOf s).drop 1)).length_le
 omega
theorem upp_facts {c : Int} (h : uppB c = true) : 65 ≤ c ∧ c ≤ 90 ∧ pieceB c = true ∧ lowB c = false := by
 unfold uppB at h
 simp only [Bool.and_eq_true, decide_eq_true_eq] at h
 refine ⟨h.1, h.2, ?_, ?_⟩
 · unfold pieceB uppB
   simp [h.1, h.2]
 · unfold lowB
   have : ¬ 97 ≤ c := by omega
   simp [this]
theorem nameB_upp {s : ByteArray} (h : 0 < s.size) (hu : uppB (bt s 0) = true) : nameB s = false := by
 have hd := bytesOf_drop s 0 h
 rw [List.drop_zero] at hd
 unfold nameB
 rw [hd]
 have := (upp_facts hu).2.2.2
 rw [show bt s ((0 : Nat) : Int) = bt s 0 from rfl]
 simp [nameGo, this]
theorem word_upp {s : ByteArray} (h : 0 < s.size) (hu : uppB (bt s 0) = true) : (s.toList == [110, 111, 116] || s.toList == [115, 97, 121, 115]) = false := by
 have key : ∀ (c : UInt8) (t : List UInt8), s.toList = c :: t → bt s 0 = (c.toNat : Int) := by
  intro c t e
  rw [toList_eq] at e
  have hb : bytesOf s = (c.toNat : Int) :: t.map fun b => (b.toNat : Int) := by
   unfold bytesOf
   rw [e]
   rfl
  have := bytesOf_head s h
  rw [hb] at this
  simpa using this.symm
 rw [Bool.or_eq_false_iff]
 constructor
 · rw [beq_eq_false_iff_ne]
   intro e
   rw [key _ _ e] at hu
   cases hu
 · rw [beq_eq_false_iff_ne]
   intro e
   rw [key _ _ e] at hu
   cases hu
theorem sortK_upp {s : ByteArray} (h : 0 < s.size) (hu : uppB (bt s 0) = true) : (sortK s == 2) = decide (s.size ≤ 16) := by
 unfold sortK
 rw [word_upp h hu, nameB_upp h hu, hu, decide_eq_true h]
 by_cases h16 : s.size ≤ 16
 · have : decide ((s.size : Int) ≤ 16) = true := decide_eq_true (by omega)
   simp [this, h16]
 · have : decide ((s.size : Int) ≤ 16) = false := decide_eq_false (by omega)
   simp [this, h16]
   split <;> decide
theorem sortK_two {p : ByteArray} (h : sortK p = 2) : uppB (bt p 0) = true ∧ 0 < p.size := by
 unfold sortK at h
 split at h
 · cases h
 · split at h
   · cases h
   · split at h
     · rename_i hq
       simp only [Bool.and_eq_true, decide_eq_true_eq] at hq
       exact ⟨hq.1.2, hq.1.1⟩
     · split at h <;> cases h
theorem bt_extract {s : ByteArray} {q : Nat} (h : 0 < q) (hq : q ≤ s.size) : bt (s.extract 0 q) 0 = bt s 0 := by
 have h1 : 0 < (s.extract 0 q).size := by simp; omega
 have e1 := bytesOf_head _ h1
 have e2 := bytesOf_head s (by omega)
 rw [bytesOf_extract, List.drop_zero] at e1
 have hd := bytesOf_drop s 0 (by omega)
 rw [List.drop_zero] at hd
 obtain ⟨m, rfl⟩ : ∃ m, q = m + 1 := ⟨q - 1, by omega⟩
 rw [hd, List.take_succ_cons, List.head?_cons] at e1
 simpa using e1.symm
theorem extract_all (s : ByteArray) : s.extract 0 s.size = s := by
 refine bytesOf_inj ?_
 rw [bytesOf_extract, List.drop_zero, List.take_of_length_le (by rw [bytesOf_length]; exact Nat.le_refl _)]
theorem pieceTok_kind {s : ByteArray} {q : Nat} (h : 0 < q) (hq : q ≤ s.size) (hu : uppB (bt s 0) = false) : ((pieceTok s 0 q).1.kind == 2) = false := by
 unfold pieceTok
 split
 · rfl
 · rw [beq_eq_false_iff_ne]
   intro e
   have := (sortK_two e).1
   rw [bt_extract h hq, hu] at this
   cases this
theorem var_law (s : ByteArray) : ((oneT s 0).2 == 0 && (oneT s 0).1.kind == 2 && (oneT s 0).1.hi == (s.size : Int)) = varB s := by
 rcases Nat.eq_zero_or_pos s.size with h0 | h0
 · have : oneT s 0 = (Tok.z, 1) := by unfold oneT; rw [if_pos (by omega)]
   rw [this]
   unfold varB
   rw [h0]
   rfl
 have hv : varB s = (decide (s.size ≤ 16) && uppB (bt s 0) && (bytesOf s).all pieceB) := by
  unfold varB
  rw [decide_eq_true h0, Bool.true_and, bytesOf_all, byteAt_bt]
 rw [hv]
 have hb0 : bt s ((0 : Nat) : Int) = bt s 0 := rfl
 cases hu : uppB (bt s 0) with
 | true =>
   obtain ⟨u1, u2, u3, _⟩ := upp_facts hu
   have ho : oneT s 0 = pieceTok s 0 (runTo s (0 + 1)) := by
    unfold oneT
    rw [if_neg (by omega)]
    have e1 : (bt s 0 == 32 || bt s 0 == 9) = false := by
     rw [Bool.or_eq_false_iff, beq_eq_false_iff_ne, beq_eq_false_iff_ne]; omega
    have e2 : (bt s 0 == 45) = false := by rw [beq_eq_false_iff_ne]; omega
    simp only [hb0, e1, e2, u3, Bool.false_eq_true, if_false, if_true]
   rw [ho]
   have hq1 := runTo_ge s (0 + 1)
   have hq2 := runTo_le s (0 + 1) (by omega)
   have ha := runTo_all h0 u3
   cases hall : (bytesOf s).all pieceB with
   | true =>
     have hr : runTo s (0 + 1) = s.size := ha.2 hall
     rw [hr]
     unfold pieceTok
     rw [extract_all]
     have hk := sortK_upp h0 hu
     by_cases hk0 : sortK s = 0
     · rw [if_pos hk0]
       rw [hk0] at hk
       rw [← hk]
       rfl
     · rw [if_neg hk0]
       simp only [hk]
       simp
   | false =>
     have hr : runTo s (0 + 1) ≠ s.size := fun e => by rw [ha.1 e] at hall; cases hall
     simp only [Bool.and_false]
     unfold pieceTok
     split
     · rfl
     · simp only
       have : (((runTo s (0 + 1) : Nat) : Int) == (s.size : Int)) = false := by rw [beq_eq_false_iff_ne]; omega
       rw [this, Bool.and_false]
 | false =>
   simp only [Bool.and_false, Bool.false_and]
   have hk : ((oneT s 0).1.kind == 2) = false := by
    unfold oneT
    rw [if_neg (by omega)]
    simp only [hb0]
    have hq1 := runTo_ge s (0 + 1)
    have hq2 := runTo_le s (0 + 1) (by omega)
    repeat' split
    all_goals first | rfl | exact pieceTok_kind (by omega) hq2 hu
   rw [hk, Bool.and_false, Bool.false_and]
end Go.Proofs.Ytdhocmakbapfpaa.M
end
section
namespace Go.Proofs.Ytdhocmakbapfpaa.M
open Go.R Go.Proofs.YtdhocmakbapfpaaW.PrintWords Go.Proofs.YtdhocmakbapfpaaW.PrintMore
theorem noGuardV : Try.prog.eqGuardType Try.prog.depth 23 = false := by kernel_rfl
theorem equalIn_val (a a' : ByteArray) (n n' : Int) (w : World) : (Op.equalIn 10000 23 (.agg #[.string a, .int .i64 n]) (.agg #[.string a', .int .i64 n'])).run Try.prog w = .ok (a.toList == a'.toList && n == n') w := by
 rw [run_equalIn_agg w 9999 _ _ _ undV heldV, eqFields_map, e2]
 simp [go_sem, eqF3, und_s, und_i]
 by_cases h1 : a.toList = a'.toList <;> by_cases h3 : n = n' <;> simp [*]
def eqTV : EqT Try.prog := ⟨fun t us vs => if t = 23 then (match us, vs with
    | [.string a, .int .i64 n], [.string a', .int .i64 n'] => some (a.toList == a'.toList && n == n')
    | _, _ => none) else eqT.eq t us vs, fun t us vs b h op x y w => by
 split at h
 · rename_i e
   subst e
   split at h
   · cases h
     refine ⟨?_, ?_⟩ <;> (rintro rfl; simp only [Sem.run_bind, run_eqGuard_agg _ _ _ _ _ _ _ noGuardV, Result.andThen_ok, run_eql_struct, run_neq_struct, equalIn_val])
   · cases h
 · exact eqT.ok t us vs b h op x y w⟩
@[go_sem] theorem eqTV_val (a a' : ByteArray) (n n' : Int) : eqTV.eq 23 [.string a, .int .i64 n] [.string a', .int .i64 n'] = some (a.toList == a'.toList && n == n') := rfl
@[go_sem] theorem eqTV_term (a b a' b' : ByteArray) (n n' : Int) : eqTV.eq 25 [.string a, .string b, .int .i64 n] [.string a', .string b', .int .i64 n'] = some (a.toList == a'.toList && (b.toList == b'.toList && n == n')) := rfl
def szS (s : ByteArray) : Prop := s.size ≤ 1099511627776
def szT (t : Term) : Prop := szS t.var
def szL (l : Lit) : Prop := szT l.who ∧ l.args.length ≤ 1099511627776 ∧ ∀ t ∈ l.args, szT t
def szC (c : Clause) : Prop := szL c.head ∧ c.body.length ≤ 1099511627776 ∧ ∀ l ∈ c.body, szL l
abbrev lexOneS : Fs := .pureIf (g2p aStr aI64 fun s p => szS s ∧ 0 ≤ p) (g2 aStr aI64 fun s p => .tup [(oneT s p.toNat).1.av, vI (oneT s p.toNat).2])
theorem lexOne_ok : FsOk Try.prog 82 lexOneS := by
 refine FsOk.of_calls Try.func82 rfl (by kernel_rfl) ?_
 intro args r hp h
 obtain ⟨x, y, s, p, rfl, hx, hy, rfl⟩ := g2_eq h
 obtain rfl := aStr_eq hx
 have hy' : y = vI p := by
  unfold aI64 at hy
  split at hy
  · cases hy; rfl
  · cases hy
 subst hy'
 obtain ⟨hs, hp0⟩ := hp s rfl p rfl
 obtain ⟨q, rfl⟩ := Int.eq_ofNat_of_zero_le hp0
 refine ⟨[.string s, .int .i64 q], .tuple #[.agg #[.int .u8 (oneT s q).1.kind, .int .i64 (oneT s q).1.lo, .int .i64 (oneT s q).1.hi], .int .i64 (oneT s q).2], rfl, fun c h w => ?_, fun w => one_calls s q w (by unfold szS at hs; unfold maxLen; omega)⟩
 refine .tup [.agg #[.int .u8 (oneT s q).1.kind, .int .i64 (oneT s q).1.lo, .int .i64 (oneT s q).1.hi], .int .i64 (oneT s q).2] [(oneT s q).1.av, vI (oneT s q).2] rfl fun j v x hv hx => ?_
 match j with
 | 0 =>
   simp only [List.getElem?_cons_zero, Option.some.injEq] at hv hx
   subst hv; subst hx
   refine .agg [.int .u8 (oneT s q).1.kind, .int .i64 (oneT s q).1.lo, .int .i64 (oneT s q).1.hi] [.d (.v (.int .u8 (oneT s q).1.kind)), .d (.v (.int .i64 (oneT s q).1.lo)), .d (.v (.int .i64 (oneT s q).1.hi))] rfl fun j v x hv hx => ?_
   match j with
   | 0 => simp only [List.getElem?_cons_zero, Option.some.injEq] at hv hx; subst hv; subst hx; exact .d _ _ (.v _ rfl)
   | 1 => simp only [List.getElem?_cons_succ, List.getElem?_cons_zero, Option.some.injEq] at hv hx; subst hv; subst hx; exact .d _ _ (.v _ rfl)
   | 2 => simp only [List.getElem?_cons_succ, List.getElem?_cons_zero, Option.some.injEq] at hv hx; subst hv; subst hx; exact .d _ _ (.v _ rfl)
   | j + 3 => simp at hv
 | 1 =>
   simp only [List.getElem?_cons_succ, List.getElem?_cons_zero, Option.some.injEq] at hv hx
   subst hv; subst hx
   exact .d _ _ (.v _ rfl)
 | j + 2 => simp at hv
abbrev variableS : Fs := .pureIf (g1p aStr szS) (g1 aStr fun s => vB (varB s))
abbrev ptermS : Fs := .pureIf (g1p aTerm szT) (g1 aTerm fun t => vB (termB t))
abbrev notTermS : Fs := .pureIf (g1p aTerm szT) (g1 aTerm fun t => vB (!termB t))
def aFn (f : FuncId) : AV → Option Unit
 | .fn (.func g) [] [] => if g = f then some () else none
 | _ => none
theorem aFn_le {f : FuncId} {x : AV} {u : Unit} (h : aFn f x = some u) : AV.le x (.fn (.func f) [] []) := by
 unfold aFn at h
 split at h
 · split at h
   · rename_i e; subst e; exact AV.le.refl _
   · cases h
 · cases h
@[go_sem] theorem aFn_self (f : FuncId) : aFn f (.fn (.func f) [] []) = some () := by simp [aFn]
def idxL {α : Type} (p : α → Bool) (l : List α) : Int := if l.any p then ((l.findIdx p : Nat) : Int) else -1
abbrev idxTermS : Fs := .pureIf (g2p aTerms (aFn 79) fun l _ => l.length ≤ 1099511627776 ∧ ∀ t ∈ l, szT t) (g2 aTerms (aFn 79) fun l _ => vI (idxL (fun t => !termB t) l))
abbrev hasTermS : Fs := .pureIf (g2p aTerms (aFn 79) fun l _ => l.length ≤ 1099511627776 ∧ ∀ t ∈ l, szT t) (g2 aTerms (aFn 79) fun l _ => vB (l.any fun t => !termB t))
abbrev patomS : Fs := .pureIf (g1p aLit szL) (g1 aLit fun l => vB (saidB l))
abbrev pliteralS : Fs := .pureIf (g1p aLit szL) (g1 aLit fun l => vB (literalB l))
abbrev pcheckLitS : Fs := .pureIf (g1p aLit szL) (g1 aLit fun l => vB (checkLitB l))
abbrev notLitS : Fs := .pureIf (g1p aLit szL) (g1 aLit fun l => vB (!literalB l))
abbrev idxLitS : Fs := .pureIf (g2p aLits (aFn 52) fun l _ => l.length ≤ 1099511627776 ∧ ∀ t ∈ l, szL t) (g2 aLits (aFn 52) fun l _ => vI (idxL (fun t => !literalB t) l))
abbrev hasLitS : Fs := .pureIf (g2p aLits (aFn 52) fun l _ => l.length ≤ 1099511627776 ∧ ∀ t ∈ l, szL t) (g2 aLits (aFn 52) fun l _ => vB (l.any fun t => !literalB t))
abbrev pcheckS : Fs := .pureIf (g1p aClause szC) (g1 aClause fun c => vB (checkB c))
theorem idx_ge {α : Type} (p : α → Bool) (l : List α) : decide ((0 : Int) ≤ idxL p l) = l.any p := by
 unfold idxL
 cases h : l.any p with
 | true => simp
 | false => simp
theorem idx_hit {α : Type} {p : α → Bool} {l : List α} {k : Nat} (hk : k < l.length) (hp : p l[k] = true) (h : ∀ i, (hi : i < k) → p (l[i]'(by omega)) = false) : idxL p l = k := by
 unfold idxL
 have ha : l.any p = true := List.any_eq_true.2 ⟨l[k], List.getElem_mem hk, hp⟩
 rw [if_pos ha]
 congr 1
 exact (List.findIdx_eq hk).2 ⟨hp, fun j hj => h j hj⟩
theorem idx_miss {α : Type} {p : α → Bool} {l : List α} (h : ∀ i, (hi : i < l.length) → p l[i] = false) : idxL p l = -1 := by
 unfold idxL
 have ha : l.any p = false := by
  rw [List.any_eq_false]
  intro x hx
  obtain ⟨i, hi, rfl⟩ := List.getElem_of_mem hx
  simp [h i hi]
 rw [ha]
 rfl
set_option maxRecDepth 10000 in
set_option maxHeartbeats 2000000 in
theorem variable_ok : FsOk Try.prog 95 variableS := by
 refine of_Y1 (E := EqT.no _) (F := Ft.no.put 82 lexOneS) vS (fun _ _ => aStr_le) Try.func95 rfl (by kernel_rfl) [.tmp 2] rfl Try.ntmps95 (by decide) ((FtOk.no _).put lexOne_ok) ?_
 intro s h n hp hok
 have hv := var_law s
 repeat' (first | (with_reducible first | refine XG_split (fun hq => ?_) (fun hq => ?_) | refine MX1.of 4000 (by simp) ?_ | refine MX2.of 4000 (by simp) ?_ | refine And.intro ?_ ?_) | ((with_reducible first | refine Or.inl (And.intro (And.intro mixedP ?_) ?_) | refine Or.inl (And.intro mixedP ?_)); kernel_rfl) | simp only [go_sem,Nat.reduceEqDiff,Nat.reduceAdd,Nat.reduceMul,Nat.reduceLeDiff,Int.reduceBEq,Tok.av])
 all_goals first | exact ⟨hp, Int.le_refl _⟩ | skip
 all_goals first | omega | (unfold maxLen; omega) | (right; omega) | (left; simp; done) | (simp only [wk3,wkL2,wk2,wkL,wk1_d,wk1_own,wk1_nil,and_self]; done) | (intro i hi; simp only [upd]; (repeat' split); all_goals first | rfl | omega) | skip
 all_goals (refine wk_v (congrArg Value.bool ?_); rw [← hv]; simp [*])
set_option maxRecDepth 10000 in
set_option maxHeartbeats 2000000 in
theorem pterm_ok : FsOk Try.prog 76 ptermS := by
 refine of_Y1 (E := eqTV) (F := (Ft.no.put 95 variableS).put 96 goodS) Term.av (fun _ _ => aTerm_le) Try.func76 rfl (by kernel_rfl) [.tmp 2] rfl Try.ntmps76 (by decide) (((FtOk.no _).put variable_ok).put good_ok) ?_
 intro t h n hp hok
 cases hv : t.var.size == 0 with
 | true =>
   have hT : termB t = goodV t.val := by unfold termB; rw [if_neg (by have := beq_iff_eq.1 hv; omega)]
   repeat' (first | (with_reducible first | refine XG_split (fun hq => ?_) (fun hq => ?_) | refine MX1.of 4000 (by simp) ?_ | refine MX2.of 4000 (by simp) ?_ | refine And.intro ?_ ?_) | ((with_reducible first | refine Or.inl (And.intro (And.intro mixedP ?_) ?_) | refine Or.inl (And.intro mixedP ?_)); kernel_rfl) | simp only [go_sem,Nat.reduceEqDiff,Nat.reduceAdd,Nat.reduceMul,Nat.reduceLeDiff,Int.reduceBEq,Term.av,empty_str,hv,hT,cvals,cval])
   all_goals first | omega | (unfold maxLen; omega) | (right; omega) | (left; simp; done) | (simp only [wk3,wkL2,wk2,wkL,wk1_d,wk1_own,wk1_nil,and_self]; done) | (intro i hi; simp only [upd]; (repeat' split); all_goals first | rfl | omega) | skip
 | false =>
   have hT : termB t = (varB t.var && (t.val.sym.size == 0 && t.val.num == 0)) := by unfold termB; rw [if_pos (by have := beq_eq_false_iff_ne.1 hv; omega)]
   cases hw : (t.val.sym.size == 0 && t.val.num == 0) with
   | true =>
     repeat' (first | (with_reducible first | refine XG_split (fun hq => ?_) (fun hq => ?_) | refine MX1.of 4000 (by simp) ?_ | refine MX2.of 4000 (by simp) ?_ | refine And.intro ?_ ?_) | ((with_reducible first | refine Or.inl (And.intro (And.intro mixedP ?_) ?_) | refine Or.inl (And.intro mixedP ?_)); kernel_rfl) | simp only [go_sem,Nat.reduceEqDiff,Nat.reduceAdd,Nat.reduceMul,Nat.reduceLeDiff,Int.reduceBEq,Term.av,empty_str,hv,hT,hw,cvals,cval,Bool.and_true,Bool.and_false])
     all_goals first | exact hp | skip
     all_goals first | omega | (unfold maxLen; omega) | (right; omega) | (left; simp; done) | (simp only [wk3,wkL2,wk2,wkL,wk1_d,wk1_own,wk1_nil,and_self]; done) | (intro i hi; simp only [upd]; (repeat' split); all_goals first | rfl | omega) | skip
   | false =>
     repeat' (first | (with_reducible first | refine XG_split (fun hq => ?_) (fun hq => ?_) | refine MX1.of 4000 (by simp) ?_ | refine MX2.of 4000 (by simp) ?_ | refine And.intro ?_ ?_) | ((with_reducible first | refine Or.inl (And.intro (And.intro mixedP ?_) ?_) | refine Or.inl (And.intro mixedP ?_)); kernel_rfl) | simp only [go_sem,Nat.reduceEqDiff,Nat.reduceAdd,Nat.reduceMul,Nat.reduceLeDiff,Int.reduceBEq,Term.av,empty_str,hv,hT,hw,cvals,cval,Bool.and_true,Bool.and_false])
     all_goals first | omega | (unfold maxLen; omega) | (right; omega) | (left; simp; done) | (simp only [wk3,wkL2,wk2,wkL,wk1_d,wk1_own,wk1_nil,and_self]; done) | (intro i hi; simp only [upd]; (repeat' split); all_goals first | rfl | omega) | skip
set_option maxRecDepth 10000 in
set_option maxHeartbeats 2000000 in
theorem notTerm_ok : FsOk Try.prog 79 notTermS := by
 refine of_Y1 (E := EqT.no _) (F := Ft.no.put 76 ptermS) Term.av (fun _ _ => aTerm_le) Try.func79 rfl (by kernel_rfl) [.tmp 2] rfl Try.ntmps79 (by decide) ((FtOk.no _).put pterm_ok) ?_
 intro t h n hp hok
 repeat' (first | (with_reducible first | refine XG_split (fun hq => ?_) (fun hq => ?_) | refine MX1.of 4000 (by simp) ?_ | refine MX2.of 4000 (by simp) ?_ | refine And.intro ?_ ?_) | ((with_reducible first | refine Or.inl (And.intro (And.intro mixedP ?_) ?_) | refine Or.inl (And.intro mixedP ?_)); kernel_rfl) | simp only [go_sem,Nat.reduceEqDiff,Nat.reduceAdd,Nat.reduceMul,Nat.reduceLeDiff,Int.reduceBEq,Term.av])
 all_goals first | exact hp | skip
 all_goals first | omega | (unfold maxLen; omega) | (right; omega) | (left; simp; done) | (simp only [wk3,wkL2,wk2,wkL,wk1_d,wk1_own,wk1_nil,and_self]; done) | (intro i hi; simp only [upd]; (repeat' split); all_goals first | rfl | omega) | skip
set_option maxRecDepth 10000 in
set_option maxHeartbeats 2000000 in
theorem idxTerm_ok : FsOk Try.prog 97 idxTermS := by
 refine of_Y2 (E := EqT.no _) (F := Ft.no.put 79 notTermS) (fun l => .d (.sl 3 (l.map Term.cells))) (fun _ => .fn (.func 79) [] []) (fun _ _ => aTerms_le) (fun _ _ => aFn_le) Try.func97 rfl (by kernel_rfl) [.tmp 4] rfl Try.ntmps97 (by decide) ((FtOk.no _).put notTerm_ok) ?_
 intro l u h n hp hok
 obtain ⟨hl, hsz⟩ := hp
 repeat' (first | (with_reducible first | refine XG_split (fun hq => ?_) (fun hq => ?_) | refine MX1.of 4000 (by simp) ?_ | refine MX2.of 4000 (by simp) ?_ | refine And.intro ?_ ?_) | ((with_reducible first | refine Or.inl (And.intro (And.intro mixedP ?_) ?_) | refine Or.inl (And.intro mixedP ?_)); kernel_rfl) | simp only [go_sem,Nat.reduceEqDiff,Nat.reduceAdd,Nat.reduceMul,Nat.reduceLeDiff,Int.reduceBEq])
 all_goals first | omega | (unfold maxLen; omega) | (right; omega) | (left; simp; done) | (simp only [wk3,wkL2,wk2,wkL,wk1_d,wk1_own,wk1_nil,and_self]; done) | (intro i hi; simp only [upd]; (repeat' split); all_goals first | rfl | omega) | skip
 refine AW.loopJ (E := EqT.no _) (S := fun k : Nat => ⟨fr [(0, .d (.sl 3 (l.map Term.cells))), (1, .fn (.func 79) [] []), (7, vI l.length), (8, vI k)] (List.replicate 19 .any), h, n, n⟩) (I := fun k => k ≤ l.length ∧ ∀ i, (hi : i < k) → (hl : i < l.length) → (!termB l[i]) = false) (μ := fun k => l.length - k) 0 ⟨Nat.zero_le _, fun i hi => absurd hi (Nat.not_lt_zero i)⟩ ?_ 4000 (fun _ => by simp only [fr_len, List.length_replicate]; decide) ?_
 · exact Wk.same (by simp only [go_sem]) hok (Nat.le_refl _) (by simp only [go_sem])
 · rintro k ⟨hk, hA⟩
   rcases Nat.lt_or_ge k l.length with hkl | hkl
   · have hs := hsz _ (List.getElem_mem hkl)
     cases hq : !termB l[k] with
     | true =>
       have hR := idx_hit (p := fun t => !termB t) hkl hq fun i hi => hA i hi (by omega)
       repeat' (first | (with_reducible first | refine XG_split (fun hq => ?_) (fun hq => ?_) | refine MX1.of 4000 (by simp) ?_ | refine MX2.of 4000 (by simp) ?_ | refine And.intro ?_ ?_) | ((with_reducible first | refine Or.inl (And.intro (And.intro mixedP ?_) ?_) | refine Or.inl (And.intro mixedP ?_)); kernel_rfl) | simp only [go_sem,Nat.reduceEqDiff,Nat.reduceAdd,Nat.reduceMul,Nat.reduceLeDiff,Int.reduceBEq,decide_eq_true hkl,List.getElem?_eq_getElem hkl,hq,hR,Term.av,Lit.av])
       all_goals first | exact hs | skip
       all_goals first | omega | (unfold maxLen; omega) | (right; omega) | (left; simp; done) | (simp only [wk3,wkL2,wk2,wkL,wk1_d,wk1_own,wk1_nil,and_self]; done) | (intro i hi; simp only [upd]; (repeat' split); all_goals first | rfl | omega) | skip
     | false =>
       repeat' (first | (with_reducible first | refine XG_split (fun hq => ?_) (fun hq => ?_) | refine MX1.of 4000 (by simp) ?_ | refine MX2.of 4000 (by simp) ?_ | refine And.intro ?_ ?_) | ((with_reducible first | refine Or.inl (And.intro (And.intro mixedP ?_) ?_) | refine Or.inl (And.intro mixedP ?_)); kernel_rfl) | simp only [go_sem,Nat.reduceEqDiff,Nat.reduceAdd,Nat.reduceMul,Nat.reduceLeDiff,Int.reduceBEq,decide_eq_true hkl,List.getElem?_eq_getElem hkl,hq,Term.av,Lit.av])
       all_goals first | exact hs | skip
       all_goals first | omega | (unfold maxLen; omega) | (right; omega) | (left; simp; done) | (simp only [wk3,wkL2,wk2,wkL,wk1_d,wk1_own,wk1_nil,and_self]; done) | (intro i hi; simp only [upd]; (repeat' split); all_goals first | rfl | omega) | skip
       refine ⟨k + 1, ⟨hkl, fun i hi hil => ?_⟩, Wk.same (by simp only [go_sem]) hok (Nat.le_refl _) (by simp only [go_sem]), by omega⟩
       rcases Nat.lt_or_ge i k with h' | h'
       · exact hA i h' hil
       · obtain rfl : i = k := by omega
         exact hq
   · have hR := idx_miss (p := fun t => !termB t) (l := l) fun i hi => hA i (by omega) hi
     repeat' (first | (with_reducible first | refine XG_split (fun hq => ?_) (fun hq => ?_) | refine MX1.of 4000 (by simp) ?_ | refine MX2.of 4000 (by simp) ?_ | refine And.intro ?_ ?_) | ((with_reducible first | refine Or.inl (And.intro (And.intro mixedP ?_) ?_) | refine Or.inl (And.intro mixedP ?_)); kernel_rfl) | simp only [go_sem,Nat.reduceEqDiff,Nat.reduceAdd,Nat.reduceMul,Nat.reduceLeDiff,Int.reduceBEq,decide_eq_false (Nat.not_lt.2 hkl),hR])
     all_goals first | omega | (unfold maxLen; omega) | (right; omega) | (left; simp; done) | (simp only [wk3,wkL2,wk2,wkL,wk1_d,wk1_own,wk1_nil,and_self]; done) | (intro i hi; simp only [upd]; (repeat' split); all_goals first | rfl | omega) | skip
set_option maxRecDepth 10000 in
set_option maxHeartbeats 2000000 in
theorem hasTerm_ok : FsOk Try.prog 78 hasTermS := by
 refine of_Y2 (E := EqT.no _) (F := Ft.no.put 97 idxTermS) (fun l => .d (.sl 3 (l.map Term.cells))) (fun _ => .fn (.func 79) [] []) (fun _ _ => aTerms_le) (fun _ _ => aFn_le) Try.func78 rfl (by kernel_rfl) [.tmp 4] rfl Try.ntmps78 (by decide) ((FtOk.no _).put idxTerm_ok) ?_
 intro l u h n hp hok
 repeat' (first | (with_reducible first | refine XG_split (fun hq => ?_) (fun hq => ?_) | refine MX1.of 4000 (by simp) ?_ | refine MX2.of 4000 (by simp) ?_ | refine And.intro ?_ ?_) | ((with_reducible first | refine Or.inl (And.intro (And.intro mixedP ?_) ?_) | refine Or.inl (And.intro mixedP ?_)); kernel_rfl) | simp only [go_sem,Nat.reduceEqDiff,Nat.reduceAdd,Nat.reduceMul,Nat.reduceLeDiff,Int.reduceBEq,aFn_self,idx_ge])
 all_goals first | exact hp | exact hp.1 | exact hp.2 | skip
 all_goals first | omega | (unfold maxLen; omega) | (right; omega) | (left; simp; done) | (simp only [wk3,wkL2,wk2,wkL,wk1_d,wk1_own,wk1_nil,and_self]; done) | (intro i hi; simp only [upd]; (repeat' split); all_goals first | rfl | omega) | skip
set_option maxRecDepth 10000 in
set_option maxHeartbeats 2000000 in
theorem patom_ok : FsOk Try.prog 54 patomS := by
 refine of_Y1 (E := EqT.no _) (F := ((Ft.no.put 77 nameS).put 76 ptermS).put 78 hasTermS) Lit.av (fun _ _ => aLit_le) Try.func54 rfl (by kernel_rfl) [.tmp 2] rfl Try.ntmps54 (by decide) ((((FtOk.no _).put name_ok).put pterm_ok).put hasTerm_ok) ?_
 intro l h n hp hok
 obtain ⟨hw, hl, ha⟩ := hp
 have hany : (!(l.args.any fun t => !termB t)) = termsB l.args := by
  unfold termsB
  rw [List.all_eq_not_any_not]
 cases hN : nameB l.pred with
 | false =>
   have hS : saidB l = false := by unfold saidB; rw [hN]; simp
   repeat' (first | (with_reducible first | refine XG_split (fun hq => ?_) (fun hq => ?_) | refine MX1.of 4000 (by simp) ?_ | refine MX2.of 4000 (by simp) ?_ | refine And.intro ?_ ?_) | ((with_reducible first | refine Or.inl (And.intro (And.intro mixedP ?_) ?_) | refine Or.inl (And.intro mixedP ?_)); kernel_rfl) | simp only [go_sem,Nat.reduceEqDiff,Nat.reduceAdd,Nat.reduceMul,Nat.reduceLeDiff,Int.reduceBEq,Lit.av,empty_str,aFn_self,hN,hS])
   all_goals first | omega | (unfold maxLen; omega) | (right; omega) | (left; simp; done) | (simp only [wk3,wkL2,wk2,wkL,wk1_d,wk1_own,wk1_nil,and_self]; done) | (intro i hi; simp only [upd]; (repeat' split); all_goals first | rfl | omega) | skip
 | true =>
   cases h4 : decide (4 < l.args.length) with
   | true =>
     have hS : saidB l = false := by
      have : decide (l.args.length ≤ 4) = false := decide_eq_false (by have := of_decide_eq_true h4; omega)
      unfold saidB
      rw [this]
      simp
     repeat' (first | (with_reducible first | refine XG_split (fun hq => ?_) (fun hq => ?_) | refine MX1.of 4000 (by simp) ?_ | refine MX2.of 4000 (by simp) ?_ | refine And.intro ?_ ?_) | ((with_reducible first | refine Or.inl (And.intro (And.intro mixedP ?_) ?_) | refine Or.inl (And.intro mixedP ?_)); kernel_rfl) | simp only [go_sem,Nat.reduceEqDiff,Nat.reduceAdd,Nat.reduceMul,Nat.reduceLeDiff,Int.reduceBEq,Lit.av,empty_str,aFn_self,hN,h4,hS])
     all_goals first | omega | (unfold maxLen; omega) | (right; omega) | (left; simp; done) | (simp only [wk3,wkL2,wk2,wkL,wk1_d,wk1_own,wk1_nil,and_self]; done) | (intro i hi; simp only [upd]; (repeat' split); all_goals first | rfl | omega) | skip
   | false =>
     have h4' : decide (l.args.length ≤ 4) = true := decide_eq_true (by have := of_decide_eq_false h4; omega)
     have hS : saidB l = ((ownT l.who || termB l.who && (decide (0 < l.who.var.size) || decide (0 < l.who.val.sym.size))) && termsB l.args) := by
      unfold saidB
      rw [hN, h4', Bool.and_true, Bool.and_true]
     cases hv : l.who.var.size == 0 with
     | false =>
       have hv0 : ¬ l.who.var.size = 0 := beq_eq_false_iff_ne.1 hv
       have hS2 : saidB l = (termB l.who && termsB l.args) := by
        rw [hS]
        have e1 : ownT l.who = false := by unfold ownT; rw [hv]; rfl
        have e2 : decide (0 < l.who.var.size) = true := decide_eq_true (by omega)
        rw [e1, e2]
        simp
       cases ht : termB l.who with
       | false =>
         rw [ht, Bool.false_and] at hS2
         repeat' (first | (with_reducible first | refine XG_split (fun hq => ?_) (fun hq => ?_) | refine MX1.of 4000 (by simp) ?_ | refine MX2.of 4000 (by simp) ?_ | refine And.intro ?_ ?_) | ((with_reducible first | refine Or.inl (And.intro (And.intro mixedP ?_) ?_) | refine Or.inl (And.intro mixedP ?_)); kernel_rfl) | simp only [go_sem,Nat.reduceEqDiff,Nat.reduceAdd,Nat.reduceMul,Nat.reduceLeDiff,Int.reduceBEq,Lit.av,empty_str,aFn_self,hN,h4,hv,ht,hS2,hany])
         all_goals first | exact hw | exact ha | skip
         all_goals first | omega | (unfold maxLen; omega) | (right; omega) | (left; simp; done) | (simp only [wk3,wkL2,wk2,wkL,wk1_d,wk1_own,wk1_nil,and_self]; done) | (intro i hi; simp only [upd]; (repeat' split); all_goals first | rfl | omega) | skip
       | true =>
         rw [ht, Bool.true_and] at hS2
         repeat' (first | (with_reducible first | refine XG_split (fun hq => ?_) (fun hq => ?_) | refine MX1.of 4000 (by simp) ?_ | refine MX2.of 4000 (by simp) ?_ | refine And.intro ?_ ?_) | ((with_reducible first | refine Or.inl (And.intro (And.intro mixedP ?_) ?_) | refine Or.inl (And.intro mixedP ?_)); kernel_rfl) | simp only [go_sem,Nat.reduceEqDiff,Nat.reduceAdd,Nat.reduceMul,Nat.reduceLeDiff,Int.reduceBEq,Lit.av,empty_str,aFn_self,hN,h4,hv,ht,hS2,hany])
         all_goals first | exact hw | exact ha | skip
         all_goals first | omega | (unfold maxLen; omega) | (right; omega) | (left; simp; done) | (simp only [wk3,wkL2,wk2,wkL,wk1_d,wk1_own,wk1_nil,and_self]; done) | (intro i hi; simp only [upd]; (repeat' split); all_goals first | rfl | omega) | skip
     | true =>
       have hv0 : l.who.var.size = 0 := beq_iff_eq.1 hv
       have e2 : decide (0 < l.who.var.size) = false := decide_eq_false (by omega)
       have ht : termB l.who = goodV l.who.val := by unfold termB; rw [if_neg (by omega)]
       cases hs : l.who.val.sym.size == 0 with
       | false =>
         have hs0 : ¬ l.who.val.sym.size = 0 := beq_eq_false_iff_ne.1 hs
         have hS2 : saidB l = (goodV l.who.val && termsB l.args) := by
          rw [hS]
          have e1 : ownT l.who = false := by unfold ownT; rw [hs, Bool.and_false]; rfl
          have e3 : decide (0 < l.who.val.sym.size) = true := decide_eq_true (by omega)
          rw [e1, e2, e3, ht]
          simp
         cases hg : goodV l.who.val with
         | false =>
           rw [hg, Bool.false_and] at hS2
           repeat' (first | (with_reducible first | refine XG_split (fun hq => ?_) (fun hq => ?_) | refine MX1.of 4000 (by simp) ?_ | refine MX2.of 4000 (by simp) ?_ | refine And.intro ?_ ?_) | ((with_reducible first | refine Or.inl (And.intro (And.intro mixedP ?_) ?_) | refine Or.inl (And.intro mixedP ?_)); kernel_rfl) | simp only [go_sem,Nat.reduceEqDiff,Nat.reduceAdd,Nat.reduceMul,Nat.reduceLeDiff,Int.reduceBEq,Lit.av,empty_str,aFn_self,hN,h4,hv,hs,ht,hg,hS2,hany])
           all_goals first | exact hw | exact ha | skip
           all_goals first | omega | (unfold maxLen; omega) | (right; omega) | (left; simp; done) | (simp only [wk3,wkL2,wk2,wkL,wk1_d,wk1_own,wk1_nil,and_self]; done) | (intro i hi; simp only [upd]; (repeat' split); all_goals first | rfl | omega) | skip
         | true =>
           rw [hg, Bool.true_and] at hS2
           repeat' (first | (with_reducible first | refine XG_split (fun hq => ?_) (fun hq => ?_) | refine MX1.of 4000 (by simp) ?_ | refine MX2.of 4000 (by simp) ?_ | refine And.intro ?_ ?_) | ((with_reducible first | refine Or.inl (And.intro (And.intro mixedP ?_) ?_) | refine Or.inl (And.intro mixedP ?_)); kernel_rfl) | simp only [go_sem,Nat.reduceEqDiff,Nat.reduceAdd,Nat.reduceMul,Nat.reduceLeDiff,Int.reduceBEq,Lit.av,empty_str,aFn_self,hN,h4,hv,hs,ht,hg,hS2,hany])
           all_goals first | exact hw | exact ha | skip
           all_goals first | omega | (unfold maxLen; omega) | (right; omega) | (left; simp; done) | (simp only [wk3,wkL2,wk2,wkL,wk1_d,wk1_own,wk1_nil,and_self]; done) | (intro i hi; simp only [upd]; (repeat' split); all_goals first | rfl | omega) | skip
       | true =>
         have hg : goodV l.who.val = true := by unfold goodV; rw [hs]; rfl
         have e3 : decide (0 < l.who.val.sym.size) = false := decide_eq_false (by have := beq_iff_eq.1 hs; omega)
         have hS2 : saidB l = (l.who.val.num == 0 && termsB l.args) := by
          rw [hS]
          unfold ownT
          rw [hv, hs, e2, e3]
          simp
         cases hn : l.who.val.num == 0 with
         | false =>
           rw [hn, Bool.false_and] at hS2
           have hn' : (l.who.val.num != 0) = true := by simp only [bne, hn]; rfl
           repeat' (first | (with_reducible first | refine XG_split (fun hq => ?_) (fun hq => ?_) | refine MX1.of 4000 (by simp) ?_ | refine MX2.of 4000 (by simp) ?_ | refine And.intro ?_ ?_) | ((with_reducible first | refine Or.inl (And.intro (And.intro mixedP ?_) ?_) | refine Or.inl (And.intro mixedP ?_)); kernel_rfl) | simp only [go_sem,Nat.reduceEqDiff,Nat.reduceAdd,Nat.reduceMul,Nat.reduceLeDiff,Int.reduceBEq,Lit.av,empty_str,aFn_self,hN,h4,hv,hs,ht,hg,hn',hS2,hany])
           all_goals first | exact hw | exact ha | skip
           all_goals first | omega | (unfold maxLen; omega) | (right; omega) | (left; simp; done) | (simp only [wk3,wkL2,wk2,wkL,wk1_d,wk1_own,wk1_nil,and_self]; done) | (intro i hi; simp only [upd]; (repeat' split); all_goals first | rfl | omega) | skip
         | true =>
           rw [hn, Bool.true_and] at hS2
           have hn' : (l.who.val.num != 0) = false := by simp only [bne, hn]; rfl
           repeat' (first | (with_reducible first | refine XG_split (fun hq => ?_) (fun hq => ?_) | refine MX1.of 4000 (by simp) ?_ | refine MX2.of 4000 (by simp) ?_ | refine And.intro ?_ ?_) | ((with_reducible first | refine Or.inl (And.intro (And.intro mixedP ?_) ?_) | refine Or.inl (And.intro mixedP ?_)); kernel_rfl) | simp only [go_sem,Nat.reduceEqDiff,Nat.reduceAdd,Nat.reduceMul,Nat.reduceLeDiff,Int.reduceBEq,Lit.av,empty_str,aFn_self,hN,h4,hv,hs,ht,hg,hn',hS2,hany])
           all_goals first | exact hw | exact ha | skip
           all_goals first | omega | (unfold maxLen; omega) | (right; omega) | (left; simp; done) | (simp only [wk3,wkL2,wk2,wkL,wk1_d,wk1_own,wk1_nil,and_self]; done) | (intro i hi; simp only [upd]; (repeat' split); all_goals first | rfl | omega) | skip
set_option maxRecDepth 10000 in
set_option maxHeartbeats 2000000 in
theorem pliteral_ok : FsOk Try.prog 53 pliteralS := by
 refine of_Y1 (E := eqTV) (F := (Ft.no.put 54 patomS).put 76 ptermS) Lit.av (fun _ _ => aLit_le) Try.func53 rfl (by kernel_rfl) [.tmp 2] rfl Try.ntmps53 (by decide) (((FtOk.no _).put patom_ok).put pterm_ok) ?_
 intro l h n hp hok
 have hp' := hp
 obtain ⟨hw, hl, ha⟩ := hp
 by_cases k1 : l.kind = 1
 · have hS : literalB l = saidB l := by unfold literalB; rw [k1]; rfl
   have c1 : (l.kind == 1) = true := by simp [k1]
   repeat' (first | (with_reducible first | refine XG_split (fun hq => ?_) (fun hq => ?_) | refine MX1.of 4000 (by simp) ?_ | refine MX2.of 4000 (by simp) ?_ | refine And.intro ?_ ?_) | ((with_reducible first | refine Or.inl (And.intro (And.intro mixedP ?_) ?_) | refine Or.inl (And.intro mixedP ?_)); kernel_rfl) | simp only [go_sem,Nat.reduceEqDiff,Nat.reduceAdd,Nat.reduceMul,Nat.reduceLeDiff,Int.reduceBEq,Lit.av,empty_str,cvals,cval,c1,hS])
   all_goals first | exact hp' | skip
   all_goals first | omega | (unfold maxLen; omega) | (right; omega) | (left; simp; done) | (simp only [wk3,wkL2,wk2,wkL,wk1_d,wk1_own,wk1_nil,and_self]; done) | (intro i hi; simp only [upd]; (repeat' split); all_goals first | rfl | omega) | skip
 by_cases k2 : l.kind = 2
 · have hS : literalB l = saidB l := by unfold literalB; rw [k2]; rfl
   have c1 : (l.kind == 1) = false := by simp [k1]
   have c2 : (l.kind == 2) = true := by simp [k2]
   repeat' (first | (with_reducible first | refine XG_split (fun hq => ?_) (fun hq => ?_) | refine MX1.of 4000 (by simp) ?_ | refine MX2.of 4000 (by simp) ?_ | refine And.intro ?_ ?_) | ((with_reducible first | refine Or.inl (And.intro (And.intro mixedP ?_) ?_) | refine Or.inl (And.intro mixedP ?_)); kernel_rfl) | simp only [go_sem,Nat.reduceEqDiff,Nat.reduceAdd,Nat.reduceMul,Nat.reduceLeDiff,Int.reduceBEq,Lit.av,empty_str,cvals,cval,c1,c2,hS])
   all_goals first | exact hp' | skip
   all_goals first | omega | (unfold maxLen; omega) | (right; omega) | (left; simp; done) | (simp only [wk3,wkL2,wk2,wkL,wk1_d,wk1_own,wk1_nil,and_self]; done) | (intro i hi; simp only [upd]; (repeat' split); all_goals first | rfl | omega) | skip
 have c1 : (l.kind == 1) = false := by simp [k1]
 have c2 : (l.kind == 2) = false := by simp [k2]
 by_cases k34 : l.kind = 3 ∨ l.kind = 4
 · have hS : literalB l = (l.pred.size == 0 && ownT l.who && l.args.length == 2 && termsB l.args) := by
    unfold literalB
    rw [c1, c2]
    rcases k34 with k | k <;> rw [k] <;> simp
   have hk : (l.kind == 3) = true ∨ (l.kind == 3) = false ∧ (l.kind == 4) = true := by
    rcases k34 with k | k
    · left; rw [k]; rfl
    · right; rw [k]; exact ⟨rfl, rfl⟩
   have hown : (l.who.var.size == 0 && (l.who.val.sym.size == 0 && l.who.val.num == 0)) = ownT l.who := by unfold ownT; rw [Bool.and_assoc]
   cases hpr : l.pred.size == 0 with
   | false =>
     rw [hpr] at hS
     simp only [Bool.false_and] at hS
     rcases hk with hk | ⟨hk, hk'⟩
     · repeat' (first | (with_reducible first | refine XG_split (fun hq => ?_) (fun hq => ?_) | refine MX1.of 4000 (by simp) ?_ | refine MX2.of 4000 (by simp) ?_ | refine And.intro ?_ ?_) | ((with_reducible first | refine Or.inl (And.intro (And.intro mixedP ?_) ?_) | refine Or.inl (And.intro mixedP ?_)); kernel_rfl) | simp only [go_sem,Nat.reduceEqDiff,Nat.reduceAdd,Nat.reduceMul,Nat.reduceLeDiff,Int.reduceBEq,Lit.av,empty_str,cvals,cval,c1,c2,hk,hpr,hS])
       all_goals first | omega | (unfold maxLen; omega) | (right; omega) | (left; simp; done) | (simp only [wk3,wkL2,wk2,wkL,wk1_d,wk1_own,wk1_nil,and_self]; done) | (intro i hi; simp only [upd]; (repeat' split); all_goals first | rfl | omega) | skip
     · repeat' (first | (with_reducible first | refine XG_split (fun hq => ?_) (fun hq => ?_) | refine MX1.of 4000 (by simp) ?_ | refine MX2.of 4000 (by simp) ?_ | refine And.intro ?_ ?_) | ((with_reducible first | refine Or.inl (And.intro (And.intro mixedP ?_) ?_) | refine Or.inl (And.intro mixedP ?_)); kernel_rfl) | simp only [go_sem,Nat.reduceEqDiff,Nat.reduceAdd,Nat.reduceMul,Nat.reduceLeDiff,Int.reduceBEq,Lit.av,empty_str,cvals,cval,c1,c2,hk,hk',hpr,hS])
       all_goals first | omega | (unfold maxLen; omega) | (right; omega) | (left; simp; done) | (simp only [wk3,wkL2,wk2,wkL,wk1_d,wk1_own,wk1_nil,and_self]; done) | (intro i hi; simp only [upd]; (repeat' split); all_goals first | rfl | omega) | skip
   | true =>
     cases ho : ownT l.who with
     | false =>
       rw [ho] at hS hown
       simp only [Bool.and_false, Bool.false_and] at hS
       rcases hk with hk | ⟨hk, hk'⟩
       · repeat' (first | (with_reducible first | refine XG_split (fun hq => ?_) (fun hq => ?_) | refine MX1.of 4000 (by simp) ?_ | refine MX2.of 4000 (by simp) ?_ | refine And.intro ?_ ?_) | ((with_reducible first | refine Or.inl (And.intro (And.intro mixedP ?_) ?_) | refine Or.inl (And.intro mixedP ?_)); kernel_rfl) | simp only [go_sem,Nat.reduceEqDiff,Nat.reduceAdd,Nat.reduceMul,Nat.reduceLeDiff,Int.reduceBEq,Lit.av,empty_str,cvals,cval,c1,c2,hk,hpr,hown,hS])
         all_goals first | omega | (unfold maxLen; omega) | (right; omega) | (left; simp; done) | (simp only [wk3,wkL2,wk2,wkL,wk1_d,wk1_own,wk1_nil,and_self]; done) | (intro i hi; simp only [upd]; (repeat' split); all_goals first | rfl | omega) | skip
       · repeat' (first | (with_reducible first | refine XG_split (fun hq => ?_) (fun hq => ?_) | refine MX1.of 4000 (by simp) ?_ | refine MX2.of 4000 (by simp) ?_ | refine And.intro ?_ ?_) | ((with_reducible first | refine Or.inl (And.intro (And.intro mixedP ?_) ?_) | refine Or.inl (And.intro mixedP ?_)); kernel_rfl) | simp only [go_sem,Nat.reduceEqDiff,Nat.reduceAdd,Nat.reduceMul,Nat.reduceLeDiff,Int.reduceBEq,Lit.av,empty_str,cvals,cval,c1,c2,hk,hk',hpr,hown,hS])
         all_goals first | omega | (unfold maxLen; omega) | (right; omega) | (left; simp; done) | (simp only [wk3,wkL2,wk2,wkL,wk1_d,wk1_own,wk1_nil,and_self]; done) | (intro i hi; simp only [upd]; (repeat' split); all_goals first | rfl | omega) | skip
     | true =>
       rw [ho] at hown
       rw [hpr, ho] at hS
       cases h2 : l.args.length == 2 with
       | false =>
         rw [h2] at hS
         simp only [Bool.and_false, Bool.false_and] at hS
         rcases hk with hk | ⟨hk, hk'⟩
         · repeat' (first | (with_reducible first | refine XG_split (fun hq => ?_) (fun hq => ?_) | refine MX1.of 4000 (by simp) ?_ | refine MX2.of 4000 (by simp) ?_ | refine And.intro ?_ ?_) | ((with_reducible first | refine Or.inl (And.intro (And.intro mixedP ?_) ?_) | refine Or.inl (And.intro mixedP ?_)); kernel_rfl) | simp only [go_sem,Nat.reduceEqDiff,Nat.reduceAdd,Nat.reduceMul,Nat.reduceLeDiff,Int.reduceBEq,Lit.av,empty_str,cvals,cval,c1,c2,hk,hpr,hown,h2,hS])
           all_goals first | omega | (unfold maxLen; omega) | (right; omega) | (left; simp; done) | (simp only [wk3,wkL2,wk2,wkL,wk1_d,wk1_own,wk1_nil,and_self]; done) | (intro i hi; simp only [upd]; (repeat' split); all_goals first | rfl | omega) | skip
         · repeat' (first | (with_reducible first | refine XG_split (fun hq => ?_) (fun hq => ?_) | refine MX1.of 4000 (by simp) ?_ | refine MX2.of 4000 (by simp) ?_ | refine And.intro ?_ ?_) | ((with_reducible first | refine Or.inl (And.intro (And.intro mixedP ?_) ?_) | refine Or.inl (And.intro mixedP ?_)); kernel_rfl) | simp only [go_sem,Nat.reduceEqDiff,Nat.reduceAdd,Nat.reduceMul,Nat.reduceLeDiff,Int.reduceBEq,Lit.av,empty_str,cvals,cval,c1,c2,hk,hk',hpr,hown,h2,hS])
           all_goals first | omega | (unfold maxLen; omega) | (right; omega) | (left; simp; done) | (simp only [wk3,wkL2,wk2,wkL,wk1_d,wk1_own,wk1_nil,and_self]; done) | (intro i hi; simp only [upd]; (repeat' split); all_goals first | rfl | omega) | skip
       | true =>
         rw [h2] at hS
         simp only [Bool.true_and] at hS
         obtain ⟨a, b, hab⟩ : ∃ a b, l.args = [a, b] := by
          have := beq_iff_eq.1 h2
          match l.args, this with
          | [a, b], _ => exact ⟨a, b, rfl⟩
         rw [hab] at hS
         have hSa : termsB [a, b] = (termB a && termB b) := by unfold termsB; simp
         rw [hSa] at hS
         have sa : szT a := ha a (by rw [hab]; simp)
         have sb : szT b := ha b (by rw [hab]; simp)
         cases hta : termB a with
         | false =>
           rw [hta, Bool.false_and] at hS
           rcases hk with hk | ⟨hk, hk'⟩
           · repeat' (first | (with_reducible first | refine XG_split (fun hq => ?_) (fun hq => ?_) | refine MX1.of 4000 (by simp) ?_ | refine MX2.of 4000 (by simp) ?_ | refine And.intro ?_ ?_) | ((with_reducible first | refine Or.inl (And.intro (And.intro mixedP ?_) ?_) | refine Or.inl (And.intro mixedP ?_)); kernel_rfl) | simp only [go_sem,Nat.reduceEqDiff,Nat.reduceAdd,Nat.reduceMul,Nat.reduceLeDiff,Int.reduceBEq,Lit.av,empty_str,cvals,cval,c1,c2,hk,hpr,hown,hab,hta,hS,Term.av])
             all_goals first | exact sa | exact sb | skip
             all_goals first | omega | (unfold maxLen; omega) | (right; omega) | (left; simp; done) | (simp only [wk3,wkL2,wk2,wkL,wk1_d,wk1_own,wk1_nil,and_self]; done) | (intro i hi; simp only [upd]; (repeat' split); all_goals first | rfl | omega) | skip
           · repeat' (first | (with_reducible first | refine XG_split (fun hq => ?_) (fun hq => ?_) | refine MX1.of 4000 (by simp) ?_ | refine MX2.of 4000 (by simp) ?_ | refine And.intro ?_ ?_) | ((with_reducible first | refine Or.inl (And.intro (And.intro mixedP ?_) ?_) | refine Or.inl (And.intro mixedP ?_)); kernel_rfl) | simp only [go_sem,Nat.reduceEqDiff,Nat.reduceAdd,Nat.reduceMul,Nat.reduceLeDiff,Int.reduceBEq,Lit.av,empty_str,cvals,cval,c1,c2,hk,hk',hpr,hown,hab,hta,hS,Term.av])
             all_goals first | exact sa | exact sb | skip
             all_goals first | omega | (unfold maxLen; omega) | (right; omega) | (left; simp; done) | (simp only [wk3,wkL2,wk2,wkL,wk1_d,wk1_own,wk1_nil,and_self]; done) | (intro i hi; simp only [upd]; (repeat' split); all_goals first | rfl | omega) | skip
         | true =>
           rw [hta, Bool.true_and] at hS
           rcases hk with hk | ⟨hk, hk'⟩
           · repeat' (first | (with_reducible first | refine XG_split (fun hq => ?_) (fun hq => ?_) | refine MX1.of 4000 (by simp) ?_ | refine MX2.of 4000 (by simp) ?_ | refine And.intro ?_ ?_) | ((with_reducible first | refine Or.inl (And.intro (And.intro mixedP ?_) ?_) | refine Or.inl (And.intro mixedP ?_)); kernel_rfl) | simp only [go_sem,Nat.reduceEqDiff,Nat.reduceAdd,Nat.reduceMul,Nat.reduceLeDiff,Int.reduceBEq,Lit.av,empty_str,cvals,cval,c1,c2,hk,hpr,hown,hab,hta,hS,Term.av])
             all_goals first | exact sa | exact sb | skip
             all_goals first | omega | (unfold maxLen; omega) | (right; omega) | (left; simp; done) | (simp only [wk3,wkL2,wk2,wkL,wk1_d,wk1_own,wk1_nil,and_self]; done) | (intro i hi; simp only [upd]; (repeat' split); all_goals first | rfl | omega) | skip
           · repeat' (first | (with_reducible first | refine XG_split (fun hq => ?_) (fun hq => ?_) | refine MX1.of 4000 (by simp) ?_ | refine MX2.of 4000 (by simp) ?_ | refine And.intro ?_ ?_) | ((with_reducible first | refine Or.inl (And.intro (And.intro mixedP ?_) ?_) | refine Or.inl (And.intro mixedP ?_)); kernel_rfl) | simp only [go_sem,Nat.reduceEqDiff,Nat.reduceAdd,Nat.reduceMul,Nat.reduceLeDiff,Int.reduceBEq,Lit.av,empty_str,cvals,cval,c1,c2,hk,hk',hpr,hown,hab,hta,hS,Term.av])
             all_goals first | exact sa | exact sb | skip
             all_goals first | omega | (unfold maxLen; omega) | (right; omega) | (left; simp; done) | (simp only [wk3,wkL2,wk2,wkL,wk1_d,wk1_own,wk1_nil,and_self]; done) | (intro i hi; simp only [upd]; (repeat' split); all_goals first | rfl | omega) | skip
 · have c3 : (l.kind == 3) = false := by rw [beq_eq_false_iff_ne]; exact fun e => k34 (.inl e)
   have c4 : (l.kind == 4) = false := by rw [beq_eq_false_iff_ne]; exact fun e => k34 (.inr e)
   have hS : literalB l = false := by unfold literalB; rw [c1, c2, c3, c4]; rfl
   repeat' (first | (with_reducible first | refine XG_split (fun hq => ?_) (fun hq => ?_) | refine MX1.of 4000 (by simp) ?_ | refine MX2.of 4000 (by simp) ?_ | refine And.intro ?_ ?_) | ((with_reducible first | refine Or.inl (And.intro (And.intro mixedP ?_) ?_) | refine Or.inl (And.intro mixedP ?_)); kernel_rfl) | simp only [go_sem,Nat.reduceEqDiff,Nat.reduceAdd,Nat.reduceMul,Nat.reduceLeDiff,Int.reduceBEq,Lit.av,empty_str,cvals,cval,c1,c2,c3,c4,hS])
   all_goals first | omega | (unfold maxLen; omega) | (right; omega) | (left; simp; done) | (simp only [wk3,wkL2,wk2,wkL,wk1_d,wk1_own,wk1_nil,and_self]; done) | (intro i hi; simp only [upd]; (repeat' split); all_goals first | rfl | omega) | skip
set_option maxRecDepth 10000 in
set_option maxHeartbeats 2000000 in
theorem pcheckLit_ok : FsOk Try.prog 25 pcheckLitS := by
 refine of_Y1 (E := EqT.no _) (F := Ft.no.put 54 patomS) Lit.av (fun _ _ => aLit_le) Try.func25 rfl (by kernel_rfl) [.tmp 2] rfl Try.ntmps25 (by decide) ((FtOk.no _).put patom_ok) ?_
 intro l h n hp hok
 cases k1 : l.kind == 1 with
 | true =>
   have hS : checkLitB l = saidB l := by unfold checkLitB; rw [k1]; rfl
   repeat' (first | (with_reducible first | refine XG_split (fun hq => ?_) (fun hq => ?_) | refine MX1.of 4000 (by simp) ?_ | refine MX2.of 4000 (by simp) ?_ | refine And.intro ?_ ?_) | ((with_reducible first | refine Or.inl (And.intro (And.intro mixedP ?_) ?_) | refine Or.inl (And.intro mixedP ?_)); kernel_rfl) | simp only [go_sem,Nat.reduceEqDiff,Nat.reduceAdd,Nat.reduceMul,Nat.reduceLeDiff,Int.reduceBEq,Lit.av,k1,hS])
   all_goals first | exact hp | skip
   all_goals first | omega | (unfold maxLen; omega) | (right; omega) | (left; simp; done) | (simp only [wk3,wkL2,wk2,wkL,wk1_d,wk1_own,wk1_nil,and_self]; done) | (intro i hi; simp only [upd]; (repeat' split); all_goals first | rfl | omega) | skip
 | false =>
   have hS : checkLitB l = false := by unfold checkLitB; rw [k1]; rfl
   repeat' (first | (with_reducible first | refine XG_split (fun hq => ?_) (fun hq => ?_) | refine MX1.of 4000 (by simp) ?_ | refine MX2.of 4000 (by simp) ?_ | refine And.intro ?_ ?_) | ((with_reducible first | refine Or.inl (And.intro (And.intro mixedP ?_) ?_) | refine Or.inl (And.intro mixedP ?_)); kernel_rfl) | simp only [go_sem,Nat.reduceEqDiff,Nat.reduceAdd,Nat.reduceMul,Nat.reduceLeDiff,Int.reduceBEq,Lit.av,k1,hS])
   all_goals first | exact hp | skip
   all_goals first | omega | (unfold maxLen; omega) | (right; omega) | (left; simp; done) | (simp only [wk3,wkL2,wk2,wkL,wk1_d,wk1_own,wk1_nil,and_self]; done) | (intro i hi; simp only [upd]; (repeat' split); all_goals first | rfl | omega) | skip
set_option maxRecDepth 10000 in
set_option maxHeartbeats 2000000 in
theorem notLit_ok : FsOk Try.prog 52 notLitS := by
 refine of_Y1 (E := EqT.no _) (F := Ft.no.put 53 pliteralS) Lit.av (fun _ _ => aLit_le) Try.func52 rfl (by kernel_rfl) [.tmp 2] rfl Try.ntmps52 (by decide) ((FtOk.no _).put pliteral_ok) ?_
 intro t h n hp hok
 repeat' (first | (with_reducible first | refine XG_split (fun hq => ?_) (fun hq => ?_) | refine MX1.of 4000 (by simp) ?_ | refine MX2.of 4000 (by simp) ?_ | refine And.intro ?_ ?_) | ((with_reducible first | refine Or.inl (And.intro (And.intro mixedP ?_) ?_) | refine Or.inl (And.intro mixedP ?_)); kernel_rfl) | simp only [go_sem,Nat.reduceEqDiff,Nat.reduceAdd,Nat.reduceMul,Nat.reduceLeDiff,Int.reduceBEq,Lit.av])
 all_goals first | exact hp | skip
 all_goals first | omega | (unfold maxLen; omega) | (right; omega) | (left; simp; done) | (simp only [wk3,wkL2,wk2,wkL,wk1_d,wk1_own,wk1_nil,and_self]; done) | (intro i hi; simp only [upd]; (repeat' split); all_goals first | rfl | omega) | skip
set_option maxRecDepth 10000 in
set_option maxHeartbeats 2000000 in
theorem idxLit_ok : FsOk Try.prog 75 idxLitS := by
 refine of_Y2 (E := EqT.no _) (F := Ft.no.put 52 notLitS) (fun l => .d (.sl 6 (l.map Lit.cells))) (fun _ => .fn (.func 52) [] []) (fun _ _ => aLits_le) (fun _ _ => aFn_le) Try.func75 rfl (by kernel_rfl) [.tmp 4] rfl Try.ntmps75 (by decide) ((FtOk.no _).put notLit_ok) ?_
 intro l u h n hp hok
 obtain ⟨hl, hsz⟩ := hp
 repeat' (first | (with_reducible first | refine XG_split (fun hq => ?_) (fun hq => ?_) | refine MX1.of 4000 (by simp) ?_ | refine MX2.of 4000 (by simp) ?_ | refine And.intro ?_ ?_) | ((with_reducible first | refine Or.inl (And.intro (And.intro mixedP ?_) ?_) | refine Or.inl (And.intro mixedP ?_)); kernel_rfl) | simp only [go_sem,Nat.reduceEqDiff,Nat.reduceAdd,Nat.reduceMul,Nat.reduceLeDiff,Int.reduceBEq])
 all_goals first | omega | (unfold maxLen; omega) | (right; omega) | (left; simp; done) | (simp only [wk3,wkL2,wk2,wkL,wk1_d,wk1_own,wk1_nil,and_self]; done) | (intro i hi; simp only [upd]; (repeat' split); all_goals first | rfl | omega) | skip
 refine AW.loopJ (E := EqT.no _) (S := fun k : Nat => ⟨fr [(0, .d (.sl 6 (l.map Lit.cells))), (1, .fn (.func 52) [] []), (7, vI l.length), (8, vI k)] (List.replicate 19 .any), h, n, n⟩) (I := fun k => k ≤ l.length ∧ ∀ i, (hi : i < k) → (hl : i < l.length) → (!literalB l[i]) = false) (μ := fun k => l.length - k) 0 ⟨Nat.zero_le _, fun i hi => absurd hi (Nat.not_lt_zero i)⟩ ?_ 4000 (fun _ => by simp only [fr_len, List.length_replicate]; decide) ?_
 · exact Wk.same (by simp only [go_sem]) hok (Nat.le_refl _) (by simp only [go_sem])
 · rintro k ⟨hk, hA⟩
   rcases Nat.lt_or_ge k l.length with hkl | hkl
   · have hs := hsz _ (List.getElem_mem hkl)
     cases hq : !literalB l[k] with
     | true =>
       have hR := idx_hit (p := fun t => !literalB t) hkl hq fun i hi => hA i hi (by omega)
       repeat' (first | (with_reducible first | refine XG_split (fun hq => ?_) (fun hq => ?_) | refine MX1.of 4000 (by simp) ?_ | refine MX2.of 4000 (by simp) ?_ | refine And.intro ?_ ?_) | ((with_reducible first | refine Or.inl (And.intro (And.intro mixedP ?_) ?_) | refine Or.inl (And.intro mixedP ?_)); kernel_rfl) | simp only [go_sem,Nat.reduceEqDiff,Nat.reduceAdd,Nat.reduceMul,Nat.reduceLeDiff,Int.reduceBEq,decide_eq_true hkl,List.getElem?_eq_getElem hkl,hq,hR,Term.av,Lit.av])
       all_goals first | exact hs | skip
       all_goals first | omega | (unfold maxLen; omega) | (right; omega) | (left; simp; done) | (simp only [wk3,wkL2,wk2,wkL,wk1_d,wk1_own,wk1_nil,and_self]; done) | (intro i hi; simp only [upd]; (repeat' split); all_goals first | rfl | omega) | skip
     | false =>
       repeat' (first | (with_reducible first | refine XG_split (fun hq => ?_) (fun hq => ?_) | refine MX1.of 4000 (by simp) ?_ | refine MX2.of 4000 (by simp) ?_ | refine And.intro ?_ ?_) | ((with_reducible first | refine Or.inl (And.intro (And.intro mixedP ?_) ?_) | refine Or.inl (And.intro mixedP ?_)); kernel_rfl) | simp only [go_sem,Nat.reduceEqDiff,Nat.reduceAdd,Nat.reduceMul,Nat.reduceLeDiff,Int.reduceBEq,decide_eq_true hkl,List.getElem?_eq_getElem hkl,hq,Term.av,Lit.av])
       all_goals first | exact hs | skip
       all_goals first | omega | (unfold maxLen; omega) | (right; omega) | (left; simp; done) | (simp only [wk3,wkL2,wk2,wkL,wk1_d,wk1_own,wk1_nil,and_self]; done) | (intro i hi; simp only [upd]; (repeat' split); all_goals first | rfl | omega) | skip
       refine ⟨k + 1, ⟨hkl, fun i hi hil => ?_⟩, Wk.same (by simp only [go_sem]) hok (Nat.le_refl _) (by simp only [go_sem]), by omega⟩
       rcases Nat.lt_or_ge i k with h' | h'
       · exact hA i h' hil
       · obtain rfl : i = k := by omega
         exact hq
   · have hR := idx_miss (p := fun t => !literalB t) (l := l) fun i hi => hA i (by omega) hi
     repeat' (first | (with_reducible first | refine XG_split (fun hq => ?_) (fun hq => ?_) | refine MX1.of 4000 (by simp) ?_ | refine MX2.of 4000 (by simp) ?_ | refine And.intro ?_ ?_) | ((with_reducible first | refine Or.inl (And.intro (And.intro mixedP ?_) ?_) | refine Or.inl (And.intro mixedP ?_)); kernel_rfl) | simp only [go_sem,Nat.reduceEqDiff,Nat.reduceAdd,Nat.reduceMul,Nat.reduceLeDiff,Int.reduceBEq,decide_eq_false (Nat.not_lt.2 hkl),hR])
     all_goals first | omega | (unfold maxLen; omega) | (right; omega) | (left; simp; done) | (simp only [wk3,wkL2,wk2,wkL,wk1_d,wk1_own,wk1_nil,and_self]; done) | (intro i hi; simp only [upd]; (repeat' split); all_goals first | rfl | omega) | skip
set_option maxRecDepth 10000 in
set_option maxHeartbeats 2000000 in
theorem hasLit_ok : FsOk Try.prog 51 hasLitS := by
 refine of_Y2 (E := EqT.no _) (F := Ft.no.put 75 idxLitS) (fun l => .d (.sl 6 (l.map Lit.cells))) (fun _ => .fn (.func 52) [] []) (fun _ _ => aLits_le) (fun _ _ => aFn_le) Try.func51 rfl (by kernel_rfl) [.tmp 4] rfl Try.ntmps51 (by decide) ((FtOk.no _).put idxLit_ok) ?_
 intro l u h n hp hok
 repeat' (first | (with_reducible first | refine XG_split (fun hq => ?_) (fun hq => ?_) | refine MX1.of 4000 (by simp) ?_ | refine MX2.of 4000 (by simp) ?_ | refine And.intro ?_ ?_) | ((with_reducible first | refine Or.inl (And.intro (And.intro mixedP ?_) ?_) | refine Or.inl (And.intro mixedP ?_)); kernel_rfl) | simp only [go_sem,Nat.reduceEqDiff,Nat.reduceAdd,Nat.reduceMul,Nat.reduceLeDiff,Int.reduceBEq,aFn_self,idx_ge])
 all_goals first | exact hp | exact hp.1 | exact hp.2 | skip
 all_goals first | omega | (unfold maxLen; omega) | (right; omega) | (left; simp; done) | (simp only [wk3,wkL2,wk2,wkL,wk1_d,wk1_own,wk1_nil,and_self]; done) | (intro i hi; simp only [upd]; (repeat' split); all_goals first | rfl | omega) | skip
set_option maxRecDepth 10000 in
set_option maxHeartbeats 2000000 in
theorem pcheck_ok : FsOk Try.prog 24 pcheckS := by
 refine of_Y1 (E := eqTV) (F := (Ft.no.put 25 pcheckLitS).put 51 hasLitS) Clause.av (fun _ _ => aClause_le) Try.func24 rfl (by kernel_rfl) [.tmp 2] rfl Try.ntmps24 (by decide) (((FtOk.no _).put pcheckLit_ok).put hasLit_ok) ?_
 intro c h n hp hok
 obtain ⟨hh, hl, hb⟩ := hp
 have hany : (!(c.body.any fun t => !literalB t)) = c.body.all literalB := by
  rw [List.all_eq_not_any_not]
 have hown : (c.head.who.var.size == 0 && (c.head.who.val.sym.size == 0 && c.head.who.val.num == 0)) = ownT c.head.who := by unfold ownT; rw [Bool.and_assoc]
 cases h1 : checkLitB c.head with
 | false =>
   have hS : checkB c = false := by unfold checkB; rw [h1]; rfl
   repeat' (first | (with_reducible first | refine XG_split (fun hq => ?_) (fun hq => ?_) | refine MX1.of 4000 (by simp) ?_ | refine MX2.of 4000 (by simp) ?_ | refine And.intro ?_ ?_) | ((with_reducible first | refine Or.inl (And.intro (And.intro mixedP ?_) ?_) | refine Or.inl (And.intro mixedP ?_)); kernel_rfl) | simp only [go_sem,Nat.reduceEqDiff,Nat.reduceAdd,Nat.reduceMul,Nat.reduceLeDiff,Int.reduceBEq,Clause.av,Lit.av,empty_str,cvals,cval,aFn_self,hS,h1])
   all_goals first | exact hh | exact hb | skip
   all_goals first | omega | (unfold maxLen; omega) | (right; omega) | (left; simp; done) | (simp only [wk3,wkL2,wk2,wkL,wk1_d,wk1_own,wk1_nil,and_self]; done) | (intro i hi; simp only [upd]; (repeat' split); all_goals first | rfl | omega) | skip
 | true =>
   cases h2 : ownT c.head.who with
   | false =>
     rw [h2] at hown
     have hS : checkB c = false := by unfold checkB; rw [h1, h2]; rfl
     repeat' (first | (with_reducible first | refine XG_split (fun hq => ?_) (fun hq => ?_) | refine MX1.of 4000 (by simp) ?_ | refine MX2.of 4000 (by simp) ?_ | refine And.intro ?_ ?_) | ((with_reducible first | refine Or.inl (And.intro (And.intro mixedP ?_) ?_) | refine Or.inl (And.intro mixedP ?_)); kernel_rfl) | simp only [go_sem,Nat.reduceEqDiff,Nat.reduceAdd,Nat.reduceMul,Nat.reduceLeDiff,Int.reduceBEq,Clause.av,Lit.av,empty_str,cvals,cval,aFn_self,hS,h1,hown])
     all_goals first | exact hh | exact hb | skip
     all_goals first | omega | (unfold maxLen; omega) | (right; omega) | (left; simp; done) | (simp only [wk3,wkL2,wk2,wkL,wk1_d,wk1_own,wk1_nil,and_self]; done) | (intro i hi; simp only [upd]; (repeat' split); all_goals first | rfl | omega) | skip
   | true =>
     rw [h2] at hown
     cases h6 : decide (6 < c.body.length) with
     | true =>
       have h6' : decide (c.body.length ≤ 6) = false := decide_eq_false (by have := of_decide_eq_true h6; omega)
       have hS : checkB c = false := by unfold checkB; rw [h1, h2, h6']; rfl
       repeat' (first | (with_reducible first | refine XG_split (fun hq => ?_) (fun hq => ?_) | refine MX1.of 4000 (by simp) ?_ | refine MX2.of 4000 (by simp) ?_ | refine And.intro ?_ ?_) | ((with_reducible first | refine Or.inl (And.intro (And.intro mixedP ?_) ?_) | refine Or.inl (And.intro mixedP ?_)); kernel_rfl) | simp only [go_sem,Nat.reduceEqDiff,Nat.reduceAdd,Nat.reduceMul,Nat.reduceLeDiff,Int.reduceBEq,Clause.av,Lit.av,empty_str,cvals,cval,aFn_self,hS,h1,hown,h6,hany])
       all_goals first | exact hh | exact hb | skip
       all_goals first | omega | (unfold maxLen; omega) | (right; omega) | (left; simp; done) | (simp only [wk3,wkL2,wk2,wkL,wk1_d,wk1_own,wk1_nil,and_self]; done) | (intro i hi; simp only [upd]; (repeat' split); all_goals first | rfl | omega) | skip
     | false =>
       have h6' : decide (c.body.length ≤ 6) = true := decide_eq_true (by have := of_decide_eq_false h6; omega)
       have hS : checkB c = c.body.all literalB := by unfold checkB; rw [h1, h2, h6']; rfl
       repeat' (first | (with_reducible first | refine XG_split (fun hq => ?_) (fun hq => ?_) | refine MX1.of 4000 (by simp) ?_ | refine MX2.of 4000 (by simp) ?_ | refine And.intro ?_ ?_) | ((with_reducible first | refine Or.inl (And.intro (And.intro mixedP ?_) ?_) | refine Or.inl (And.intro mixedP ?_)); kernel_rfl) | simp only [go_sem,Nat.reduceEqDiff,Nat.reduceAdd,Nat.reduceMul,Nat.reduceLeDiff,Int.reduceBEq,Clause.av,Lit.av,empty_str,cvals,cval,aFn_self,hS,h1,hown,h6,hany])
       all_goals first | exact hh | exact hb | skip
       all_goals first | omega | (unfold maxLen; omega) | (right; omega) | (left; simp; done) | (simp only [wk3,wkL2,wk2,wkL,wk1_d,wk1_own,wk1_nil,and_self]; done) | (intro i hi; simp only [upd]; (repeat' split); all_goals first | rfl | omega) | skip
end Go.Proofs.Ytdhocmakbapfpaa.M
end
section
namespace Go.Proofs.Ytdhocmakbapfpaa.M
open Go.R
def tI (t : Term) : Prop := i64 t.val.num
def litI (l : Lit) : Prop := tI l.who ∧ ∀ t ∈ l.args, tI t
def argsGo : Nat → ByteArray → List Term → ByteArray
 | _, out, [] => out
 | 0, out, t :: r => argsGo 1 (out ++ ⟨#[40]⟩ ++ termText t) r
 | k + 1, out, t :: r => argsGo (k + 2) (out ++ ⟨#[44, 32]⟩ ++ termText t) r
def litAhead (l : Lit) : ByteArray :=
 let a : ByteArray := if l.kind == 2 then ⟨#[110, 111, 116, 32]⟩ else ⟨#[]⟩
 let b := if ownT l.who then a else a ++ (termText l.who ++ ⟨#[32, 115, 97, 121, 115, 32]⟩)
 b ++ l.pred
def litBehind (l : Lit) (out : ByteArray) : ByteArray := if 0 < l.args.length then out ++ ⟨#[41]⟩ else out
def termAt (l : List Term) (i : Nat) : ByteArray := match l[i]? with | some t => termText t | none => ⟨#[]⟩
def litText (l : Lit) : ByteArray :=
 if l.kind == 3 then termAt l.args 0 ++ ⟨#[32, 60, 32]⟩ ++ termAt l.args 1
 else if l.kind == 4 then termAt l.args 0 ++ ⟨#[32, 33, 61, 32]⟩ ++ termAt l.args 1
 else litBehind l (argsGo 0 (litAhead l) l.args)
theorem nameB_size {s : ByteArray} (h : nameB s = true) : s.size ≤ 16 := by
 unfold nameB at h
 simp only [Bool.and_eq_true, decide_eq_true_eq] at h
 exact h.1.1.2
theorem numText_size {n : Int} (h : i64 n) : (numText n).size ≤ 20 := by
 obtain ⟨h1, h2⟩ := h
 unfold numText
 split
 · rw [strOf_size, List.length_cons]
   have := decL_len 18 (-n).toNat (by omega)
   omega
 · rw [strOf_size]
   exact decL_len 19 n.toNat (by omega)
theorem textB_size {v : Val} (h : i64 v.num) : (textB v).size ≤ 20 := by
 unfold textB
 split
 · rename_i hg
   split
   · rename_i hs
     have h1 : v.sym.size ≠ 0 := by omega
     simp [goodV, h1] at hg
     have := nameB_size hg.1
     omega
   · exact numText_size h
 · exact Nat.zero_le _
theorem termText_size {t : Term} (h : tI t) (hb : termB t = true) : (termText t).size ≤ 20 := by
 unfold termText
 split
 · rename_i hv
   simp [termB, hv, varB] at hb
   omega
 · exact textB_size h
end Go.Proofs.Ytdhocmakbapfpaa.M
end
section
namespace Go.Proofs.Ytdhocmakbapfpaa.M
open Go.R
def clauseI (c : Clause) : Prop := litI c.head ∧ ∀ l ∈ c.body, litI l
def bodyGo : Nat → ByteArray → List Lit → ByteArray
 | _, out, [] => out
 | 0, out, t :: r => bodyGo 1 (out ++ ⟨#[32, 58, 45, 32]⟩ ++ litText t) r
 | k + 1, out, t :: r => bodyGo (k + 2) (out ++ ⟨#[44, 32]⟩ ++ litText t) r
def clauseText (c : Clause) : ByteArray := bodyGo 0 (litText c.head) c.body ++ ⟨#[46]⟩
def printB (c : Clause) : ByteArray × Int := if checkB c then (clauseText c, 0) else (⟨#[]⟩, 1)
def printLitB (l : Lit) : ByteArray × Int := if checkLitB l then (litText l, 0) else (⟨#[]⟩, 1)
theorem argsGo_size : ∀ (l : List Term) (k : Nat) (out : ByteArray), (∀ t ∈ l, tI t) → termsB l = true → (argsGo k out l).size ≤ out.size + 22 * l.length
 | [], k, out, _, _ => by cases k <;> simp [argsGo]
 | t :: r, k, out, hi, hb => by
   have h1 := termText_size (hi t (by simp)) (by simp [termsB] at hb; exact hb.1)
   have g1 : (⟨#[40]⟩ : ByteArray).size = 1 := rfl
   have g2 : (⟨#[44, 32]⟩ : ByteArray).size = 2 := rfl
   have hr : termsB r = true := by simp [termsB] at hb ⊢; exact hb.2
   cases k with
   | zero =>
     have := argsGo_size r 1 (out ++ ⟨#[40]⟩ ++ termText t) (fun x hx => hi x (by simp [hx])) hr
     simp only [ByteArray.size_append, g1] at this
     simp only [argsGo, List.length_cons]
     omega
   | succ k =>
     have := argsGo_size r (k + 2) (out ++ ⟨#[44, 32]⟩ ++ termText t) (fun x hx => hi x (by simp [hx])) hr
     simp only [ByteArray.size_append, g2] at this
     simp only [argsGo, List.length_cons]
     omega
theorem litText_size {l : Lit} (hi : litI l) (hg : literalB l = true) : (litText l).size ≤ 200 := by
 have f1 : (⟨#[110, 111, 116, 32]⟩ : ByteArray).size = 4 := rfl
 have f2 : (⟨#[32, 115, 97, 121, 115, 32]⟩ : ByteArray).size = 6 := rfl
 have f3 : (⟨#[]⟩ : ByteArray).size = 0 := rfl
 have f4 : (⟨#[41]⟩ : ByteArray).size = 1 := rfl
 have f5 : (⟨#[32, 60, 32]⟩ : ByteArray).size = 3 := rfl
 have f6 : (⟨#[32, 33, 61, 32]⟩ : ByteArray).size = 4 := rfl
 have hz : ∀ i, termsB l.args = true → (termAt l.args i).size ≤ 20 := by
  intro i hb
  unfold termAt
  split
  · rename_i t ht
    have hm := List.mem_of_getElem? ht
    exact termText_size (hi.2 t hm) (by unfold termsB at hb; rw [List.all_eq_true] at hb; exact hb t hm)
  · exact Nat.zero_le _
 by_cases h12 : (l.kind == 1 || l.kind == 2) = true
 · have hs : saidB l = true := by simp only [literalB, h12, if_true] at hg; exact hg
   have h3 : (l.kind == 3) = false := by simp at h12 ⊢; omega
   have h4 : (l.kind == 4) = false := by simp at h12 ⊢; omega
   have hpred : l.pred.size ≤ 16 := by simp only [saidB, Bool.and_eq_true] at hs; exact nameB_size hs.1.1.2
   have hlen : l.args.length ≤ 4 := by simp only [saidB, Bool.and_eq_true, decide_eq_true_eq] at hs; exact hs.1.2
   have hts : termsB l.args = true := by simp only [saidB, Bool.and_eq_true] at hs; exact hs.2
   have hwho : ownT l.who = false → (termText l.who).size ≤ 20 := fun e => by
    simp only [saidB, Bool.and_eq_true, e, Bool.false_or] at hs
    exact termText_size hi.1 hs.1.1.1.1
   have ha := argsGo_size l.args 0 (litAhead l) hi.2 hts
   have hahead : (litAhead l).size ≤ 60 := by
    unfold litAhead
    cases ho : ownT l.who
    · have := hwho ho
      simp only [ByteArray.size_append, Bool.false_eq_true, if_false]
      split <;> omega
    · simp only [ByteArray.size_append, if_true]
      split <;> omega
   simp only [litText, h3, h4, Bool.false_eq_true, if_false, litBehind]
   split
   · rw [ByteArray.size_append, f4]; omega
   · omega
 · have h12 : (l.kind == 1 || l.kind == 2) = false := by simpa using h12
   have hts : termsB l.args = true := by simp only [literalB, h12, Bool.false_eq_true, if_false, Bool.and_eq_true] at hg; exact hg.2
   have h0 := hz 0 hts
   have h1 := hz 1 hts
   simp only [literalB, h12, Bool.false_eq_true, if_false, Bool.and_eq_true, Bool.or_eq_true] at hg
   unfold litText
   split
   · simp only [ByteArray.size_append, f5]; omega
   · split
     · simp only [ByteArray.size_append, f6]; omega
     · exfalso
       rcases hg.1.1.1.1 with q | q <;> simp_all
theorem checkLit_literal {l : Lit} (h : checkLitB l = true) : literalB l = true := by
 simp only [checkLitB, Bool.and_eq_true] at h
 simp [literalB, h.1, h.2]
end Go.Proofs.Ytdhocmakbapfpaa.M
end
section
namespace Go.Proofs.Ytdhocmakbapfpaa.M
open Go.R Go.RowKit
def u8Row (c : Int) : List DV := [.v (.int .u8 c)]
theorem wp_two {P : Program} {id : Nat} {o1 o2 : Oper} {Q : Exit → Act → World → Prop} {a : Act} {w : World} (g1 : o1.guard = none) (g2 : o2.guard = none)
 (h : o1.wp P a w (fun a' w' => o2.wp P a' w' (Q .normal) Q) Q) : (Code.region id #[o1, o2] false).wp P Q a w := by
 refine wp_region ?_
 show wpOps P #[o1, o2] Q [0, 1] a w
 simp only [wpOps, List.getElem?_toArray, List.getElem?_cons_zero, List.getElem?_cons_succ]
 rw [if_pos (by simp [Region.wanted, g1])]
 refine .inl (Oper.wp_mono ?_ h)
 intro a' w' h'
 rw [if_pos (by simp [Region.wanted, g2])]
 exact .inl h'
theorem wp_val {P : Program} {o : Oper} {a : Act} {w : World} {next : Act → World → Prop} {Q : Exit → Act → World → Prop} {v : Value} (h : (execOp a.eval o).run P w = .ok (.value v) w) (k : next (a.put o.dst v) w) : o.wp P a w next Q := by
 unfold Oper.wp
 rw [h]
 exact k
theorem wp_enter {P : Program} {o : Oper} {a : Act} {w : World} {next : Act → World → Prop} {Q : Exit → Act → World → Prop} {f : FuncId} {args : Array Value} (h : (execOp a.eval o).run P w = .ok (.enter f args) w)
 (k : Calls P f args w fun e w' => ∃ v, e = .returned v ∧ next (a.put o.dst v) w') : o.wp P a w next Q := by
 unfold Oper.wp
 rw [h, Oper.upon_enter]
 refine k.mono fun e w' he => ?_
 obtain ⟨v, rfl, h⟩ := he
 exact h
theorem heap_putRow {α : Type} [Inhabited α] (enc : α → Value) (w : World) (blk off : Nat) (d : Array α) {b : Nat} (h : b ≠ blk) : (Sort.putRow enc w blk off d).heap[b]? = w.heap[b]? := by
 simp [Sort.putRow, Sort.mapBlock, Array.getElem?_modify, Ne.symm h]
theorem size_putRow {α : Type} [Inhabited α] (enc : α → Value) (w : World) (blk off : Nat) (d : Array α) : (Sort.putRow enc w blk off d).heap.size = w.heap.size := by
 simp [Sort.putRow, Sort.mapBlock]
theorem AW.rev {C : Tb} {T : List Nat} {s : St} {Q : Exit → St → Prop} {id : Nat} {o1 o2 : Oper} {ts : Array TypeId} {j d1 d2 k : Nat} {zs : List Int} (g1 : o1.guard = none) (g2 : o2.guard = none)
 (e1 : o1.op = .move (.tmp j)) (e1d : o1.dst = some d1) (e2 : o2.op = .call { callee := .value (.func 111), args := #[.tmp d1], argTypes := ts }) (e2d : o2.dst = some d2) (hj1 : j ≠ d1) (hj2 : j ≠ d2)
 (hj : s.t[j]? = some (.own k 1 (zs.map u8Row))) (hz : zs ≠ []) (hh : s.h = upd (fun _ => .no) k (.tok zs.length 1)) (hb : s.b ≤ k) (hl : d1 < s.t.length) (h1000 : zs.length ≤ 1000)
 (hv : ∀ i x, s.t[i]? = some x → i ≠ j → x = .any ∨ ∃ v, x = .d (.v v))
 (hQ : Q .normal ⟨((s.t.set d1 .any).set d2 .any).set j (.d (.sl 1 (zs.reverse.map u8Row))), fun _ => .no, s.b, s.n⟩) : AW Try.prog C T (.region id #[o1, o2] false) Q s := by
 intro c0 h0 w0 c a w hC I
 refine wp_two g1 g2 ?_
 have hjl : j < a.tmps.size := by rw [I.srep.size]; exact (List.getElem?_eq_some_iff.1 hj).1
 have hd1 : d1 < a.tmps.size := by rw [I.srep.size]; exact hl
 obtain ⟨v, hvj⟩ : ∃ v, a.tmps[j]? = some v := ⟨_, Array.getElem?_eq_getElem hjl⟩
 have hrep := I.srep.tmp j v _ hvj hj
 have hev : a.eval (.tmp j) = v := by simp [Act.eval, hvj]
 generalize hxs : zs.map u8Row = xs at hrep
 cases hrep with
 | own A cap k' z xs' m hd hk hm hτ =>
   have hlen : xs.length = zs.length := by rw [← hxs, List.length_map]
   have hzl : 0 < zs.length := List.length_pos_iff.2 hz
   rw [hh, upd_same] at hk
   have hkm : zs.length = m := by injection hk
   have hτ' := hτ (by omega)
   generalize hz1 : (.sl 1 xs : DV) = zz at hd
   generalize hvv : (.slice A xs.length cap : Value) = vv at hd
   cases hd with
   | v x h1 => cases hz1
   | sl A' cap' z' rows f hc hz' hA hN hcell hdrep =>
     cases hz1
     simp only [Value.slice.injEq] at hvv
     obtain ⟨rfl, _, rfl⟩ := hvv
     cases A with
     | none =>
       have := (hN rfl).1
       rw [this] at hlen
       simp at hlen
       omega
     | some ad =>
       have hsp := hA ad rfl
       obtain ⟨blk, off, sp⟩ := ad
       simp only at hsp
       subst hsp
       have hks : s.h k = .tok zs.length 1 := by rw [hh, upd_same]
       obtain ⟨_, t2, t3, vals, ty, t4, t5⟩ := I.srep.wd.tokS k zs.length 1 _ _ hks hτ'
       simp only [Nat.mul_one] at t3 t5
       have hblkw : blk < w.heap.size := (Array.getElem?_eq_some_iff.1 t4).1
       have hblk0 : w0.heap.size ≤ blk := by
        refine Nat.le_of_not_lt fun hlt => ?_
        have hb1 : (s.h k).blk c k = some blk := by rw [hks]; simp [AO.blk, hτ']
        have := I.fr.old k blk hb1 hlt
        rw [I.new0 k hb] at this
        cases this
       have hcells : ∀ i, i < zs.length → w.cell? ⟨blk, off + i, none⟩ = some (.int .u8 (zs.getD i 0)) := fun i hi => by
        have hrow : xs[i]? = some (u8Row (zs.getD i 0)) := by
         rw [← hxs, List.getElem?_map, List.getElem?_eq_getElem hi, List.getD_eq_getElem?_getD, List.getElem?_eq_getElem hi]
         rfl
        have h1 := (hcell _ rfl i 0 _ (.v (.int .u8 (zs.getD i 0))) hrow rfl).1
        have h2 := hdrep i 0 _ (.v (.int .u8 (zs.getD i 0))) hrow rfl
        have e : f i 0 = .int .u8 (zs.getD i 0) := by
         generalize f i 0 = q at h2
         cases h2
         rfl
        rw [e] at h1
        simpa using h1
       have hH : Sort.Holds (Value.int .u8) w blk off zs.toArray := by
        intro i hi
        have hi : i < zs.length := by simpa using hi
        refine ⟨?_, ?_⟩
        · rw [hcells i hi]
          simp [List.getD_eq_getElem?_getD, List.getElem?_eq_getElem hi, hi]
        · simp [World.frozen?, t4]
       have hcon := AnyE.slices_Reverse Go.Proofs.Try.lrev (Value.int .u8) (fun _ => rfl) blk off cap zs w hH (by omega)
       change Calls Try.prog 111 _ _ _ at hcon
       have hv' : a.tmps[j]? = some (.slice (some ⟨blk, off, none⟩) zs.length cap) := by rw [hvj, hlen]
       have run1 : (execOp a.eval o1).run Try.prog w = .ok (.value (.slice (some ⟨blk, off, none⟩) zs.length cap)) w := by
        have : a.eval (.tmp j) = .slice (some ⟨blk, off, none⟩) zs.length cap := by simp [Act.eval, hv']
        simp only [execOp, e1, this]
        rfl
       refine wp_val run1 ?_
       rw [e1d]
       have ev1 : (a.put (some d1) (.slice (some ⟨blk, off, none⟩) zs.length cap)).eval (.tmp d1) = .slice (some ⟨blk, off, none⟩) zs.length cap := by
        simp [Act.eval, Act.put, hd1]
       have run2 : (execOp (a.put (some d1) (.slice (some ⟨blk, off, none⟩) zs.length cap)).eval o2).run Try.prog w = .ok (.enter 111 #[.slice (some ⟨blk, off, none⟩) zs.length cap]) w := by
        have hent : Entered Try.prog 111 := Entered.of Try.func111 rfl (by kernel_rfl)
        simp only [execOp, e2, resolve, Deferred.ofValue, Sem.run_bind, Sem.run_pure, Result.andThen_ok, invoke]
        have := hent #[.slice (some ⟨blk, off, none⟩) zs.length cap] w
        simp [Act.eval, Act.put, hd1, Deferred.ofValue]
       refine wp_enter run2 (hcon.mono fun e w' he => ?_)
       obtain ⟨rfl, nn, hw'⟩ := he
       refine ⟨_, rfl, ?_⟩
       rw [e2d]
       replace hw' := hw'.symm
       have hH' := Sort.holds_putRow (Value.int .u8) (Sort.ahead w nn) blk off zs.toArray zs.reverse.toArray (Sort.holds_ahead _ _ _ _ _ _ hH) (by simp)
       rw [hw'] at hH'
       have hsz : w'.heap.size = w.heap.size := by rw [← hw', size_putRow]; rfl
       have hother : ∀ b, b ≠ blk → w'.heap[b]? = w.heap[b]? := fun b hb => by rw [← hw', heap_putRow _ _ _ _ _ hb]; rfl
       have hcellO : ∀ o, (o < off ∨ off + zs.length ≤ o) → w'.cell? ⟨blk, o, none⟩ = w.cell? ⟨blk, o, none⟩ := fun o ho => by
        rw [← hw', Sort.cell?_putRow_other _ _ _ _ _ _ (by right; simpa using ho)]
        rfl
       have hos : w'.os = w.os ∧ w'.tape = w.tape ∧ w'.output = w.output := by rw [← hw']; exact ⟨rfl, rfl, rfl⟩
       have hw0blk : ∀ o, w0.cell? ⟨blk, o, none⟩ = none := fun o => by
        simp [World.cell?, Array.getElem?_eq_none hblk0]
       have hcell0 : ∀ b o, c0.lo b o → w'.cell? ⟨b, o, none⟩ = w0.cell? ⟨b, o, none⟩ := fun b o hlo => by
        have h1 := I.ext.cell b o hlo
        by_cases hbb : b = blk
        · subst hbb
          rw [hw0blk] at h1
          by_cases ho : o < off ∨ off + zs.length ≤ o
          · rw [hcellO o ho, h1, hw0blk]
          · exfalso
            obtain ⟨i, rfl⟩ : ∃ i, o = off + i := ⟨o - off, by omega⟩
            rw [hcells i (by omega)] at h1
            cases h1
        · rw [← h1]
          simp [World.cell?, hother b hbb]
       refine ⟨c, ⟨((s.t.set d1 .any).set d2 .any).set j (.d (.sl 1 (zs.reverse.map u8Row))), fun _ => .no, s.b, s.n⟩, ?_, rfl, by simp, hQ⟩
       have hnoh : ∀ i, s.h i ≠ .no → i = k := fun i hi => by
        refine Classical.byContradiction fun hne => hi ?_
        rw [hh, upd_ne _ _ hne]
       refine ⟨⟨by simp [Act.put, I.srep.size], fun i u x hu hx => ?_, I.srep.defers, ?_⟩, ⟨hos.1.trans I.ext.os, hos.2.1.trans I.ext.tape, hos.2.2.trans I.ext.output, by rw [hsz]; exact I.ext.size, I.ext.lo, hcell0, fun b hb0 => ?_, fun i cs hi => ?_, fun i m' z' hi => ?_⟩, ⟨fun b hb0 hne => ?_, fun i b hi => by cases hi⟩, I.new0, I.le⟩
       ·
        by_cases hij : i = j
        · subst hij
          have : i < ((s.t.set d1 .any).set d2 .any).length := by have := (List.getElem?_eq_some_iff.1 hj).1; simpa using this
          rw [List.getElem?_set_self this] at hx
          cases hx
          have hu' : u = .slice (some ⟨blk, off, none⟩) zs.length cap := by
           simp only [Act.put] at hu
           rw [Array.getElem?_setIfInBounds_ne (Ne.symm hj2), Array.getElem?_setIfInBounds_ne (Ne.symm hj1), hv'] at hu
           cases hu
           rfl
          subst hu'
          have hl2 : zs.length = (zs.reverse.map u8Row).length := by simp
          have hcap : zs.length ≤ cap := by omega
          rw [hl2] at hcap ⊢
          refine .d _ _ (.sl _ cap 1 _ (fun i _ => .int .u8 (zs.reverse.getD i 0)) hcap (fun row hrow => ?_) (fun a ha => by cases ha; rfl) (fun h => by cases h) (fun a ha i j row x hi hj => ?_) (fun i j row x hi hj => ?_))
          · obtain ⟨q, _, rfl⟩ := List.mem_map.1 hrow
            rfl
          · cases ha
            have hil : i < zs.length := by have := (List.getElem?_eq_some_iff.1 hi).1; simpa using this
            have hj0 : j = 0 := by
             rw [List.getElem?_map] at hi
             cases hq : zs.reverse[i]? with
             | none => rw [hq] at hi; cases hi
             | some q =>
               rw [hq] at hi
               cases hi
               match j with
               | 0 => rfl
               | j + 1 => simp [u8Row] at hj
            subst hj0
            have := (hH' i (by simpa using hil)).1
            simp only [Nat.mul_one, Nat.add_zero]
            refine ⟨?_, ?_⟩
            · rw [this]
              simp [List.getD_eq_getElem?_getD, hil]
            · unfold Cx.lo
              rw [t3]
              simp only
              omega
          · rw [List.getElem?_map] at hi
            cases hq : zs.reverse[i]? with
            | none => rw [hq] at hi; cases hi
            | some q =>
              rw [hq] at hi
              cases hi
              match j with
              | 0 =>
                simp only [u8Row, List.getElem?_cons_zero, Option.some.injEq] at hj
                subst hj
                rw [List.getD_eq_getElem?_getD, hq]
                exact .v _ rfl
              | j + 1 => simp [u8Row] at hj
        · rw [List.getElem?_set_ne (Ne.symm hij)] at hx
          by_cases hid2 : i = d2
          · subst hid2
            have : i < (s.t.set d1 .any).length := by
             refine Nat.lt_of_not_le fun hle => ?_
             rw [List.getElem?_eq_none (by simpa using hle)] at hx
             cases hx
            rw [List.getElem?_set_self this] at hx
            cases hx
            exact .any _
          · rw [List.getElem?_set_ne (Ne.symm hid2)] at hx
            by_cases hid1 : i = d1
            · subst hid1
              rw [List.getElem?_set_self hl] at hx
              cases hx
              exact .any _
            · rw [List.getElem?_set_ne (Ne.symm hid1)] at hx
              have hu' : a.tmps[i]? = some u := by
               simp only [Act.put] at hu
               rw [Array.getElem?_setIfInBounds_ne (Ne.symm hid2), Array.getElem?_setIfInBounds_ne (Ne.symm hid1)] at hu
               exact hu
              rcases hv i x hx hij with rfl | ⟨y, rfl⟩
              · exact .any _
              · have hr := I.srep.tmp i u _ hu' hx
                cases hr with
                | d _ _ hd' =>
                  cases hd' with
                  | v x h1 => exact .d _ _ (.v _ h1)
       · exact ⟨fun i cs hi => (by cases hi), fun i m z cap hi _ => (by cases hi), fun i m z a cap hi _ => (by cases hi), fun i j b _ hi _ => (by cases hi), fun b hb0 => I.srep.wd.fresh b (by rw [← hsz]; exact hb0), fun _ _ => rfl⟩
       · obtain ⟨g1, g2⟩ := I.ext.all b hb0
         refine ⟨g1, ?_⟩
         rw [hother b (fun e => by subst e; rw [t3] at g1; cases g1), g2]
       · obtain ⟨_, cs', g2⟩ := I.ext.box i cs hi
         have := hnoh i (by rw [g2]; simp)
         subst this
         rw [hks] at g2
         cases g2
       · obtain ⟨n', g1, _⟩ := I.ext.tok i m' z' hi
         have := hnoh i (by rw [g1]; simp)
         subst this
         rw [I.new0 i hb] at hi
         cases hi
       · rw [hother b (by omega)]
         exact I.fr.far b hb0 hne
theorem of_AWP {P : Program} {F : Ft} {f : FuncId} {fn : Func} {code : Code} {S : Fs} (g : List AV → Option AV) (hf : P.funcs[f]? = some fn) (hbody : fn.body = some code) (hn : (fn.name == "runtime.NumGoroutine") = false) {rs : List ResultVar} {nt : Nat} (hrs : fn.results = rs.toArray) (hnt : fn.ntmps = nt) (hF : FtOk P F)
 (hS : ∀ args h n, S.run args h n = (g args).map fun r => (r, h, n))
 (H : ∀ args h n r, S.pre args h n → g args = some r → HOk n h → ∃ args', leL args args' ∧ (nt ≤ 900000 ∧ args'.length ≤ 50000) ∧
   AW P F.tb (S.tch args) code (FinP P rs n h r) ⟨args' ++ List.replicate (nt - args'.length) .any, h, n, n⟩) : FsOk P f S := by
 subst hnt
 refine SpOk.of_code hf hbody hn hF fun args h n K hS' hno hbx => ?_
 have hok : HOk n h := ⟨hno, hbx⟩
 rw [hrs]
 obtain ⟨hpre, hrun⟩ := hS'
 obtain ⟨⟨r, h', n'⟩, hr, hK⟩ := onO_iff hrun
 rw [hS] at hr
 cases hg : g args with
 | none => simp [hg] at hr
 | some r' =>
   simp only [hg, Option.map_some, Option.some.injEq, Prod.mk.injEq] at hr
   obtain ⟨rfl, rfl, rfl⟩ := hr
   obtain ⟨args', hle, ⟨hl1, hl2⟩, hX⟩ := H args _ _ _ hpre hg hok
   refine ⟨args', fun c w vs hl hr => leL_rep hle hl hr, ?_⟩
   refine hX.mono fun e s' _ _ q => ?_
   obtain ⟨q1, q2, q3, q4, q5⟩ := q
   cases hres : resO P s'.t s'.h rs with
   | none => rw [hres] at q3; exact q3.elim
   | some l =>
     rw [hres] at q3
     exact ⟨q1, res_ares q2 hres (AFin.pure hno q4 q3 q5 hK)⟩
theorem AW.step {P : Program} {E : EqT P} {F : Ft} {T : List Nat} {x y : Code} {Q : Exit → St → Prop} {s : St} (f : Nat) (hl : s.t.length ≤ 1000000) (h : X E F T (fun e s' => match e with
 | .normal => AW P F.tb T y Q s'
 | e => Q e s') f (.code x) [] s) : AW P F.tb T (.seq x y) Q s := AW.seq (AW.of_X f hl h)
def digits0S : Fs := ⟨fun args h n => (g1 aI64 (fun n => vS (numText n)) args).map fun r => (r, h, n), fun args h n => g1p aI64 i64 args ∧ h = (fun _ => .no) ∧ n = 0, fun _ => []⟩
theorem byteRows_u8 : ∀ l : List Int, byteRows (l.map u8Row) = some l
 | [] => rfl
 | c :: l => by simp [byteRows, u8Row, byteRows_u8 l]
def digSt (m : Nat) (sg : ByteArray) (zs : List Int) : St := ⟨fr [(3, .d (.v (.int .u64 m))), (4, vS sg), (5, .own 0 1 (zs.map u8Row))] (List.replicate 34 .any), upd (fun _ => .no) 0 (.tok zs.length 1), 0, 1⟩
theorem dig_slots (m : Nat) (sg : ByteArray) (zs : List Int) : ∀ i x, (digSt m sg zs).t[i]? = some x → i ≠ 5 → x = .any ∨ ∃ v, x = .d (.v v) := by
 intro i x hi h5
 simp only [digSt, fr] at hi
 rw [List.getElem?_set_ne (Ne.symm h5)] at hi
 by_cases h4 : i = 4
 · subst h4
   rw [List.getElem?_set_self (by simp)] at hi
   cases hi
   exact .inr ⟨_, rfl⟩
 rw [List.getElem?_set_ne (Ne.symm h4)] at hi
 by_cases h3 : i = 3
 · subst h3
   rw [List.getElem?_set_self (by simp)] at hi
   cases hi
   exact .inr ⟨_, rfl⟩
 rw [List.getElem?_set_ne (Ne.symm h3), List.getElem?_replicate] at hi
 split at hi
 · cases hi; exact .inl rfl
 · cases hi
set_option maxRecDepth 10000 in
set_option maxHeartbeats 4000000 in
theorem digits0_ok : FsOk Try.prog 105 digits0S := by
 refine of_AWP (F := Ft.no) (g1 aI64 fun n => vS (numText n)) Try.func105 rfl (by kernel_rfl) (rs := [.tmp 2]) rfl Try.ntmps105 (FtOk.no _) (fun _ _ _ => rfl) ?_
 intro args h n r hp hg hok
 obtain ⟨hp, rfl, rfl⟩ := hp
 obtain ⟨x, v, rfl, hx, rfl⟩ := g1_eq hg
 obtain ⟨hv1, hv2⟩ := hp v hx
 refine ⟨[vI v], ⟨aI64_le hx, trivial⟩, ⟨by decide, by simp⟩, ?_⟩
 show AW Try.prog Ft.no.tb [] _ _ _
 obtain ⟨m0, hm0⟩ : ∃ m0 : Nat, m0 = v.natAbs := ⟨_, rfl⟩
 obtain ⟨sg, hsg⟩ : ∃ sg : ByteArray, sg = if v < 0 then ⟨#[45]⟩ else ⟨#[]⟩ := ⟨_, rfl⟩
 have hsgs : sg.size ≤ 1 := by rw [hsg]; split <;> decide
 have hlen : (decL m0).length ≤ 20 := decL_len 19 m0 (by omega)
 have hpos : 0 < (decL m0).length := by rw [decL]; split <;> simp
 have htxt : numText v = sg ++ strOf (decL m0) := by
  unfold numText
  rw [hsg]
  by_cases hn : v < 0
  · rw [if_pos hn, if_pos hn]
    have e : (-v).toNat = m0 := by omega
    rw [e]
    exact strOf_append [45] (decL m0)
  · rw [if_neg hn, if_neg hn]
    have e : v.toNat = m0 := by omega
    rw [e]
    refine ByteArray.ext ?_
    simp [ByteArray.data_append]
 refine AW.step (E := EqT.no _) 4000 (by simp only [List.length_cons, List.length_nil, List.length_set, List.length_append, List.length_replicate]; decide) ?_
 repeat' (first | (with_reducible first | refine XG_split (fun hq => ?_) (fun hq => ?_) | refine MX1.of 4000 (by simp) ?_ | refine MX2.of 4000 (by simp) ?_ | refine And.intro ?_ ?_) | ((with_reducible first | refine Or.inl (And.intro (And.intro mixedP ?_) ?_) | refine Or.inl (And.intro mixedP ?_)); kernel_rfl) | simp only [go_sem,Nat.reduceEqDiff,Nat.reduceAdd,Nat.reduceMul,Nat.reduceLeDiff,Int.reduceBEq])
 refine AW.step (E := EqT.no _) 4000 (by simp only [List.length_cons, List.length_nil, List.length_set, List.length_append, List.length_replicate]; decide) ?_
 repeat' (first | (with_reducible first | refine XG_split (fun hq => ?_) (fun hq => ?_) | refine MX1.of 4000 (by simp) ?_ | refine MX2.of 4000 (by simp) ?_ | refine And.intro ?_ ?_) | ((with_reducible first | refine Or.inl (And.intro (And.intro mixedP ?_) ?_) | refine Or.inl (And.intro mixedP ?_)); kernel_rfl) | simp only [go_sem,Nat.reduceEqDiff,Nat.reduceAdd,Nat.reduceMul,Nat.reduceLeDiff,Int.reduceBEq])
 refine AW.step (E := EqT.no _) 4000 (by simp only [List.length_cons, List.length_nil, List.length_set, List.length_append, List.length_replicate]; decide) ?_
 have c64 : IntKind.wrap .u64 v = if v < 0 then v + 18446744073709551616 else v := by rw [IntKind.wrap_u64]; split <;> omega
 have n64 : v < 0 → IntKind.wrap .u64 (0 - (v + 18446744073709551616)) = (m0 : Int) := fun h => by rw [IntKind.wrap_u64]; omega
 have body : ∀ (s0 : St), s0.h = (fun _ => .no) → s0.b = 0 → s0.n = 0 → Wk [] s0 ⟨fr [(3, .d (.v (.int .u64 m0))), (4, vS sg)] (List.replicate 34 .any), fun _ => .no, 0, 0⟩ → True := fun _ _ _ _ _ => trivial
 by_cases hn : v < 0
 · have d0 : decide (v < 0) = true := decide_eq_true hn
   have hs1 : sg = ⟨#[45]⟩ := by rw [hsg, if_pos hn]
   rw [if_pos hn] at c64
   have n64 := n64 hn
   repeat' (first | (with_reducible first | refine XG_split (fun hq => ?_) (fun hq => ?_) | refine MX1.of 4000 (by simp) ?_ | refine MX2.of 4000 (by simp) ?_ | refine And.intro ?_ ?_) | ((with_reducible first | refine Or.inl (And.intro (And.intro mixedP ?_) ?_) | refine Or.inl (And.intro mixedP ?_)); kernel_rfl) | simp only [go_sem,Nat.reduceEqDiff,Nat.reduceAdd,Nat.reduceMul,Nat.reduceLeDiff,Int.reduceBEq,d0,c64,n64])
   refine AW.step (E := EqT.no _) 4000 (by simp only [List.length_cons, List.length_nil, List.length_set, List.length_append, List.length_replicate]; decide) ?_
   repeat' (first | (with_reducible first | refine XG_split (fun hq => ?_) (fun hq => ?_) | refine MX1.of 4000 (by simp) ?_ | refine MX2.of 4000 (by simp) ?_ | refine And.intro ?_ ?_) | ((with_reducible first | refine Or.inl (And.intro (And.intro mixedP ?_) ?_) | refine Or.inl (And.intro mixedP ?_)); kernel_rfl) | simp only [go_sem,Nat.reduceEqDiff,Nat.reduceAdd,Nat.reduceMul,Nat.reduceLeDiff,Int.reduceBEq])
   refine AW.wk (Wk.nil (j := 5) 1 rfl) ?_
   refine AW.step (E := EqT.no _) 4000 (by simp only [List.length_cons, List.length_nil, List.length_set, List.length_append, List.length_replicate]; decide) ?_
   repeat' (first | (with_reducible first | refine XG_split (fun hq => ?_) (fun hq => ?_) | refine MX1.of 4000 (by simp) ?_ | refine MX2.of 4000 (by simp) ?_ | refine And.intro ?_ ?_) | ((with_reducible first | refine Or.inl (And.intro (And.intro mixedP ?_) ?_) | refine Or.inl (And.intro mixedP ?_)); kernel_rfl) | simp only [go_sem,Nat.reduceEqDiff,Nat.reduceAdd,Nat.reduceMul,Nat.reduceLeDiff,Int.reduceBEq])
   refine AW.loopJ (E := EqT.no _) (S := fun x : Nat × List Int => digSt x.1 sg x.2) (I := fun x => x.1 ≤ m0 ∧ (x.2 = [] → x.1 = m0) ∧ (x.2 ≠ [] → (if x.1 = 0 then [] else decL x.1) ++ x.2.reverse = decL m0)) (μ := fun x => if x.2 = [] then x.1 + 1 else x.1) (m0, []) ⟨Nat.le_refl _, fun _ => rfl, fun h => absurd rfl h⟩ ?_ 4000 (fun _ => by simp only [digSt, fr_len, List.length_replicate]; decide) ?_
   · refine Wk.same (by simp only [go_sem, digSt, hs1, List.map_nil]) ⟨fun i hi => by rw [upd_ne _ _ (by omega)], fun i cs hi => by simp only [upd] at hi; split at hi <;> cases hi⟩ (by omega) (by simp only [go_sem, digSt, List.map_nil]; omega)
   · rintro ⟨m, zs⟩ ⟨hm, hI1, hI2⟩
     simp only at hm hI1 hI2
     have hm18 : m ≤ 9223372036854775808 := by omega
     have w1 : IntKind.wrap .u64 (48 + ((m % 10 : Nat) : Int)) = 48 + ((m % 10 : Nat) : Int) := by rw [IntKind.wrap_u64]; omega
     have w2 := dig_u8 m
     have w3 : IntKind.wrap .u64 ((m / 10 : Nat) : Int) = ((m / 10 : Nat) : Int) := by rw [IntKind.wrap_u64]; omega
     have hHOk : ∀ k : Nat, HOk 1 (upd (fun _ => .no) 0 (.tok k 1)) := fun k => ⟨fun i hi => by rw [upd_ne _ _ (by omega)], fun i cs hi => by simp only [upd] at hi; split at hi <;> cases hi⟩
     cases zs with
     | nil =>
       have hmm := hI1 rfl
       by_cases hmz : m = 0
       · have dm : decide (0 < m) = false := decide_eq_false (by omega)
         repeat' (first | (with_reducible first | refine XG_split (fun hq => ?_) (fun hq => ?_) | refine MX1.of 4000 (by simp) ?_ | refine MX2.of 4000 (by simp) ?_ | refine And.intro ?_ ?_) | ((with_reducible first | refine Or.inl (And.intro (And.intro mixedP ?_) ?_) | refine Or.inl (And.intro mixedP ?_)); kernel_rfl) | simp only [go_sem,Nat.reduceEqDiff,Nat.reduceAdd,Nat.reduceMul,Nat.reduceLeDiff,Int.reduceBEq,List.map_cons,List.map_nil,digSt,w1,w2,w3,dm])
         all_goals first | omega | (unfold maxLen; omega) | (right; omega) | (left; simp; done) | (simp only [wk3,wkL2,wk2,wkL,wk1_d,wk1_own,wk1_nil,and_self]; done) | (intro i hi; simp only [upd]; (repeat' split); all_goals first | rfl | omega) | skip
         all_goals exact ⟨(m / 10, [48 + ((m % 10 : Nat) : Int)]), ⟨by show m / 10 ≤ m0; omega, fun h => (by cases h), fun _ => by
          show (if m / 10 = 0 then [] else decL (m / 10)) ++ [48 + ((m % 10 : Nat) : Int)] = decL m0
          rw [← hmm, hmz]
          decide +kernel⟩, Wk.of (by simp only [go_sem, digSt, List.map_cons, List.map_nil, u8Row]) (by intro i hi; simp only [upd, digSt, List.length_cons, List.length_nil]; (repeat' split); all_goals first | rfl | omega) (hHOk _) (by omega) (by omega) (by simp only [go_sem, digSt]; omega), by show m / 10 < m + 1; omega⟩
       · have dm : decide (0 < m) = true := decide_eq_true (by omega)
         repeat' (first | (with_reducible first | refine XG_split (fun hq => ?_) (fun hq => ?_) | refine MX1.of 4000 (by simp) ?_ | refine MX2.of 4000 (by simp) ?_ | refine And.intro ?_ ?_) | ((with_reducible first | refine Or.inl (And.intro (And.intro mixedP ?_) ?_) | refine Or.inl (And.intro mixedP ?_)); kernel_rfl) | simp only [go_sem,Nat.reduceEqDiff,Nat.reduceAdd,Nat.reduceMul,Nat.reduceLeDiff,Int.reduceBEq,List.map_cons,List.map_nil,digSt,w1,w2,w3,dm])
         all_goals first | omega | (unfold maxLen; omega) | (right; omega) | (left; simp; done) | (simp only [wk3,wkL2,wk2,wkL,wk1_d,wk1_own,wk1_nil,and_self]; done) | (intro i hi; simp only [upd]; (repeat' split); all_goals first | rfl | omega) | skip
         refine ⟨(m / 10, [48 + ((m % 10 : Nat) : Int)]), ⟨by show m / 10 ≤ m0; omega, fun h => (by cases h), fun _ => ?_⟩, Wk.of (by simp only [go_sem, digSt, List.map_cons, List.map_nil, u8Row]) (by intro i hi; simp only [upd, digSt, List.length_cons, List.length_nil]; (repeat' split); all_goals first | rfl | omega) (hHOk _) (by omega) (by omega) (by simp only [go_sem, digSt]; omega), by show m / 10 < m + 1; omega⟩
         show (if m / 10 = 0 then [] else decL (m / 10)) ++ [48 + ((m % 10 : Nat) : Int)] = decL m0
         rw [← hmm]
         by_cases h10 : m / 10 = 0
         · rw [if_pos h10, decL_last m h10]; rfl
         · rw [if_neg h10, decL_step m (by omega)]
     | cons z zs =>
       have hE := hI2 (by simp)
       have hzl : (z :: zs).length ≤ 20 := by
        have := congrArg List.length hE
        rw [List.length_append, List.length_reverse] at this
        omega
       simp only [List.length_cons] at hzl
       have dl : ((zs.length : Int) + 1 == 0) = false := by rw [beq_eq_false_iff_ne]; omega
       by_cases hmz : m = 0
       · have dm : decide (0 < m) = false := decide_eq_false (by omega)
         rw [if_pos hmz, List.nil_append] at hE
         repeat' (first | (with_reducible first | refine XG_split (fun hq => ?_) (fun hq => ?_) | refine MX1.of 4000 (by simp) ?_ | refine MX2.of 4000 (by simp) ?_ | refine And.intro ?_ ?_) | ((with_reducible first | refine Or.inl (And.intro (And.intro mixedP ?_) ?_) | refine Or.inl (And.intro mixedP ?_)); kernel_rfl) | simp only [go_sem,Nat.reduceEqDiff,Nat.reduceAdd,Nat.reduceMul,Nat.reduceLeDiff,Int.reduceBEq,List.map_cons,List.map_nil,digSt,w1,w2,w3,dm,dl])
         all_goals first | omega | (unfold maxLen; omega) | (right; omega) | (left; simp; done) | (simp only [wk3,wkL2,wk2,wkL,wk1_d,wk1_own,wk1_nil,and_self]; done) | (intro i hi; simp only [upd]; (repeat' split); all_goals first | rfl | omega) | skip
         refine AW.wk (Wk.of (t1 := (digSt m sg (z :: zs)).t) (h1 := (digSt m sg (z :: zs)).h) (n1 := 1) (by simp only [go_sem, digSt, List.map_cons]) (fun i hi => rfl) (hHOk _) (Nat.le_refl _) (by omega) (by simp only [go_sem, digSt, List.map_cons]; omega)) ?_
         refine AW.seq ?_
         refine AW.rev (j := 5) (k := 0) (zs := z :: zs) rfl rfl rfl rfl rfl rfl (by decide) (by decide) rfl (by simp) rfl (Nat.le_refl _) (by simp only [digSt, fr_len, List.length_replicate]; decide) (by simp only [List.length_cons]; omega) (dig_slots m sg (z :: zs)) ?_
         show AW Try.prog Ft.no.tb [] _ _ _
         refine AW.of_X (E := EqT.no _) 4000 (by simp [digSt, fr_len]) ?_
         rw [hE]
         repeat' (first | (with_reducible first | refine XG_split (fun hq => ?_) (fun hq => ?_) | refine MX1.of 4000 (by simp) ?_ | refine MX2.of 4000 (by simp) ?_ | refine And.intro ?_ ?_) | ((with_reducible first | refine Or.inl (And.intro (And.intro mixedP ?_) ?_) | refine Or.inl (And.intro mixedP ?_)); kernel_rfl) | simp only [go_sem,Nat.reduceEqDiff,Nat.reduceAdd,Nat.reduceMul,Nat.reduceLeDiff,Int.reduceBEq,digSt,byteRows_u8])
         all_goals try simp only [strOf_size]
         all_goals first | omega | (unfold maxLen; omega) | (right; omega) | (left; simp; done) | (simp only [wk3,wkL2,wk2,wkL,wk1_d,wk1_own,wk1_nil,and_self]; done) | (intro i hi; simp only [upd]; (repeat' split); all_goals first | rfl | omega) | skip
         all_goals exact wk_v (congrArg Value.string htxt.symm)
       · have dm : decide (0 < m) = true := decide_eq_true (by omega)
         rw [if_neg hmz] at hE
         repeat' (first | (with_reducible first | refine XG_split (fun hq => ?_) (fun hq => ?_) | refine MX1.of 4000 (by simp) ?_ | refine MX2.of 4000 (by simp) ?_ | refine And.intro ?_ ?_) | ((with_reducible first | refine Or.inl (And.intro (And.intro mixedP ?_) ?_) | refine Or.inl (And.intro mixedP ?_)); kernel_rfl) | simp only [go_sem,Nat.reduceEqDiff,Nat.reduceAdd,Nat.reduceMul,Nat.reduceLeDiff,Int.reduceBEq,List.map_cons,List.map_nil,digSt,w1,w2,w3,dm,dl])
         all_goals first | omega | (unfold maxLen; omega) | (right; omega) | (left; simp; done) | (simp only [wk3,wkL2,wk2,wkL,wk1_d,wk1_own,wk1_nil,and_self]; done) | (intro i hi; simp only [upd]; (repeat' split); all_goals first | rfl | omega) | skip
         refine ⟨(m / 10, z :: zs ++ [48 + ((m % 10 : Nat) : Int)]), ⟨by show m / 10 ≤ m0; omega, fun h => (by simp at h), fun _ => ?_⟩, Wk.of (by simp only [go_sem, digSt, List.map_cons, List.map_nil, List.map_append, u8Row]) (by intro i hi; simp only [upd, digSt, List.length_cons, List.length_nil, List.length_append]; (repeat' split); all_goals first | rfl | omega) (hHOk _) (by omega) (by omega) (by simp only [go_sem, digSt]; omega), by simp; omega⟩
         show (if m / 10 = 0 then [] else decL (m / 10)) ++ (z :: zs ++ [48 + ((m % 10 : Nat) : Int)]).reverse = decL m0
         rw [← hE, List.reverse_append]
         by_cases h10 : m / 10 = 0
         · rw [if_pos h10, decL_last m h10]; rfl
         · rw [if_neg h10, decL_step m (by omega)]
           simp
 · have d0 : decide (v < 0) = false := decide_eq_false hn
   have hs1 : sg = ⟨#[]⟩ := by rw [hsg, if_neg hn]
   rw [if_neg hn] at c64
   have c64 : IntKind.wrap .u64 v = (m0 : Int) := by rw [c64]; omega
   repeat' (first | (with_reducible first | refine XG_split (fun hq => ?_) (fun hq => ?_) | refine MX1.of 4000 (by simp) ?_ | refine MX2.of 4000 (by simp) ?_ | refine And.intro ?_ ?_) | ((with_reducible first | refine Or.inl (And.intro (And.intro mixedP ?_) ?_) | refine Or.inl (And.intro mixedP ?_)); kernel_rfl) | simp only [go_sem,Nat.reduceEqDiff,Nat.reduceAdd,Nat.reduceMul,Nat.reduceLeDiff,Int.reduceBEq,d0,c64])
   refine AW.step (E := EqT.no _) 4000 (by simp only [List.length_cons, List.length_nil, List.length_set, List.length_append, List.length_replicate]; decide) ?_
   repeat' (first | (with_reducible first | refine XG_split (fun hq => ?_) (fun hq => ?_) | refine MX1.of 4000 (by simp) ?_ | refine MX2.of 4000 (by simp) ?_ | refine And.intro ?_ ?_) | ((with_reducible first | refine Or.inl (And.intro (And.intro mixedP ?_) ?_) | refine Or.inl (And.intro mixedP ?_)); kernel_rfl) | simp only [go_sem,Nat.reduceEqDiff,Nat.reduceAdd,Nat.reduceMul,Nat.reduceLeDiff,Int.reduceBEq])
   refine AW.wk (Wk.nil (j := 5) 1 rfl) ?_
   refine AW.step (E := EqT.no _) 4000 (by simp only [List.length_cons, List.length_nil, List.length_set, List.length_append, List.length_replicate]; decide) ?_
   repeat' (first | (with_reducible first | refine XG_split (fun hq => ?_) (fun hq => ?_) | refine MX1.of 4000 (by simp) ?_ | refine MX2.of 4000 (by simp) ?_ | refine And.intro ?_ ?_) | ((with_reducible first | refine Or.inl (And.intro (And.intro mixedP ?_) ?_) | refine Or.inl (And.intro mixedP ?_)); kernel_rfl) | simp only [go_sem,Nat.reduceEqDiff,Nat.reduceAdd,Nat.reduceMul,Nat.reduceLeDiff,Int.reduceBEq])
   refine AW.loopJ (E := EqT.no _) (S := fun x : Nat × List Int => digSt x.1 sg x.2) (I := fun x => x.1 ≤ m0 ∧ (x.2 = [] → x.1 = m0) ∧ (x.2 ≠ [] → (if x.1 = 0 then [] else decL x.1) ++ x.2.reverse = decL m0)) (μ := fun x => if x.2 = [] then x.1 + 1 else x.1) (m0, []) ⟨Nat.le_refl _, fun _ => rfl, fun h => absurd rfl h⟩ ?_ 4000 (fun _ => by simp only [digSt, fr_len, List.length_replicate]; decide) ?_
   · refine Wk.same (by simp only [go_sem, digSt, hs1, List.map_nil]) ⟨fun i hi => by rw [upd_ne _ _ (by omega)], fun i cs hi => by simp only [upd] at hi; split at hi <;> cases hi⟩ (by omega) (by simp only [go_sem, digSt, List.map_nil]; omega)
   · rintro ⟨m, zs⟩ ⟨hm, hI1, hI2⟩
     simp only at hm hI1 hI2
     have hm18 : m ≤ 9223372036854775808 := by omega
     have w1 : IntKind.wrap .u64 (48 + ((m % 10 : Nat) : Int)) = 48 + ((m % 10 : Nat) : Int) := by rw [IntKind.wrap_u64]; omega
     have w2 := dig_u8 m
     have w3 : IntKind.wrap .u64 ((m / 10 : Nat) : Int) = ((m / 10 : Nat) : Int) := by rw [IntKind.wrap_u64]; omega
     have hHOk : ∀ k : Nat, HOk 1 (upd (fun _ => .no) 0 (.tok k 1)) := fun k => ⟨fun i hi => by rw [upd_ne _ _ (by omega)], fun i cs hi => by simp only [upd] at hi; split at hi <;> cases hi⟩
     cases zs with
     | nil =>
       have hmm := hI1 rfl
       by_cases hmz : m = 0
       · have dm : decide (0 < m) = false := decide_eq_false (by omega)
         repeat' (first | (with_reducible first | refine XG_split (fun hq => ?_) (fun hq => ?_) | refine MX1.of 4000 (by simp) ?_ | refine MX2.of 4000 (by simp) ?_ | refine And.intro ?_ ?_) | ((with_reducible first | refine Or.inl (And.intro (And.intro mixedP ?_) ?_) | refine Or.inl (And.intro mixedP ?_)); kernel_rfl) | simp only [go_sem,Nat.reduceEqDiff,Nat.reduceAdd,Nat.reduceMul,Nat.reduceLeDiff,Int.reduceBEq,List.map_cons,List.map_nil,digSt,w1,w2,w3,dm])
         all_goals first | omega | (unfold maxLen; omega) | (right; omega) | (left; simp; done) | (simp only [wk3,wkL2,wk2,wkL,wk1_d,wk1_own,wk1_nil,and_self]; done) | (intro i hi; simp only [upd]; (repeat' split); all_goals first | rfl | omega) | skip
         all_goals exact ⟨(m / 10, [48 + ((m % 10 : Nat) : Int)]), ⟨by show m / 10 ≤ m0; omega, fun h => (by cases h), fun _ => by
          show (if m / 10 = 0 then [] else decL (m / 10)) ++ [48 + ((m % 10 : Nat) : Int)] = decL m0
          rw [← hmm, hmz]
          decide +kernel⟩, Wk.of (by simp only [go_sem, digSt, List.map_cons, List.map_nil, u8Row]) (by intro i hi; simp only [upd, digSt, List.length_cons, List.length_nil]; (repeat' split); all_goals first | rfl | omega) (hHOk _) (by omega) (by omega) (by simp only [go_sem, digSt]; omega), by show m / 10 < m + 1; omega⟩
       · have dm : decide (0 < m) = true := decide_eq_true (by omega)
         repeat' (first | (with_reducible first | refine XG_split (fun hq => ?_) (fun hq => ?_) | refine MX1.of 4000 (by simp) ?_ | refine MX2.of 4000 (by simp) ?_ | refine And.intro ?_ ?_) | ((with_reducible first | refine Or.inl (And.intro (And.intro mixedP ?_) ?_) | refine Or.inl (And.intro mixedP ?_)); kernel_rfl) | simp only [go_sem,Nat.reduceEqDiff,Nat.reduceAdd,Nat.reduceMul,Nat.reduceLeDiff,Int.reduceBEq,List.map_cons,List.map_nil,digSt,w1,w2,w3,dm])
         all_goals first | omega | (unfold maxLen; omega) | (right; omega) | (left; simp; done) | (simp only [wk3,wkL2,wk2,wkL,wk1_d,wk1_own,wk1_nil,and_self]; done) | (intro i hi; simp only [upd]; (repeat' split); all_goals first | rfl | omega) | skip
         refine ⟨(m / 10, [48 + ((m % 10 : Nat) : Int)]), ⟨by show m / 10 ≤ m0; omega, fun h => (by cases h), fun _ => ?_⟩, Wk.of (by simp only [go_sem, digSt, List.map_cons, List.map_nil, u8Row]) (by intro i hi; simp only [upd, digSt, List.length_cons, List.length_nil]; (repeat' split); all_goals first | rfl | omega) (hHOk _) (by omega) (by omega) (by simp only [go_sem, digSt]; omega), by show m / 10 < m + 1; omega⟩
         show (if m / 10 = 0 then [] else decL (m / 10)) ++ [48 + ((m % 10 : Nat) : Int)] = decL m0
         rw [← hmm]
         by_cases h10 : m / 10 = 0
         · rw [if_pos h10, decL_last m h10]; rfl
         · rw [if_neg h10, decL_step m (by omega)]
     | cons z zs =>
       have hE := hI2 (by simp)
       have hzl : (z :: zs).length ≤ 20 := by
        have := congrArg List.length hE
        rw [List.length_append, List.length_reverse] at this
        omega
       simp only [List.length_cons] at hzl
       have dl : ((zs.length : Int) + 1 == 0) = false := by rw [beq_eq_false_iff_ne]; omega
       by_cases hmz : m = 0
       · have dm : decide (0 < m) = false := decide_eq_false (by omega)
         rw [if_pos hmz, List.nil_append] at hE
         repeat' (first | (with_reducible first | refine XG_split (fun hq => ?_) (fun hq => ?_) | refine MX1.of 4000 (by simp) ?_ | refine MX2.of 4000 (by simp) ?_ | refine And.intro ?_ ?_) | ((with_reducible first | refine Or.inl (And.intro (And.intro mixedP ?_) ?_) | refine Or.inl (And.intro mixedP ?_)); kernel_rfl) | simp only [go_sem,Nat.reduceEqDiff,Nat.reduceAdd,Nat.reduceMul,Nat.reduceLeDiff,Int.reduceBEq,List.map_cons,List.map_nil,digSt,w1,w2,w3,dm,dl])
         all_goals first | omega | (unfold maxLen; omega) | (right; omega) | (left; simp; done) | (simp only [wk3,wkL2,wk2,wkL,wk1_d,wk1_own,wk1_nil,and_self]; done) | (intro i hi; simp only [upd]; (repeat' split); all_goals first | rfl | omega) | skip
         refine AW.wk (Wk.of (t1 := (digSt m sg (z :: zs)).t) (h1 := (digSt m sg (z :: zs)).h) (n1 := 1) (by simp only [go_sem, digSt, List.map_cons]) (fun i hi => rfl) (hHOk _) (Nat.le_refl _) (by omega) (by simp only [go_sem, digSt, List.map_cons]; omega)) ?_
         refine AW.seq ?_
         refine AW.rev (j := 5) (k := 0) (zs := z :: zs) rfl rfl rfl rfl rfl rfl (by decide) (by decide) rfl (by simp) rfl (Nat.le_refl _) (by simp only [digSt, fr_len, List.length_replicate]; decide) (by simp only [List.length_cons]; omega) (dig_slots m sg (z :: zs)) ?_
         show AW Try.prog Ft.no.tb [] _ _ _
         refine AW.of_X (E := EqT.no _) 4000 (by simp [digSt, fr_len]) ?_
         rw [hE]
         repeat' (first | (with_reducible first | refine XG_split (fun hq => ?_) (fun hq => ?_) | refine MX1.of 4000 (by simp) ?_ | refine MX2.of 4000 (by simp) ?_ | refine And.intro ?_ ?_) | ((with_reducible first | refine Or.inl (And.intro (And.intro mixedP ?_) ?_) | refine Or.inl (And.intro mixedP ?_)); kernel_rfl) | simp only [go_sem,Nat.reduceEqDiff,Nat.reduceAdd,Nat.reduceMul,Nat.reduceLeDiff,Int.reduceBEq,digSt,byteRows_u8])
         all_goals try simp only [strOf_size]
         all_goals first | omega | (unfold maxLen; omega) | (right; omega) | (left; simp; done) | (simp only [wk3,wkL2,wk2,wkL,wk1_d,wk1_own,wk1_nil,and_self]; done) | (intro i hi; simp only [upd]; (repeat' split); all_goals first | rfl | omega) | skip
         all_goals exact wk_v (congrArg Value.string htxt.symm)
       · have dm : decide (0 < m) = true := decide_eq_true (by omega)
         rw [if_neg hmz] at hE
         repeat' (first | (with_reducible first | refine XG_split (fun hq => ?_) (fun hq => ?_) | refine MX1.of 4000 (by simp) ?_ | refine MX2.of 4000 (by simp) ?_ | refine And.intro ?_ ?_) | ((with_reducible first | refine Or.inl (And.intro (And.intro mixedP ?_) ?_) | refine Or.inl (And.intro mixedP ?_)); kernel_rfl) | simp only [go_sem,Nat.reduceEqDiff,Nat.reduceAdd,Nat.reduceMul,Nat.reduceLeDiff,Int.reduceBEq,List.map_cons,List.map_nil,digSt,w1,w2,w3,dm,dl])
         all_goals first | omega | (unfold maxLen; omega) | (right; omega) | (left; simp; done) | (simp only [wk3,wkL2,wk2,wkL,wk1_d,wk1_own,wk1_nil,and_self]; done) | (intro i hi; simp only [upd]; (repeat' split); all_goals first | rfl | omega) | skip
         refine ⟨(m / 10, z :: zs ++ [48 + ((m % 10 : Nat) : Int)]), ⟨by show m / 10 ≤ m0; omega, fun h => (by simp at h), fun _ => ?_⟩, Wk.of (by simp only [go_sem, digSt, List.map_cons, List.map_nil, List.map_append, u8Row]) (by intro i hi; simp only [upd, digSt, List.length_cons, List.length_nil, List.length_append]; (repeat' split); all_goals first | rfl | omega) (hHOk _) (by omega) (by omega) (by simp only [go_sem, digSt]; omega), by simp; omega⟩
         show (if m / 10 = 0 then [] else decL (m / 10)) ++ (z :: zs ++ [48 + ((m % 10 : Nat) : Int)]).reverse = decL m0
         rw [← hE, List.reverse_append]
         by_cases h10 : m / 10 = 0
         · rw [if_pos h10, decL_last m h10]; rfl
         · rw [if_neg h10, decL_step m (by omega)]
           simp
abbrev digitsS : Fs := .pureIf (g1p aI64 i64) (g1 aI64 fun n => vS (numText n))
theorem digits_ok : FsOk Try.prog 105 digitsS := by
 intro c h n w vals args K hw hl hr hS
 obtain ⟨hpre, hS⟩ := hS
 obtain ⟨q, hq, hK⟩ := onO_iff hS
 simp only [Fs.pureIf] at hq hpre
 cases hg : g1 aI64 (fun n => vS (numText n)) args with
 | none => simp [hg] at hq
 | some r =>
   simp only [hg, Option.map_some, Option.some.injEq] at hq
   subst hq
   obtain ⟨x, v, rfl, hx, rfl⟩ := g1_eq hg
   obtain ⟨u, hu⟩ : ∃ u, vals = [u] := by
    match vals, hl with
    | [u], _ => exact ⟨u, rfl⟩
   subst hu
   have hxv : x = vI v := by
    unfold aI64 at hx
    split at hx
    · cases hx; rfl
    · cases hx
   subst hxv
   have hru := hr 0 u _ rfl rfl
   obtain rfl := cval_rep hru rfl
   let cF : Cx := ⟨fun b => if b < w.heap.size then none else some 0, fun _ => 0, fun _ => (none, 0)⟩
   have hwF : Wd cF (fun _ => .no) 0 w := ⟨fun i cs hi => (by cases hi), fun i m z cap hi _ => (by cases hi), fun i m z a cap hi _ => (by cases hi), fun i j b _ hi _ => (by cases hi), fun b hb => if_neg (Nat.not_lt.2 hb), fun _ _ => rfl⟩
   have hrF : ∀ (j : Nat) u x, [(.int .i64 v : Value)][j]? = some u → [vI v][j]? = some x → ARep cF (fun _ => .no) w u x := fun j u x hu hx => by
    match j with
    | 0 =>
      simp only [List.getElem?_cons_zero, Option.some.injEq] at hu hx
      subst hu; subst hx
      exact .d _ _ (.v _ rfl)
    | j + 1 => simp at hu
   obtain ⟨hent, hcalls⟩ := digits0_ok cF (fun _ => .no) 0 w [.int .i64 v] [vI v] (fun r _ _ => r = vS (numText v)) hwF rfl hrF ⟨⟨hpre, rfl, rfl⟩, by
    show onO ((g1 aI64 (fun n => vS (numText n)) [vI v]).map fun r => (r, (fun _ => AO.no), 0)) _
    rw [hg]
    exact rfl⟩
   refine ⟨hent, hcalls.mono fun e w' he => ?_⟩
   obtain ⟨y, r, c', h', n', rfl, r1, r2, r3, r4, r5, rfl⟩ := he
   obtain rfl := cval_rep r4 rfl
   have hb : Below w.heap.size w w' := ⟨r2.os, r2.tape, r2.output, r2.size, fun b hb => (r2.all b (if_pos hb)).2⟩
   obtain ⟨g1, g2⟩ := wd_same hw hb
   exact ⟨_, _, c, h, n, rfl, g1, g2, ⟨fun b hbl _ => hb.block b hbl, fun i b q _ => q⟩, .d _ _ (.v _ rfl), Nat.le_refl n, hK⟩
end Go.Proofs.Ytdhocmakbapfpaa.M
end
section
namespace Go.Proofs.Ytdhocmakbapfpaa.M
open Go.R
theorem of_rep {P : Program} {f : FuncId} {fn : Func} {code : Code} {g : List AV → Option AV} {pre : List AV → Prop} (hf : P.funcs[f]? = some fn) (hbody : fn.body = some code) (hn : (fn.name == "runtime.NumGoroutine") = false)
 (H : ∀ (args : List AV) (r : AV) (c : Cx) (h : AH) (n : Nat) (w : World) (vals : List Value), pre args → g args = some r → Wd c h n w → vals.length = args.length → (∀ (j : Nat) v x, vals[j]? = some v → args[j]? = some x → ARep c h w v x) → ∃ x, (∀ c h w, ARep c h w x r) ∧ Calls P f vals.toArray w fun e w' => e = .returned x ∧ Go.RowKit.Below w.heap.size w w') : FsOk P f (.pureIf pre g) := by
 intro c h n w vals args K hw hl hr hS
 obtain ⟨hpre, hS⟩ := hS
 obtain ⟨q, hq, hK⟩ := onO_iff hS
 refine ⟨Entered.of hf hbody hn, ?_⟩
 simp only [Fs.pureIf] at hq hpre
 cases hg : g args with
 | none => simp [hg] at hq
 | some r =>
   simp only [hg, Option.map_some, Option.some.injEq] at hq
   subst hq
   obtain ⟨x, h2, h3⟩ := H args r c h n w vals hpre hg hw hl hr
   refine h3.mono fun e w' ⟨he, hb⟩ => ?_
   obtain ⟨g1, g2⟩ := wd_same hw hb
   exact ⟨x, r, c, h, n, he, g1, g2, ⟨fun b hbl _ => hb.block b hbl, fun i b q _ => q⟩, h2 c h w', Nat.le_refl n, hK⟩
def aStrs (x : AV) : Option (List ByteArray) := match rowsOf 1 x with
 | some xs => dRows cStr xs
 | none => none
attribute [go_sem] aStrs
theorem ext_data {a b : ByteArray} (h : a.data.toList = b.data.toList) : a = b := by
 obtain ⟨⟨x⟩⟩ := a
 obtain ⟨⟨y⟩⟩ := b
 simp only at h
 rw [h]
def joinL (xs : List ByteArray) (sep : ByteArray) : List UInt8 := Go.Lib.join (xs.map (·.data.toList)) sep.data.toList
def joinB (xs : List ByteArray) (sep : ByteArray) : ByteArray := ⟨(joinL xs sep).toArray⟩
abbrev joinS : Fs := .pureIf (g2p aStrs aStr fun xs sep => xs.length ≤ 1099511627776 ∧ (joinL xs sep).length ≤ 140737488355328) (g2 aStrs aStr fun xs sep => vS (joinB xs sep))
theorem strJoin_ok : FsOk Try.prog 72 joinS := by
 refine of_rep Try.func72 rfl (by kernel_rfl) ?_
 intro args r c h n w vals hp hg hw hl hr
 obtain ⟨x, y, xs, sep, rfl, hx, hy, rfl⟩ := g2_eq hg
 obtain ⟨hmax, hp⟩ := hp xs hx sep hy
 obtain rfl := aStr_eq hy
 refine ⟨.string (joinB xs sep), fun _ _ _ => .d _ _ (.v _ rfl), ?_⟩
 match vals, hl with
 | [v, u], _ =>
   have hu := hr 1 u _ rfl rfl
   obtain rfl := cval_rep hu rfl
   have hv := hr 0 v _ rfl rfl
   unfold aStrs at hx
   cases hrow : rowsOf 1 x with
   | none => simp [hrow] at hx
   | some rows =>
     simp only [hrow] at hx
     obtain rfl := dRows_eq (fun c x => cStr_eq) hx
     obtain ⟨A, cap, rfl, hd⟩ := rowsOf_rep hv hrow
     rw [List.length_map] at hd ⊢
     cases xs with
     | nil => exact (Go.Proofs.Try.strings_Join_none A cap sep w).mono fun e w' ⟨he, hw'⟩ => ⟨he, by subst hw'; exact Go.RowKit.Below.refl _ _⟩
     | cons s0 rest =>
       generalize hxs : s0 :: rest = xs at hd hp hmax
       have hpos : 0 < xs.length := by rw [← hxs]; simp
       have hlen : ((xs.map strRow).length) = xs.length := List.length_map _
       rw [← hlen] at hd
       generalize hz : (.sl 1 (xs.map strRow) : DV) = z at hd
       generalize hvv : (.slice A (xs.map strRow).length cap : Value) = vv at hd
       cases hd with
       | v x h1 => cases hz
       | sl A' cap' z' rows f hc hz' hA hN hcell hrep =>
         cases hz
         have hvv := hvv
         simp only [Value.slice.injEq] at hvv
         obtain ⟨rfl, _, rfl⟩ := hvv
         cases A with
         | none =>
           have := (hN rfl).1
           rw [← hxs] at this
           simp at this
         | some a =>
           have hsp := hA a rfl
           obtain ⟨bk, off, sp⟩ := a
           simp only at hsp
           subst hsp
           have hrow' : ∀ (j : Nat) s, xs[j]? = some s → (xs.map strRow)[j]? = some (strRow s) := fun j s hj => by rw [List.getElem?_map, hj]; rfl
           have hcells : ∀ (j : Nat) s, xs[j]? = some s → w.cell? ⟨bk, off + j, none⟩ = some (.string s) ∧ c.lo bk (off + j) := fun j s hj => by
            have h1 := hcell _ rfl j 0 (strRow s) (.v (.string s)) (hrow' j s hj) rfl
            have h2 := hrep j 0 (strRow s) (.v (.string s)) (hrow' j s hj) rfl
            have e : f j 0 = .string s := by
             generalize f j 0 = q at h2
             cases h2
             rfl
            rw [e] at h1
            simpa [Nat.mul_one] using h1
           have hlo : bk < w.heap.size := lo_lt hw (hcells 0 _ (List.getElem?_eq_getElem hpos)).2
           exact (Go.Proofs.Try.strings_Join bk off cap xs sep w (fun j s hj => (hcells j s hj).1) hlo (by omega) (by rw [hlen] at hc; exact hc) hp).mono fun e w' ⟨he, hb⟩ => ⟨he, hb⟩
abbrev ptextS : Fs := .pureIf (g1p aVal fun v => i64 v.num) (g1 aVal fun v => .tup [vS (textB v), vB (goodV v)])
abbrev showTermS : Fs := .pureIf (g1p aTerm fun t => i64 t.val.num) (g1 aTerm fun t => vS (termText t))
abbrev showS : Fs := .pureIf (g1p aLit fun l => literalB l = true ∧ litI l) (g1 aLit fun l => vS (litText l))
abbrev pprintS : Fs := .pureIf (g1p aClause fun c => clauseI c ∧ szC c) (g1 aClause fun c => .tup [vS (printB c).1, vI (printB c).2])
abbrev pprintLitS : Fs := .pureIf (g1p aLit fun l => litI l ∧ szL l) (g1 aLit fun l => .tup [vS (printLitB l).1, vI (printLitB l).2])
theorem joinB_cons (x : ByteArray) (r : List ByteArray) (sep : ByteArray) : (joinB (x :: r) sep).data.toList = x.data.toList ++ Go.Lib.joinTail sep.data.toList (r.map (·.data.toList)) := by
 unfold joinB joinL
 rw [List.map_cons, Go.Lib.join_cons]
theorem joinB_two (a b sep : ByteArray) : joinB [a, b] sep = a ++ sep ++ b := by
 have h := joinB_cons a [b] sep
 refine ext_data ?_
 rw [h]
 simp [Go.Lib.joinTail, ByteArray.data_append]
theorem args_join : ∀ (r : List Term) (k : Nat) (out : ByteArray), (argsGo (k + 1) out r).data.toList = out.data.toList ++ Go.Lib.joinTail [44, 32] ((r.map termText).map (·.data.toList))
 | [], k, out => by simp [argsGo, Go.Lib.joinTail]
 | t :: r, k, out => by
   rw [argsGo, args_join r (k + 1)]
   simp [Go.Lib.joinTail, ByteArray.data_append]
theorem args_join0 (t : Term) (r : List Term) (out : ByteArray) : argsGo 0 out (t :: r) = out ++ (⟨#[40]⟩ : ByteArray) ++ joinB ((t :: r).map termText) ⟨#[44, 32]⟩ := by
 refine ext_data ?_
 rw [argsGo, args_join r 0]
 simp only [ByteArray.data_append, Array.toList_append, List.map_cons, joinB_cons, List.append_assoc]
theorem size_data (x : ByteArray) : x.data.toList.length = x.size := Array.length_toList
theorem joinL_le (ts : List ByteArray) (sep : ByteArray) (m : Nat) (h : ∀ t ∈ ts, t.size ≤ m) : (joinL ts sep).length ≤ ts.length * (m + sep.size) := by
 have key : ∀ r : List ByteArray, (∀ t ∈ r, t.size ≤ m) → (Go.Lib.joinTail sep.data.toList (r.map (·.data.toList))).length ≤ r.length * (m + sep.size) := by
  intro r
  induction r with
  | nil => intro _; simp [Go.Lib.joinTail]
  | cons x r ih =>
    intro hr
    have := ih fun t ht => hr t (List.mem_cons_of_mem _ ht)
    have hx := hr x (List.mem_cons_self ..)
    simp only [Go.Lib.joinTail, List.map_cons, List.flatten_cons, List.length_append, List.length_cons] at this ⊢
    have e1 := size_data x
    have e2 := size_data sep
    rw [e1, e2, Nat.succ_mul]
    omega
 cases ts with
 | nil => simp [joinL, Go.Lib.join_nil]
 | cons x r =>
   unfold joinL
   rw [List.map_cons, Go.Lib.join_cons, List.length_append]
   have := key r fun t ht => h t (List.mem_cons_of_mem _ ht)
   have hx := h x (List.mem_cons_self ..)
   have e1 := size_data x
   rw [e1, List.length_cons, Nat.succ_mul]
   omega
theorem joinB_size (ts : List ByteArray) (sep : ByteArray) : (joinB ts sep).size = (joinL ts sep).length := by rw [← size_data]; rfl
set_option maxRecDepth 10000 in
set_option maxHeartbeats 4000000 in
theorem ptext_ok : FsOk Try.prog 88 ptextS := by
 refine of_Y1 (E := EqT.no _) (F := (Ft.no.put 96 goodS).put 105 digitsS) Val.av (fun _ _ => aVal_le) Try.func88 rfl (by kernel_rfl) [.tmp 2, .tmp 3] rfl Try.ntmps88 (by decide) (((FtOk.no _).put good_ok).put digits_ok) ?_
 intro v h n hp hok
 cases hg : goodV v with
 | false =>
   have hT : textB v = ⟨#[]⟩ := by unfold textB; rw [hg]; rfl
   repeat' (first | (with_reducible first | refine XG_split (fun hq => ?_) (fun hq => ?_) | refine MX1.of 4000 (by simp) ?_ | refine MX2.of 4000 (by simp) ?_ | refine And.intro ?_ ?_) | ((with_reducible first | refine Or.inl (And.intro (And.intro mixedP ?_) ?_) | refine Or.inl (And.intro mixedP ?_)); kernel_rfl) | simp only [go_sem,Nat.reduceEqDiff,Nat.reduceAdd,Nat.reduceMul,Nat.reduceLeDiff,Int.reduceBEq,Val.av,empty_str,hg,hT])
   all_goals first | exact hp | skip
   all_goals first | omega | (unfold maxLen; omega) | (right; omega) | (left; simp; done) | (simp only [wk3,wkL2,wk2,wkL,wk1_d,wk1_own,wk1_nil,and_self]; done) | (intro i hi; simp only [upd]; (repeat' split); all_goals first | rfl | omega) | skip
 | true =>
   cases hs : v.sym.size == 0 with
   | false =>
     have hT : textB v = v.sym := by unfold textB; rw [hg, if_pos rfl, if_pos (by have := beq_eq_false_iff_ne.1 hs; omega)]
     repeat' (first | (with_reducible first | refine XG_split (fun hq => ?_) (fun hq => ?_) | refine MX1.of 4000 (by simp) ?_ | refine MX2.of 4000 (by simp) ?_ | refine And.intro ?_ ?_) | ((with_reducible first | refine Or.inl (And.intro (And.intro mixedP ?_) ?_) | refine Or.inl (And.intro mixedP ?_)); kernel_rfl) | simp only [go_sem,Nat.reduceEqDiff,Nat.reduceAdd,Nat.reduceMul,Nat.reduceLeDiff,Int.reduceBEq,Val.av,empty_str,hg,hs,hT])
     all_goals first | exact hp | skip
     all_goals first | omega | (unfold maxLen; omega) | (right; omega) | (left; simp; done) | (simp only [wk3,wkL2,wk2,wkL,wk1_d,wk1_own,wk1_nil,and_self]; done) | (intro i hi; simp only [upd]; (repeat' split); all_goals first | rfl | omega) | skip
   | true =>
     have hT : textB v = numText v.num := by unfold textB; rw [hg, if_pos rfl, if_neg (by have := beq_iff_eq.1 hs; omega)]
     repeat' (first | (with_reducible first | refine XG_split (fun hq => ?_) (fun hq => ?_) | refine MX1.of 4000 (by simp) ?_ | refine MX2.of 4000 (by simp) ?_ | refine And.intro ?_ ?_) | ((with_reducible first | refine Or.inl (And.intro (And.intro mixedP ?_) ?_) | refine Or.inl (And.intro mixedP ?_)); kernel_rfl) | simp only [go_sem,Nat.reduceEqDiff,Nat.reduceAdd,Nat.reduceMul,Nat.reduceLeDiff,Int.reduceBEq,Val.av,empty_str,hg,hs,hT])
     all_goals first | exact hp | skip
     all_goals first | omega | (unfold maxLen; omega) | (right; omega) | (left; simp; done) | (simp only [wk3,wkL2,wk2,wkL,wk1_d,wk1_own,wk1_nil,and_self]; done) | (intro i hi; simp only [upd]; (repeat' split); all_goals first | rfl | omega) | skip
set_option maxRecDepth 10000 in
set_option maxHeartbeats 4000000 in
theorem showTerm_ok : FsOk Try.prog 71 showTermS := by
 refine of_Y1 (E := EqT.no _) (F := Ft.no.put 88 ptextS) Term.av (fun _ _ => aTerm_le) Try.func71 rfl (by kernel_rfl) [.tmp 2] rfl Try.ntmps71 (by decide) ((FtOk.no _).put ptext_ok) ?_
 intro t h n hp hok
 cases hs : t.var.size == 0 with
 | false =>
   have hT : termText t = t.var := by unfold termText; rw [if_pos (by have := beq_eq_false_iff_ne.1 hs; omega)]
   repeat' (first | (with_reducible first | refine XG_split (fun hq => ?_) (fun hq => ?_) | refine MX1.of 4000 (by simp) ?_ | refine MX2.of 4000 (by simp) ?_ | refine And.intro ?_ ?_) | ((with_reducible first | refine Or.inl (And.intro (And.intro mixedP ?_) ?_) | refine Or.inl (And.intro mixedP ?_)); kernel_rfl) | simp only [go_sem,Nat.reduceEqDiff,Nat.reduceAdd,Nat.reduceMul,Nat.reduceLeDiff,Int.reduceBEq,Term.av,Val.av,empty_str,hs,hT])
   all_goals first | exact hp | skip
   all_goals first | omega | (unfold maxLen; omega) | (right; omega) | (left; simp; done) | (simp only [wk3,wkL2,wk2,wkL,wk1_d,wk1_own,wk1_nil,and_self]; done) | (intro i hi; simp only [upd]; (repeat' split); all_goals first | rfl | omega) | skip
 | true =>
   have hT : termText t = textB t.val := by unfold termText; rw [if_neg (by have := beq_iff_eq.1 hs; omega)]
   repeat' (first | (with_reducible first | refine XG_split (fun hq => ?_) (fun hq => ?_) | refine MX1.of 4000 (by simp) ?_ | refine MX2.of 4000 (by simp) ?_ | refine And.intro ?_ ?_) | ((with_reducible first | refine Or.inl (And.intro (And.intro mixedP ?_) ?_) | refine Or.inl (And.intro mixedP ?_)); kernel_rfl) | simp only [go_sem,Nat.reduceEqDiff,Nat.reduceAdd,Nat.reduceMul,Nat.reduceLeDiff,Int.reduceBEq,Term.av,Val.av,empty_str,hs,hT])
   all_goals first | exact hp | skip
   all_goals first | omega | (unfold maxLen; omega) | (right; omega) | (left; simp; done) | (simp only [wk3,wkL2,wk2,wkL,wk1_d,wk1_own,wk1_nil,and_self]; done) | (intro i hi; simp only [upd]; (repeat' split); all_goals first | rfl | omega) | skip
def showSt (l : Lit) (h : AH) (n k : Nat) : St := match k with
 | 0 => ⟨fr [(1, .p n 0), (3, .d (.v (.slice none 0 0))), (8, .d (.sl 3 (l.args.map Term.cells))), (9, vI l.args.length), (10, vI 0)] (List.replicate 57 .any), upd h n (.box l.bx), n, n + 1⟩
 | k + 1 => ⟨fr [(1, .p n 0), (3, .own (n + 1 + 1) 1 (((l.args.take (k + 1)).map termText).map strRow)), (8, .d (.sl 3 (l.args.map Term.cells))), (9, vI l.args.length), (10, vI (k + 1 : Nat))] (List.replicate 57 .any),
     upd (upd (upd h n (.box l.bx)) (n + 1) (.box ((l.args.headD Term.z).cells.map AV.d))) (n + 1 + 1) (.tok (k + 1) 1), n, n + 1 + 1 + 1⟩
set_option maxRecDepth 10000 in
set_option maxHeartbeats 4000000 in
theorem show_ok : FsOk Try.prog 48 showS := by
 refine of_Y1 (E := eqT) (F := (Ft.no.put 71 showTermS).put 72 joinS) Lit.av (fun _ _ => aLit_le) Try.func48 rfl (by kernel_rfl) [.tmp 2] rfl Try.ntmps48 (by decide) (((FtOk.no _).put showTerm_ok).put strJoin_ok) ?_
 intro l h n hp hok
 obtain ⟨hg, hw, hi⟩ := hp
 have hlen : l.args.length ≤ 4 := by
  unfold literalB at hg
  split at hg
  · unfold saidB at hg
    simp only [Bool.and_eq_true, decide_eq_true_eq] at hg
    exact hg.1.2
  · simp only [Bool.and_eq_true, beq_iff_eq] at hg
    omega
 have hts : termsB l.args = true := by
  unfold literalB at hg
  split at hg
  · unfold saidB at hg
    simp only [Bool.and_eq_true] at hg
    exact hg.2
  · simp only [Bool.and_eq_true] at hg
    exact hg.2
 have hsz : ∀ t ∈ l.args, (termText t).size ≤ 20 := fun t ht => termText_size (hi t ht) (by unfold termsB at hts; rw [List.all_eq_true] at hts; exact hts t ht)
 have hszm : ∀ s ∈ l.args.map termText, s.size ≤ 20 := fun s hs => by
  obtain ⟨t, ht, rfl⟩ := List.mem_map.1 hs
  exact hsz t ht
 have hjl : ∀ sep : ByteArray, sep.size ≤ 4 → (joinL (l.args.map termText) sep).length ≤ 96 := fun sep hsep => by
  have := joinL_le (l.args.map termText) sep 20 hszm
  rw [List.length_map] at this
  have h2 : l.args.length * (20 + sep.size) ≤ 4 * 24 := Nat.mul_le_mul hlen (by omega)
  omega
 have hok' : HOk (n + 1) (upd h n (.box l.bx)) := (hok.mono (Nat.le_succ n)).upd_box (Nat.lt_succ_self n) (by simp only [go_sem, Lit.bx])
 repeat' (first | (with_reducible first | refine XG_split (fun hq => ?_) (fun hq => ?_) | refine MX1.of 4000 (by simp) ?_ | refine MX2.of 4000 (by simp) ?_ | refine And.intro ?_ ?_) | ((with_reducible first | refine Or.inl (And.intro (And.intro mixedP ?_) ?_) | refine Or.inl (And.intro mixedP ?_)); kernel_rfl) | simp only [go_sem,Nat.reduceEqDiff,Nat.reduceAdd,Nat.reduceMul,Nat.reduceLeDiff,Int.reduceBEq,Lit.av,Lit.bx,showSt,Term.av])
 all_goals first | omega | (unfold maxLen; omega) | (right; omega) | (left; simp; done) | (simp only [wk3,wkL2,wk2,wkL,wk1_d,wk1_own,wk1_nil,and_self]; done) | (intro i hi; simp only [upd]; (repeat' split); all_goals first | rfl | omega) | skip
 refine AW.loopJ (E := eqT) (S := showSt l h n) (I := fun k => k ≤ l.args.length) (μ := fun k => l.args.length - k) 0 (Nat.zero_le _) ?_ 4000 (fun k => by cases k <;> simp only [showSt, fr_len, List.length_replicate] <;> decide) ?_
 · exact Wk.same (by simp only [go_sem, showSt, Lit.bx]) hok' (Nat.le_succ _) (by simp only [go_sem, showSt]; omega)
 · intro k hk
   rcases Nat.lt_or_ge k l.args.length with hkl | hkl
   · have hti := hi _ (List.getElem_mem hkl)
     cases k with
     | zero =>
       have hhd : l.args.headD Term.z = l.args[0] := by
        rw [List.headD_eq_head?_getD, List.head?_eq_getElem?, List.getElem?_eq_getElem hkl]
        rfl
       have hrow : ((l.args.take 1).map termText).map strRow = [strRow (termText l.args[0])] := by
        rw [List.take_succ_eq_append_getElem hkl]
        simp
       repeat' (first | (with_reducible first | refine XG_split (fun hq => ?_) (fun hq => ?_) | refine MX1.of 4000 (by simp) ?_ | refine MX2.of 4000 (by simp) ?_ | refine And.intro ?_ ?_) | ((with_reducible first | refine Or.inl (And.intro (And.intro mixedP ?_) ?_) | refine Or.inl (And.intro mixedP ?_)); kernel_rfl) | simp only [go_sem,Nat.reduceEqDiff,Nat.reduceAdd,Nat.reduceMul,Nat.reduceLeDiff,Int.reduceBEq,Lit.av,Lit.bx,showSt,Term.av,decide_eq_true hkl,List.getElem?_eq_getElem hkl,toNat1])
       all_goals first | exact hti | skip
       all_goals first | omega | (unfold maxLen; omega) | (right; omega) | (left; simp; done) | (simp only [wk3,wkL2,wk2,wkL,wk1_d,wk1_own,wk1_nil,and_self]; done) | (intro i hi; simp only [upd]; (repeat' split); all_goals first | rfl | omega) | skip
       refine ⟨1, hkl, Wk.of (by simp only [go_sem, hrow, strRow]) ?_ ?_ (by omega) (by omega) (by simp only [go_sem]; omega), by omega⟩
       · intro i hi
         simp only [upd, hhd, Term.ds]
         (repeat' split)
         all_goals first | rfl | omega
       · exact ((hok'.mono (by omega)).upd_box (by omega) (by simp only [go_sem])).upd_tok (by omega)
     | succ k =>
       have hdec : decide (((k + 1 : Nat) : Int) < (l.args.length : Int)) = true := decide_eq_true (by omega)
       have hlt : (l.args.take (k + 1)).length = k + 1 := by rw [List.length_take]; omega
       have hrow : ((l.args.take (k + 1 + 1)).map termText).map strRow = ((l.args.take (k + 1)).map termText).map strRow ++ [strRow (termText l.args[k + 1])] := by
        rw [List.take_succ_eq_append_getElem hkl, List.map_append, List.map_append]
        rfl
       repeat' (first | (with_reducible first | refine XG_split (fun hq => ?_) (fun hq => ?_) | refine MX1.of 4000 (by simp) ?_ | refine MX2.of 4000 (by simp) ?_ | refine And.intro ?_ ?_) | ((with_reducible first | refine Or.inl (And.intro (And.intro mixedP ?_) ?_) | refine Or.inl (And.intro mixedP ?_)); kernel_rfl) | simp only [go_sem,Nat.reduceEqDiff,Nat.reduceAdd,Nat.reduceMul,Nat.reduceLeDiff,Int.reduceBEq,Lit.av,Lit.bx,showSt,Term.av,dnat1 hkl,toNat1,List.getElem?_eq_getElem hkl,hlt])
       all_goals first | exact hti | skip
       all_goals first | omega | (unfold maxLen; omega) | (right; omega) | (left; simp; done) | (simp only [wk3,wkL2,wk2,wkL,wk1_d,wk1_own,wk1_nil,and_self]; done) | (intro i hi; simp only [upd]; (repeat' split); all_goals first | rfl | omega) | skip
       refine ⟨k + 1 + 1, hkl, Wk.of (by simp only [go_sem, hrow, strRow]) ?_ ?_ (by omega) (by omega) (by simp only [go_sem]; omega), by omega⟩
       · intro i hi
         simp only [upd]
         (repeat' split)
         all_goals first | rfl | omega
       · exact ((hok'.mono (by omega)).upd_box (by omega) (by simp only [go_sem])).upd_tok (by omega)
   · obtain rfl : k = l.args.length := by omega
     have htk : l.args.take l.args.length = l.args := List.take_of_length_le (Nat.le_refl _)
     have s1 : #[(32 : UInt8), 60, 32].size = 3 := rfl
     have s2 : #[(32 : UInt8), 33, 61, 32].size = 4 := rfl
     have s3 : #[(44 : UInt8), 32].size = 2 := rfl
     have s4 : #[(40 : UInt8)].size = 1 := rfl
     have s5 : #[(41 : UInt8)].size = 1 := rfl
     have s6 : #[(32 : UInt8), 115, 97, 121, 115, 32].size = 6 := rfl
     have s7 : #[(110 : UInt8), 111, 116, 32].size = 4 := rfl
     have j1 := hjl ⟨#[32, 60, 32]⟩ (by decide)
     have j2 := hjl ⟨#[32, 33, 61, 32]⟩ (by decide)
     have j3 := hjl ⟨#[44, 32]⟩ (by decide)
     have j3' := joinB_size (l.args.map termText) ⟨#[44, 32]⟩
     have hown : (l.who.var.size == 0 && (l.who.val.sym.size == 0 && l.who.val.num == 0)) = ownT l.who := by unfold ownT; rw [Bool.and_assoc]
     by_cases k3 : l.kind = 3
     · have c3 : (l.kind == 3) = true := by simp [k3]
       obtain ⟨a, b, hab⟩ : ∃ a b, l.args = [a, b] := by
        have : l.args.length = 2 := by
         simp [literalB, k3] at hg
         exact hg.1.2
        match hq : l.args, this with
        | [a, b], _ => exact ⟨a, b, rfl⟩
       have hT : litText l = joinB (l.args.map termText) ⟨#[32, 60, 32]⟩ := by
        unfold litText
        rw [c3, if_pos rfl, hab]
        simp only [List.map_cons, List.map_nil, joinB_two]
        rfl
       have hl2 : l.args.length = 1 + 1 := by rw [hab]; rfl
       rw [hl2] at htk ⊢
       repeat' (first | (with_reducible first | refine XG_split (fun hq => ?_) (fun hq => ?_) | refine MX1.of 4000 (by simp) ?_ | refine MX2.of 4000 (by simp) ?_ | refine And.intro ?_ ?_) | ((with_reducible first | refine Or.inl (And.intro (And.intro mixedP ?_) ?_) | refine Or.inl (And.intro mixedP ?_)); kernel_rfl) | simp only [go_sem,Nat.reduceEqDiff,Nat.reduceAdd,Nat.reduceMul,Nat.reduceLeDiff,Int.reduceBEq,Lit.av,Lit.bx,showSt,Term.av,Int.lt_irrefl,decide_false,dStrs,List.length_map,htk,hl2,c3,hT])
       all_goals first | exact ⟨by rw [List.length_map]; omega, by omega⟩ | skip
       all_goals first | omega | (unfold maxLen; omega) | (right; omega) | (left; simp; done) | (simp only [wk3,wkL2,wk2,wkL,wk1_d,wk1_own,wk1_nil,and_self]; done) | (intro i hi; simp only [upd]; (repeat' split); all_goals first | rfl | omega) | skip
     by_cases k4 : l.kind = 4
     · have c3 : (l.kind == 3) = false := by simp [k3]
       have c4 : (l.kind == 4) = true := by simp [k4]
       obtain ⟨a, b, hab⟩ : ∃ a b, l.args = [a, b] := by
        have : l.args.length = 2 := by
         simp [literalB, k4] at hg
         exact hg.1.2
        match hq : l.args, this with
        | [a, b], _ => exact ⟨a, b, rfl⟩
       have hT : litText l = joinB (l.args.map termText) ⟨#[32, 33, 61, 32]⟩ := by
        unfold litText
        rw [c3, c4, if_neg (by simp), if_pos rfl, hab]
        simp only [List.map_cons, List.map_nil, joinB_two]
        rfl
       have hl2 : l.args.length = 1 + 1 := by rw [hab]; rfl
       rw [hl2] at htk ⊢
       repeat' (first | (with_reducible first | refine XG_split (fun hq => ?_) (fun hq => ?_) | refine MX1.of 4000 (by simp) ?_ | refine MX2.of 4000 (by simp) ?_ | refine And.intro ?_ ?_) | ((with_reducible first | refine Or.inl (And.intro (And.intro mixedP ?_) ?_) | refine Or.inl (And.intro mixedP ?_)); kernel_rfl) | simp only [go_sem,Nat.reduceEqDiff,Nat.reduceAdd,Nat.reduceMul,Nat.reduceLeDiff,Int.reduceBEq,Lit.av,Lit.bx,showSt,Term.av,Int.lt_irrefl,decide_false,dStrs,List.length_map,htk,hl2,c3,c4,hT])
       all_goals first | exact ⟨by rw [List.length_map]; omega, by omega⟩ | skip
       all_goals first | omega | (unfold maxLen; omega) | (right; omega) | (left; simp; done) | (simp only [wk3,wkL2,wk2,wkL,wk1_d,wk1_own,wk1_nil,and_self]; done) | (intro i hi; simp only [upd]; (repeat' split); all_goals first | rfl | omega) | skip
     have c3 : (l.kind == 3) = false := by simp [k3]
     have c4 : (l.kind == 4) = false := by simp [k4]
     have hsd : saidB l = true := by
      unfold literalB at hg
      rw [c3, c4] at hg
      split at hg
      · exact hg
      · simp at hg
     have hpred : l.pred.size ≤ 16 := by
      unfold saidB at hsd
      simp only [Bool.and_eq_true] at hsd
      exact nameB_size hsd.1.1.2
     have hwho : ownT l.who = false → (termText l.who).size ≤ 20 := fun e => by
      unfold saidB at hsd
      simp only [Bool.and_eq_true, e, Bool.false_or] at hsd
      exact termText_size hw hsd.1.1.1.1
     have hT : litText l = (if l.kind == 2 then (⟨#[110, 111, 116, 32]⟩ : ByteArray) else ⟨#[]⟩) ++ ((if ownT l.who then (⟨#[]⟩ : ByteArray) else termText l.who ++ ⟨#[32, 115, 97, 121, 115, 32]⟩) ++ (l.pred ++ (if 0 < l.args.length then (⟨#[40]⟩ : ByteArray) ++ joinB (l.args.map termText) ⟨#[44, 32]⟩ ++ ⟨#[41]⟩ else ⟨#[]⟩))) := by
      unfold litText
      rw [c3, c4, if_neg (by simp), if_neg (by simp)]
      have hah : litAhead l = (if l.kind == 2 then (⟨#[110, 111, 116, 32]⟩ : ByteArray) else ⟨#[]⟩) ++ (if ownT l.who then (⟨#[]⟩ : ByteArray) else termText l.who ++ ⟨#[32, 115, 97, 121, 115, 32]⟩) ++ l.pred := by
       unfold litAhead
       cases ownT l.who <;> (refine ext_data ?_; simp [ByteArray.data_append])
      unfold litBehind
      cases hq : l.args with
      | nil =>
        rw [hah]
        refine ext_data ?_
        simp [argsGo, ByteArray.data_append]
      | cons t r =>
        rw [args_join0, hah]
        refine ext_data ?_
        simp [ByteArray.data_append]
     cases ho : ownT l.who with
     | true =>
       rw [ho] at hown hT
       simp only [if_true] at hT
       cases k2 : (l.kind == 2) with
       | true =>
         rw [k2] at hT
         rcases Nat.eq_zero_or_pos l.args.length with hz | hz
         · have hnil : l.args = [] := List.eq_nil_of_length_eq_zero hz
           rw [hz] at hT
           simp only [Nat.lt_irrefl, if_false, if_true, Bool.false_eq_true] at hT
           rw [hz]
           repeat' (first | (with_reducible first | refine XG_split (fun hq => ?_) (fun hq => ?_) | refine MX1.of 4000 (by simp) ?_ | refine MX2.of 4000 (by simp) ?_ | refine And.intro ?_ ?_) | ((with_reducible first | refine Or.inl (And.intro (And.intro mixedP ?_) ?_) | refine Or.inl (And.intro mixedP ?_)); kernel_rfl) | simp only [go_sem,Nat.reduceEqDiff,Nat.reduceAdd,Nat.reduceMul,Nat.reduceLeDiff,Int.reduceBEq,Lit.av,Lit.bx,showSt,Term.av,Int.lt_irrefl,decide_false,hz,hnil,empty_str,cvals,cval,c3,c4,k2,hown,List.map_nil])
           all_goals first | exact hw | skip
           all_goals try simp only [ByteArray.size_append, s1, s2, s3, s4, s5, s6, s7, j3', Int.natCast_add]
           all_goals first | omega | (unfold maxLen; omega) | (right; omega) | (left; simp; done) | (simp only [wk3,wkL2,wk2,wkL,wk1_d,wk1_own,wk1_nil,and_self]; done) | (intro i hi; simp only [upd]; (repeat' split); all_goals first | rfl | omega) | skip
           all_goals first | (refine wk_v (congrArg Value.string ?_); rw [hT]; done) | (refine wk_v (congrArg Value.string ?_); rw [hT]; refine ext_data ?_; simp [ByteArray.data_append]; done)
         · obtain ⟨m, hm⟩ : ∃ m, l.args.length = m + 1 := ⟨l.args.length - 1, by omega⟩
           rw [if_pos hz] at hT
           simp only [if_true, if_false, Bool.false_eq_true] at hT
           rw [hm] at htk ⊢
           have hd0 : decide ((0 : Int) < (m : Int) + 1) = true := decide_eq_true (by omega)
           repeat' (first | (with_reducible first | refine XG_split (fun hq => ?_) (fun hq => ?_) | refine MX1.of 4000 (by simp) ?_ | refine MX2.of 4000 (by simp) ?_ | refine And.intro ?_ ?_) | ((with_reducible first | refine Or.inl (And.intro (And.intro mixedP ?_) ?_) | refine Or.inl (And.intro mixedP ?_)); kernel_rfl) | simp only [go_sem,Nat.reduceEqDiff,Nat.reduceAdd,Nat.reduceMul,Nat.reduceLeDiff,Int.reduceBEq,Lit.av,Lit.bx,showSt,Term.av,Int.lt_irrefl,decide_false,dStrs,List.length_map,htk,hm,hd0,empty_str,cvals,cval,c3,c4,k2,hown])
           all_goals first | exact hw | exact ⟨by rw [List.length_map]; omega, by omega⟩ | skip
           all_goals try simp only [ByteArray.size_append, s1, s2, s3, s4, s5, s6, s7, j3', Int.natCast_add]
           all_goals first | omega | (unfold maxLen; omega) | (right; omega) | (left; simp; done) | (simp only [wk3,wkL2,wk2,wkL,wk1_d,wk1_own,wk1_nil,and_self]; done) | (intro i hi; simp only [upd]; (repeat' split); all_goals first | rfl | omega) | skip
           all_goals first | (refine wk_v (congrArg Value.string ?_); rw [hT]; done) | (refine wk_v (congrArg Value.string ?_); rw [hT]; refine ext_data ?_; simp [ByteArray.data_append]; done)
       | false =>
         rw [k2] at hT
         rcases Nat.eq_zero_or_pos l.args.length with hz | hz
         · have hnil : l.args = [] := List.eq_nil_of_length_eq_zero hz
           rw [hz] at hT
           simp only [Nat.lt_irrefl, if_false, if_true, Bool.false_eq_true] at hT
           rw [hz]
           repeat' (first | (with_reducible first | refine XG_split (fun hq => ?_) (fun hq => ?_) | refine MX1.of 4000 (by simp) ?_ | refine MX2.of 4000 (by simp) ?_ | refine And.intro ?_ ?_) | ((with_reducible first | refine Or.inl (And.intro (And.intro mixedP ?_) ?_) | refine Or.inl (And.intro mixedP ?_)); kernel_rfl) | simp only [go_sem,Nat.reduceEqDiff,Nat.reduceAdd,Nat.reduceMul,Nat.reduceLeDiff,Int.reduceBEq,Lit.av,Lit.bx,showSt,Term.av,Int.lt_irrefl,decide_false,hz,hnil,empty_str,cvals,cval,c3,c4,k2,hown,List.map_nil])
           all_goals first | exact hw | skip
           all_goals try simp only [ByteArray.size_append, s1, s2, s3, s4, s5, s6, s7, j3', Int.natCast_add]
           all_goals first | omega | (unfold maxLen; omega) | (right; omega) | (left; simp; done) | (simp only [wk3,wkL2,wk2,wkL,wk1_d,wk1_own,wk1_nil,and_self]; done) | (intro i hi; simp only [upd]; (repeat' split); all_goals first | rfl | omega) | skip
           all_goals first | (refine wk_v (congrArg Value.string ?_); rw [hT]; done) | (refine wk_v (congrArg Value.string ?_); rw [hT]; refine ext_data ?_; simp [ByteArray.data_append]; done)
         · obtain ⟨m, hm⟩ : ∃ m, l.args.length = m + 1 := ⟨l.args.length - 1, by omega⟩
           rw [if_pos hz] at hT
           simp only [if_true, if_false, Bool.false_eq_true] at hT
           rw [hm] at htk ⊢
           have hd0 : decide ((0 : Int) < (m : Int) + 1) = true := decide_eq_true (by omega)
           repeat' (first | (with_reducible first | refine XG_split (fun hq => ?_) (fun hq => ?_) | refine MX1.of 4000 (by simp) ?_ | refine MX2.of 4000 (by simp) ?_ | refine And.intro ?_ ?_) | ((with_reducible first | refine Or.inl (And.intro (And.intro mixedP ?_) ?_) | refine Or.inl (And.intro mixedP ?_)); kernel_rfl) | simp only [go_sem,Nat.reduceEqDiff,Nat.reduceAdd,Nat.reduceMul,Nat.reduceLeDiff,Int.reduceBEq,Lit.av,Lit.bx,showSt,Term.av,Int.lt_irrefl,decide_false,dStrs,List.length_map,htk,hm,hd0,empty_str,cvals,cval,c3,c4,k2,hown])
           all_goals first | exact hw | exact ⟨by rw [List.length_map]; omega, by omega⟩ | skip
           all_goals try simp only [ByteArray.size_append, s1, s2, s3, s4, s5, s6, s7, j3', Int.natCast_add]
           all_goals first | omega | (unfold maxLen; omega) | (right; omega) | (left; simp; done) | (simp only [wk3,wkL2,wk2,wkL,wk1_d,wk1_own,wk1_nil,and_self]; done) | (intro i hi; simp only [upd]; (repeat' split); all_goals first | rfl | omega) | skip
           all_goals first | (refine wk_v (congrArg Value.string ?_); rw [hT]; done) | (refine wk_v (congrArg Value.string ?_); rw [hT]; refine ext_data ?_; simp [ByteArray.data_append]; done)
     | false =>
       rw [ho] at hown hT
       have hw20 := hwho ho
       simp only [Bool.false_eq_true, if_false] at hT
       cases k2 : (l.kind == 2) with
       | true =>
         rw [k2] at hT
         rcases Nat.eq_zero_or_pos l.args.length with hz | hz
         · have hnil : l.args = [] := List.eq_nil_of_length_eq_zero hz
           rw [hz] at hT
           simp only [Nat.lt_irrefl, if_false, if_true, Bool.false_eq_true] at hT
           rw [hz]
           repeat' (first | (with_reducible first | refine XG_split (fun hq => ?_) (fun hq => ?_) | refine MX1.of 4000 (by simp) ?_ | refine MX2.of 4000 (by simp) ?_ | refine And.intro ?_ ?_) | ((with_reducible first | refine Or.inl (And.intro (And.intro mixedP ?_) ?_) | refine Or.inl (And.intro mixedP ?_)); kernel_rfl) | simp only [go_sem,Nat.reduceEqDiff,Nat.reduceAdd,Nat.reduceMul,Nat.reduceLeDiff,Int.reduceBEq,Lit.av,Lit.bx,showSt,Term.av,Int.lt_irrefl,decide_false,hz,hnil,empty_str,cvals,cval,c3,c4,k2,hown,List.map_nil])
           all_goals first | exact hw | skip
           all_goals try simp only [ByteArray.size_append, s1, s2, s3, s4, s5, s6, s7, j3', Int.natCast_add]
           all_goals first | omega | (unfold maxLen; omega) | (right; omega) | (left; simp; done) | (simp only [wk3,wkL2,wk2,wkL,wk1_d,wk1_own,wk1_nil,and_self]; done) | (intro i hi; simp only [upd]; (repeat' split); all_goals first | rfl | omega) | skip
           all_goals first | (refine wk_v (congrArg Value.string ?_); rw [hT]; done) | (refine wk_v (congrArg Value.string ?_); rw [hT]; refine ext_data ?_; simp [ByteArray.data_append]; done)
         · obtain ⟨m, hm⟩ : ∃ m, l.args.length = m + 1 := ⟨l.args.length - 1, by omega⟩
           rw [if_pos hz] at hT
           simp only [if_true, if_false, Bool.false_eq_true] at hT
           rw [hm] at htk ⊢
           have hd0 : decide ((0 : Int) < (m : Int) + 1) = true := decide_eq_true (by omega)
           repeat' (first | (with_reducible first | refine XG_split (fun hq => ?_) (fun hq => ?_) | refine MX1.of 4000 (by simp) ?_ | refine MX2.of 4000 (by simp) ?_ | refine And.intro ?_ ?_) | ((with_reducible first | refine Or.inl (And.intro (And.intro mixedP ?_) ?_) | refine Or.inl (And.intro mixedP ?_)); kernel_rfl) | simp only [go_sem,Nat.reduceEqDiff,Nat.reduceAdd,Nat.reduceMul,Nat.reduceLeDiff,Int.reduceBEq,Lit.av,Lit.bx,showSt,Term.av,Int.lt_irrefl,decide_false,dStrs,List.length_map,htk,hm,hd0,empty_str,cvals,cval,c3,c4,k2,hown])
           all_goals first | exact hw | exact ⟨by rw [List.length_map]; omega, by omega⟩ | skip
           all_goals try simp only [ByteArray.size_append, s1, s2, s3, s4, s5, s6, s7, j3', Int.natCast_add]
           all_goals first | omega | (unfold maxLen; omega) | (right; omega) | (left; simp; done) | (simp only [wk3,wkL2,wk2,wkL,wk1_d,wk1_own,wk1_nil,and_self]; done) | (intro i hi; simp only [upd]; (repeat' split); all_goals first | rfl | omega) | skip
           all_goals first | (refine wk_v (congrArg Value.string ?_); rw [hT]; done) | (refine wk_v (congrArg Value.string ?_); rw [hT]; refine ext_data ?_; simp [ByteArray.data_append]; done)
       | false =>
         rw [k2] at hT
         rcases Nat.eq_zero_or_pos l.args.length with hz | hz
         · have hnil : l.args = [] := List.eq_nil_of_length_eq_zero hz
           rw [hz] at hT
           simp only [Nat.lt_irrefl, if_false, if_true, Bool.false_eq_true] at hT
           rw [hz]
           repeat' (first | (with_reducible first | refine XG_split (fun hq => ?_) (fun hq => ?_) | refine MX1.of 4000 (by simp) ?_ | refine MX2.of 4000 (by simp) ?_ | refine And.intro ?_ ?_) | ((with_reducible first | refine Or.inl (And.intro (And.intro mixedP ?_) ?_) | refine Or.inl (And.intro mixedP ?_)); kernel_rfl) | simp only [go_sem,Nat.reduceEqDiff,Nat.reduceAdd,Nat.reduceMul,Nat.reduceLeDiff,Int.reduceBEq,Lit.av,Lit.bx,showSt,Term.av,Int.lt_irrefl,decide_false,hz,hnil,empty_str,cvals,cval,c3,c4,k2,hown,List.map_nil])
           all_goals first | exact hw | skip
           all_goals try simp only [ByteArray.size_append, s1, s2, s3, s4, s5, s6, s7, j3', Int.natCast_add]
           all_goals first | omega | (unfold maxLen; omega) | (right; omega) | (left; simp; done) | (simp only [wk3,wkL2,wk2,wkL,wk1_d,wk1_own,wk1_nil,and_self]; done) | (intro i hi; simp only [upd]; (repeat' split); all_goals first | rfl | omega) | skip
           all_goals first | (refine wk_v (congrArg Value.string ?_); rw [hT]; done) | (refine wk_v (congrArg Value.string ?_); rw [hT]; refine ext_data ?_; simp [ByteArray.data_append]; done)
         · obtain ⟨m, hm⟩ : ∃ m, l.args.length = m + 1 := ⟨l.args.length - 1, by omega⟩
           rw [if_pos hz] at hT
           simp only [if_true, if_false, Bool.false_eq_true] at hT
           rw [hm] at htk ⊢
           have hd0 : decide ((0 : Int) < (m : Int) + 1) = true := decide_eq_true (by omega)
           repeat' (first | (with_reducible first | refine XG_split (fun hq => ?_) (fun hq => ?_) | refine MX1.of 4000 (by simp) ?_ | refine MX2.of 4000 (by simp) ?_ | refine And.intro ?_ ?_) | ((with_reducible first | refine Or.inl (And.intro (And.intro mixedP ?_) ?_) | refine Or.inl (And.intro mixedP ?_)); kernel_rfl) | simp only [go_sem,Nat.reduceEqDiff,Nat.reduceAdd,Nat.reduceMul,Nat.reduceLeDiff,Int.reduceBEq,Lit.av,Lit.bx,showSt,Term.av,Int.lt_irrefl,decide_false,dStrs,List.length_map,htk,hm,hd0,empty_str,cvals,cval,c3,c4,k2,hown])
           all_goals first | exact hw | exact ⟨by rw [List.length_map]; omega, by omega⟩ | skip
           all_goals try simp only [ByteArray.size_append, s1, s2, s3, s4, s5, s6, s7, j3', Int.natCast_add]
           all_goals first | omega | (unfold maxLen; omega) | (right; omega) | (left; simp; done) | (simp only [wk3,wkL2,wk2,wkL,wk1_d,wk1_own,wk1_nil,and_self]; done) | (intro i hi; simp only [upd]; (repeat' split); all_goals first | rfl | omega) | skip
           all_goals first | (refine wk_v (congrArg Value.string ?_); rw [hT]; done) | (refine wk_v (congrArg Value.string ?_); rw [hT]; refine ext_data ?_; simp [ByteArray.data_append]; done)
end Go.Proofs.Ytdhocmakbapfpaa.M
end
section
namespace Go.Proofs.Ytdhocmakbapfpaa.M
open Go.R
set_option maxRecDepth 10000 in
set_option maxHeartbeats 8000000 in
theorem pprintLit_ok : FsOk Try.prog 21 pprintLitS := by
 refine of_Y1 (E := EqT.no _) (F := (Ft.no.put 25 pcheckLitS).put 48 showS) Lit.av (fun _ _ => aLit_le) Try.func21 rfl (by kernel_rfl) [.tmp 2, .tmp 3] rfl Try.ntmps21 (by decide) (((FtOk.no _).put pcheckLit_ok).put show_ok) ?_
 intro l h n hp hok
 obtain ⟨hi, hz⟩ := hp
 cases hck : checkLitB l with
 | false =>
   have hS : printLitB l = (⟨#[]⟩, 1) := by unfold printLitB; rw [hck]; rfl
   repeat' (first | (with_reducible first | refine XG_split (fun hq => ?_) (fun hq => ?_) | refine MX1.of 4000 (by simp) ?_ | refine MX2.of 4000 (by simp) ?_ | refine And.intro ?_ ?_) | ((with_reducible first | refine Or.inl (And.intro (And.intro mixedP ?_) ?_) | refine Or.inl (And.intro mixedP ?_)); kernel_rfl) | simp only [go_sem,Nat.reduceEqDiff,Nat.reduceAdd,Nat.reduceMul,Nat.reduceLeDiff,Int.reduceBEq,Lit.av,hck,hS])
   all_goals first | exact hz | exact hi | skip
   all_goals first | omega | (unfold maxLen; omega) | (right; omega) | (left; simp; done) | (simp only [wk3,wkL2,wk2,wkL,wk1_d,wk1_own,wk1_nil,and_self]; done) | (intro i hi; simp only [upd]; (repeat' split); all_goals first | rfl | omega) | skip
 | true =>
   have hS : printLitB l = (litText l, 0) := by unfold printLitB; rw [hck]; rfl
   have hg := checkLit_literal hck
   repeat' (first | (with_reducible first | refine XG_split (fun hq => ?_) (fun hq => ?_) | refine MX1.of 4000 (by simp) ?_ | refine MX2.of 4000 (by simp) ?_ | refine And.intro ?_ ?_) | ((with_reducible first | refine Or.inl (And.intro (And.intro mixedP ?_) ?_) | refine Or.inl (And.intro mixedP ?_)); kernel_rfl) | simp only [go_sem,Nat.reduceEqDiff,Nat.reduceAdd,Nat.reduceMul,Nat.reduceLeDiff,Int.reduceBEq,Lit.av,hck,hS])
   all_goals first | exact hz | exact hi | exact hg | skip
   all_goals first | omega | (unfold maxLen; omega) | (right; omega) | (left; simp; done) | (simp only [wk3,wkL2,wk2,wkL,wk1_d,wk1_own,wk1_nil,and_self]; done) | (intro i hi; simp only [upd]; (repeat' split); all_goals first | rfl | omega) | skip
set_option maxRecDepth 10000 in
set_option maxHeartbeats 8000000 in
theorem pprint_ok : FsOk Try.prog 18 pprintS := by
 refine of_Y1 (E := EqT.no _) (F := (Ft.no.put 24 pcheckS).put 48 showS) Clause.av (fun _ _ => aClause_le) Try.func18 rfl (by kernel_rfl) [.tmp 2, .tmp 3] rfl Try.ntmps18 (by decide) (((FtOk.no _).put pcheck_ok).put show_ok) ?_
 intro c h n hp hok
 obtain ⟨⟨hp1, hp2⟩, hz⟩ := hp
 cases hck : checkB c with
 | false =>
   have hS : printB c = (⟨#[]⟩, 1) := by unfold printB; rw [hck]; rfl
   repeat' (first | (with_reducible first | refine XG_split (fun hq => ?_) (fun hq => ?_) | refine MX1.of 4000 (by simp) ?_ | refine MX2.of 4000 (by simp) ?_ | refine And.intro ?_ ?_) | ((with_reducible first | refine Or.inl (And.intro (And.intro mixedP ?_) ?_) | refine Or.inl (And.intro mixedP ?_)); kernel_rfl) | simp only [go_sem,Nat.reduceEqDiff,Nat.reduceAdd,Nat.reduceMul,Nat.reduceLeDiff,Int.reduceBEq,Clause.av,hck,hS])
   all_goals first | exact hz | skip
   all_goals first | omega | (unfold maxLen; omega) | (right; omega) | (left; simp; done) | (simp only [wk3,wkL2,wk2,wkL,wk1_d,wk1_own,wk1_nil,and_self]; done) | (intro i hi; simp only [upd]; (repeat' split); all_goals first | rfl | omega) | skip
 | true =>
   have hS : printB c = (clauseText c, 0) := by unfold printB; rw [hck]; rfl
   have hc := hck
   simp only [checkB, Bool.and_eq_true, decide_eq_true_eq] at hc
   obtain ⟨⟨⟨hc1, hc2⟩, hc3⟩, hc4⟩ := hc
   have hgh := checkLit_literal hc1
   have hz0 := litText_size hp1 hgh
   have hok' : HOk (n + 1) (upd h n (.box c.ds)) := (hok.mono (Nat.le_succ n)).upd_box (Nat.lt_succ_self n) (by simp only [go_sem, Clause.ds])
   have f1 : #[(32 : UInt8), 58, 45, 32].size = 4 := rfl
   have f2 : #[(44 : UInt8), 32].size = 2 := rfl
   have f3 : #[(46 : UInt8)].size = 1 := rfl
   have g1 : (⟨#[32, 58, 45, 32]⟩ : ByteArray).size = 4 := rfl
   have g2 : (⟨#[44, 32]⟩ : ByteArray).size = 2 := rfl
   have g3 : (⟨#[46]⟩ : ByteArray).size = 1 := rfl
   repeat' (first | (with_reducible first | refine XG_split (fun hq => ?_) (fun hq => ?_) | refine MX1.of 4000 (by simp) ?_ | refine MX2.of 4000 (by simp) ?_ | refine And.intro ?_ ?_) | ((with_reducible first | refine Or.inl (And.intro (And.intro mixedP ?_) ?_) | refine Or.inl (And.intro mixedP ?_)); kernel_rfl) | simp only [go_sem,Nat.reduceEqDiff,Nat.reduceAdd,Nat.reduceMul,Nat.reduceLeDiff,Int.reduceBEq,Clause.av,Clause.ds,Lit.av,hck])
   all_goals first | exact hz | exact hp1 | exact hgh | skip
   all_goals first | omega | (unfold maxLen; omega) | (right; omega) | (left; simp; done) | (simp only [wk3,wkL2,wk2,wkL,wk1_d,wk1_own,wk1_nil,and_self]; done) | (intro i hi; simp only [upd]; (repeat' split); all_goals first | rfl | omega) | skip
   refine AW.loopJ (E := EqT.no _) (S := fun x : Nat × ByteArray => ⟨fr [(1, .p n 0), (4, vS x.2), (14, .d (.sl 6 (c.body.map Lit.cells))), (15, vI c.body.length), (16, vI x.1)] (List.replicate 35 .any), upd h n (.box c.ds), n, n + 1⟩)
    (I := fun x => x.1 ≤ c.body.length ∧ x.2.size ≤ 200 + 300 * x.1 ∧ bodyGo x.1 x.2 (c.body.drop x.1) = bodyGo 0 (litText c.head) c.body) (μ := fun x => c.body.length - x.1) (0, litText c.head) ⟨Nat.zero_le _, by simp only; omega, rfl⟩ ?_ 4000 (fun _ => by simp only [fr_len, List.length_replicate]; decide) ?_
   · exact Wk.same (by simp only [go_sem, Clause.ds]) hok' (Nat.le_succ n) (by simp only [go_sem]; omega)
   · rintro ⟨k, out⟩ ⟨hk, hsz, hI⟩
     have hk : k ≤ c.body.length := hk
     have hsz : out.size ≤ 200 + 300 * k := hsz
     have hI : bodyGo k out (c.body.drop k) = bodyGo 0 (litText c.head) c.body := hI
     rcases Nat.lt_or_ge k c.body.length with hkl | hkl
     · have hin := List.getElem_mem hkl
       have ht := hp2 _ hin
       have hg : literalB c.body[k] = true := by rw [List.all_eq_true] at hc4; exact hc4 _ hin
       have hzl := litText_size ht hg
       rw [List.drop_eq_getElem_cons hkl] at hI
       cases k with
       | zero =>
         have hI' : bodyGo (0 + 1) (out ++ ((⟨#[32, 58, 45, 32]⟩ : ByteArray) ++ litText c.body[0])) (c.body.drop (0 + 1)) = bodyGo 0 (litText c.head) c.body := by
          rw [← hI, bodyGo, ByteArray.append_assoc]
         have m0 : (if (1 : Int) < 0 then (1 : Int) else 0) = 0 := rfl
         have m1 : (1 : Int) - 0 = 1 := rfl
         repeat' (first | (with_reducible refine Or.inr (AW.treeX (E := EqT.no _) [] [0,2,3,4,7] (.two 1 (.two 5 (.two 6 (.one 8 (.one 9 (.one 10 (.one 11 .fin)))) 8 (.one 6 (.one 9 (.one 10 (.one 11 .fin))))) 8 (.one 5 (.one 6 (.one 9 (.one 10 (.one 11 .fin)))))) 8 (.one 1 (.one 5 (.one 6 (.one 9 (.one 10 (.one 11 .fin))))))) mixedP ?_ ?_ ?_ ?_); decide +kernel; (simp only [List.length_cons,List.length_nil]; decide); (intro j hj; exact absurd hj List.not_mem_nil)) | (with_reducible refine (AW.treeX (E := EqT.no _) [] [0,2,3,4,7] (.two 1 (.two 5 (.two 6 (.one 8 (.one 9 (.one 10 (.one 11 .fin)))) 8 (.one 6 (.one 9 (.one 10 (.one 11 .fin))))) 8 (.one 5 (.one 6 (.one 9 (.one 10 (.one 11 .fin)))))) 8 (.one 1 (.one 5 (.one 6 (.one 9 (.one 10 (.one 11 .fin))))))) mixedP ?_ ?_ ?_ ?_); decide +kernel; (simp only [List.length_cons,List.length_nil]; decide); (intro j hj; exact absurd hj List.not_mem_nil)) | (with_reducible refine MTq.of 4000 (by simp) ?_ ?_) | (with_reducible refine MTq.nil ?_) | (with_reducible refine MT.one 4000 (by simp) ?_) | (with_reducible refine MT.two 4000 (by simp) ?_ ?_) | (with_reducible refine MT.fin ?_) | (with_reducible first | refine XG_split (fun hq => ?_) (fun hq => ?_) | refine MX1.of 4000 (by simp) ?_ | refine MX2.of 4000 (by simp) ?_ | refine And.intro ?_ ?_) | ((with_reducible first | refine Or.inl (And.intro (And.intro mixedP ?_) ?_) | refine Or.inl (And.intro mixedP ?_)); kernel_rfl) | simp only [go_sem,ldK,ldW,blindK,List.mem_singleton,List.not_mem_nil,Nat.reduceEqDiff,Nat.reduceAdd,Nat.reduceMul,Nat.reduceLeDiff,Int.reduceBEq,Clause.ds,Lit.av,decide_eq_true hkl,List.getElem?_eq_getElem hkl,m0,m1,Int.zero_add])
         all_goals first | exact ht | exact hg | skip
         all_goals try simp only [ByteArray.size_append, f1, f2, g1, g2, Int.natCast_add]
         all_goals first | omega | (unfold maxLen; omega) | (right; omega) | (left; simp; done) | (simp only [wk3,wkL2,wk2,wkL,wk1_d,wk1_own,wk1_nil,and_self]; done) | (intro i hi; simp only [upd]; (repeat' split); all_goals first | rfl | omega) | skip
         all_goals exact ⟨((0 + 1, out ++ ((⟨#[32, 58, 45, 32]⟩ : ByteArray) ++ litText c.body[0])) : Nat × ByteArray), ⟨by show 0 + 1 ≤ _; omega, by simp only [ByteArray.size_append, g1]; omega, hI'⟩, Wk.of (by simp only [go_sem]) (by intro i hi; simp only [upd]; (repeat' split); all_goals first | rfl | omega) hok' (by omega) (by omega) (by simp only [go_sem]; omega), by simp only; omega⟩
       | succ k =>
         have hI' : bodyGo (k + 1 + 1) (out ++ ((⟨#[44, 32]⟩ : ByteArray) ++ litText c.body[k + 1])) (c.body.drop (k + 1 + 1)) = bodyGo 0 (litText c.head) c.body := by
          rw [← hI, bodyGo, ByteArray.append_assoc]
         have m0 : (if (1 : Int) < (k : Int) + 1 then (1 : Int) else (k : Int) + 1) = 1 := by split <;> omega
         have m1 : (1 : Int) - 1 = 0 := rfl
         repeat' (first | (with_reducible refine Or.inr (AW.treeX (E := EqT.no _) [] [0,2,3,4,7] (.two 1 (.two 5 (.two 6 (.one 8 (.one 9 (.one 10 (.one 11 .fin)))) 8 (.one 6 (.one 9 (.one 10 (.one 11 .fin))))) 8 (.one 5 (.one 6 (.one 9 (.one 10 (.one 11 .fin)))))) 8 (.one 1 (.one 5 (.one 6 (.one 9 (.one 10 (.one 11 .fin))))))) mixedP ?_ ?_ ?_ ?_); decide +kernel; (simp only [List.length_cons,List.length_nil]; decide); (intro j hj; exact absurd hj List.not_mem_nil)) | (with_reducible refine (AW.treeX (E := EqT.no _) [] [0,2,3,4,7] (.two 1 (.two 5 (.two 6 (.one 8 (.one 9 (.one 10 (.one 11 .fin)))) 8 (.one 6 (.one 9 (.one 10 (.one 11 .fin))))) 8 (.one 5 (.one 6 (.one 9 (.one 10 (.one 11 .fin)))))) 8 (.one 1 (.one 5 (.one 6 (.one 9 (.one 10 (.one 11 .fin))))))) mixedP ?_ ?_ ?_ ?_); decide +kernel; (simp only [List.length_cons,List.length_nil]; decide); (intro j hj; exact absurd hj List.not_mem_nil)) | (with_reducible refine MTq.of 4000 (by simp) ?_ ?_) | (with_reducible refine MTq.nil ?_) | (with_reducible refine MT.one 4000 (by simp) ?_) | (with_reducible refine MT.two 4000 (by simp) ?_ ?_) | (with_reducible refine MT.fin ?_) | (with_reducible first | refine XG_split (fun hq => ?_) (fun hq => ?_) | refine MX1.of 4000 (by simp) ?_ | refine MX2.of 4000 (by simp) ?_ | refine And.intro ?_ ?_) | ((with_reducible first | refine Or.inl (And.intro (And.intro mixedP ?_) ?_) | refine Or.inl (And.intro mixedP ?_)); kernel_rfl) | simp only [go_sem,ldK,ldW,blindK,List.mem_singleton,List.not_mem_nil,Nat.reduceEqDiff,Nat.reduceAdd,Nat.reduceMul,Nat.reduceLeDiff,Int.reduceBEq,Clause.ds,Lit.av,dnat1 hkl,toNat1,List.getElem?_eq_getElem hkl,m0,m1])
         all_goals first | exact ht | exact hg | skip
         all_goals try simp only [ByteArray.size_append, f1, f2, g1, g2, Int.natCast_add]
         all_goals first | omega | (unfold maxLen; omega) | (right; omega) | (left; simp; done) | (simp only [wk3,wkL2,wk2,wkL,wk1_d,wk1_own,wk1_nil,and_self]; done) | (intro i hi; simp only [upd]; (repeat' split); all_goals first | rfl | omega) | skip
         all_goals exact ⟨((k + 1 + 1, out ++ ((⟨#[44, 32]⟩ : ByteArray) ++ litText c.body[k + 1])) : Nat × ByteArray), ⟨by show k + 1 + 1 ≤ _; omega, by simp only [ByteArray.size_append, g2]; omega, hI'⟩, Wk.of (by simp only [go_sem]) (by intro i hi; simp only [upd]; (repeat' split); all_goals first | rfl | omega) hok' (by omega) (by omega) (by simp only [go_sem]; omega), by simp only; omega⟩
     · obtain rfl : k = c.body.length := by omega
       rw [List.drop_length] at hI
       have hout : out = bodyGo 0 (litText c.head) c.body := by
        rw [← hI]
        cases c.body.length <;> rfl
       repeat' (first | (with_reducible first | refine XG_split (fun hq => ?_) (fun hq => ?_) | refine MX1.of 4000 (by simp) ?_ | refine MX2.of 4000 (by simp) ?_ | refine And.intro ?_ ?_) | ((with_reducible first | refine Or.inl (And.intro (And.intro mixedP ?_) ?_) | refine Or.inl (And.intro mixedP ?_)); kernel_rfl) | simp only [go_sem,Nat.reduceEqDiff,Nat.reduceAdd,Nat.reduceMul,Nat.reduceLeDiff,Int.reduceBEq,Clause.ds,Nat.lt_irrefl,Int.lt_irrefl,decide_false])
       all_goals try simp only [ByteArray.size_append, f3, Int.natCast_add]
       all_goals first | omega | (unfold maxLen; omega) | (right; omega) | (left; simp; done) | (simp only [wk3,wkL2,wk2,wkL,wk1_d,wk1_own,wk1_nil,and_self]; done) | (intro i hi; simp only [upd]; (repeat' split); all_goals first | rfl | omega) | skip
       all_goals (refine wk3_eq ?_; simp [hS, clauseText, hout])
end Go.Proofs.Ytdhocmakbapfpaa.M
end
section
namespace Go.R
section
variable {c : Cx} {s : St} {a : Act} {w w0 : World} {h h0 : AH} {n : Nat} {T : List Nat}
theorem Wd.rebox (hw : Wd c h n w) {i : Nat} {cs cs' : List AV} (hi : h i = .box cs) (hl : cs.length = cs'.length)
 (hr : ∀ (j : Nat) v x x', cs[j]? = some x → cs'[j]? = some x' → ARep c h w v x → ARep c h w v x') : Wd c (upd h i (.box cs')) n w ∧ Ext c h w c (upd h i (.box cs')) w := by
 have q : Ext c h w c (upd h i (.box cs')) w := by
  refine ⟨rfl, rfl, rfl, Nat.le_refl _, fun _ _ q => q, fun _ _ _ => rfl, fun b q => ⟨q, rfl⟩, fun k cs2 hk => ?_, fun k m z hk => ?_⟩
  · by_cases e : k = i
    · subst e; exact ⟨rfl, cs', upd_same _ _ _⟩
    · exact ⟨rfl, cs2, by rw [upd_ne _ _ e]; exact hk⟩
  · have e : k ≠ i := fun e => by rw [e, hi] at hk; cases hk
    exact ⟨m, by rw [upd_ne _ _ e]; exact hk, Nat.le_refl _, fun _ => rfl⟩
 have hblk : ∀ k, ((upd h i (.box cs')) k).blk c k = (h k).blk c k := by
  intro k
  by_cases e : k = i
  · subst e; rw [upd_same, hi]; rfl
  · rw [upd_ne _ _ e]
 have tok : ∀ k m z, upd h i (.box cs') k = .tok m z → h k = .tok m z := fun k m z hk => by
  by_cases e : k = i
  · subst e; rw [upd_same] at hk; cases hk
  · rw [upd_ne _ _ e] at hk; exact hk
 refine ⟨⟨fun k cs2 hk => ?_, fun k m z cap hk => hw.tokN k m z cap (tok k m z hk), fun k m z a cap hk => hw.tokS k m z a cap (tok k m z hk), fun k j b hkj h1 h2 => hw.ne k j b hkj (by rw [← hblk]; exact h1) (by rw [← hblk]; exact h2), hw.fresh, fun k hk => ?_⟩, q⟩
 · by_cases e : k = i
   · subst e
     rw [upd_same] at hk
     cases hk
     obtain ⟨h1, vals, ty, h2, h3, h4⟩ := hw.box k cs hi
     refine ⟨h1, vals, ty, h2, by rw [h3, hl], fun j v x' hv hx' => ?_⟩
     have hj : j < cs.length := by rw [hl]; exact (List.getElem?_eq_some_iff.1 hx').1
     exact (hr j v _ x' (List.getElem?_eq_getElem hj) hx' (h4 j v _ hv (List.getElem?_eq_getElem hj))).to q
   · rw [upd_ne _ _ e] at hk
     obtain ⟨h1, vals, ty, h2, h3, h4⟩ := hw.box k cs2 hk
     exact ⟨h1, vals, ty, h2, h3, fun j v x hv hx => (h4 j v x hv hx).to q⟩
 · have e : k ≠ i := fun e => by have := hw.new k hk; rw [e, hi] at this; cases this
   rw [upd_ne _ _ e]
   exact hw.new k hk
theorem Wk.nilBox {t : List AV} {b i : Nat} (z : Nat) (hi : h i = .box [.d (.v (.slice none 0 0))]) : Wk T ⟨t, h, b, n⟩ ⟨t, upd (upd h n (.tok 0 z)) i (.box [.own n z []]), b, n + 1⟩ := by
 refine ⟨rfl, rfl, fun c0 h0 w0 c a w I => ⟨{ c with τ := upd c.τ n (none, 0) }, ?_⟩⟩
 have hin : i ≠ n := fun e => by
  have h1 : h n = .no := I.srep.wd.new n (Nat.le_refl _)
  rw [e, h1] at hi
  cases hi
 obtain ⟨g1, g2⟩ := I.srep.wd.newNil z
 have hfr := newNil_fr (T := may T b) I.srep.wd z
 have I2 := I.next (d := none) (v := .bool false) (r := .any) g1 g2 hfr (.any _) (Nat.le_succ _)
 have hi2 : (upd h n (.tok 0 z)) i = .box [.d (.v (.slice none 0 0))] := by rw [upd_ne _ _ hin]; exact hi
 obtain ⟨g3, g4⟩ := g1.rebox (cs' := [.own n z []]) hi2 rfl (fun j v x x' hx hx' r => by
  cases j with
  | zero =>
    simp only [List.getElem?_cons_zero, Option.some.injEq] at hx hx'
    subst hx
    subst hx'
    obtain rfl := cval_rep r rfl
    exact nil_own c h w n z
  | succ j => simp at hx)
 exact I2.next (d := none) (v := .bool false) (r := .any) g3 g4 ⟨fun _ _ _ => rfl, fun k b hk _ => by
  show ((upd h n (.tok 0 z)) k).blk _ k = some b
  by_cases e : k = i
  · subst e; rw [upd_same] at hk; rw [hi2]; exact hk
  · rw [upd_ne _ _ e] at hk; exact hk⟩ (.any _) (Nat.le_refl _)
end
end Go.R
namespace Go.Proofs.Ytdhocmakbapfpaa.M
open Go.R
theorem aStrs_le {x : AV} {l : List ByteArray} (h : aStrs x = some l) : AV.le x (.d (.sl 1 (l.map strRow))) := by
 unfold aStrs at h
 cases hr : rowsOf 1 x with
 | none => simp [hr] at h
 | some xs =>
   simp only [hr] at h
   rw [← dRows_eq (fun c x => cStr_eq) h]
   exact AV.le.rows hr
abbrev sIdxS : Fs := .pureIf (g2p aStrs aStr fun l _ => l.length ≤ 1099511627776) (g2 aStrs aStr fun l s => vI (idxL (fun x => s.toList == x.toList) l))
abbrev sHasS : Fs := .pureIf (g2p aStrs aStr fun l _ => l.length ≤ 1099511627776) (g2 aStrs aStr fun l s => vB (l.any fun x => s.toList == x.toList))
set_option maxRecDepth 10000 in
set_option maxHeartbeats 4000000 in
theorem sIdx_ok : FsOk Try.prog 80 sIdxS := by
 refine of_Y2 (E := EqT.no _) (F := Ft.no) (fun l => .d (.sl 1 (l.map strRow))) vS (fun _ _ => aStrs_le) (fun _ _ => aStr_le) Try.func80 rfl (by kernel_rfl) [.tmp 4] rfl Try.ntmps80 (by decide) (FtOk.no _) ?_
 intro l s h n hp hok
 repeat' (first | (with_reducible first | refine XG_split (fun hq => ?_) (fun hq => ?_) | refine MX1.of 4000 (by simp) ?_ | refine MX2.of 4000 (by simp) ?_ | refine And.intro ?_ ?_) | ((with_reducible first | refine Or.inl (And.intro (And.intro mixedP ?_) ?_) | refine Or.inl (And.intro mixedP ?_)); kernel_rfl) | simp only [go_sem,Nat.reduceEqDiff,Nat.reduceAdd,Nat.reduceMul,Nat.reduceLeDiff,Int.reduceBEq])
 all_goals first | omega | (unfold maxLen; omega) | (right; omega) | (left; simp; done) | (simp only [wk3,wkL2,wk2,wkL,wk1_d,wk1_own,wk1_nil,and_self]; done) | (intro i hi; simp only [upd]; (repeat' split); all_goals first | rfl | omega) | skip
 refine AW.loopJ (E := EqT.no _) (S := fun k : Nat => ⟨fr [(0, .d (.sl 1 (l.map strRow))), (1, vS s), (7, vI l.length), (8, vI k)] (List.replicate 19 .any), h, n, n⟩) (I := fun k => k ≤ l.length ∧ ∀ i, (hi : i < k) → (hl : i < l.length) → (s.toList == l[i].toList) = false) (μ := fun k => l.length - k) 0 ⟨Nat.zero_le _, fun i hi => absurd hi (Nat.not_lt_zero i)⟩ ?_ 4000 (fun _ => by simp only [fr_len, List.length_replicate]; decide) ?_
 · exact Wk.same (by simp only [go_sem]) hok (Nat.le_refl _) (by simp only [go_sem])
 · rintro k ⟨hk, hA⟩
   rcases Nat.lt_or_ge k l.length with hkl | hkl
   · cases hq : s.toList == l[k].toList with
     | true =>
       have hR := idx_hit (p := fun x : ByteArray => s.toList == x.toList) hkl hq fun i hi => hA i hi (by omega)
       repeat' (first | (with_reducible first | refine XG_split (fun hq => ?_) (fun hq => ?_) | refine MX1.of 4000 (by simp) ?_ | refine MX2.of 4000 (by simp) ?_ | refine And.intro ?_ ?_) | ((with_reducible first | refine Or.inl (And.intro (And.intro mixedP ?_) ?_) | refine Or.inl (And.intro mixedP ?_)); kernel_rfl) | simp only [go_sem,Nat.reduceEqDiff,Nat.reduceAdd,Nat.reduceMul,Nat.reduceLeDiff,Int.reduceBEq,decide_eq_true hkl,List.getElem?_eq_getElem hkl,strRow,hq,hR])
       all_goals first | omega | (unfold maxLen; omega) | (right; omega) | (left; simp; done) | (simp only [wk3,wkL2,wk2,wkL,wk1_d,wk1_own,wk1_nil,and_self]; done) | (intro i hi; simp only [upd]; (repeat' split); all_goals first | rfl | omega) | skip
     | false =>
       repeat' (first | (with_reducible first | refine XG_split (fun hq => ?_) (fun hq => ?_) | refine MX1.of 4000 (by simp) ?_ | refine MX2.of 4000 (by simp) ?_ | refine And.intro ?_ ?_) | ((with_reducible first | refine Or.inl (And.intro (And.intro mixedP ?_) ?_) | refine Or.inl (And.intro mixedP ?_)); kernel_rfl) | simp only [go_sem,Nat.reduceEqDiff,Nat.reduceAdd,Nat.reduceMul,Nat.reduceLeDiff,Int.reduceBEq,decide_eq_true hkl,List.getElem?_eq_getElem hkl,strRow,hq])
       all_goals first | omega | (unfold maxLen; omega) | (right; omega) | (left; simp; done) | (simp only [wk3,wkL2,wk2,wkL,wk1_d,wk1_own,wk1_nil,and_self]; done) | (intro i hi; simp only [upd]; (repeat' split); all_goals first | rfl | omega) | skip
       refine ⟨k + 1, ⟨hkl, fun i hi hil => ?_⟩, Wk.same (by simp only [go_sem]) hok (Nat.le_refl _) (by simp only [go_sem]), by omega⟩
       rcases Nat.lt_or_ge i k with h' | h'
       · exact hA i h' hil
       · obtain rfl : i = k := by omega
         exact hq
   · have hR := idx_miss (p := fun x : ByteArray => s.toList == x.toList) (l := l) fun i hi => hA i (by omega) hi
     repeat' (first | (with_reducible first | refine XG_split (fun hq => ?_) (fun hq => ?_) | refine MX1.of 4000 (by simp) ?_ | refine MX2.of 4000 (by simp) ?_ | refine And.intro ?_ ?_) | ((with_reducible first | refine Or.inl (And.intro (And.intro mixedP ?_) ?_) | refine Or.inl (And.intro mixedP ?_)); kernel_rfl) | simp only [go_sem,Nat.reduceEqDiff,Nat.reduceAdd,Nat.reduceMul,Nat.reduceLeDiff,Int.reduceBEq,decide_eq_false (Nat.not_lt.2 hkl),hR])
     all_goals first | omega | (unfold maxLen; omega) | (right; omega) | (left; simp; done) | (simp only [wk3,wkL2,wk2,wkL,wk1_d,wk1_own,wk1_nil,and_self]; done) | (intro i hi; simp only [upd]; (repeat' split); all_goals first | rfl | omega) | skip
set_option maxRecDepth 10000 in
set_option maxHeartbeats 4000000 in
theorem sHas_ok : FsOk Try.prog 56 sHasS := by
 refine of_Y2 (E := EqT.no _) (F := Ft.no.put 80 sIdxS) (fun l => .d (.sl 1 (l.map strRow))) vS (fun _ _ => aStrs_le) (fun _ _ => aStr_le) Try.func56 rfl (by kernel_rfl) [.tmp 4] rfl Try.ntmps56 (by decide) ((FtOk.no _).put sIdx_ok) ?_
 intro l s h n hp hok
 repeat' (first | (with_reducible first | refine XG_split (fun hq => ?_) (fun hq => ?_) | refine MX1.of 4000 (by simp) ?_ | refine MX2.of 4000 (by simp) ?_ | refine And.intro ?_ ?_) | ((with_reducible first | refine Or.inl (And.intro (And.intro mixedP ?_) ?_) | refine Or.inl (And.intro mixedP ?_)); kernel_rfl) | simp only [go_sem,Nat.reduceEqDiff,Nat.reduceAdd,Nat.reduceMul,Nat.reduceLeDiff,Int.reduceBEq,idx_ge])
 all_goals first | omega | (unfold maxLen; omega) | (right; omega) | (left; simp; done) | (simp only [wk3,wkL2,wk2,wkL,wk1_d,wk1_own,wk1_nil,and_self]; done) | (intro i hi; simp only [upd]; (repeat' split); all_goals first | rfl | omega) | skip
def cloH (h : AH) (i : Nat) (l : List ByteArray) : AH := upd (upd h (i + 1) (.tok l.length 1)) i (.box [.own (i + 1) 1 (l.map strRow)])
def cloAt (t : Option Term) (l : Option (List ByteArray)) (i : Nat) (h : AH) (n : Nat) : Option (AV × AH × Nat) := match t, l with
 | some t, some l => some (.tup [], cloH h i (putT l t), n)
 | _, _ => none
def cloBox : AO → Option (List ByteArray)
 | .box [.own _ 1 xs] => dRows cStr xs
 | _ => none
def cloRun : List AV → AH → Nat → Option (AV × AH × Nat)
 | [x, .p i 0], h, n => cloAt (aTerm x) (cloBox (h i)) i h n
 | _, _, _ => none
def cloPre : List AV → AH → Nat → Prop
 | [_, .p i 0], h, n => i + 1 < n ∧ oP (cloBox (h i)) fun l => h (i + 1) = .tok l.length 1 ∧ h i = .box [.own (i + 1) 1 (l.map strRow)] ∧ l.length ≤ 1099511627776
 | _, _, _ => False
def cloTch : List AV → List Nat
 | [_, .p i 0] => [i, i + 1]
 | _ => []
def cloS : Fs := ⟨cloRun, cloPre, cloTch⟩
@[go_sem] theorem clo_run (x : AV) (i : Nat) (h : AH) (n : Nat) : cloS.run [x, .p i 0] h n = cloAt (aTerm x) (cloBox (h i)) i h n := rfl
@[go_sem] theorem clo_pre (x : AV) (i : Nat) (h : AH) (n : Nat) : cloS.pre [x, .p i 0] h n = (i + 1 < n ∧ oP (cloBox (h i)) fun l => h (i + 1) = .tok l.length 1 ∧ h i = .box [.own (i + 1) 1 (l.map strRow)] ∧ l.length ≤ 1099511627776) := rfl
@[go_sem] theorem clo_tch (x : AV) (i : Nat) : cloS.tch [x, .p i 0] = [i, i + 1] := rfl
@[go_sem] theorem clo_at (t : Term) (l : List ByteArray) (i : Nat) (h : AH) (n : Nat) : cloAt (some t) (some l) i h n = some (.tup [], cloH h i (putT l t), n) := rfl
@[go_sem] theorem clo_box (k : Nat) (l : List ByteArray) : cloBox (.box [.own k 1 (l.map strRow)]) = some l := by
  show dRows cStr (l.map strRow) = some l
  exact dStrs l
theorem any_swap (l : List ByteArray) (s : ByteArray) : (l.any fun x => s.toList == x.toList) = l.any fun x => x.toList == s.toList := by
 induction l with
 | nil => rfl
 | cons a l ih => rw [List.any_cons, List.any_cons, ih, BEq.comm]
def Term.bx (t : Term) : List AV := t.cells.map .d
set_option maxRecDepth 10000 in
set_option maxHeartbeats 4000000 in
theorem clo_ok : FsOk Try.prog 55 cloS := by
 refine FsOk.of_X (E := EqT.no _) (F := Ft.no.put 56 sHasS) Try.func55 rfl (by kernel_rfl) (rs := []) rfl Try.ntmps55 ((FtOk.no _).put sHas_ok) ?_
 intro args h n r h' n' hp hr hok
 simp only [cloS] at hp hr ⊢
 unfold cloRun at hr
 split at hr
 · rename_i x i
   cases hx : aTerm x with
   | none => simp [cloAt, hx] at hr
   | some t =>
     cases hl : cloBox (h i) with
     | none => simp [cloAt, hx, hl] at hr
     | some l =>
       obtain ⟨hi, hp⟩ := hp
       obtain ⟨hk, hb, hlen⟩ := hp l hl
       rw [hx, hl] at hr
       simp only [clo_at, Option.some.injEq, Prod.mk.injEq] at hr
       obtain ⟨rfl, rfl, rfl⟩ := hr
       refine ⟨[t.av, .p i 0], ⟨aTerm_le hx, AV.le.refl _, trivial⟩, ⟨by decide, by simp⟩, ?_⟩
       have hin : i ≠ n := by omega
       have hin1 : i + 1 ≠ n := by omega
       have hb2 : ∀ x, upd h n x i = .box [.own (i + 1) 1 (l.map strRow)] := fun x => (upd_ne _ _ hin).trans hb
       have hk2 : ∀ x, upd h n x (i + 1) = .tok l.length 1 := fun x => (upd_ne _ _ hin1).trans hk
       have hno : ∀ m j, n ≤ j → cloH h i m j = .no := fun m j hj => by
        unfold cloH
        rw [upd_ne _ _ (by omega), upd_ne _ _ (by omega)]
        exact hok.no j hj
       have hbx : ∀ m j cs, j < n → cloH h i m j = .box cs → h j = .box cs ∨ ltL n cs := fun m j cs _ e => by
        unfold cloH at e
        by_cases e1 : j = i
        · subst e1
          rw [upd_same] at e
          cases e
          exact .inr ⟨hi, trivial⟩
        · rw [upd_ne _ _ e1] at e
          by_cases e2 : j = i + 1
          · subst e2; rw [upd_same] at e; cases e
          · rw [upd_ne _ _ e2] at e; exact .inl e
       have sm : putT l t = l → ∀ j, j < n → cloH h i l j = h j := fun _ j _ => by
        unfold cloH
        by_cases e1 : j = i
        · subst e1; rw [upd_same, hb]
        · rw [upd_ne _ _ e1]
          by_cases e2 : j = i + 1
          · subst e2; rw [upd_same, hk]
          · rw [upd_ne _ _ e2]
       cases hv : t.var.size == 0 with
       | true =>
         have hpt : putT l t = l := if_neg (by have := beq_iff_eq.1 hv; omega)
         have hsm := sm hpt
         rw [hpt]
         repeat' (first | (with_reducible first | refine XG_split (fun hq => ?_) (fun hq => ?_) | refine MX1.of 4000 (by simp) ?_ | refine MX2.of 4000 (by simp) ?_ | refine And.intro ?_ ?_) | ((with_reducible first | refine Or.inl (And.intro (And.intro mixedP ?_) ?_) | refine Or.inl (And.intro mixedP ?_)); kernel_rfl) | simp only [go_sem,Nat.reduceEqDiff,Nat.reduceAdd,Nat.reduceMul,Nat.reduceLeDiff,Int.reduceBEq,FinE,cloTch,Term.av,hv,hb,hk,hb2,hk2,empty_str])
         all_goals first | omega | (unfold maxLen; omega) | (right; omega) | (left; simp; done) | (simp only [wk3,wkL2,wk2,wkL,wk1_d,wk1_own,wk1_nil,and_self]; done) | (intro i hi; simp only [upd]; (repeat' split); all_goals first | rfl | omega) | skip
         · exact fun j hj => (hsm j hj).symm
         · exact hno l
         · exact hbx l
       | false =>
         have hv1 : 0 < t.var.size := by have := beq_eq_false_iff_ne.1 hv; omega
         cases ha : l.any fun x => t.var.toList == x.toList with
         | true =>
           have hpt : putT l t = l := (if_pos hv1).trans (putL_any (by rw [← any_swap]; exact ha))
           have hsm := sm hpt
           rw [hpt]
           repeat' (first | (with_reducible first | refine XG_split (fun hq => ?_) (fun hq => ?_) | refine MX1.of 4000 (by simp) ?_ | refine MX2.of 4000 (by simp) ?_ | refine And.intro ?_ ?_) | ((with_reducible first | refine Or.inl (And.intro (And.intro mixedP ?_) ?_) | refine Or.inl (And.intro mixedP ?_)); kernel_rfl) | simp only [go_sem,Nat.reduceEqDiff,Nat.reduceAdd,Nat.reduceMul,Nat.reduceLeDiff,Int.reduceBEq,FinE,cloTch,Term.av,hv,ha,hb,hk,hb2,hk2,empty_str])
           all_goals first | omega | (unfold maxLen; omega) | (right; omega) | (left; simp; done) | (simp only [wk3,wkL2,wk2,wkL,wk1_d,wk1_own,wk1_nil,and_self]; done) | (intro i hi; simp only [upd]; (repeat' split); all_goals first | rfl | omega) | skip
           · exact fun j hj => (hsm j hj).symm
           · exact hno l
           · exact hbx l
         | false =>
           have hpt : putT l t = l ++ [t.var] := (if_pos hv1).trans (putL_not (by rw [← any_swap, ha]; decide))
           rw [hpt]
           repeat' (first | (with_reducible first | refine XG_split (fun hq => ?_) (fun hq => ?_) | refine MX1.of 4000 (by simp) ?_ | refine MX2.of 4000 (by simp) ?_ | refine And.intro ?_ ?_) | ((with_reducible first | refine Or.inl (And.intro (And.intro mixedP ?_) ?_) | refine Or.inl (And.intro mixedP ?_)); kernel_rfl) | simp only [go_sem,Nat.reduceEqDiff,Nat.reduceAdd,Nat.reduceMul,Nat.reduceLeDiff,Int.reduceBEq,FinE,cloTch,Term.av,hv,ha,hb,hk,hb2,hk2,empty_str])
           all_goals first | omega | (unfold maxLen; omega) | (right; omega) | (left; simp; done) | (simp only [wk3,wkL2,wk2,wkL,wk1_d,wk1_own,wk1_nil,and_self]; done) | (intro i hi; simp only [upd]; (repeat' split); all_goals first | rfl | omega) | skip
           · intro j hj
             unfold cloH
             by_cases e1 : j = i
             · subst e1
               rw [upd_same, upd_same, List.map_append]
               rfl
             · rw [upd_ne _ _ e1, upd_ne _ _ e1]
               by_cases e2 : j = i + 1
               · subst e2
                 rw [upd_same, upd_same, List.length_append]
                 rfl
               · rw [upd_ne _ _ e2, upd_ne _ _ e2, upd_ne _ _ (by omega)]
           · exact hno _
           · exact hbx _
 · cases hr
theorem of_rep2 {P : Program} {f : FuncId} {fn : Func} {code : Code} {g : List AV → Option AV} {pre : List AV → Prop} (hf : P.funcs[f]? = some fn) (hbody : fn.body = some code) (hn : (fn.name == "runtime.NumGoroutine") = false)
 (H : ∀ (args : List AV) (r : AV) (c : Cx) (h : AH) (n : Nat) (w : World) (vals : List Value), pre args → g args = some r → Wd c h n w → vals.length = args.length → (∀ (j : Nat) v x, vals[j]? = some v → args[j]? = some x → ARep c h w v x) → ∃ x, ARep c h w x r ∧ Calls P f vals.toArray w fun e w' => e = .returned x ∧ Go.RowKit.Below w.heap.size w w') : FsOk P f (.pureIf pre g) := by
 intro c h n w vals args K hw hl hr hS
 obtain ⟨hpre, hS⟩ := hS
 obtain ⟨q, hq, hK⟩ := onO_iff hS
 refine ⟨Entered.of hf hbody hn, ?_⟩
 simp only [Fs.pureIf] at hq hpre
 cases hg : g args with
 | none => simp [hg] at hq
 | some r =>
   simp only [hg, Option.map_some, Option.some.injEq] at hq
   subst hq
   obtain ⟨x, h2, h3⟩ := H args r c h n w vals hpre hg hw hl hr
   refine h3.mono fun e w' ⟨he, hb⟩ => ?_
   obtain ⟨g1, g2⟩ := wd_same hw hb
   exact ⟨x, r, c, h, n, he, g1, g2, ⟨fun b hbl _ => hb.block b hbl, fun i b q _ => q⟩, h2.to g2, Nat.le_refl n, hK⟩
abbrev clipS : Fs := .pureIf (g1p aStrs fun l => l.length ≤ 9223372036854775807) (g1 aStrs fun l => .d (.sl 1 (l.map strRow)))
theorem clip_calls (A : Option Addr) (n c : Nat) (w : World) (hn : n ≤ c) (hm : (n : Int) ≤ 9223372036854775807) : Calls Try.prog 57 #[.slice A n c] w fun e w' => e = .returned (.slice A n n) ∧ Go.RowKit.Below w.heap.size w w' := by
 go_enter Try.func57, Try.ntmps57
 go_wp2
 go_ret
 exact ⟨rfl, Go.RowKit.Below.refl _ _⟩
theorem clip_rep {c : Cx} {w : World} {A : Option Addr} {n cap z : Nat} {xs : List (List DV)} (hd : DRep c w (.slice A n cap) (.sl z xs)) : n ≤ cap ∧ DRep c w (.slice A n n) (.sl z xs) := by
 generalize hv : Value.slice A n cap = v at hd
 cases hd with
 | sl A' cap' _ _ f hc hz hA hN hcell hrep =>
   cases hv
   exact ⟨hc, .sl A xs.length z xs f (Nat.le_refl _) hz hA (fun e => ⟨(hN e).1, by rw [(hN e).1]; rfl⟩) hcell hrep⟩
theorem clip_ok : FsOk Try.prog 57 clipS := by
 refine of_rep2 Try.func57 rfl (by kernel_rfl) ?_
 intro args r c h n w vals hp hg hw hl hr
 obtain ⟨x, l, rfl, hx, rfl⟩ := g1_eq hg
 have hp := hp l hx
 match vals, hl with
 | [v], _ =>
   have hv := hr 0 v _ rfl rfl
   unfold aStrs at hx
   cases hrow : rowsOf 1 x with
   | none => simp [hrow] at hx
   | some rows =>
     simp only [hrow] at hx
     obtain rfl := dRows_eq (fun c x => cStr_eq) hx
     obtain ⟨A, cap, rfl, hd⟩ := rowsOf_rep hv hrow
     exact ⟨.slice A (l.map strRow).length (l.map strRow).length, .d _ _ (clip_rep hd).2, clip_calls A _ cap w (clip_rep hd).1 (by rw [List.length_map]; omega)⟩
abbrev pvarsS : Fs := .pureIf (g1p aClause szC) (g1 aClause fun c => .d (.sl 1 ((varsL c).map strRow)))
set_option maxRecDepth 10000 in
set_option maxHeartbeats 4000000 in
theorem pvars_ok : FsOk Try.prog 26 pvarsS := by
 refine of_Y1 (E := EqT.no _) (F := ((Ft.no.put 24 pcheckS).put 55 cloS).put 57 clipS) Clause.av (fun _ _ => aClause_le) Try.func26 rfl (by kernel_rfl) [.tmp 2] rfl Try.ntmps26 (by decide) ((((FtOk.no _).put pcheck_ok).put clo_ok).put clip_ok) ?_
 intro c h n hp hok
 cases hck : checkB c with
 | false =>
   have hV : varsL c = [] := by unfold varsL; rw [hck]; rfl
   repeat' (first | (with_reducible first | refine XG_split (fun hq => ?_) (fun hq => ?_) | refine MX1.of 4000 (by simp) ?_ | refine MX2.of 4000 (by simp) ?_ | refine And.intro ?_ ?_) | ((with_reducible first | refine Or.inl (And.intro (And.intro mixedP ?_) ?_) | refine Or.inl (And.intro mixedP ?_)); kernel_rfl) | simp only [go_sem,Nat.reduceEqDiff,Nat.reduceAdd,Nat.reduceMul,Nat.reduceLeDiff,Int.reduceBEq,Clause.av,Clause.ds,hck,hV,List.map_nil])
   all_goals first | exact hp | skip
   all_goals first | omega | (unfold maxLen; omega) | (right; omega) | (left; simp; done) | (simp only [wk3,wkL2,wk2,wkL,wk1_d,wk1_own,wk1_nil,and_self]; done) | (intro i hi; simp only [upd]; (repeat' split); all_goals first | rfl | omega) | skip
 | true =>
   have hc := hck
   simp only [checkB, Bool.and_eq_true, decide_eq_true_eq] at hc
   obtain ⟨⟨⟨hc1, hc2⟩, hc3⟩, hc4⟩ := hc
   have hha : c.head.args.length ≤ 4 := by
    unfold checkLitB saidB at hc1
    simp only [Bool.and_eq_true, decide_eq_true_eq] at hc1
    exact hc1.2.1.2
   have hlit : ∀ l ∈ c.body, l.args.length ≤ 4 := fun l hl => by
    rw [List.all_eq_true] at hc4
    exact lit_args4 (hc4 l hl)
   have hwho : putT [] c.head.who = [] := by
    unfold ownT at hc2
    simp only [Bool.and_eq_true, beq_iff_eq] at hc2
    exact if_neg (by omega)
   have hV : varsL c = c.body.foldl litVs (c.head.args.foldl putT []) := by
    unfold varsL
    rw [hck, if_pos rfl, List.foldl_cons]
    unfold litVs
    rw [hwho]
   have hok1 : HOk (n + 1) (upd h n (.box c.ds)) := (hok.mono (Nat.le_succ n)).upd_box (Nat.lt_succ_self n) (by simp only [go_sem, Clause.ds])
   have hok3 : ∀ l : List ByteArray, HOk (n + 1 + 1 + 1) (upd (upd (upd h n (.box c.ds)) (n + 1 + 1) (.tok (l).length 1)) (n + 1) (.box [.own (n + 1 + 1) 1 ((l).map strRow)])) := fun l => ((hok1.mono (by omega)).upd_tok (by omega)).upd_box (by omega) (by simp only [go_sem]; omega)
   have hok4 : ∀ (l : List ByteArray) (L : Lit), HOk (n + 1 + 1 + 1 + 1) (upd (upd (upd (upd h n (.box c.ds)) (n + 1 + 1) (.tok (l).length 1)) (n + 1) (.box [.own (n + 1 + 1) 1 ((l).map strRow)])) (n + 1 + 1 + 1) (.box L.bx)) := fun l L => ((hok3 l).mono (Nat.le_succ _)).upd_box (by omega) (by simp only [go_sem, Lit.bx])
   repeat' (first | (with_reducible first | refine XG_split (fun hq => ?_) (fun hq => ?_) | refine MX1.of 4000 (by simp) ?_ | refine MX2.of 4000 (by simp) ?_ | refine And.intro ?_ ?_) | ((with_reducible first | refine Or.inl (And.intro (And.intro mixedP ?_) ?_) | refine Or.inl (And.intro mixedP ?_)); kernel_rfl) | simp only [go_sem,Nat.reduceEqDiff,Nat.reduceAdd,Nat.reduceMul,Nat.reduceLeDiff,Int.reduceBEq,Clause.av,Clause.ds,hck])
   all_goals first | exact hp | skip
   all_goals first | omega | (unfold maxLen; omega) | (right; omega) | (left; simp; done) | (simp only [wk3,wkL2,wk2,wkL,wk1_d,wk1_own,wk1_nil,and_self]; done) | (intro i hi; simp only [upd]; (repeat' split); all_goals first | rfl | omega) | skip
   refine AW.wk (Wk.nilBox (i := n + 1) 1 (upd_same _ _ _)) ?_
   refine AW.loopJ (E := EqT.no _) (S := fun x : Nat × List ByteArray => ⟨fr [(1, .p n 0), (3, .p (n + 1) 0), (4, .fn (.func 55) [] [.p (n + 1) 0]), (17, .d (.sl 3 (c.head.args.map Term.cells))), (18, vI c.head.args.length), (19, vI x.1)] (List.replicate 52 .any), upd (upd (upd h n (.box c.ds)) (n + 1 + 1) (.tok (x.2).length 1)) (n + 1) (.box [.own (n + 1 + 1) 1 ((x.2).map strRow)]), n, n + 1 + 1 + 1⟩)
    (I := fun x => x.1 ≤ c.head.args.length ∧ x.2.length ≤ x.1 ∧ (c.head.args.drop x.1).foldl putT x.2 = c.head.args.foldl putT []) (μ := fun x => c.head.args.length - x.1) (0, []) ⟨Nat.zero_le _, Nat.le_refl _, rfl⟩ ?_ 4000 (fun _ => by simp only [fr_len, List.length_replicate]; decide) ?_
   · exact Wk.of (by simp only [go_sem, Clause.ds, Lit.cells, List.map_cons, List.map_nil, List.length_map]) (by intro i hi; simp only [upd, Clause.ds, List.length_nil, List.map_nil]; (repeat' split); all_goals first | rfl | omega) (hok3 _) (by omega) (by omega) (by simp only [go_sem]; omega)
   · rintro ⟨k, acc⟩ ⟨hk, hac, hI⟩
     simp only at hk hac hI
     rcases Nat.lt_or_ge k c.head.args.length with hkl | hkl
     · rw [List.drop_eq_getElem_cons hkl, List.foldl_cons] at hI
       have hpl := putT_len acc c.head.args[k]
       repeat' (first | (with_reducible first | refine XG_split (fun hq => ?_) (fun hq => ?_) | refine MX1.of 4000 (by simp) ?_ | refine MX2.of 4000 (by simp) ?_ | refine And.intro ?_ ?_) | ((with_reducible first | refine Or.inl (And.intro (And.intro mixedP ?_) ?_) | refine Or.inl (And.intro mixedP ?_)); kernel_rfl) | simp only [go_sem,Nat.reduceEqDiff,Nat.reduceAdd,Nat.reduceMul,Nat.reduceLeDiff,Int.reduceBEq,Clause.ds,Lit.bx,Term.cells,cloH,Term.av,decide_eq_true hkl,List.getElem?_eq_getElem hkl,Lit.cells])
       all_goals first | omega | (unfold maxLen; omega) | (right; omega) | (left; simp; done) | (simp only [wk3,wkL2,wk2,wkL,wk1_d,wk1_own,wk1_nil,and_self]; done) | (intro i hi; simp only [upd]; (repeat' split); all_goals first | rfl | omega) | skip
       exact ⟨(k + 1, putT acc c.head.args[k]), ⟨hkl, by show (putT acc c.head.args[k]).length ≤ k + 1; omega, hI⟩, Wk.of (by simp only [go_sem]) (by intro i hi; simp only [upd, Clause.ds]; (repeat' split); all_goals first | rfl | omega) (hok3 _) (by omega) (by omega) (by simp only [go_sem]; omega), by show c.head.args.length - (k + 1) < c.head.args.length - k; omega⟩
     · obtain rfl : k = c.head.args.length := by omega
       rw [List.drop_length, List.foldl_nil] at hI
       rw [← hI] at hV
       repeat' (first | (with_reducible first | refine XG_split (fun hq => ?_) (fun hq => ?_) | refine MX1.of 4000 (by simp) ?_ | refine MX2.of 4000 (by simp) ?_ | refine And.intro ?_ ?_) | ((with_reducible first | refine Or.inl (And.intro (And.intro mixedP ?_) ?_) | refine Or.inl (And.intro mixedP ?_)); kernel_rfl) | simp only [go_sem,Nat.reduceEqDiff,Nat.reduceAdd,Nat.reduceMul,Nat.reduceLeDiff,Int.reduceBEq,Clause.ds,Nat.lt_irrefl,decide_false])
       all_goals first | omega | (unfold maxLen; omega) | (right; omega) | (left; simp; done) | (simp only [wk3,wkL2,wk2,wkL,wk1_d,wk1_own,wk1_nil,and_self]; done) | (intro i hi; simp only [upd]; (repeat' split); all_goals first | rfl | omega) | skip
       refine AW.loopJ (E := EqT.no _) (S := fun x : Nat × List ByteArray => ⟨fr [(1, .p n 0), (3, .p (n + 1) 0), (4, .fn (.func 55) [] [.p (n + 1) 0]), (28, .d (.sl 6 (c.body.map Lit.cells))), (29, vI c.body.length), (30, vI x.1)] (List.replicate 52 .any), upd (upd (upd h n (.box c.ds)) (n + 1 + 1) (.tok (x.2).length 1)) (n + 1) (.box [.own (n + 1 + 1) 1 ((x.2).map strRow)]), n, n + 1 + 1 + 1⟩)
        (I := fun x => x.1 ≤ c.body.length ∧ x.2.length ≤ 4 + 5 * x.1 ∧ (c.body.drop x.1).foldl litVs x.2 = varsL c) (μ := fun x => c.body.length - x.1) (0, acc) ⟨Nat.zero_le _, by show acc.length ≤ 4 + 5 * 0; omega, hV.symm⟩ ?_ 4000 (fun _ => by simp only [fr_len, List.length_replicate]; decide) ?_
       · exact Wk.of (by simp only [go_sem, Clause.ds, List.length_map]) (by intro i hi; simp only [upd, Clause.ds]; (repeat' split); all_goals first | rfl | omega) (hok3 _) (by omega) (by omega) (by simp only [go_sem]; omega)
       · rintro ⟨j, ac2⟩ ⟨hj, hjl, hJ⟩
         simp only at hj hjl hJ
         rcases Nat.lt_or_ge j c.body.length with hjl2 | hjl2
         · rw [List.drop_eq_getElem_cons hjl2, List.foldl_cons] at hJ
           have hmem := hlit _ (List.getElem_mem hjl2)
           have hpw := putT_len ac2 c.body[j].who
           repeat' (first | (with_reducible first | refine XG_split (fun hq => ?_) (fun hq => ?_) | refine MX1.of 4000 (by simp) ?_ | refine MX2.of 4000 (by simp) ?_ | refine And.intro ?_ ?_) | ((with_reducible first | refine Or.inl (And.intro (And.intro mixedP ?_) ?_) | refine Or.inl (And.intro mixedP ?_)); kernel_rfl) | simp only [go_sem,Nat.reduceEqDiff,Nat.reduceAdd,Nat.reduceMul,Nat.reduceLeDiff,Int.reduceBEq,Clause.ds,Lit.bx,Term.cells,cloH,Term.av,decide_eq_true hjl2,List.getElem?_eq_getElem hjl2,Lit.cells])
           all_goals first | omega | (unfold maxLen; omega) | (right; omega) | (left; simp; done) | (simp only [wk3,wkL2,wk2,wkL,wk1_d,wk1_own,wk1_nil,and_self]; done) | (intro i hi; simp only [upd]; (repeat' split); all_goals first | rfl | omega) | skip
           refine AW.loopJ (E := EqT.no _) (S := fun x : Nat × List ByteArray => ⟨fr [(1, .p n 0), (3, .p (n + 1) 0), (4, .fn (.func 55) [] [.p (n + 1) 0]), (28, .d (.sl 6 (c.body.map Lit.cells))), (29, vI c.body.length), (30, vI j), (39, .d (.sl 3 (c.body[j].args.map Term.cells))), (40, vI c.body[j].args.length), (41, vI x.1)] (List.replicate 52 .any), upd (upd (upd (upd h n (.box c.ds)) (n + 1 + 1) (.tok (x.2).length 1)) (n + 1) (.box [.own (n + 1 + 1) 1 ((x.2).map strRow)])) (n + 1 + 1 + 1) (.box c.body[j].bx), n, n + 1 + 1 + 1 + 1⟩)
            (I := fun x => x.1 ≤ c.body[j].args.length ∧ x.2.length ≤ 5 + 5 * j + x.1 ∧ (c.body[j].args.drop x.1).foldl putT x.2 = litVs ac2 c.body[j]) (μ := fun x => c.body[j].args.length - x.1) (0, putT ac2 c.body[j].who) ⟨Nat.zero_le _, by show (putT ac2 c.body[j].who).length ≤ 5 + 5 * j + 0; omega, rfl⟩ ?_ 4000 (fun _ => by simp only [fr_len, List.length_replicate]; decide) ?_
           · exact Wk.of (by simp only [go_sem, Lit.cells, List.length_map]) (by intro i hi; simp only [upd, Clause.ds, Lit.bx, Lit.cells, List.map_cons, List.map_nil]; (repeat' split); all_goals first | rfl | omega) (hok4 _ _) (by omega) (by omega) (by simp only [go_sem]; omega)
           · rintro ⟨k, ac3⟩ ⟨hk, hkc, hK⟩
             simp only at hk hkc hK
             rcases Nat.lt_or_ge k c.body[j].args.length with hkl | hkl
             · rw [List.drop_eq_getElem_cons hkl, List.foldl_cons] at hK
               have hpl := putT_len ac3 c.body[j].args[k]
               repeat' (first | (with_reducible first | refine XG_split (fun hq => ?_) (fun hq => ?_) | refine MX1.of 4000 (by simp) ?_ | refine MX2.of 4000 (by simp) ?_ | refine And.intro ?_ ?_) | ((with_reducible first | refine Or.inl (And.intro (And.intro mixedP ?_) ?_) | refine Or.inl (And.intro mixedP ?_)); kernel_rfl) | simp only [go_sem,Nat.reduceEqDiff,Nat.reduceAdd,Nat.reduceMul,Nat.reduceLeDiff,Int.reduceBEq,Clause.ds,Lit.bx,Term.cells,cloH,Term.av,decide_eq_true hkl,List.getElem?_eq_getElem hkl,Lit.cells])
               all_goals first | omega | (unfold maxLen; omega) | (right; omega) | (left; simp; done) | (simp only [wk3,wkL2,wk2,wkL,wk1_d,wk1_own,wk1_nil,and_self]; done) | (intro i hi; simp only [upd]; (repeat' split); all_goals first | rfl | omega) | skip
               exact ⟨(k + 1, putT ac3 c.body[j].args[k]), ⟨hkl, by show (putT ac3 c.body[j].args[k]).length ≤ 5 + 5 * j + (k + 1); omega, hK⟩, Wk.of (by simp only [go_sem]) (by intro i hi; simp only [upd, Clause.ds, Lit.bx]; (repeat' split); all_goals first | rfl | omega) (hok4 _ _) (by omega) (by omega) (by simp only [go_sem]; omega), by show c.body[j].args.length - (k + 1) < c.body[j].args.length - k; omega⟩
             · obtain rfl : k = c.body[j].args.length := by omega
               rw [List.drop_length, List.foldl_nil] at hK
               rw [← hK] at hJ
               repeat' (first | (with_reducible first | refine XG_split (fun hq => ?_) (fun hq => ?_) | refine MX1.of 4000 (by simp) ?_ | refine MX2.of 4000 (by simp) ?_ | refine And.intro ?_ ?_) | ((with_reducible first | refine Or.inl (And.intro (And.intro mixedP ?_) ?_) | refine Or.inl (And.intro mixedP ?_)); kernel_rfl) | simp only [go_sem,Nat.reduceEqDiff,Nat.reduceAdd,Nat.reduceMul,Nat.reduceLeDiff,Int.reduceBEq,Clause.ds,Nat.lt_irrefl,decide_false])
               all_goals first | omega | (unfold maxLen; omega) | (right; omega) | (left; simp; done) | (simp only [wk3,wkL2,wk2,wkL,wk1_d,wk1_own,wk1_nil,and_self]; done) | (intro i hi; simp only [upd]; (repeat' split); all_goals first | rfl | omega) | skip
               exact ⟨(j + 1, ac3), ⟨hjl2, by show ac3.length ≤ 4 + 5 * (j + 1); omega, hJ⟩, Wk.of (by simp only [go_sem]) (by intro i hi; simp only [upd, Clause.ds, Lit.bx]; (repeat' split); all_goals first | rfl | omega) (hok3 _) (by omega) (by omega) (by simp only [go_sem]; omega), by show c.body.length - (j + 1) < c.body.length - j; omega⟩
         · obtain rfl : j = c.body.length := by omega
           rw [List.drop_length, List.foldl_nil] at hJ
           repeat' (first | (with_reducible first | refine XG_split (fun hq => ?_) (fun hq => ?_) | refine MX1.of 4000 (by simp) ?_ | refine MX2.of 4000 (by simp) ?_ | refine And.intro ?_ ?_) | ((with_reducible first | refine Or.inl (And.intro (And.intro mixedP ?_) ?_) | refine Or.inl (And.intro mixedP ?_)); kernel_rfl) | simp only [go_sem,Nat.reduceEqDiff,Nat.reduceAdd,Nat.reduceMul,Nat.reduceLeDiff,Int.reduceBEq,Clause.ds,Nat.lt_irrefl,decide_false,hJ])
           all_goals first | omega | (unfold maxLen; omega) | (right; omega) | (left; simp; done) | (simp only [wk3,wkL2,wk2,wkL,wk1_d,wk1_own,wk1_nil,and_self]; done) | (intro i hi; simp only [upd]; (repeat' split); all_goals first | rfl | omega) | skip
           rw [← hJ]
           omega
def factB (c : Clause) : Bool := checkB c && (c.body.length == 0 && (varsL c).length == 0)
abbrev pfactS : Fs := .pureIf (g1p aClause szC) (g1 aClause fun c => vB (factB c))
set_option maxRecDepth 10000 in
set_option maxHeartbeats 4000000 in
theorem pfact_ok : FsOk Try.prog 28 pfactS := by
 refine of_Y1 (E := EqT.no _) (F := (Ft.no.put 24 pcheckS).put 26 pvarsS) Clause.av (fun _ _ => aClause_le) Try.func28 rfl (by kernel_rfl) [.tmp 2] rfl Try.ntmps28 (by decide) (((FtOk.no _).put pcheck_ok).put pvars_ok) ?_
 intro c h n hp hok
 cases hck : checkB c with
 | false =>
   have hF : factB c = false := by unfold factB; rw [hck]; rfl
   repeat' (first | (with_reducible first | refine XG_split (fun hq => ?_) (fun hq => ?_) | refine MX1.of 4000 (by simp) ?_ | refine MX2.of 4000 (by simp) ?_ | refine And.intro ?_ ?_) | ((with_reducible first | refine Or.inl (And.intro (And.intro mixedP ?_) ?_) | refine Or.inl (And.intro mixedP ?_)); kernel_rfl) | simp only [go_sem,Nat.reduceEqDiff,Nat.reduceAdd,Nat.reduceMul,Nat.reduceLeDiff,Int.reduceBEq,Clause.av,Clause.ds,hck,hF,List.length_map])
   all_goals first | exact hp | skip
   all_goals first | omega | (unfold maxLen; omega) | (right; omega) | (left; simp; done) | (simp only [wk3,wkL2,wk2,wkL,wk1_d,wk1_own,wk1_nil,and_self]; done) | (intro i hi; simp only [upd]; (repeat' split); all_goals first | rfl | omega) | skip
 | true =>
   cases hb : c.body.length == 0 with
   | false =>
     have hF : factB c = false := by unfold factB; rw [hck, hb]; rfl
     repeat' (first | (with_reducible first | refine XG_split (fun hq => ?_) (fun hq => ?_) | refine MX1.of 4000 (by simp) ?_ | refine MX2.of 4000 (by simp) ?_ | refine And.intro ?_ ?_) | ((with_reducible first | refine Or.inl (And.intro (And.intro mixedP ?_) ?_) | refine Or.inl (And.intro mixedP ?_)); kernel_rfl) | simp only [go_sem,Nat.reduceEqDiff,Nat.reduceAdd,Nat.reduceMul,Nat.reduceLeDiff,Int.reduceBEq,Clause.av,Clause.ds,hck,hb,hF,List.length_map])
     all_goals first | exact hp | skip
     all_goals first | omega | (unfold maxLen; omega) | (right; omega) | (left; simp; done) | (simp only [wk3,wkL2,wk2,wkL,wk1_d,wk1_own,wk1_nil,and_self]; done) | (intro i hi; simp only [upd]; (repeat' split); all_goals first | rfl | omega) | skip
   | true =>
     have hF : factB c = ((varsL c).length == 0) := by unfold factB; rw [hck, hb]; rfl
     repeat' (first | (with_reducible first | refine XG_split (fun hq => ?_) (fun hq => ?_) | refine MX1.of 4000 (by simp) ?_ | refine MX2.of 4000 (by simp) ?_ | refine And.intro ?_ ?_) | ((with_reducible first | refine Or.inl (And.intro (And.intro mixedP ?_) ?_) | refine Or.inl (And.intro mixedP ?_)); kernel_rfl) | simp only [go_sem,Nat.reduceEqDiff,Nat.reduceAdd,Nat.reduceMul,Nat.reduceLeDiff,Int.reduceBEq,Clause.av,Clause.ds,hck,hb,hF,List.length_map])
     all_goals first | exact hp | skip
     all_goals first | omega | (unfold maxLen; omega) | (right; omega) | (left; simp; done) | (simp only [wk3,wkL2,wk2,wkL,wk1_d,wk1_own,wk1_nil,and_self]; done) | (intro i hi; simp only [upd]; (repeat' split); all_goals first | rfl | omega) | skip
end Go.Proofs.Ytdhocmakbapfpaa.M
end
section
namespace Go.Proofs.Ytdhocmakbapfpaa.M
open Go.R
def g0 (r : AV) : List AV → Option AV
 | [] => some r
 | _ => none
section
variable {P : Program} {E : EqT P} {F : Ft}
theorem of_Y0 {r : AV} {f : FuncId} {fn : Func} {code : Code} (hf : P.funcs[f]? = some fn) (hbody : fn.body = some code) (hn : (fn.name == "runtime.NumGoroutine") = false)
 (rs : List ResultVar) {nt : Nat} (hrs : fn.results = rs.toArray) (hnt : fn.ntmps = nt) (hl : nt ≤ 900000) (hF : FtOk P F)
 (H : ∀ h n, HOk n h → X E F [] (FinP P rs n h r) 4000 (.code code) [] ⟨List.replicate nt .any, h, n, n⟩) : FsOk P f (.pure (g0 r)) := by
 refine FsOk.of_XP (E := E) _ hf hbody hn hrs hnt hF (fun _ _ _ => rfl) ?_
 intro args h n r' hp hS hok
 cases args with
 | nil =>
   cases hS
   exact ⟨[], trivial, ⟨hl, by simp⟩, H h n hok⟩
 | cons a l => cases hS
end
abbrev fixedS : Fs := .pure (g0 (vB true))
theorem tup_of {α : Type} {x : α × Int × Int} {p q : Int} (h : x.2 = (p, q)) : x = (x.1, p, q) := by
 obtain ⟨a, b, c⟩ := x
 cases h
 rfl
theorem fx1 : ∃ c, clauseA (⟨#[111, 107, 40, 88, 41, 58, 45, 98, 111, 98, 32, 115, 97, 121, 115, 32, 102, 114, 105, 101, 110, 100, 40, 88, 41, 44, 110, 111, 116, 32, 98, 97, 100, 40, 88, 41, 44, 88, 33, 61, 109, 101, 46]⟩ : ByteArray) = (c, 0, 0) ∧ printB c = ((⟨#[111, 107, 40, 88, 41, 32, 58, 45, 32, 98, 111, 98, 32, 115, 97, 121, 115, 32, 102, 114, 105, 101, 110, 100, 40, 88, 41, 44, 32, 110, 111, 116, 32, 98, 97, 100, 40, 88, 41, 44, 32, 88, 32, 33, 61, 32, 109, 101, 46]⟩ : ByteArray), 0) ∧ varsL c = [(⟨#[88]⟩ : ByteArray)] ∧ checkB c = true ∧ factB c = false ∧ clauseI c ∧ szC c := by
 refine ⟨_, tup_of (by decide +kernel), by decide +kernel, by decide +kernel, by decide +kernel, by decide +kernel, ?_, ?_⟩
 · unfold clauseI litI tI i64
   decide +kernel
 · unfold szC szL szT szS
   decide +kernel
theorem fx2 : ∃ c, clauseA (⟨#[112, 32, 58, 45, 32, 88, 46]⟩ : ByteArray) = (c, 6, 6) := ⟨_, tup_of (by decide +kernel)⟩
theorem fx3 : ∃ c, clauseA (⟨#[112, 40, 97, 44, 32, 98, 44, 32, 99, 44, 32, 100, 44, 32, 101, 41, 46]⟩ : ByteArray) = (c, 12, 2) := ⟨_, tup_of (by decide +kernel)⟩
theorem fx4 : ∃ l, litA (⟨#[98, 111, 98, 32, 115, 97, 121, 115, 32, 112, 40, 88, 44, 32, 49, 41]⟩ : ByteArray) = (l, 0, 0) ∧ printLitB l = ((⟨#[98, 111, 98, 32, 115, 97, 121, 115, 32, 112, 40, 88, 44, 32, 49, 41]⟩ : ByteArray), 0) ∧ checkLitB l = true ∧ litI l ∧ szL l := by
 refine ⟨_, tup_of (by decide +kernel), by decide +kernel, by decide +kernel, ?_, ?_⟩
 · unfold litI tI i64
   decide +kernel
 · unfold szL szT szS
   decide +kernel
theorem fx5 : ∃ c, clauseA (⟨#[112, 40, 97, 41, 46]⟩ : ByteArray) = (c, 0, 0) ∧ factB c = true ∧ szC c := by
 refine ⟨_, tup_of (by decide +kernel), by decide +kernel, ?_⟩
 unfold szC szL szT szS
 decide +kernel
set_option maxRecDepth 20000 in
set_option maxHeartbeats 8000000 in
theorem fixed_ok : FsOk Try.prog 13 fixedS := by
 refine of_Y0 (E := EqT.no _) (F := (((((((Ft.no.put 11 pparseS).put 18 pprintS).put 15 pparseLitS).put 21 pprintLitS).put 26 pvarsS).put 24 pcheckS).put 25 pcheckLitS).put 28 pfactS) Try.func13 rfl (by kernel_rfl) [.tmp 0] rfl Try.ntmps13 (by decide) (((((((((FtOk.no _).put pparse_ok).put pprint_ok).put pparseLit_ok).put pprintLit_ok).put pvars_ok).put pcheck_ok).put pcheckLit_ok).put pfact_ok) ?_
 intro h n hok
 obtain ⟨c1, h1, p1, v1, k1, f1, i1, z1⟩ := fx1
 obtain ⟨c2, h2⟩ := fx2
 obtain ⟨c3, h3⟩ := fx3
 obtain ⟨l4, h4, p4, k4, i4, z4⟩ := fx4
 obtain ⟨c5, h5, f5, z5⟩ := fx5
 repeat' (first | (with_reducible first | refine XG_split (fun hq => ?_) (fun hq => ?_) | refine MX1.of 4000 (by simp) ?_ | refine MX2.of 4000 (by simp) ?_ | refine And.intro ?_ ?_) | ((with_reducible first | refine Or.inl (And.intro (And.intro mixedP ?_) ?_) | refine Or.inl (And.intro mixedP ?_)); kernel_rfl) | simp only [go_sem,Nat.reduceEqDiff,Nat.reduceAdd,Nat.reduceMul,Nat.reduceLeDiff,Int.reduceBEq,Clause.av,Lit.av,h1,p1,v1,k1,f1,h2,h3,h4,p4,k4,h5,f5,strRow,List.map_cons,List.map_nil,List.length_cons,List.length_nil,beq_self_eq_true,List.append_eq,List.cons_append,List.nil_append])
 all_goals first | exact ⟨i1, z1⟩ | exact z1 | exact ⟨i4, z4⟩ | exact z4 | exact z5 | (show (_ : Int) ≤ _; decide) | skip
 all_goals first | omega | (unfold maxLen; omega) | (right; omega) | (left; simp; done) | (simp only [wk3,wkL2,wk2,wkL,wk1_d,wk1_own,wk1_nil,and_self]; done) | (intro i hi; simp only [upd]; (repeat' split); all_goals first | rfl | omega) | skip
end Go.Proofs.Ytdhocmakbapfpaa.M
end
