import Derived.Test.YtfhpecgknmfnnaaDoorC9
import Derived.Test.YtfhpecgknmfnnaaDoorC3
import Derived.Test.YtfhpecgknmfnnaaDoorC8
set_option linter.unusedVariables false
set_option linter.unusedSimpArgs false
section
namespace Go.Proofs.YtfhpecgknmfnnaaDoor.M
open Go.RowKit Go.Proofs.YtfhpecgknmfnnaaDoorW.PrintWords
open Go.R (strOf)
theorem bytes_head {x : ByteArray} (h : 0 < x.size) : bytesOf x = bt x 0 :: (bytesOf x).drop 1 := by
 have := bytesOf_drop x 0 h
 rw [List.drop_zero] at this
 exact this
theorem bt_first {x : ByteArray} {c : Int} {t : List Int} (h : bytesOf x = c :: t) : 0 < x.size ∧ bt x 0 = c ∧ (bytesOf x).drop 1 = t := by
 have h0 : 0 < x.size := by
  rw [← bytesOf_length, h]
  exact Nat.succ_pos _
 have := bytes_head h0
 rw [h] at this
 injection this with h1 h2
 exact ⟨h0, h1.symm, by rw [h]; rfl⟩
theorem dig_piece {c : Int} (h : 48 ≤ c ∧ c ≤ 57) : pieceB c = true := by
 unfold pieceB
 rw [(digB_iff c).2 h]
 simp
theorem nameGo_all : ∀ (f : Bool) (l : List Int), nameGo f l = true → ∀ c ∈ l, pieceB c = true
 | _, [], _, c, hc => absurd hc List.not_mem_nil
 | f, d :: l, h, c, hc => by
   rw [nameGo_step, Bool.and_eq_true] at h
   rcases List.mem_cons.1 hc with rfl | hc
   · have h1 := h.1
     unfold pieceB
     simp only [Bool.or_eq_true, Bool.and_eq_true] at h1 ⊢
     rcases h1 with q | ⟨_, q | q⟩
     · exact .inl (.inl (.inl q))
     · exact .inl (.inr q)
     · exact .inr q
   · exact nameGo_all false l h.2 c hc
theorem name_good {x : ByteArray} (h : nameB x = true) : sortK x = 1 ∧ pieceX x ∧ (readV x).1 = ⟨x, 0⟩ ∧ (readV x).2 = true := by
 have h' := h
 unfold nameB at h'
 simp only [Bool.and_eq_true, Bool.not_eq_true', decide_eq_true_eq] at h'
 obtain ⟨⟨⟨⟨h1, h2⟩, h3⟩, h4⟩, h5⟩ := h'
 refine ⟨?_, ⟨h5, .inl ?_, ?_⟩, ?_, ?_⟩
 · unfold sortK
   rw [h1, h2, h]
   rfl
 · exact nameGo_all _ _ h4 _ (by rw [bytes_head h5]; exact List.mem_cons_self ..)
 · intro c hc
   exact nameGo_all _ _ h4 _ (List.mem_of_mem_drop hc)
 · unfold readV; rw [h]; rfl
 · unfold readV; rw [h]; rfl
theorem var_good {x : ByteArray} (h : varB x = true) : sortK x = 2 ∧ pieceX x := by
 unfold varB at h
 rw [bytesOf_all] at h
 simp only [Bool.and_eq_true, decide_eq_true_eq, List.all_eq_true] at h
 obtain ⟨⟨⟨h1, h2⟩, h3⟩, h4⟩ := h
 have h3 : uppB (bt x 0) = true := by rw [← byteAt_bt]; exact h3
 refine ⟨?_, h1, .inl (upp_facts h3).2.2.1, fun c hc => h4 c (List.mem_of_mem_drop hc)⟩
 have := sortK_upp h1 h3
 rw [decide_eq_true h2] at this
 exact beq_iff_eq.1 this
theorem dec_dig (m : Nat) : ∀ c ∈ decL m, 48 ≤ c ∧ c ≤ 57 := by
 intro c hc
 have := digs_dig _ _ _ (canon_l (m : Int) (by omega)).1 c (by simpa using hc)
 exact (digB_iff c).1 this
theorem dec_ne (m : Nat) : ∃ c t, decL m = c :: t := by
 rw [decL]
 split
 · exact ⟨_, _, rfl⟩
 · cases h : decL (m / 10) with
   | nil => exact ⟨_, _, rfl⟩
   | cons c t => exact ⟨_, _, rfl⟩
theorem num_of {d : ByteArray} {m : Nat} {neg : Bool} (hd : bytesOf d = decL m) (hn : neg = true → 0 < m ∧ (m : Int) ≤ 9223372036854775808) (hp : neg = false → (m : Int) < 9223372036854775808) : numOf d neg = some (if neg then -(m : Int) else m) := by
 have hl : d.size = (decL m).length := by rw [← hd, bytesOf_length]
 obtain ⟨c, t, hc⟩ := dec_ne m
 obtain ⟨h0, hb, _⟩ := bt_first (hd.trans hc)
 have hm : m < 10 ^ 19 := by
  cases neg with
  | true => have := (hn rfl).2; omega
  | false => have := hp rfl; omega
 have h19 := decL_len 18 m hm
 have hcan := canon_l (m : Int) (by omega)
 rw [Int.toNat_natCast] at hcan
 have hbad : badHead d neg = false := by
  unfold badHead
  have e1 : d.toList.isEmpty = false := by
   have := toList_ne d
   rw [decide_eq_true h0] at this
   simpa using this
  rw [e1, decide_eq_false (by omega), Bool.false_or, Bool.false_or, hb]
  cases h48 : c == 48 with
  | false => rfl
  | true =>
    have h48 : c = 48 := by simpa using h48
    cases neg with
    | true =>
      obtain ⟨c', t', e, hne⟩ := decL_head m (hn rfl).1
      rw [hc] at e
      injection e with e1 e2
      omega
    | false =>
      have hone : (decL m).length = 1 := by
       rcases hcan.2 with e | e
       · rw [e]; rfl
       · rw [hc] at e
         exact absurd (congrArg some h48) e
      rw [decide_eq_false (by omega)]
      rfl
 unfold numOf
 rw [hbad, if_neg (by decide), hd, hcan.1]
 simp only [Option.bind_some]
 unfold top63
 cases neg with
 | true => rw [if_pos rfl, if_pos (hn rfl).2, if_pos rfl]
 | false => rw [if_neg (by decide), if_pos (hp rfl), if_neg (by decide)]
theorem first_not {x : ByteArray} {c : Int} {t : List Int} (h : bytesOf x = c :: t) (hc : (48 ≤ c ∧ c ≤ 57) ∨ c = 45) : (x.toList == [110, 111, 116] || x.toList == [115, 97, 121, 115]) = false ∧ nameB x = false ∧ uppB (bt x 0) = false := by
 obtain ⟨h0, hb, _⟩ := bt_first h
 have hlow : lowB c = false := by
  unfold lowB
  rw [Bool.and_eq_false_iff]
  left
  exact decide_eq_false (by omega)
 have ne : ∀ (b : UInt8) (l : List UInt8), (b.toNat : Int) ≠ c → (x.toList == b :: l) = false := by
  intro b l hbc
  rw [beq_eq_false_iff_ne]
  intro e
  rw [toList_eq] at e
  have : bytesOf x = (b.toNat : Int) :: l.map fun b => (b.toNat : Int) := by
   unfold bytesOf
   rw [e]
   rfl
  rw [h] at this
  injection this with h1 h2
  exact hbc h1.symm
 have e1 : ((110 : UInt8).toNat : Int) = 110 := rfl
 have e2 : ((115 : UInt8).toNat : Int) = 115 := rfl
 refine ⟨?_, ?_, ?_⟩
 · rw [ne 110 _ (by rw [e1]; omega), ne 115 _ (by rw [e2]; omega)]
   rfl
 · unfold nameB
   rw [h, nameGo_step, hlow]
   simp
 · rw [hb]
   unfold uppB
   rw [Bool.and_eq_false_iff]
   left
   exact decide_eq_false (by omega)
theorem num_good {n : Int} (h : i64 n) : sortK (numText n) = 3 ∧ pieceX (numText n) ∧ (readV (numText n)).1 = ⟨noStr, n⟩ := by
 obtain ⟨h1, h2⟩ := h
 have key : ∃ c t, bytesOf (numText n) = c :: t ∧ ((48 ≤ c ∧ c ≤ 57) ∨ c = 45) ∧ (∀ d ∈ t, 48 ≤ d ∧ d ≤ 57) ∧ (c = 45 → t ≠ []) ∧ numOf (cutS (numText n)) (negB (numText n)) = some n := by
  unfold numText
  by_cases hn : n < 0
  · rw [if_pos hn]
    have hr : ∀ c ∈ (45 :: decL (-n).toNat), 0 ≤ c ∧ c < 256 := by
     intro c hc
     rcases List.mem_cons.1 hc with rfl | hc
     · omega
     · exact dec_range _ c hc
    have hb := bytesOf_strOf _ hr
    obtain ⟨h0, hb0, hd1⟩ := bt_first hb
    have hneg : negB (strOf (45 :: decL (-n).toNat)) = true := by
     unfold negB
     rw [decide_eq_true h0, hb0]
     rfl
    refine ⟨45, _, hb, .inr rfl, dec_dig _, fun _ => ?_, ?_⟩
    · obtain ⟨c, t, e⟩ := dec_ne (-n).toNat
      rw [e]
      exact List.cons_ne_nil _ _
    · have hcut : bytesOf (cutS (strOf (45 :: decL (-n).toNat))) = decL (-n).toNat := by
       unfold cutS
       rw [hneg, if_pos rfl, bytesOf_extract, List.take_of_length_le (by rw [bytesOf_length]; exact Nat.le_refl _)]
       exact hd1
      rw [hneg, num_of hcut (fun _ => by omega) (fun e => by cases e), if_pos rfl]
      congr 1
      omega
  · rw [if_neg hn]
    have hb := bytesOf_strOf _ (dec_range n.toNat)
    obtain ⟨c, t, hc⟩ := dec_ne n.toNat
    have hdig := dec_dig n.toNat
    rw [hc] at hdig
    have hc0 := hdig c (List.mem_cons_self ..)
    obtain ⟨h0, hb0, _⟩ := bt_first (hb.trans hc)
    have hneg : negB (strOf (decL n.toNat)) = false := by
     unfold negB
     rw [hb0, beq_false_of_ne (by omega), Bool.and_false]
    refine ⟨c, t, hb.trans hc, .inl hc0, fun d hd => hdig d (List.mem_cons_of_mem _ hd), fun e => by omega, ?_⟩
    have hcut : cutS (strOf (decL n.toNat)) = strOf (decL n.toNat) := by unfold cutS; rw [hneg]; rfl
    rw [hneg, hcut, num_of hb (fun e => by cases e) (fun _ => by omega), if_neg (by decide)]
    congr 1
    omega
 obtain ⟨c, t, hb, hc, ht, hne, hnum⟩ := key
 obtain ⟨h0, hb0, hd1⟩ := bt_first hb
 obtain ⟨e1, e2, e3⟩ := first_not hb hc
 have hrd : readV (numText n) = (⟨noStr, n⟩, true) := by
  unfold readV
  rw [e2, hnum]
  rfl
 refine ⟨?_, ⟨h0, ?_, fun d hd => dig_piece (ht d (by rw [← hd1]; exact hd))⟩, by rw [hrd]⟩
 · unfold sortK
   rw [e1, e2, e3, hrd, Bool.and_false, Bool.false_and]
   rfl
 · rcases hc with hc | hc
   · left
     rw [hb0]
     exact dig_piece hc
   · right
     cases t with
     | nil => exact absurd rfl (hne hc)
     | cons d t =>
       have hl : 1 < (numText n).size := by
        rw [← bytesOf_length, hb]
        exact Nat.succ_lt_succ (Nat.succ_pos _)
       refine ⟨hb0.trans hc, hl, ?_⟩
       have : bt (numText n) 1 = d := by
        have := bt_list (numText n) 1
        rw [hb] at this
        exact this
       rw [this]
       exact (digB_iff d).2 (ht d (List.mem_cons_self ..))
theorem term_good {t : Term} (hb : termB t = true) (hi : tI t) : goodT t ∧ pieceX (termText t) ∧ sortK (termText t) ≠ 0 ∧ (0 < t.var.size → sortK (termText t) = 2) ∧ (¬ 0 < t.var.size → 0 < t.val.sym.size → sortK (termText t) = 1) := by
 unfold termB at hb
 unfold termText
 obtain ⟨v, y, n⟩ := t
 simp only at hb ⊢
 by_cases hv : 0 < v.size
 · rw [if_pos hv] at hb
   simp only [Bool.and_eq_true, beq_iff_eq] at hb
   obtain ⟨h1, h2, h3⟩ := hb
   obtain ⟨hk, hx⟩ := var_good h1
   have hT : termText ⟨v, y, n⟩ = v := by unfold termText; exact if_pos hv
   rw [if_pos hv]
   refine ⟨⟨by rw [hT, hk]; omega, ?_⟩, hx, by rw [hk]; decide, fun _ => hk, fun h => absurd hv h⟩
   rw [hT, hk]
   rw [size_zero_nil h2, h3]
   rfl
 · rw [if_neg hv] at hb
   have hv0 : v = noStr := size_zero_nil (by omega)
   rw [if_neg hv]
   have hb' := hb
   unfold goodV at hb
   simp only [Bool.or_eq_true, Bool.and_eq_true, beq_iff_eq] at hb
   have hT : termText ⟨v, y, n⟩ = textB ⟨y, n⟩ := by unfold termText; exact if_neg hv
   by_cases hy : 0 < y.size
   · obtain ⟨h1, h2⟩ := hb.resolve_left (by omega)
     obtain ⟨hk, hx, hr, _⟩ := name_good h1
     have hB : textB ⟨y, n⟩ = y := by unfold textB; rw [hb', if_pos rfl]; exact if_pos hy
     rw [hB]
     refine ⟨⟨by rw [hT, hB, hk]; omega, ?_⟩, hx, by rw [hk]; decide, fun h => absurd h hv, fun _ _ => hk⟩
     rw [hT, hB, hk, hr, hv0]
     have h2 : n = 0 := h2
     rw [h2]
     rfl
   · have hB : textB ⟨y, n⟩ = numText n := by unfold textB; rw [hb', if_pos rfl]; exact if_neg hy
     obtain ⟨hk, hx, hr⟩ := num_good hi
     rw [hB]
     refine ⟨⟨by rw [hT, hB, hk]; omega, ?_⟩, hx, by rw [hk]; decide, fun h => absurd h hv, fun _ h => absurd h hy⟩
     rw [hT, hB, hk, hr, hv0]
     have : y = noStr := size_zero_nil (by omega)
     rw [this]
     rfl
theorem own_z {t : Term} (h : ownT t = true) : t = Term.z := by
 obtain ⟨v, y, n⟩ := t
 simp only [ownT, Bool.and_eq_true, beq_iff_eq] at h
 obtain ⟨⟨h1, h2⟩, h3⟩ := h
 rw [size_zero_nil h1, size_zero_nil h2, h3]
 rfl
theorem terms_good {ts : List Term} (hb : termsB ts = true) (hi : ∀ t ∈ ts, tI t) : ∀ t ∈ ts, goodT t := fun t ht => by
 unfold termsB at hb
 rw [List.all_eq_true] at hb
 exact (term_good (hb t ht) (hi t ht)).1
theorem said_good {l : Lit} (hb : saidB l = true) (hi : litI l) : GoodS l := by
 simp only [saidB, Bool.and_eq_true, decide_eq_true_eq] at hb
 obtain ⟨⟨⟨hw, hp⟩, hl⟩, ht⟩ := hb
 refine ⟨?_, ?_, terms_good ht hi.2, hl⟩
 · cases ho : ownT l.who with
   | true => exact .inl ⟨rfl, own_z ho⟩
   | false =>
     rw [ho, Bool.false_or] at hw
     simp only [Bool.and_eq_true, Bool.or_eq_true, decide_eq_true_eq] at hw
     have g := term_good hw.1 hi.1
     refine .inr ⟨rfl, g.1, ?_⟩
     by_cases hv : 0 < l.who.var.size
     · exact .inr (g.2.2.2.1 hv)
     · exact .inl (g.2.2.2.2 hv (hw.2.resolve_left hv))
 · unfold nameB at hp
   simp only [Bool.and_eq_true, Bool.not_eq_true'] at hp
   have := hp.1.1.1.1
   rw [toList_eq] at this
   exact this
theorem lit_good {l : Lit} (hb : literalB l = true) (hi : litI l) : goodL l := by
 unfold literalB at hb
 by_cases hk : (l.kind == 1 || l.kind == 2) = true
 · rw [if_pos hk] at hb
   simp only [Bool.or_eq_true, beq_iff_eq] at hk
   exact .inl ⟨hk, said_good hb hi⟩
 · rw [if_neg hk] at hb
   simp only [Bool.and_eq_true, Bool.or_eq_true, beq_iff_eq] at hb
   obtain ⟨⟨⟨⟨h1, h2⟩, h3⟩, h4⟩, h5⟩ := hb
   refine .inr ⟨h1, own_z h3, size_zero_nil h2, ?_⟩
   have hg := terms_good h5 hi.2
   match he : l.args, h4 with
   | [a, b], _ => exact ⟨a, b, rfl, hg a (by rw [he]; simp), hg b (by rw [he]; simp)⟩
theorem clause_good {c : Clause} (hb : checkB c = true) (hi : clauseI c) : GoodC c := by
 simp only [checkB, checkLitB, Bool.and_eq_true, decide_eq_true_eq, beq_iff_eq, List.all_eq_true] at hb
 obtain ⟨⟨⟨⟨h1, h2⟩, h3⟩, h4⟩, h5⟩ := hb
 have hs := said_good h2 hi.1
 exact ⟨h1, own_z h3, hs.args, hs.few, fun l hl => lit_good (h5 l hl) (hi.2 l hl), h4⟩
theorem in_comma : comma ∈ sgn := by
 unfold sgn
 simp
theorem in_closes : closes ∈ sgn := by
 unfold sgn
 simp
theorem in_opens : opens ∈ sgn := by
 unfold sgn
 simp
theorem in_less : less ∈ sgn := by
 unfold sgn
 simp
theorem in_unlike : unlike ∈ sgn := by
 unfold sgn
 simp
theorem in_dot : dot ∈ sgn := by
 unfold sgn
 simp
theorem in_turns : turns ∈ sgn := by
 unfold sgn
 simp
def tailB (ts : List Term) : List Int := ts.flatMap fun t => 44 :: 32 :: bytesOf (termText t)
def argsB (ts : List Term) : List Int := match ts with | [] => [] | t :: r => 40 :: (bytesOf (termText t) ++ (tailB r ++ [41]))
theorem argsGo_bytes : ∀ (ts : List Term) (k : Nat) (out : ByteArray), bytesOf (argsGo (k + 1) out ts) = bytesOf out ++ tailB ts
 | [], k, out => by simp [argsGo, tailB]
 | t :: ts, k, out => by
   rw [argsGo, argsGo_bytes ts (k + 1), bytesOf_append, bytesOf_append, show bytesOf ⟨#[44, 32]⟩ = [44, 32] from rfl]
   simp [tailB]
theorem lit_bytes {l : Lit} (hk : (l.kind == 3) = false ∧ (l.kind == 4) = false) : bytesOf (litText l) = (if l.kind == 2 then [110, 111, 116, 32] else []) ++ ((if ownT l.who then [] else bytesOf (termText l.who) ++ [32, 115, 97, 121, 115, 32]) ++ (bytesOf l.pred ++ argsB l.args)) := by
 unfold litText litBehind litAhead
 rw [hk.1, hk.2, if_neg (by decide), if_neg (by decide)]
 have e0 : bytesOf (if l.kind == 2 then ⟨#[110, 111, 116, 32]⟩ else (⟨#[]⟩ : ByteArray)) = if l.kind == 2 then [110, 111, 116, 32] else [] := by split <;> rfl
 have e1 : bytesOf (if ownT l.who then (if l.kind == 2 then ⟨#[110, 111, 116, 32]⟩ else (⟨#[]⟩ : ByteArray)) else (if l.kind == 2 then ⟨#[110, 111, 116, 32]⟩ else (⟨#[]⟩ : ByteArray)) ++ (termText l.who ++ ⟨#[32, 115, 97, 121, 115, 32]⟩)) =
  (if l.kind == 2 then [110, 111, 116, 32] else []) ++ (if ownT l.who then [] else bytesOf (termText l.who) ++ [32, 115, 97, 121, 115, 32]) := by
  cases ownT l.who
  · simp only [Bool.false_eq_true, if_false]
    rw [bytesOf_append, bytesOf_append, e0]
    rfl
  · simp only [if_true]
    rw [e0, List.append_nil]
 cases ha : l.args with
 | nil =>
   rw [if_neg (by simp)]
   simp only [argsGo]
   rw [bytesOf_append, e1]
   simp [argsB]
 | cons t ts =>
   rw [if_pos (by simp)]
   simp only [argsGo]
   rw [bytesOf_append, argsGo_bytes, bytesOf_append, bytesOf_append, bytesOf_append, e1]
   simp only [argsB, List.append_assoc]
   rfl
theorem stops_of {c : Int} (r : List Int) (h : pieceB c = false) : stops (c :: r) := fun d t e => by
 injection e with e1 e2
 rw [← e1]
 exact h
theorem stops_nil : stops [] := fun _ _ e => by cases e
theorem lex_term {t : Term} (hb : termB t = true) (hi : tI t) {r : List Int} {l : List Tk} (hr : stops r) (h : LexS r l) : LexS (bytesOf (termText t) ++ r) (termTok t :: l) := by
 have g := term_good hb hi
 exact .piece _ g.2.1 g.2.2.1 hr h
theorem lex_tail : ∀ {ts : List Term}, (∀ t ∈ ts, termB t = true ∧ tI t) → ∀ {r : List Int} {l : List Tk}, stops r → LexS r l → LexS (tailB ts ++ r) (termsToks ts ++ l) ∧ stops (tailB ts ++ r)
 | [], _, r, l, hr, h => ⟨h, hr⟩
 | t :: ts, ht, r, l, hr, h => by
   have ih := lex_tail (fun x hx => ht x (List.mem_cons_of_mem _ hx)) hr h
   have h0 := ht t (List.mem_cons_self ..)
   have h1 : LexS (bytesOf comma ++ (32 :: (bytesOf (termText t) ++ (tailB ts ++ r)))) ((4, comma) :: termTok t :: (termsToks ts ++ l)) := .sign comma in_comma (.blank (lex_term h0.1 h0.2 ih.2 ih.1))
   have e : tailB (t :: ts) ++ r = bytesOf comma ++ (32 :: (bytesOf (termText t) ++ (tailB ts ++ r))) := by simp [tailB, show bytesOf comma = [44] from rfl]
   have e' : termsToks (t :: ts) ++ l = (4, comma) :: termTok t :: (termsToks ts ++ l) := by simp [termsToks]
   rw [e, e']
   exact ⟨h1, stops_of _ (by decide)⟩
theorem lex_atom {x : ByteArray} {ts : List Term} (hx : nameB x = true) (ht : ∀ t ∈ ts, termB t = true ∧ tI t) {r : List Int} {l : List Tk} (hr : stops r) (h : LexS r l) : LexS (bytesOf x ++ (argsB ts ++ r)) (atomToks x ts ++ l) := by
 obtain ⟨hk, hp, _⟩ := name_good hx
 cases ts with
 | nil =>
   have := LexS.piece x hp (by rw [hk]; decide) hr h
   rw [hk] at this
   exact this
 | cons t ts =>
   have h1 : LexS (bytesOf closes ++ r) ((4, closes) :: l) := .sign closes in_closes h
   have h2 := lex_tail (fun y hy => ht y (List.mem_cons_of_mem _ hy)) (stops_of r (by decide) : stops (bytesOf closes ++ r)) h1
   have h0 := ht t (List.mem_cons_self ..)
   have h3 : LexS (bytesOf opens ++ (bytesOf (termText t) ++ (tailB ts ++ (bytesOf closes ++ r)))) _ := .sign opens in_opens (lex_term h0.1 h0.2 h2.2 h2.1)
   have := LexS.piece x hp (by rw [hk]; decide) (stops_of _ (by decide) : stops (bytesOf opens ++ (bytesOf (termText t) ++ (tailB ts ++ (bytesOf closes ++ r))))) h3
   rw [hk] at this
   have e : bytesOf x ++ (argsB (t :: ts) ++ r) = bytesOf x ++ (bytesOf opens ++ (bytesOf (termText t) ++ (tailB ts ++ (bytesOf closes ++ r)))) := by
    simp [argsB, show bytesOf opens = [40] from rfl, show bytesOf closes = [41] from rfl]
   have e' : atomToks x (t :: ts) ++ l = (1, x) :: (4, opens) :: termTok t :: (termsToks ts ++ (4, closes) :: l) := by simp [atomToks]
   rw [e, e']
   exact this
theorem says_word : sortK says = 5 ∧ pieceX says := ⟨by decide +kernel, by decide +kernel, .inl (by decide +kernel), by decide +kernel⟩
theorem nots_word : sortK nots = 5 ∧ pieceX nots := ⟨by decide +kernel, by decide +kernel, .inl (by decide +kernel), by decide +kernel⟩
theorem lex_said {l : Lit} (hb : saidB l = true) (hi : litI l) {r : List Int} {L : List Tk} (hr : stops r) (h : LexS r L) :
 LexS ((if ownT l.who then [] else bytesOf (termText l.who) ++ [32, 115, 97, 121, 115, 32]) ++ ((bytesOf l.pred ++ argsB l.args) ++ r)) (saidToks l ++ L) := by
 simp only [saidB, Bool.and_eq_true, decide_eq_true_eq] at hb
 obtain ⟨⟨⟨hw, hp⟩, hl⟩, ht⟩ := hb
 unfold termsB at ht
 rw [List.all_eq_true] at ht
 have h1 := lex_atom hp (fun t htt => ⟨ht t htt, hi.2 t htt⟩) hr h
 unfold saidToks whoToks
 cases ho : ownT l.who with
 | true =>
   rw [if_pos rfl, if_pos rfl, List.append_assoc]
   exact h1
 | false =>
   rw [ho, Bool.false_or] at hw
   simp only [Bool.and_eq_true] at hw
   rw [if_neg (by decide), if_neg (by decide)]
   have h2 : LexS (bytesOf says ++ (32 :: (bytesOf l.pred ++ (argsB l.args ++ r)))) ((sortK says, says) :: (atomToks l.pred l.args ++ L)) := .piece says says_word.2 (by rw [says_word.1]; decide) (stops_of _ (by decide)) (.blank h1)
   rw [says_word.1] at h2
   have h3 := lex_term hw.1 hi.1 (stops_of _ (by decide) : stops (32 :: (bytesOf says ++ (32 :: (bytesOf l.pred ++ (argsB l.args ++ r)))))) (.blank h2)
   have e : bytesOf (termText l.who) ++ [32, 115, 97, 121, 115, 32] ++ (bytesOf l.pred ++ argsB l.args ++ r) = bytesOf (termText l.who) ++ (32 :: (bytesOf says ++ (32 :: (bytesOf l.pred ++ (argsB l.args ++ r))))) := by
    simp [show bytesOf says = [115, 97, 121, 115] from rfl]
   rw [e]
   exact h3
theorem lex_lit {l : Lit} (hb : literalB l = true) (hi : litI l) {r : List Int} {L : List Tk} (hr : stops r) (h : LexS r L) : LexS (bytesOf (litText l) ++ r) (litToks l ++ L) := by
 unfold literalB at hb
 by_cases hk : (l.kind == 1 || l.kind == 2) = true
 · rw [if_pos hk] at hb
   have hsd := lex_said hb hi hr h
   simp only [Bool.or_eq_true, beq_iff_eq] at hk
   rw [lit_bytes (by rcases hk with e | e <;> rw [e] <;> exact ⟨rfl, rfl⟩)]
   rcases hk with e | e
   · have e1 : litToks l = saidToks l := by unfold litToks; rw [e]; rfl
     rw [e1, e]
     simpa using hsd
   · have e1 : litToks l = (5, nots) :: saidToks l := by unfold litToks; rw [e]; rfl
     rw [e1, e]
     have h2 := LexS.piece nots nots_word.2 (by rw [nots_word.1]; decide) (stops_of _ (by decide)) (LexS.blank hsd)
     rw [nots_word.1] at h2
     have e2 : bytesOf nots = [110, 111, 116] := rfl
     rw [e2] at h2
     simpa using h2
 · rw [if_neg hk] at hb
   simp only [Bool.and_eq_true, Bool.or_eq_true, beq_iff_eq] at hb
   obtain ⟨⟨⟨⟨h1, h2⟩, h3⟩, h4⟩, h5⟩ := hb
   unfold termsB at h5
   rw [List.all_eq_true] at h5
   have hkk : (l.kind == 1) = false ∧ (l.kind == 2) = false := by rcases h1 with e | e <;> rw [e] <;> exact ⟨rfl, rfl⟩
   match he : l.args, h4 with
   | [a, b], _ =>
     have ha : termB a = true ∧ tI a := ⟨h5 a (by rw [he]; simp), hi.2 a (by rw [he]; simp)⟩
     have hb : termB b = true ∧ tI b := ⟨h5 b (by rw [he]; simp), hi.2 b (by rw [he]; simp)⟩
     have hB := lex_term hb.1 hb.2 hr h
     have e1 : litToks l = [termTok a, (4, if l.kind == 3 then less else unlike), termTok b] := by unfold litToks; rw [hkk.1, hkk.2, he]; rfl
     rw [e1]
     unfold litText
     rw [he]
     rcases h1 with e | e
     · rw [e]
       have h6 : LexS (bytesOf less ++ (32 :: (bytesOf (termText b) ++ r))) _ := .sign less in_less (.blank hB)
       have h7 := lex_term ha.1 ha.2 (stops_of _ (by decide) : stops (32 :: (bytesOf less ++ (32 :: (bytesOf (termText b) ++ r))))) (.blank h6)
       have e3 : bytesOf (termText a ++ ⟨#[32, 60, 32]⟩ ++ termText b) ++ r = bytesOf (termText a) ++ (32 :: (bytesOf less ++ (32 :: (bytesOf (termText b) ++ r)))) := by
        rw [bytesOf_append, bytesOf_append, show bytesOf ⟨#[32, 60, 32]⟩ = [32, 60, 32] from rfl, show bytesOf less = [60] from rfl]
        simp
       exact e3 ▸ h7
     · rw [e]
       have h6 : LexS (bytesOf unlike ++ (32 :: (bytesOf (termText b) ++ r))) _ := .sign unlike in_unlike (.blank hB)
       have h7 := lex_term ha.1 ha.2 (stops_of _ (by decide) : stops (32 :: (bytesOf unlike ++ (32 :: (bytesOf (termText b) ++ r))))) (.blank h6)
       have e3 : bytesOf (termText a ++ ⟨#[32, 33, 61, 32]⟩ ++ termText b) ++ r = bytesOf (termText a) ++ (32 :: (bytesOf unlike ++ (32 :: (bytesOf (termText b) ++ r)))) := by
        rw [bytesOf_append, bytesOf_append, show bytesOf ⟨#[32, 33, 61, 32]⟩ = [32, 33, 61, 32] from rfl, show bytesOf unlike = [33, 61] from rfl]
        simp
       exact e3 ▸ h7
def litsB (ls : List Lit) : List Int := ls.flatMap fun l => 44 :: 32 :: bytesOf (litText l)
theorem bodyGo_bytes : ∀ (ls : List Lit) (k : Nat) (out : ByteArray), bytesOf (bodyGo (k + 1) out ls) = bytesOf out ++ litsB ls
 | [], k, out => by simp [bodyGo, litsB]
 | l :: ls, k, out => by
   rw [bodyGo, bodyGo_bytes ls (k + 1), bytesOf_append, bytesOf_append, show bytesOf ⟨#[44, 32]⟩ = [44, 32] from rfl]
   simp [litsB]
theorem lex_lits : ∀ {ls : List Lit}, (∀ l ∈ ls, literalB l = true ∧ litI l) → ∀ {r : List Int} {L : List Tk}, stops r → LexS r L → LexS (litsB ls ++ r) (ls.flatMap (fun l => (4, comma) :: litToks l) ++ L) ∧ stops (litsB ls ++ r)
 | [], _, r, L, hr, h => ⟨h, hr⟩
 | l :: ls, ht, r, L, hr, h => by
   have ih := lex_lits (fun x hx => ht x (List.mem_cons_of_mem _ hx)) hr h
   have h0 := ht l (List.mem_cons_self ..)
   have h1 : LexS (bytesOf comma ++ (32 :: (bytesOf (litText l) ++ (litsB ls ++ r)))) _ := .sign comma in_comma (.blank (lex_lit h0.1 h0.2 ih.2 ih.1))
   have e : litsB (l :: ls) ++ r = bytesOf comma ++ (32 :: (bytesOf (litText l) ++ (litsB ls ++ r))) := by simp [litsB, show bytesOf comma = [44] from rfl]
   have e' : (l :: ls).flatMap (fun l => (4, comma) :: litToks l) ++ L = (4, comma) :: (litToks l ++ (ls.flatMap (fun l => (4, comma) :: litToks l) ++ L)) := by simp
   rw [e, e']
   exact ⟨h1, stops_of _ (by decide)⟩
theorem lex_clause {c : Clause} (hb : checkB c = true) (hi : clauseI c) : LexS (bytesOf (clauseText c)) (clauseToks c) := by
 simp only [checkB, checkLitB, Bool.and_eq_true, decide_eq_true_eq, beq_iff_eq, List.all_eq_true] at hb
 obtain ⟨⟨⟨⟨h1, h2⟩, h3⟩, h4⟩, h5⟩ := hb
 have hdot : LexS (bytesOf dot ++ []) [(4, dot)] := .sign dot in_dot .nil
 have hd : bytesOf dot = [46] := rfl
 have hbody : ∃ r, bytesOf (clauseText c) = bytesOf (litText c.head) ++ r ∧ LexS r (bodyToks c.body ++ [(4, dot)]) ∧ stops r := by
  unfold clauseText
  cases hls : c.body with
  | nil =>
    refine ⟨bytesOf dot ++ [], ?_, hdot, stops_of [] (by decide)⟩
    rw [bytesOf_append, List.append_nil]
    rfl
  | cons l ls =>
    rw [hls] at h5
    have hiL : ∀ x ∈ l :: ls, litI x := fun x hx => hi.2 x (by rw [hls]; exact hx)
    have h6 := lex_lits (fun x hx => ⟨h5 x (List.mem_cons_of_mem _ hx), hiL x (List.mem_cons_of_mem _ hx)⟩) (stops_of [] (by decide) : stops (bytesOf dot ++ [])) hdot
    have h7 := lex_lit (h5 l (List.mem_cons_self ..)) (hiL l (List.mem_cons_self ..)) h6.2 h6.1
    have h8 : LexS (32 :: (bytesOf turns ++ (32 :: (bytesOf (litText l) ++ (litsB ls ++ (bytesOf dot ++ [])))))) _ := .blank (.sign turns in_turns (.blank h7))
    refine ⟨32 :: (bytesOf turns ++ (32 :: (bytesOf (litText l) ++ (litsB ls ++ (bytesOf dot ++ []))))), ?_, ?_, stops_of _ (by decide)⟩
    · rw [bytesOf_append, bodyGo, bodyGo_bytes, bytesOf_append, bytesOf_append, show bytesOf ⟨#[32, 58, 45, 32]⟩ = [32, 58, 45, 32] from rfl, show bytesOf turns = [58, 45] from rfl, show bytesOf ⟨#[46]⟩ = [46] from rfl]
      simp
    · have e : bodyToks (l :: ls) ++ [(4, dot)] = (4, turns) :: (litToks l ++ (ls.flatMap (fun l => (4, comma) :: litToks l) ++ [(4, dot)])) := by simp [bodyToks]
      rw [e]
      exact h8
 obtain ⟨r, hr, hl, hst⟩ := hbody
 rw [hr]
 have hlit : literalB c.head = true := by unfold literalB; rw [h1]; exact h2
 have := lex_lit hlit hi.1 hst hl
 have e : litToks c.head = atomToks c.head.pred c.head.args := by
  unfold litToks
  rw [h1]
  unfold saidToks whoToks
  rw [h3]
  rfl
 rw [e] at this
 exact this
theorem bodyGo_size : ∀ (ls : List Lit) (k : Nat) (out : ByteArray), (∀ l ∈ ls, (litText l).size ≤ 200) → (bodyGo k out ls).size ≤ out.size + 204 * ls.length
 | [], k, out, _ => by cases k <;> simp [bodyGo]
 | l :: ls, k, out, h => by
   have h0 := h l (List.mem_cons_self ..)
   have g1 : (⟨#[32, 58, 45, 32]⟩ : ByteArray).size = 4 := rfl
   have g2 : (⟨#[44, 32]⟩ : ByteArray).size = 2 := rfl
   cases k with
   | zero =>
     have := bodyGo_size ls 1 (out ++ ⟨#[32, 58, 45, 32]⟩ ++ litText l) (fun x hx => h x (List.mem_cons_of_mem _ hx))
     simp only [ByteArray.size_append, g1] at this
     simp only [bodyGo, List.length_cons]
     omega
   | succ k =>
     have := bodyGo_size ls (k + 2) (out ++ ⟨#[44, 32]⟩ ++ litText l) (fun x hx => h x (List.mem_cons_of_mem _ hx))
     simp only [ByteArray.size_append, g2] at this
     simp only [bodyGo, List.length_cons]
     omega
theorem clauseText_size {c : Clause} (hb : checkB c = true) (hi : clauseI c) : (clauseText c).size ≤ 4096 := by
 simp only [checkB, checkLitB, Bool.and_eq_true, decide_eq_true_eq, beq_iff_eq, List.all_eq_true] at hb
 obtain ⟨⟨⟨⟨h1, h2⟩, h3⟩, h4⟩, h5⟩ := hb
 have hlit : literalB c.head = true := by unfold literalB; rw [h1]; exact h2
 have hh := litText_size hi.1 hlit
 have := bodyGo_size c.body 0 (litText c.head) (fun l hl => litText_size (hi.2 l hl) (h5 l hl))
 unfold clauseText
 rw [ByteArray.size_append, show (⟨#[46]⟩ : ByteArray).size = 1 from rfl]
 omega
theorem back_clause {c : Clause} (hb : checkB c = true) (hi : clauseI c) : parseP (clauseText c) = .ok c := by
 have hL := lex_clause hb hi
 have hg := clause_good hb hi
 obtain ⟨T, h1, h2⟩ := lex_all hL (clauseText_size hb hi)
 unfold parseP runP
 rw [h1]
 simp only [bne_self_eq_false, Bool.false_eq_true, if_false]
 rw [clause_hd hg h2]
 simp
theorem back_lit {l : Lit} (hb : checkLitB l = true) (hi : litI l) : parseLitP (litText l) = .ok (l.who, (l.pred, l.args)) := by
 simp only [checkLitB, Bool.and_eq_true, beq_iff_eq] at hb
 have hlit : literalB l = true := by unfold literalB; rw [hb.1]; exact hb.2
 have hL := lex_lit hlit hi stops_nil .nil
 have e : litToks l = saidToks l := by unfold litToks; rw [hb.1]; rfl
 rw [List.append_nil, List.append_nil, e] at hL
 have hg := said_good hb.2 hi
 have hsz := litText_size hi hlit
 obtain ⟨T, h1, h2⟩ := lex_all hL (by omega)
 have hs := said_hd (T := T) (s := litText l) (n := 0) (r := []) hg (by rw [List.drop_zero, h2, List.append_nil]) rfl rfl
 unfold parseLitP runP
 rw [h1]
 simp only [bne_self_eq_false, Bool.false_eq_true, if_false]
 rw [hs]
 have hl : T.length = (saidToks l).length := by rw [← h2, List.length_map]
 simp [hl]
end Go.Proofs.YtfhpecgknmfnnaaDoor.M
end
section
namespace Go.Proofs.YtfhpecgknmfnnaaDoor.M
open Go.RowKit Go.Proofs.YtfhpecgknmfnnaaDoorW.PrintWords
theorem sortK_one {x : ByteArray} (h : sortK x = 1) : nameB x = true := by
 unfold sortK at h
 split at h
 · cases h
 · split at h
   · assumption
   · split at h
     · cases h
     · split at h <;> cases h
theorem sortK_two' {x : ByteArray} (h : sortK x = 2) : x.size ≤ 16 := by
 unfold sortK at h
 split at h
 · cases h
 · split at h
   · cases h
   · split at h
     · rename_i hq
       simp only [Bool.and_eq_true, decide_eq_true_eq] at hq
       omega
     · split at h <;> cases h
theorem sortK_three {x : ByteArray} (h : sortK x = 3) : nameB x = false ∧ (readV x).2 = true := by
 unfold sortK at h
 split at h
 · cases h
 · split at h
   · cases h
   · rename_i hn
     split at h
     · cases h
     · split at h
       · rename_i hr
         exact ⟨by simpa using hn, hr⟩
       · cases h
theorem z64 : i64 0 := ⟨by decide, by decide⟩
theorem numOf_range {d : ByteArray} {neg : Bool} {n : Int} (h : numOf d neg = some n) : i64 n := by
 unfold numOf at h
 split at h
 · cases h
 · cases hd : digs 0 (bytesOf d) with
   | none => rw [hd] at h; cases h
   | some u =>
     have h0 := digs_ge _ _ _ (Int.le_refl 0) hd
     rw [hd] at h
     simp only [Option.bind_some] at h
     unfold top63 at h
     split at h
     · split at h
       · cases h
         exact ⟨by omega, by omega⟩
       · cases h
     · split at h
       · cases h
         exact ⟨by omega, by omega⟩
       · cases h
theorem read_good {x : ByteArray} (h : (readV x).2 = true) : goodV (readV x).1 = true ∧ i64 (readV x).1.num := by
 unfold readV at h ⊢
 cases hn : nameB x with
 | true =>
   refine ⟨?_, z64⟩
   show (x.size == 0 || (nameB x && true)) = true
   rw [hn]
   simp
 | false =>
   rw [hn] at h
   simp only [Bool.false_eq_true, if_false] at h ⊢
   cases hq : numOf (cutS x) (negB x) with
   | none => rw [hq] at h; cases h
   | some n => exact ⟨rfl, numOf_range hq⟩
def tokGood (s : ByteArray) (t : Tok) : Prop := (t.kind = 1 → nameB (tokS s t) = true) ∧ (t.kind = 2 → varB (tokS s t) = true) ∧ (t.kind = 3 → (readV (tokS s t)).2 = true)
theorem takeWhile_take {p : Int → Bool} : ∀ l : List Int, l.take (l.takeWhile p).length = l.takeWhile p
 | [] => rfl
 | c :: l => by
   by_cases h : p c = true
   · rw [List.takeWhile_cons_of_pos h, List.length_cons, List.take_succ_cons, takeWhile_take l]
   · rw [List.takeWhile_cons_of_neg h]
     rfl
theorem takeWhile_mem {p : Int → Bool} : ∀ (l : List Int), ∀ c ∈ l.takeWhile p, p c = true
 | [], c, h => absurd h List.not_mem_nil
 | d :: l, c, h => by
   by_cases hd : p d = true
   · rw [List.takeWhile_cons_of_pos hd] at h
     rcases List.mem_cons.1 h with rfl | h
     · exact hd
     · exact takeWhile_mem l c h
   · rw [List.takeWhile_cons_of_neg hd] at h
     cases h
theorem piece_bytes (s : ByteArray) (p : Nat) (hp : p < s.size) : bytesOf (s.extract p (runTo s (p + 1))) = bt s p :: ((bytesOf s).drop (p + 1)).takeWhile pieceB := by
 have e : runTo s (p + 1) = p + ((((bytesOf s).drop (p + 1)).takeWhile pieceB).length + 1) := by unfold runTo; omega
 rw [e, bytesOf_cut, bytesOf_drop s p hp, List.take_succ_cons, takeWhile_take]
theorem piece_tok (s : ByteArray) (p : Nat) (hp : p < s.size) (h : (pieceTok s p (runTo s (p + 1))).2 = 0) : tokGood s (pieceTok s p (runTo s (p + 1))).1 := by
 unfold pieceTok at h ⊢
 by_cases hk : sortK (s.extract p (runTo s (p + 1))) = 0
 · rw [if_pos hk] at h
   cases h
 · rw [if_neg hk]
   have ht : tokS s ⟨sortK (s.extract p (runTo s (p + 1))), p, (runTo s (p + 1) : Nat)⟩ = s.extract p (runTo s (p + 1)) := by
    unfold tokS
    show s.extract (p : Int).toNat ((runTo s (p + 1) : Nat) : Int).toNat = _
    rw [show (p : Int).toNat = p by omega, show ((runTo s (p + 1) : Nat) : Int).toNat = runTo s (p + 1) by omega]
   unfold tokGood
   rw [ht]
   refine ⟨fun e => sortK_one e, fun e => ?_, fun e => (sortK_three e).2⟩
   obtain ⟨hu, h0⟩ := sortK_two e
   have h16 := sortK_two' e
   have hb := piece_bytes s p hp
   obtain ⟨_, hb0, _⟩ := bt_first hb
   unfold varB
   rw [bytesOf_all, decide_eq_true h0, decide_eq_true h16, byteAt_bt]
   have hu' : uppB (bt (s.extract p (runTo s (p + 1))) ((0 : Nat) : Int)) = true := hu
   simp only [Bool.true_and, Bool.and_eq_true, List.all_eq_true]
   refine ⟨hu, fun c hc => ?_⟩
   rw [hb] at hc
   rcases List.mem_cons.1 hc with rfl | hc
   · rw [hb0] at hu
     exact (upp_facts hu).2.2.1
   · exact takeWhile_mem _ c hc
theorem sign_tok (s : ByteArray) (lo hi : Int) : tokGood s ⟨4, lo, hi⟩ :=
 ⟨fun e => absurd (show (4 : Int) = 1 from e) (by decide), fun e => absurd (show (4 : Int) = 2 from e) (by decide), fun e => absurd (show (4 : Int) = 3 from e) (by decide)⟩
theorem one_good (s : ByteArray) (p : Nat) (h : (oneT s p).2 = 0) : tokGood s (oneT s p).1 := by
 unfold oneT at h ⊢
 by_cases hp : s.size ≤ p
 · rw [if_pos hp] at h; cases h
 rw [if_neg hp] at h ⊢
 have piece := piece_tok s p (by omega)
 simp only at h ⊢
 split at h
 · cases h
 rename_i c1; rw [if_neg c1]
 split at h
 · rename_i c2; rw [if_pos c2]
   split at h
   · rename_i c3; rw [if_pos c3]; exact piece h
   · cases h
 rename_i c2; rw [if_neg c2]
 split at h
 · rename_i c3; rw [if_pos c3]; exact piece h
 rename_i c3; rw [if_neg c3]
 split at h
 · rename_i c4; rw [if_pos c4]; exact sign_tok s _ _
 rename_i c4; rw [if_neg c4]
 split at h
 · rename_i c5; rw [if_pos c5]; exact sign_tok s _ _
 · cases h
theorem go_good (s : ByteArray) : ∀ (f p : Nat) (acc : List Tok), (∀ t ∈ acc, tokGood s t) → ∀ t ∈ (allGo s f p acc).1, tokGood s t
 | 0, p, acc, h => fun t ht => absurd ht List.not_mem_nil
 | f + 1, p, acc, h => by
   unfold allGo
   split
   · exact h
   · split
     · exact go_good s f _ _ h
     · split
       · rename_i h0
         refine go_good s f _ _ fun t ht => ?_
         rcases List.mem_append.1 ht with ht | ht
         · exact h t ht
         · rw [List.mem_singleton.1 ht]
           exact one_good s p h0
       · exact fun t ht => absurd ht List.not_mem_nil
theorem all_good (s : ByteArray) : ∀ t ∈ (allT s).1, tokGood s t := by
 unfold allT
 split
 · exact fun t ht => absurd ht List.not_mem_nil
 · exact go_good s _ 0 [] (fun t ht => absurd ht List.not_mem_nil)
def GT (t : Term) : Prop := termB t = true ∧ tI t ∧ t.var.size ≤ 16
def GL (l : Lit) : Prop := literalB l = true ∧ litI l ∧ l.who.var.size ≤ 16 ∧ ∀ t ∈ l.args, t.var.size ≤ 16
section
variable {T : List Tok} {s : ByteArray}
theorem at_good (hT : ∀ t ∈ T, tokGood s t) (n : Nat) : (kindT T n = 1 → nameB (textT T s n) = true) ∧ (kindT T n = 2 → varB (textT T s n) = true) ∧ (kindT T n = 3 → (readV (textT T s n)).2 = true) := by
 unfold kindT textT
 cases h : T[n]? with
 | none => exact ⟨fun e => absurd (show (0 : Int) = 1 from e) (by decide), fun e => absurd (show (0 : Int) = 2 from e) (by decide), fun e => absurd (show (0 : Int) = 3 from e) (by decide)⟩
 | some t => exact hT t (List.mem_of_getElem? h)
theorem take_ok {ks : List Int} {n m : Nat} {x : ByteArray} (h : takeP T s ks n = .ok (x, m)) : hasB ks (kindT T n) = true ∧ x = textT T s n := by
 unfold takeP at h
 split at h
 · rename_i hk
   cases h
   exact ⟨hk, rfl⟩
 · cases h
theorem term_ok' (hT : ∀ t ∈ T, tokGood s t) {n m : Nat} {t : Term} (h : termP T s n = .ok (t, m)) : GT t ∧ (kindT T n = 2 → 0 < t.var.size) ∧ (kindT T n = 1 → 0 < t.val.sym.size) := by
 unfold termP at h
 cases ht : takeP T s [1, 2, 3] n with
 | error p => rw [ht] at h; cases h
 | ok q =>
   obtain ⟨x, j⟩ := q
   obtain ⟨hk, hx⟩ := take_ok ht
   obtain ⟨g1, g2, g3⟩ := at_good (s := s) hT n
   rw [ht] at h
   simp only [Except.ok.injEq, Prod.mk.injEq] at h
   obtain ⟨h, _⟩ := h
   have hk3 : kindT T n = 1 ∨ kindT T n = 2 ∨ kindT T n = 3 := by
    unfold hasB at hk
    simpa using hk
   rw [← hx] at g1 g2 g3
   rcases hk3 with e | e | e
   · have hn := g1 e
     obtain ⟨_, hp, hr, hr2⟩ := name_good hn
     rw [e] at h
     have h : (⟨noStr, (readV x).1⟩ : Term) = t := h
     rw [← h]
     refine ⟨⟨?_, (read_good hr2).2, Nat.zero_le _⟩, fun e' => (by rw [e] at e'; cases e'), fun _ => (by rw [hr]; exact hp.1)⟩
     exact (read_good hr2).1
   · have hv := g2 e
     rw [e] at h
     have h : (⟨x, Val.z⟩ : Term) = t := h
     have hv' := hv
     unfold varB at hv'
     simp only [Bool.and_eq_true, decide_eq_true_eq] at hv'
     rw [← h]
     refine ⟨⟨?_, z64, hv'.1.1.2⟩, fun _ => hv'.1.1.1, fun e' => (by rw [e] at e'; cases e')⟩
     unfold termB
     rw [if_pos hv'.1.1.1, hv]
     rfl
   · have hr2 := g3 e
     rw [e] at h
     have h : (⟨noStr, (readV x).1⟩ : Term) = t := h
     rw [← h]
     exact ⟨⟨(read_good hr2).1, (read_good hr2).2, Nat.zero_le _⟩, fun e' => (by rw [e] at e'; cases e'), fun e' => (by rw [e] at e'; cases e')⟩
theorem atom_ok' (hT : ∀ t ∈ T, tokGood s t) {n i : Nat} {x : ByteArray} {ts : List Term} (h : atomP T s n = .ok ((x, ts), i)) : nameB x = true ∧ ts.length ≤ 4 ∧ ∀ t ∈ ts, GT t := by
 have hsm := atom_small h
 unfold atomP at h
 cases ht : takeP T s [1] n with
 | error p => rw [ht] at h; cases h
 | ok q =>
   obtain ⟨y, j⟩ := q
   obtain ⟨hk, hx⟩ := take_ok ht
   have hk1 : kindT T n = 1 := by
    unfold hasB at hk
    simpa using hk
   have hn := (at_good (s := s) hT n).1 hk1
   rw [← hx] at hn
   rw [ht] at h
   simp only at h
   split at h
   · cases hl : listP T s (termP T s) 4 (j + 1) with
     | error p => rw [hl] at h; cases h
     | ok q =>
       obtain ⟨us, k⟩ := q
       rw [hl] at h
       simp only at h
       cases hc : needP T s closes k with
       | error p => rw [hc] at h; cases h
       | ok q =>
         rw [hc] at h
         simp only [Except.ok.injEq, Prod.mk.injEq] at h
         obtain ⟨⟨rfl, rfl⟩, _⟩ := h
         refine ⟨hn, hsm, fun t htt => ?_⟩
         obtain ⟨_, _, ho⟩ := (list_small (by decide) hl).2 t htt
         exact (term_ok' hT ho).1
   · simp only [Except.ok.injEq, Prod.mk.injEq] at h
     obtain ⟨⟨rfl, rfl⟩, _⟩ := h
     exact ⟨hn, Nat.zero_le _, fun t htt => absurd htt List.not_mem_nil⟩
theorem said_ok' (hT : ∀ t ∈ T, tokGood s t) {n i : Nat} {r : Term × (ByteArray × List Term)} (h : saidP T s n = .ok (r, i)) : (∀ k : Int, saidB ⟨k, r.1, r.2.1, r.2.2⟩ = true) ∧ tI r.1 ∧ r.1.var.size ≤ 16 ∧ ∀ t ∈ r.2.2, GT t := by
 have atomS : ∀ {who : Term} {x : ByteArray} {ts : List Term}, (ownT who || termB who && (decide (0 < who.var.size) || decide (0 < who.val.sym.size))) = true → nameB x = true → ts.length ≤ 4 → (∀ t ∈ ts, GT t) → ∀ k : Int, saidB ⟨k, who, x, ts⟩ = true := by
  intro who x ts hw hx hl ht k
  unfold saidB termsB
  simp only
  rw [hw, hx, decide_eq_true hl]
  simp only [Bool.true_and, List.all_eq_true]
  exact fun t htt => (ht t htt).1
 unfold saidP at h
 split at h
 · rename_i hsp
   cases ht : termP T s n with
   | error p => rw [ht] at h; cases h
   | ok q =>
     obtain ⟨who, m⟩ := q
     obtain ⟨⟨g1, g2, g3⟩, k2, k1⟩ := term_ok' hT ht
     rw [ht] at h
     simp only at h
     cases hc : needP T s says m with
     | error p => rw [hc] at h; cases h
     | ok q =>
       rw [hc] at h
       simp only at h
       cases ha : atomP T s q.2 with
       | error p => rw [ha] at h; cases h
       | ok a =>
         obtain ⟨⟨x, ts⟩, j⟩ := a
         rw [ha] at h
         simp only [Except.ok.injEq, Prod.mk.injEq] at h
         obtain ⟨rfl, _⟩ := h
         obtain ⟨a1, a2, a3⟩ := atom_ok' hT ha
         refine ⟨atomS ?_ a1 a2 a3, g2, g3, a3⟩
         rw [g1]
         unfold speaks at hsp
         simp only [Bool.or_eq_true, Bool.and_eq_true, beq_iff_eq] at hsp
         simp only [Bool.true_and, Bool.or_eq_true, decide_eq_true_eq]
         rcases hsp with e | ⟨_, e⟩
         · exact .inr (.inl (k2 e))
         · exact .inr (.inr (k1 e))
 · cases ha : atomP T s n with
   | error p => rw [ha] at h; cases h
   | ok a =>
     obtain ⟨⟨x, ts⟩, j⟩ := a
     rw [ha] at h
     simp only [Except.ok.injEq, Prod.mk.injEq] at h
     obtain ⟨rfl, _⟩ := h
     obtain ⟨a1, a2, a3⟩ := atom_ok' hT ha
     exact ⟨atomS rfl a1 a2 a3, z64, Nat.zero_le _, a3⟩
theorem saidL_ok' (hT : ∀ t ∈ T, tokGood s t) {k : Int} (hk : k = 1 ∨ k = 2) {n i : Nat} {l : Lit} (h : saidL k (saidP T s n) = .ok (l, i)) : GL l := by
 cases hs : saidP T s n with
 | error p => rw [hs] at h; cases h
 | ok q =>
   obtain ⟨⟨who, x, ts⟩, j⟩ := q
   obtain ⟨h1, h2, h3, h4⟩ := said_ok' hT hs
   rw [hs] at h
   have h : Except.ok ((⟨k, who, x, ts⟩ : Lit), j) = Except.ok (l, i) := h
   simp only [Except.ok.injEq, Prod.mk.injEq] at h
   obtain ⟨rfl, _⟩ := h
   refine ⟨?_, ⟨h2, fun t ht => (h4 t ht).2.1⟩, h3, fun t ht => (h4 t ht).2.2⟩
   unfold literalB
   rcases hk with e | e <;> subst e <;> exact h1 _
theorem pair_ok' (hT : ∀ t ∈ T, tokGood s t) {k : Int} (hk : k = 3 ∨ k = 4) {a : Term} (ha : GT a) {m i : Nat} {l : Lit} (h : pairP T s k a m = .ok (l, i)) : GL l := by
 unfold pairP at h
 cases ht : termP T s (m + 1) with
 | error p => rw [ht] at h; cases h
 | ok q =>
   obtain ⟨c, j⟩ := q
   obtain ⟨hc, _⟩ := term_ok' hT ht
   rw [ht] at h
   simp only [Except.ok.injEq, Prod.mk.injEq] at h
   obtain ⟨rfl, _⟩ := h
   have two : ∀ t ∈ [a, c], GT t := by
    intro t ht
    simp only [List.mem_cons, List.not_mem_nil, or_false] at ht
    rcases ht with rfl | rfl
    · exact ha
    · exact hc
   refine ⟨?_, ⟨z64, fun t ht => (two t ht).2.1⟩, Nat.zero_le _, fun t ht => (two t ht).2.2⟩
   have e : termsB [a, c] = true := by
    unfold termsB
    rw [List.all_eq_true]
    exact fun t ht => (two t ht).1
   unfold literalB
   simp only
   rw [e]
   rcases hk with e | e <;> subst e <;> rfl
theorem literal_ok' (hT : ∀ t ∈ T, tokGood s t) {n i : Nat} {l : Lit} (h : literalP T s n = .ok (l, i)) : GL l := by
 unfold literalP at h
 split at h
 · exact saidL_ok' hT (.inr rfl) h
 · split at h
   · cases ht : termP T s n with
     | error p => rw [ht] at h; cases h
     | ok q =>
       obtain ⟨a, m⟩ := q
       have ha := (term_ok' hT ht).1
       rw [ht] at h
       simp only at h
       split at h
       · exact pair_ok' hT (.inr rfl) ha h
       · split at h
         · exact pair_ok' hT (.inl rfl) ha h
         · cases h
   · exact saidL_ok' hT (.inl rfl) h
theorem clause_ok' (hT : ∀ t ∈ T, tokGood s t) {n i : Nat} {c : Clause} (h : clauseP T s n = .ok (c, i)) : checkB c = true ∧ clauseI c ∧ GL c.head ∧ ∀ l ∈ c.body, GL l := by
 have hsm := clause_small h
 unfold clauseP at h
 cases ha : atomP T s n with
 | error p => rw [ha] at h; cases h
 | ok q =>
   obtain ⟨⟨x, ts⟩, m⟩ := q
   obtain ⟨a1, a2, a3⟩ := atom_ok' hT ha
   rw [ha] at h
   simp only at h
   cases hb : bodyP T s m with
   | error p => rw [hb] at h; cases h
   | ok q =>
     obtain ⟨ls, j⟩ := q
     rw [hb] at h
     simp only at h
     cases hn : needP T s dot j with
     | error p => rw [hn] at h; cases h
     | ok q =>
       rw [hn] at h
       simp only [Except.ok.injEq, Prod.mk.injEq] at h
       obtain ⟨rfl, _⟩ := h
       have hls : ∀ l ∈ ls, GL l := by
        unfold bodyP at hb
        split at hb
        · intro l hl
          obtain ⟨_, _, ho⟩ := (list_small (by decide) hb).2 l hl
          exact literal_ok' hT ho
        · cases hb
          exact fun l hl => absurd hl List.not_mem_nil
       have hsd : saidB ⟨1, Term.z, x, ts⟩ = true := by
        unfold saidB termsB
        simp only
        rw [a1, decide_eq_true a2]
        have : ts.all termB = true := by
         rw [List.all_eq_true]
         exact fun t ht => (a3 t ht).1
        rw [this]
        rfl
       have hhead : GL ⟨1, Term.z, x, ts⟩ := ⟨hsd, ⟨z64, fun t ht => (a3 t ht).2.1⟩, Nat.zero_le _, fun t ht => (a3 t ht).2.2⟩
       refine ⟨?_, ⟨hhead.2.1, fun l hl => (hls l hl).2.1⟩, hhead, hls⟩
       unfold checkB checkLitB
       simp only
       rw [hsd, decide_eq_true hsm.1]
       have : ls.all literalB = true := by
        rw [List.all_eq_true]
        exact fun l hl => (hls l hl).1
       rw [this]
       rfl
end
theorem parse_ok' {s : ByteArray} {c : Clause} (h : parseP s = .ok c) : checkB c = true ∧ clauseI c ∧ GL c.head ∧ ∀ l ∈ c.body, GL l := by
 unfold parseP runP at h
 split at h
 · cases h
 · simp only at h
   cases ho : clauseP (allT s).1 s 0 with
   | error p => rw [ho] at h; cases h
   | ok q =>
     obtain ⟨a, n⟩ := q
     rw [ho] at h
     simp only at h
     split at h
     · cases h
     · cases h
       exact clause_ok' (all_good s) ho
theorem parseLit_ok' {s : ByteArray} {r : Term × (ByteArray × List Term)} (h : parseLitP s = .ok r) : checkLitB (litOf r) = true ∧ GL (litOf r) := by
 unfold parseLitP runP at h
 split at h
 · cases h
 · simp only at h
   cases ho : saidP (allT s).1 s 0 with
   | error p => rw [ho] at h; cases h
   | ok q =>
     obtain ⟨a, n⟩ := q
     rw [ho] at h
     simp only at h
     split at h
     · cases h
     · cases h
       obtain ⟨h1, h2, h3, h4⟩ := said_ok' (all_good s) ho
       have hs : saidB (litOf r) = true := h1 1
       refine ⟨?_, hs, ⟨h2, fun t ht => (h4 t ht).2.1⟩, h3, fun t ht => (h4 t ht).2.2⟩
       unfold checkLitB
       rw [hs]
       rfl
end Go.Proofs.YtfhpecgknmfnnaaDoor.M
end
section
namespace Go.Proofs.YtfhpecgknmfnnaaDoor.M
open Go.R Go.RowKit
open Go.Proofs.YtfhpecgknmfnnaaDoorW.PrintWords Go.Proofs.YtfhpecgknmfnnaaDoorW.PrintMore
def Front (s : ByteArray) (p : Nat) (L : List Tk) (R : List Int) : Prop :=
 (bytesOf s).drop p = R ∧ p ≤ s.size ∧ ∃ T f, T.map (tkOf s) = L ∧ s.size < f + p ∧ allGo s (s.size + 1) 0 [] = allGo s f p T
theorem Front.start (s : ByteArray) : Front s 0 [] (bytesOf s) := ⟨rfl, Nat.zero_le _, [], s.size + 1, rfl, by omega, rfl⟩
theorem Front.blank {s : ByteArray} {p : Nat} {L : List Tk} {r : List Int} (h : Front s p L (32 :: r)) : Front s (p + 1) L r := by
 obtain ⟨h1, h2, T, f, h3, h4, h5⟩ := h
 obtain ⟨g1, g2, g3⟩ := drop_cons h1
 obtain ⟨f, rfl⟩ : ∃ f', f = f' + 1 := ⟨f - 1, by omega⟩
 refine ⟨g3, g1, T, f, h3, by omega, h5.trans ?_⟩
 have ho : (oneT s p).2 = 4 := by
  unfold oneT
  rw [if_neg (by omega), g2]
  rfl
 conv => lhs; unfold allGo
 rw [if_neg (by omega), if_pos ho]
theorem Front.piece {s x : ByteArray} {p : Nat} {L : List Tk} {r : List Int} (h : Front s p L (bytesOf x ++ r)) (hx : pieceX x) (hk : sortK x ≠ 0) (hr : stops r) : Front s (p + x.size) (L ++ [(sortK x, x)]) r := by
 obtain ⟨h1, h2, T, f, h3, h4, h5⟩ := h
 have ho := piece_one h1 hx hk hr
 have hx0 := hx.1
 have hle : p + x.size ≤ s.size := by
  rcases drop_app h1 with q | q
  · exact q
  · omega
 obtain ⟨f, rfl⟩ : ∃ f', f = f' + 1 := ⟨f - 1, by omega⟩
 refine ⟨drop_next h1, hle, T ++ [⟨sortK x, p, ((p + x.size : Nat) : Int)⟩], f, ?_, by omega, h5.trans ?_⟩
 · rw [List.map_append, h3]
   have : tkOf s ⟨sortK x, p, ((p + x.size : Nat) : Int)⟩ = (sortK x, x) := by
    show (sortK x, s.extract (p : Int).toNat (((p + x.size : Nat) : Int)).toNat) = _
    rw [Int.toNat_natCast, Int.toNat_natCast, drop_cut h1]
   rw [List.map_cons, List.map_nil, this]
 · conv => lhs; unfold allGo
   rw [if_neg (by omega), ho]
   simp only [Int.toNat_natCast]
   rw [if_neg (by decide), if_pos trivial]
theorem go_prefix (s : ByteArray) : ∀ (f p : Nat) (acc R : List Tok), p ≤ s.size → s.size < f + p → allGo s f p acc = (R, 0, 0) → ∃ T, R = acc ++ T
 | 0, p, acc, R, h, hf, hg => by omega
 | f + 1, p, acc, R, h, hf, hg => by
   unfold allGo at hg
   split at hg
   · cases hg
     exact ⟨[], by simp⟩
   · split at hg
     · exact go_prefix s f (p + 1) acc R (by omega) (by omega) hg
     · split at hg
       · rename_i h0
         have hk := oneT_ok s p h0
         obtain ⟨T, rfl⟩ := go_prefix s f _ _ R (by omega) (by omega) hg
         exact ⟨_, by rw [List.append_assoc]⟩
       · rename_i h0
         exact absurd (congrArg (fun r => r.2.2) hg) h0
theorem Front.finish {s : ByteArray} {p : Nat} {L l : List Tk} {R : List Int} (h : Front s p L R) (hl : LexS R l) (hs : s.size ≤ 4096) :
 ∃ T, allT s = (T, 0, 0) ∧ T.map (tkOf s) = L ++ l ∧ ∀ c r, R = c :: r → (c == 32 || c == 9) = false → posOf T s L.length = p := by
 obtain ⟨h1, h2, T, f, h3, h4, h5⟩ := h
 obtain ⟨T1, h6, h7⟩ := lex_go hl p f T h1 h2 h4
 have hA : allT s = (T ++ T1, 0, 0) := by
  unfold allT
  rw [if_neg (by omega), h5, h6]
 refine ⟨T ++ T1, hA, by rw [List.map_append, h3, h7], fun c r hR hc => ?_⟩
 rw [hR] at h1
 obtain ⟨g1, g2, g3⟩ := drop_cons h1
 obtain ⟨f, rfl⟩ : ∃ f', f = f' + 1 := ⟨f - 1, by omega⟩
 have hn4 : ¬ (oneT s p).2 = 4 := by
  intro h
  unfold oneT at h
  rw [if_neg (by omega), g2] at h
  simp only [hc, Bool.false_eq_true, if_false] at h
  revert h
  unfold pieceTok
  repeat' split
  all_goals simp
 unfold allGo at h6
 rw [if_neg (by omega), if_neg hn4] at h6
 split at h6
 · rename_i h0
   have hk := oneT_ok s p h0
   obtain ⟨T2, h8⟩ := go_prefix s f _ _ _ (by omega) (by omega) h6
   rw [List.append_assoc] at h8
   have h9 := List.append_cancel_left h8
   have hlen : L.length = T.length := by rw [← h3, List.length_map]
   unfold posOf
   rw [hlen, h9, List.getElem?_append_right (Nat.le_refl _), Nat.sub_self]
   exact hk.1
 · rename_i h0
   exact absurd (congrArg (fun r => r.2.2) h6) h0
theorem word_of {T : List Tok} {s : ByteArray} {l : List Tk} (h : T.map (tkOf s) = l) {n : Nat} {k : Int} {x : ByteArray} (hn : l[n]? = some (k, x)) (c : Int) : wordB T s n c = if (k == c) = true then x else noStr := by
 rw [← h, List.getElem?_map] at hn
 unfold wordB
 cases ht : T[n]? with
 | none => rw [ht] at hn; cases hn
 | some t =>
   rw [ht] at hn
   cases hn
   rfl
theorem rest_of {s x : ByteArray} {p : Nat} {L : List Tk} (h : Front s p L (bytesOf x)) : restS s (p : Int) = x := by
 obtain ⟨h1, h2, _⟩ := h
 have h1' : (bytesOf s).drop p = bytesOf x ++ [] := by rw [h1, List.append_nil]
 have hl := congrArg List.length h1
 rw [List.length_drop, bytesOf_length, bytesOf_length] at hl
 show s.extract (p : Int).toNat s.size = x
 rw [Int.toNat_natCast, ← drop_cut h1']
 congr 1
 omega
theorem piece_head {x : ByteArray} (h : pieceX x) (X : List Int) : ∃ c r, bytesOf x ++ X = c :: r ∧ (c == 32 || c == 9) = false := by
 obtain ⟨h0, h1, h2⟩ := h
 refine ⟨_, _, by rw [bytes_head h0, List.cons_append], ?_⟩
 rcases h1 with h1 | ⟨h1, _⟩
 · exact (pieceB_not h1).1
 · rw [h1]; rfl
theorem clause_front {c : Clause} (hb : checkB c = true) : ∃ X, bytesOf (clauseText c) = bytesOf c.head.pred ++ X := by
 simp only [checkB, checkLitB, Bool.and_eq_true, decide_eq_true_eq] at hb
 obtain ⟨⟨⟨⟨h1, h2⟩, h3⟩, h4⟩, h5⟩ := hb
 have hk : (c.head.kind == 3) = false ∧ (c.head.kind == 4) = false := by
  rw [beq_iff_eq] at h1
  rw [h1]
  exact ⟨rfl, rfl⟩
 have hh := lit_bytes hk
 have e2 : (c.head.kind == 2) = false := by
  rw [beq_iff_eq] at h1
  rw [h1]
  rfl
 rw [h3, e2] at hh
 simp only [Bool.false_eq_true, if_false, if_true, List.nil_append] at hh
 unfold clauseText
 rw [bytesOf_append]
 cases hbd : c.body with
 | nil =>
   show ∃ X, bytesOf (litText c.head) ++ _ = _
   exact ⟨_, by rw [hh, List.append_assoc]⟩
 | cons l r =>
   show ∃ X, bytesOf (bodyGo 1 _ r) ++ _ = _
   rw [bodyGo_bytes, bytesOf_append, bytesOf_append, hh]
   exact ⟨_, by simp only [List.append_assoc]; rfl⟩
theorem lit_front {l : Lit} (hb : checkLitB l = true) (hi : litI l) : ∃ x X, bytesOf (litText l) = bytesOf x ++ X ∧ pieceX x := by
 simp only [checkLitB, Bool.and_eq_true] at hb
 obtain ⟨h1, h2⟩ := hb
 rw [beq_iff_eq] at h1
 have hk : (l.kind == 3) = false ∧ (l.kind == 4) = false := by rw [h1]; exact ⟨rfl, rfl⟩
 have hh := lit_bytes hk
 have e2 : (l.kind == 2) = false := by rw [h1]; rfl
 rw [e2] at hh
 simp only [Bool.false_eq_true, if_false, List.nil_append] at hh
 simp only [saidB, Bool.and_eq_true, Bool.or_eq_true] at h2
 obtain ⟨⟨⟨h3, h4⟩, h5⟩, h6⟩ := h2
 cases ho : ownT l.who with
 | true =>
   rw [ho, if_pos rfl, List.nil_append] at hh
   exact ⟨_, _, hh, (name_good h4).2.1⟩
 | false =>
   rw [ho] at hh h3
   simp only [Bool.false_eq_true, if_false, false_or, List.append_assoc] at hh h3
   exact ⟨_, _, hh, (term_good h3.1 hi.1).2.1⟩
theorem clause_tok3 (c : Clause) : ∃ x, (clauseToks c)[1]? = some (4, x) := by
 unfold clauseToks atomToks
 cases c.head.args with
 | nil =>
   unfold bodyToks
   cases c.body with
   | nil => exact ⟨_, rfl⟩
   | cons l r => exact ⟨_, rfl⟩
 | cons t r => exact ⟨_, rfl⟩
theorem numB_text {n : Int} (h0 : 1 ≤ n) (h1 : n ≤ maxTick) : numB (numText n) = n ∧ 0 < (numText n).size := by
 have h1 : n ≤ 1099511627776 := h1
 obtain ⟨g1, g2, g3⟩ := num_good (n := n) ⟨by omega, by omega⟩
 have g4 := (sortK_three g1).2
 refine ⟨?_, g2.1⟩
 have hz : decide (0 < (noStr.size)) = false := rfl
 unfold numB
 rw [g3, g4]
 show (if (!true || decide (0 < noStr.size) || decide (n < 1) || decide (1099511627776 < n)) = true then 0 else n) = n
 rw [hz, decide_eq_false (by omega), decide_eq_false (by omega)]
 rfl
theorem k_assert : sortK wAssert = 1 ∧ pieceX wAssert := by have := name_good (x := wAssert) (by decide +kernel); exact ⟨this.1, this.2.1⟩
theorem k_revoke : sortK wRevoke = 1 ∧ pieceX wRevoke := by have := name_good (x := wRevoke) (by decide +kernel); exact ⟨this.1, this.2.1⟩
theorem k_query : sortK wQuery = 1 ∧ pieceX wQuery := by have := name_good (x := wQuery) (by decide +kernel); exact ⟨this.1, this.2.1⟩
theorem k_prove : sortK wProve = 1 ∧ pieceX wProve := by have := name_good (x := wProve) (by decide +kernel); exact ⟨this.1, this.2.1⟩
theorem k_audit : sortK wAudit = 1 ∧ pieceX wAudit := by have := name_good (x := wAudit) (by decide +kernel); exact ⟨this.1, this.2.1⟩
theorem k_for : sortK wFor = 1 ∧ pieceX wFor := by have := name_good (x := wFor) (by decide +kernel); exact ⟨this.1, this.2.1⟩
theorem b_assert : bytesOf (⟨#[97, 115, 115, 101, 114, 116, 32]⟩ : ByteArray) = bytesOf wAssert ++ [32] := rfl
theorem b_revoke : bytesOf (⟨#[114, 101, 118, 111, 107, 101, 32]⟩ : ByteArray) = bytesOf wRevoke ++ [32] := rfl
theorem b_query : bytesOf (⟨#[113, 117, 101, 114, 121, 32]⟩ : ByteArray) = bytesOf wQuery ++ [32] := rfl
theorem b_prove : bytesOf (⟨#[112, 114, 111, 118, 101, 32]⟩ : ByteArray) = bytesOf wProve ++ [32] := rfl
theorem b_for : bytesOf (⟨#[102, 111, 114, 32]⟩ : ByteArray) = bytesOf wFor ++ [32] := rfl
theorem b_one : bytesOf (⟨#[32]⟩ : ByteArray) = [32] := rfl
theorem reqA_of {s : ByteArray} {T : List Tok} (h : allT s = (T, 0, 0)) : reqA s = reqT T s := by
 unfold reqA
 rw [h]
 rfl
theorem stops32 (r : List Int) : stops (32 :: r) := stops_of r (by decide)
theorem lit_read {w t s : ByteArray} {l : Lit} (hk : sortK w = 1) (hw : pieceX w) (hs : bytesOf s = bytesOf w ++ 32 :: bytesOf t) (ht : t = litText l) (hb : checkLitB l = true) (hi : litI l) (hz : s.size ≤ 4096) :
 ∃ T, allT s = (T, 0, 0) ∧ wordB T s 0 1 = w ∧ litA (restS s (posOf T s 1)) = (l, 0, 0) := by
 subst ht
 have f0 := Front.start s
 rw [hs] at f0
 have f1 := (f0.piece hw (by rw [hk]; decide) (stops32 _)).blank
 have hlx : LexS (bytesOf (litText l)) (litToks l) := by
  have := lex_lit (r := []) (L := []) (checkLit_literal hb) hi stops_nil .nil
  rwa [List.append_nil, List.append_nil] at this
 obtain ⟨T, hA, hM, hP⟩ := f1.finish hlx hz
 refine ⟨T, hA, ?_, ?_⟩
 · rw [word_of hM (n := 0) (k := sortK w) (x := w) rfl, hk]
   rfl
 · obtain ⟨x, X, e1, e2⟩ := lit_front hb hi
   obtain ⟨c, r, e3, e4⟩ := piece_head e2 X
   have hp := hP c r (e1.trans e3) e4
   rw [show posOf T s 1 = _ from hp, rest_of f1]
   unfold litA
   rw [back_lit hb hi]
   show (litOf (l.who, (l.pred, l.args)), (0 : Int), (0 : Int)) = (l, 0, 0)
   simp only [checkLitB, Bool.and_eq_true, beq_iff_eq] at hb
   obtain ⟨a, b, c, d⟩ := l
   obtain rfl : a = 1 := hb.1
   rfl
theorem back_req {q : Req} (hc : checkQ q = true) (hi : reqI q) (hs : (textQ q).size ≤ 4096) : reqA (textQ q) = (q, 0, 0) := by
 have hcm := check_may q
 rw [hc, Bool.and_eq_true, eqB_iff] at hcm
 obtain ⟨hm, hr⟩ := hcm
 obtain ⟨hi1, hi2, hi3, hi4⟩ := hi
 cases k1 : q.kind == 1 with
 | true =>
   have hm' : (checkB q.clause && (nameB q.label && (decide (0 ≤ q.life) && decide (q.life ≤ maxTick)))) = true := by
    unfold mayQ at hm
    rwa [k1, if_pos rfl] at hm
   simp only [Bool.and_eq_true, decide_eq_true_eq] at hm'
   obtain ⟨hb, hn, hl0, hl1⟩ := hm'
   have hl1 : q.life ≤ 1099511627776 := hl1
   have hr' : q = ⟨q.kind, q.label, q.life, q.clause, 0, Lit.z⟩ := by
    unfold restQ at hr
    rwa [k1, if_pos rfl] at hr
   have hk : q.kind = 1 := by simpa using k1
   have hpr : (printB q.clause).1 = clauseText q.clause := by unfold printB; rw [hb]; rfl
   obtain ⟨n1, n2, -, -⟩ := name_good hn
   have hlx := lex_clause hb hi1
   obtain ⟨X, hX⟩ := clause_front hb
   have hpn : pieceX q.clause.head.pred := by
    simp only [checkB, checkLitB, saidB, Bool.and_eq_true] at hb
    exact (name_good hb.1.1.1.2.1.1.2).2.1
   obtain ⟨c0, r0, e3, e4⟩ := piece_head hpn X
   have hA0 : clauseA (clauseText q.clause) = (q.clause, 0, 0) := by
    unfold clauseA
    rw [back_clause hb hi1]
    rfl
   have hlab : (q.label.size == 0) = false := by
    have := n2.1
    exact beq_false_of_ne (by omega)
   cases k2 : decide (0 < q.life) with
   | true =>
     have hlf : 1 ≤ q.life := Int.add_one_le_of_lt (of_decide_eq_true k2)
     obtain ⟨m1, m2⟩ := numB_text hlf hl1
     obtain ⟨g1, g2, -⟩ := num_good (n := q.life) ⟨by omega, by omega⟩
     obtain ⟨s, hst⟩ : ∃ s, textQ q = s := ⟨_, rfl⟩
     have hT : s = (⟨#[97, 115, 115, 101, 114, 116, 32]⟩ : ByteArray) ++ q.label ++ (⟨#[32]⟩ : ByteArray) ++ ((⟨#[102, 111, 114, 32]⟩ : ByteArray) ++ numText q.life ++ (⟨#[32]⟩ : ByteArray)) ++ clauseText q.clause := by
      rw [← hst, ← hpr]
      unfold textQ
      rw [k1, k2]
      rfl
     rw [hst] at hs ⊢
     have hB : bytesOf s = bytesOf wAssert ++ 32 :: (bytesOf q.label ++ 32 :: (bytesOf wFor ++ 32 :: (bytesOf (numText q.life) ++ 32 :: bytesOf (clauseText q.clause)))) := by
      rw [hT]
      simp only [bytesOf_append, b_assert, b_for, b_one, List.append_assoc, List.cons_append, List.nil_append]
     have f0 := Front.start s
     rw [hB] at f0
     have f1 := (f0.piece k_assert.2 (by rw [k_assert.1]; decide) (stops32 _)).blank
     have f2 := (f1.piece n2 (by rw [n1]; decide) (stops32 _)).blank
     have f3 := (f2.piece k_for.2 (by rw [k_for.1]; decide) (stops32 _)).blank
     have f4 := (f3.piece g2 (by rw [g1]; decide) (stops32 _)).blank
     obtain ⟨T, hA, hM, hP⟩ := f4.finish hlx hs
     rw [k_assert.1, n1, k_for.1, g1] at hM
     have hp := hP c0 r0 (hX.trans e3) e4
     have w0 : wordB T s 0 1 = wAssert := word_of hM (n := 0) rfl 1
     have w1 : wordB T s 1 1 = q.label := word_of hM (n := 1) rfl 1
     have w2 : wordB T s 2 1 = wFor := word_of hM (n := 2) rfl 1
     have w3 : wordB T s 3 3 = numText q.life := word_of hM (n := 3) rfl 3
     have hlong : longB T s = true := by
      unfold longB
      rw [w2, w3, decide_eq_true m2]
      simp
     have hz : (q.life == 0) = false := beq_false_of_ne (by omega)
     rw [reqA_of hA, req_assert w0]
     unfold asT
     rw [w1, hlab, hlong, w3, m1, hz, show posOf T s 4 = _ from hp, rest_of f4, hA0]
     show ((⟨1, q.label, q.life, q.clause, 0, Lit.z⟩ : Req), (0 : Int), (0 : Int)) = _
     rw [← hk, ← hr']
   | false =>
     have hlf : q.life = 0 := by
      have : ¬ 0 < q.life := by simpa using k2
      omega
     obtain ⟨s, hst⟩ : ∃ s, textQ q = s := ⟨_, rfl⟩
     have hT : s = (⟨#[97, 115, 115, 101, 114, 116, 32]⟩ : ByteArray) ++ q.label ++ (⟨#[32]⟩ : ByteArray) ++ clauseText q.clause := by
      rw [← hst, ← hpr]
      unfold textQ
      rw [k1, k2]
      rfl
     rw [hst] at hs ⊢
     have hB : bytesOf s = bytesOf wAssert ++ 32 :: (bytesOf q.label ++ 32 :: bytesOf (clauseText q.clause)) := by
      rw [hT]
      simp only [bytesOf_append, b_assert, b_one, List.append_assoc, List.cons_append, List.nil_append]
     have f0 := Front.start s
     rw [hB] at f0
     have f1 := (f0.piece k_assert.2 (by rw [k_assert.1]; decide) (stops32 _)).blank
     have f2 := (f1.piece n2 (by rw [n1]; decide) (stops32 _)).blank
     obtain ⟨T, hA, hM, hP⟩ := f2.finish hlx hs
     rw [k_assert.1, n1] at hM
     have hp := hP c0 r0 (hX.trans e3) e4
     have w0 : wordB T s 0 1 = wAssert := word_of hM (n := 0) rfl 1
     have w1 : wordB T s 1 1 = q.label := word_of hM (n := 1) rfl 1
     obtain ⟨x3, hx3⟩ := clause_tok3 q.clause
     have w3 : wordB T s 3 3 = noStr := word_of hM (n := 3) (k := 4) (x := x3) hx3 3
     have hlong : longB T s = false := by
      unfold longB
      rw [w3]
      exact Bool.and_false _
     rw [reqA_of hA, req_assert w0]
     unfold asT
     rw [w1, hlab, hlong, show posOf T s 2 = _ from hp, rest_of f2, hA0]
     show ((⟨1, q.label, 0, q.clause, 0, Lit.z⟩ : Req), (0 : Int), (0 : Int)) = _
     rw [hk, hlf] at hr'
     exact congrArg (fun x => (x, (0 : Int), (0 : Int))) hr'.symm
 | false =>
   cases k2 : q.kind == 2 with
   | true =>
     have hm' : (decide (1 ≤ q.no) && decide (q.no ≤ maxTick)) = true := by
      unfold mayQ at hm
      rwa [k1, k2] at hm
     simp only [Bool.and_eq_true, decide_eq_true_eq] at hm'
     obtain ⟨hl0, hl1⟩ := hm'
     have hr' : q = ⟨q.kind, noStr, 0, Clause.z, q.no, Lit.z⟩ := by
      unfold restQ at hr
      rwa [k1, k2] at hr
     have hk : q.kind = 2 := by simpa using k2
     obtain ⟨m1, m2⟩ := numB_text hl0 hl1
     have hl1 : q.no ≤ 1099511627776 := hl1
     obtain ⟨g1, g2, -⟩ := num_good (n := q.no) ⟨by omega, by omega⟩
     obtain ⟨s, hst⟩ : ∃ s, textQ q = s := ⟨_, rfl⟩
     have hT : s = (⟨#[114, 101, 118, 111, 107, 101, 32]⟩ : ByteArray) ++ numText q.no := by
      rw [← hst]
      unfold textQ
      rw [k1, k2]
      rfl
     rw [hst] at hs ⊢
     have hB : bytesOf s = bytesOf wRevoke ++ 32 :: (bytesOf (numText q.no) ++ []) := by
      rw [hT]
      simp only [bytesOf_append, b_revoke, List.append_assoc, List.cons_append, List.nil_append, List.append_nil]
     have f0 := Front.start s
     rw [hB] at f0
     have f1 := (f0.piece k_revoke.2 (by rw [k_revoke.1]; decide) (stops32 _)).blank
     have f2 := f1.piece g2 (by rw [g1]; decide) stops_nil
     obtain ⟨T, hA, hM, hP⟩ := f2.finish .nil hs
     rw [k_revoke.1, g1] at hM
     have w0 : wordB T s 0 1 = wRevoke := word_of hM (n := 0) rfl 1
     have w1 : wordB T s 1 3 = numText q.no := word_of hM (n := 1) rfl 3
     have hlen : T.length = 2 := by
      have := congrArg List.length hM
      rwa [List.length_map] at this
     have hz : (q.no == 0) = false := beq_false_of_ne (by omega)
     rw [reqA_of hA, req_revoke w0]
     unfold reT
     rw [w1, m1, hz, hlen]
     show ((⟨2, noStr, 0, Clause.z, q.no, Lit.z⟩ : Req), (0 : Int), (0 : Int)) = _
     rw [← hk, ← hr']
   | false =>
     cases k3 : q.kind == 3 with
     | true =>
       have hb : checkLitB q.lit = true := by
        unfold mayQ at hm
        rwa [k1, k2, k3] at hm
       have hr' : q = ⟨q.kind, noStr, 0, Clause.z, 0, q.lit⟩ := by
        unfold restQ at hr
        rwa [k1, k2, k3] at hr
       have hk : q.kind = 3 := by simpa using k3
       have hpr : (printLitB q.lit).1 = litText q.lit := by unfold printLitB; rw [hb]; rfl
       obtain ⟨s, hst⟩ : ∃ s, textQ q = s := ⟨_, rfl⟩
       have hT : s = (⟨#[113, 117, 101, 114, 121, 32]⟩ : ByteArray) ++ litText q.lit := by
        rw [← hst, ← hpr]
        unfold textQ
        rw [k1, k2, k3]
        rfl
       rw [hst] at hs ⊢
       obtain ⟨T, hA, w0, hL⟩ := lit_read (s := s) k_query.1 k_query.2 (by rw [hT, bytesOf_append, b_query, List.append_assoc]; rfl) rfl hb hi2 hs
       rw [reqA_of hA, req_query w0]
       unfold liT
       rw [hL]
       show ((⟨3, noStr, 0, Clause.z, 0, q.lit⟩ : Req), (0 : Int), (0 : Int)) = _
       rw [← hk, ← hr']
     | false =>
       cases k4 : q.kind == 4 with
       | true =>
         have hb : checkLitB q.lit = true := by
          unfold mayQ at hm
          rwa [k1, k2, k3, k4] at hm
         have hr' : q = ⟨q.kind, noStr, 0, Clause.z, 0, q.lit⟩ := by
          unfold restQ at hr
          rwa [k1, k2, k3, k4] at hr
         have hk : q.kind = 4 := by simpa using k4
         have hpr : (printLitB q.lit).1 = litText q.lit := by unfold printLitB; rw [hb]; rfl
         obtain ⟨s, hst⟩ : ∃ s, textQ q = s := ⟨_, rfl⟩
         have hT : s = (⟨#[112, 114, 111, 118, 101, 32]⟩ : ByteArray) ++ litText q.lit := by
          rw [← hst, ← hpr]
          unfold textQ
          rw [k1, k2, k3, k4]
          rfl
         rw [hst] at hs ⊢
         obtain ⟨T, hA, w0, hL⟩ := lit_read (s := s) k_prove.1 k_prove.2 (by rw [hT, bytesOf_append, b_prove, List.append_assoc]; rfl) rfl hb hi2 hs
         rw [reqA_of hA, req_prove w0]
         unfold liT
         rw [hL]
         show ((⟨4, noStr, 0, Clause.z, 0, q.lit⟩ : Req), (0 : Int), (0 : Int)) = _
         rw [← hk, ← hr']
       | false =>
         cases k5 : q.kind == 5 with
         | true =>
           have hr' : q = ⟨q.kind, noStr, 0, Clause.z, 0, Lit.z⟩ := by
            unfold restQ at hr
            rwa [k1, k2, k3, k4] at hr
           have hk : q.kind = 5 := by simpa using k5
           obtain ⟨s, hst⟩ : ∃ s, textQ q = s := ⟨_, rfl⟩
           have hT : s = wAudit := by
            rw [← hst]
            unfold textQ
            rw [k1, k2, k3, k4, k5]
            rfl
           rw [hst] at hs ⊢
           have f0 := Front.start s
           rw [show bytesOf s = bytesOf wAudit ++ [] by rw [hT, List.append_nil]] at f0
           have f1 := f0.piece k_audit.2 (by rw [k_audit.1]; decide) stops_nil
           obtain ⟨T, hA, hM, hP⟩ := f1.finish .nil hs
           rw [k_audit.1] at hM
           have w0 : wordB T s 0 1 = wAudit := word_of hM (n := 0) rfl 1
           have hlen : T.length = 1 := by
            have := congrArg List.length hM
            rwa [List.length_map] at this
           rw [reqA_of hA, req_audit w0]
           unfold auT
           rw [hlen]
           show ((⟨5, noStr, 0, Clause.z, 0, Lit.z⟩ : Req), (0 : Int), (0 : Int)) = _
           rw [← hk, ← hr']
         | false =>
           exfalso
           unfold mayQ at hm
           rw [k1, k2, k3, k4, k5] at hm
           cases hm
end Go.Proofs.YtfhpecgknmfnnaaDoor.M
end
section
namespace Go.Proofs.YtfhpecgknmfnnaaDoor.M
open Go.R Go.RowKit
open Go.Proofs.YtfhpecgknmfnnaaDoorW.PrintWords Go.Proofs.YtfhpecgknmfnnaaDoorW.PrintMore
theorem lit_args4 {l : Lit} (hg : literalB l = true) : l.args.length ≤ 4 := by
 unfold literalB at hg
 split at hg
 · unfold saidB at hg
   simp only [Bool.and_eq_true, decide_eq_true_eq] at hg
   exact hg.1.2
 · simp only [Bool.and_eq_true, beq_iff_eq] at hg
   omega
theorem check_lits {c : Clause} (h : checkB c = true) : literalB c.head = true ∧ c.body.length ≤ 6 ∧ ∀ l ∈ c.body, literalB l = true := by
 simp only [checkB, checkLitB, Bool.and_eq_true, decide_eq_true_eq, beq_iff_eq, List.all_eq_true] at h
 obtain ⟨⟨⟨⟨h1, h2⟩, h3⟩, h4⟩, h5⟩ := h
 exact ⟨by unfold literalB; rw [h1]; exact h2, h4, h5⟩
theorem szL_GL {l : Lit} (h : GL l) : szL l := by
 obtain ⟨h1, _, h3, h4⟩ := h
 have := lit_args4 h1
 exact ⟨by unfold szT szS; omega, by omega, fun t ht => by unfold szT szS; have := h4 t ht; omega⟩
theorem cl_read {s : ByteArray} {x : Clause} {p : Int} (h : clauseA s = (x, p, 0)) : checkB x = true ∧ clauseI x ∧ szC x := by
 unfold clauseA at h
 cases hp : parseP s with
 | error q =>
   rw [hp] at h
   obtain ⟨p', e⟩ := q
   have he := runP_err s (fun T n => clauseP T s n) (fun T n => clauseP_err T s n) _ hp
   simp only [ansP, Prod.mk.injEq] at h
   exact absurd h.2.2 he
 | ok c =>
   rw [hp] at h
   simp only [ansP, id, Prod.mk.injEq] at h
   obtain ⟨rfl, _⟩ := h
   obtain ⟨h1, h2, h3, h4⟩ := parse_ok' hp
   have := (check_lits h1).2.1
   exact ⟨h1, h2, szL_GL h3, by omega, fun l hl => szL_GL (h4 l hl)⟩
theorem li_read {s : ByteArray} {x : Lit} {p : Int} (h : litA s = (x, p, 0)) : checkLitB x = true ∧ litI x ∧ szL x := by
 unfold litA at h
 cases hp : parseLitP s with
 | error q =>
   rw [hp] at h
   obtain ⟨p', e⟩ := q
   have he := runP_err s (fun T n => saidP T s n) (fun T n => saidP_err T s n) _ hp
   simp only [ansP, Prod.mk.injEq] at h
   exact absurd h.2.2 he
 | ok c =>
   rw [hp] at h
   simp only [ansP, Prod.mk.injEq] at h
   obtain ⟨rfl, _⟩ := h
   obtain ⟨h1, h2⟩ := parseLit_ok' hp
   exact ⟨h1, h2.2.1, szL_GL h2⟩
theorem numB_rng (s : ByteArray) : numB s = 0 ∨ (1 ≤ numB s ∧ numB s ≤ maxTick) := by
 unfold numB
 split
 · exact .inl rfl
 · rename_i h
   simp only [Bool.or_eq_true, decide_eq_true_eq, not_or] at h
   right
   show 1 ≤ _ ∧ _ ≤ (1099511627776 : Int)
   omega
theorem word_name {s : ByteArray} {n : Nat} (h : ((wordB (allT s).1 s n 1).size == 0) = false) : nameB (wordB (allT s).1 s n 1) = true := by
 unfold wordB at h ⊢
 cases ht : (allT s).1[n]? with
 | none => rw [ht] at h; cases h
 | some t =>
   rw [ht] at h
   have hg := all_good s t (List.mem_of_getElem? ht)
   cases hk : t.kind == 1 with
   | true => simp only [hk, if_true]; exact hg.1 (by simpa using hk)
   | false => simp only [hk, Bool.false_eq_true, if_false] at h; cases h
def fineQ (q : Req) : Prop := checkQ q = true ∧ reqI q ∧ szQ q ∧ q.label.size ≤ 16
theorem z_fine : clauseI Clause.z ∧ szC Clause.z := ⟨⟨⟨⟨by decide, by decide⟩, fun t ht => absurd ht List.not_mem_nil⟩, fun t ht => absurd ht List.not_mem_nil⟩, ⟨⟨Nat.zero_le _, Nat.zero_le _, fun t ht => absurd ht List.not_mem_nil⟩, Nat.zero_le _, fun t ht => absurd ht List.not_mem_nil⟩⟩
theorem zl_fine : litI Lit.z ∧ szL Lit.z := ⟨⟨⟨by decide, by decide⟩, fun t ht => absurd ht List.not_mem_nil⟩, ⟨Nat.zero_le _, Nat.zero_le _, fun t ht => absurd ht List.not_mem_nil⟩⟩
theorem i0 : (-9223372036854775808 : Int) ≤ 0 ∧ (0 : Int) ≤ 9223372036854775807 := ⟨by decide, by decide⟩
theorem fine_li {k : Int} {T : List Tok} {s : ByteArray} {x : Req} {p : Int} (hk : k = 3 ∨ k = 4) (h : liT k T s = (x, p, 0)) : fineQ x := by
 unfold liT at h
 obtain ⟨l, q, e, hC⟩ : ∃ l q e, litA (restS s (posOf T s 1)) = (l, q, e) := ⟨_, _, _, rfl⟩
 rw [hC] at h
 by_cases he : e = 0
 · subst he
   obtain ⟨g1, g2, g3⟩ := li_read hC
   simp only [show ((0 : Int) != 0) = false from rfl, Bool.false_eq_true, if_false, Prod.mk.injEq] at h
   obtain ⟨rfl, _⟩ := h
   refine ⟨?_, ⟨z_fine.1, g2, i0, i0⟩, ⟨z_fine.2, g3⟩, Nat.zero_le _⟩
   rcases hk with rfl | rfl
   · rw [show checkQ (⟨3, noStr, 0, Clause.z, 0, l⟩ : Req) = (bareB ⟨3, noStr, 0, Clause.z, 0, Lit.z⟩ && checkLitB l) from rfl, g1]
     rfl
   · rw [show checkQ (⟨4, noStr, 0, Clause.z, 0, l⟩ : Req) = (bareB ⟨4, noStr, 0, Clause.z, 0, Lit.z⟩ && checkLitB l) from rfl, g1]
     rfl
 · have : (e != 0) = true := by simpa using he
   simp only [this, if_true, Prod.mk.injEq] at h
   exact absurd h.2.2 he
theorem fine_as1 {T : List Tok} {s : ByteArray} {label : ByteArray} {life : Int} {n : Nat} {x : Req} {p : Int} (hn : nameB label = true) (hl : 0 ≤ life ∧ life ≤ maxTick) (h : asAns label life (posOf T s n) (clauseA (restS s (posOf T s n))) = (x, p, 0)) : fineQ x := by
 unfold asAns at h
 obtain ⟨c, q, e, hC⟩ : ∃ c q e, clauseA (restS s (posOf T s n)) = (c, q, e) := ⟨_, _, _, rfl⟩
 rw [hC] at h
 have hl' : 0 ≤ life ∧ life ≤ 1099511627776 := hl
 have hl2 : (-9223372036854775808 : Int) ≤ life ∧ life ≤ 9223372036854775807 := by omega
 by_cases he : e = 0
 · subst he
   obtain ⟨g1, g2, g3⟩ := cl_read hC
   simp only [show ((0 : Int) != 0) = false from rfl, Bool.false_eq_true, if_false, Prod.mk.injEq] at h
   obtain ⟨rfl, _⟩ := h
   refine ⟨?_, ⟨g2, zl_fine.1, hl2, i0⟩, ⟨g3, zl_fine.2⟩, nameB_size hn⟩
   rw [show checkQ (⟨1, label, life, c, 0, Lit.z⟩ : Req) = (bareB ⟨1, noStr, 0, Clause.z, 0, Lit.z⟩ && (nameB label && (decide (0 ≤ life) && (decide (life ≤ maxTick) && checkB c)))) from rfl, hn, g1, decide_eq_true hl.1, decide_eq_true hl.2]
   rfl
 · have : (e != 0) = true := by simpa using he
   simp only [this, if_true, Prod.mk.injEq] at h
   exact absurd h.2.2 he
theorem six_no {x y : Req} {a b : Int} (h : (x, a, (6 : Int)) = (y, b, 0)) : False := by
 have : (6 : Int) = 0 := congrArg (fun r => r.2.2) h
 exact absurd this (by decide)
theorem fine_read {s : ByteArray} {x : Req} {p : Int} (h : reqA s = (x, p, 0)) : fineQ x := by
 unfold reqA at h
 cases he : (allT s).2.2 != 0 with
 | true =>
   rw [he, if_pos rfl] at h
   have h2 : (allT s).2.2 = 0 := congrArg (fun r => r.2.2) h
   rw [h2] at he
   cases he
 | false =>
   rw [he, if_neg (by decide)] at h
   unfold reqT at h
   split at h
   · unfold asT at h
     cases hz : (wordB (allT s).1 s 1 1).size == 0 with
     | true => rw [hz, if_pos rfl] at h; exact (six_no h).elim
     | false =>
       have hn := word_name hz
       rw [hz, if_neg (by decide)] at h
       split at h
       · rcases numB_rng (wordB (allT s).1 s 3 3) with hq | hq
         · rw [hq, if_pos (by decide)] at h; exact (six_no h).elim
         · have hne : (numB (wordB (allT s).1 s 3 3) == 0) = false := beq_false_of_ne (by omega)
           rw [hne, if_neg (by decide)] at h
           exact fine_as1 hn ⟨by omega, hq.2⟩ h
       · exact fine_as1 hn ⟨by decide, by decide⟩ h
   · split at h
     · unfold reT at h
       rcases numB_rng (wordB (allT s).1 s 1 3) with hq | hq
       · rw [hq, if_pos (by decide)] at h; exact (six_no h).elim
       · have hne : (numB (wordB (allT s).1 s 1 3) == 0) = false := beq_false_of_ne (by omega)
         have hq2 : numB (wordB (allT s).1 s 1 3) ≤ 1099511627776 := hq.2
         have hq3 : (-9223372036854775808 : Int) ≤ numB (wordB (allT s).1 s 1 3) ∧ numB (wordB (allT s).1 s 1 3) ≤ 9223372036854775807 := by omega
         rw [hne, if_neg (by decide)] at h
         split at h
         · exact (six_no h).elim
         · simp only [Prod.mk.injEq] at h
           obtain ⟨rfl, _⟩ := h
           refine ⟨?_, ⟨z_fine.1, zl_fine.1, i0, hq3⟩, ⟨z_fine.2, zl_fine.2⟩, Nat.zero_le _⟩
           rw [show checkQ (⟨2, noStr, 0, Clause.z, numB (wordB (allT s).1 s 1 3), Lit.z⟩ : Req) = (bareB ⟨2, noStr, 0, Clause.z, 0, Lit.z⟩ && (decide (1 ≤ numB (wordB (allT s).1 s 1 3)) && decide (numB (wordB (allT s).1 s 1 3) ≤ maxTick))) from rfl, decide_eq_true hq.1, decide_eq_true hq.2]
           rfl
     · split at h
       · exact fine_li (.inl rfl) h
       · split at h
         · exact fine_li (.inr rfl) h
         · split at h
           · unfold auT at h
             split at h
             · exact (six_no h).elim
             · simp only [Prod.mk.injEq] at h
               obtain ⟨rfl, _⟩ := h
               exact ⟨rfl, ⟨z_fine.1, zl_fine.1, i0, i0⟩, ⟨z_fine.2, zl_fine.2⟩, Nat.zero_le _⟩
           · exact (six_no h).elim
theorem print_fine {q : Req} (h : checkQ q = true) (hi : reqI q) : (∃ t, printQ q = (t, 0) ∧ reqA t = (q, 0, 0) ∧ (t.size : Int) ≤ 9223372036854775807) ∨ printQ q = (noStr, 2) := by
 unfold printQ outQ
 rw [h, if_pos rfl]
 cases hd : decide (4096 < ((textQ q).size : Int)) with
 | true => exact .inr rfl
 | false =>
   have : ¬ 4096 < ((textQ q).size : Int) := by simpa using hd
   exact .inl ⟨_, rfl, back_req h hi (by omega), by omega⟩
end Go.Proofs.YtfhpecgknmfnnaaDoor.M
end
section
namespace Go.Proofs.YtfhpecgknmfnnaaDoor.M
open Go.R Go.RowKit
open Go.Proofs.YtfhpecgknmfnnaaDoorW.PrintWords Go.Proofs.YtfhpecgknmfnnaaDoorW.PrintMore
def blankB (c : Int) : Prop := (c == 32 || c == 9) = true
theorem blanks_go' (a s : ByteArray) (ha : ∀ i : Nat, i < a.size → blankB (bt a i)) : ∀ (k p : Nat), p + k = a.size → allGo (a ++ s) (k + (s.size + 1)) p [] = allGo (a ++ s) (s.size + 1) a.size []
 | 0, p, h => by
   obtain rfl : p = a.size := by omega
   rw [Nat.zero_add]
 | k + 1, p, h => by
   rw [show k + 1 + (s.size + 1) = (k + (s.size + 1)) + 1 by omega]
   rw [show allGo (a ++ s) ((k + (s.size + 1)) + 1) p [] = allGo (a ++ s) (k + (s.size + 1)) (p + 1) [] by
    have hb : blankB (bt (a ++ s) (p : Int)) := by rw [bt_left a s p (by omega)]; exact ha p (by omega)
    have ho : (oneT (a ++ s) p).2 = 4 := by
     unfold oneT
     unfold blankB at hb
     rw [if_neg (by rw [ByteArray.size_append]; omega)]
     simp only [hb, if_true]
    conv => lhs; unfold allGo
    rw [if_neg (by rw [ByteArray.size_append]; omega), if_pos ho]]
   exact blanks_go' a s ha k (p + 1) (by omega)
theorem all_ahead' (a s : ByteArray) (ha : ∀ i : Nat, i < a.size → blankB (bt a i)) (h : a.size + s.size ≤ 4096) :
 allT (a ++ s) = ((allT s).1.map (shT a.size), if (allT s).2.2 = 0 then 0 else (allT s).2.1 + a.size, (allT s).2.2) := by
 unfold allT
 rw [if_neg (by rw [ByteArray.size_append]; omega), if_neg (by omega), ByteArray.size_append, show a.size + s.size + 1 = a.size + (s.size + 1) by omega, blanks_go' a s ha a.size 0 (by omega)]
 have := all_right a s (s.size + 1) 0 []
 rw [Nat.zero_add] at this
 exact this
abbrev endB : ByteArray := ⟨#[32]⟩
theorem takeWhile_endB (l : List Int) : (l ++ [32]).takeWhile pieceB = l.takeWhile pieceB := by
 induction l with
 | nil => rfl
 | cons c t ih =>
   rw [List.cons_append]
   by_cases h : pieceB c = true
   · rw [List.takeWhile_cons_of_pos h, List.takeWhile_cons_of_pos h, ih]
   · rw [List.takeWhile_cons_of_neg h, List.takeWhile_cons_of_neg h]
theorem runTo_leftB (s : ByteArray) (p : Nat) (h : p ≤ s.size) : runTo (s ++ endB) p = runTo s p := by
 unfold runTo
 rw [bytesOf_append, List.drop_append_of_le_length (by rw [bytesOf_length]; exact h)]
 rw [show bytesOf endB = [32] by rfl, takeWhile_endB]
theorem nxt_leftB (s : ByteArray) (p : Nat) (h : p < s.size) : nxt (s ++ endB) p = nxt s p ∨ (nxt (s ++ endB) p = 32 ∧ nxt s p = -1) := by
 unfold nxt
 rw [ByteArray.size_append, show endB.size = 1 by rfl]
 by_cases hp : p + 1 < s.size
 · rw [if_pos hp, if_pos (by omega), bt_left s endB (p + 1) hp]
   exact .inl rfl
 · rw [if_neg hp, if_pos (by omega)]
   refine .inr ⟨?_, rfl⟩
   rw [show p + 1 = 0 + s.size by omega, bt_right]
   rfl
theorem one_leftB (s : ByteArray) (p : Nat) (h : p < s.size) : oneT (s ++ endB) p = oneT s p := by
 have hz : (s ++ endB).size = s.size + 1 := by rw [ByteArray.size_append]; rfl
 have hq := runTo_le s (p + 1) (by omega)
 unfold oneT
 rw [if_neg (show ¬ (s ++ endB).size ≤ p by omega), if_neg (show ¬ s.size ≤ p by omega), bt_left s endB p h, runTo_leftB s (p + 1) (by omega)]
 have hpc : pieceTok (s ++ endB) p (runTo s (p + 1)) = pieceTok s p (runTo s (p + 1)) := by
  unfold pieceTok
  rw [cut_left s endB p _ hq]
 rw [hpc]
 rcases nxt_leftB s p h with e | ⟨e, e'⟩
 · rw [e]
 · rw [e, e']
   rfl
theorem all_leftB (s : ByteArray) : ∀ (f p : Nat) (acc : List Tok), p ≤ s.size → s.size < f + p → allGo (s ++ endB) (f + 1) p acc = allGo s f p acc
 | 0, p, acc, h, hf => by omega
 | f + 1, p, acc, h, hf => by
   have hz : (s ++ endB).size = s.size + 1 := by rw [ByteArray.size_append]; rfl
   rcases Nat.lt_or_ge p s.size with hp | hp
   · conv => lhs; unfold allGo
     conv => rhs; unfold allGo
     rw [if_neg (show ¬ (s ++ endB).size ≤ p by omega), if_neg (show ¬ s.size ≤ p by omega), one_leftB s p hp]
     by_cases h4 : (oneT s p).2 = 4
     · rw [if_pos h4, if_pos h4]
       exact all_leftB s f (p + 1) acc (by omega) (by omega)
     · rw [if_neg h4, if_neg h4]
       by_cases h0 : (oneT s p).2 = 0
       · have hk := oneT_ok s p h0
         rw [if_pos h0, if_pos h0]
         exact all_leftB s f _ _ (by omega) (by omega)
       · rw [if_neg h0, if_neg h0]
   · obtain rfl : p = s.size := by omega
     have b0 : bt (s ++ endB) (s.size : Int) = 32 := by
      have := bt_right s endB 0
      rw [Nat.zero_add] at this
      rw [this]; rfl
     have o0 : (oneT (s ++ endB) s.size).2 = 4 := by
      unfold oneT
      rw [if_neg (by omega), b0]; rfl
     conv => lhs; unfold allGo
     rw [if_neg (by omega), if_pos o0]
     conv => lhs; unfold allGo
     conv => rhs; unfold allGo
     rw [if_pos (show (s ++ endB).size ≤ s.size + 1 by omega), if_pos (Nat.le_refl _)]
theorem all_behindB (s : ByteArray) (h : s.size + 1 ≤ 4096) : allT (s ++ endB) = allT s := by
 have hz : (s ++ endB).size = s.size + 1 := by rw [ByteArray.size_append]; rfl
 unfold allT
 rw [if_neg (by omega), if_neg (by omega), hz]
 exact all_leftB s (s.size + 1) 0 [] (Nat.zero_le _) (by omega)
abbrev okB (s : ByteArray) (p p' : Int) : Prop := p' = p ∨ (p = s.size ∧ p' = (s.size : Int) + 1)
theorem twin_behindB (s : ByteArray) (T : List Tok) (hT : TokOk s T) : Twin (okB s) T s T (s ++ endB) := by
 have hz : (s ++ endB).size = s.size + 1 := by rw [ByteArray.size_append]; rfl
 have hx : ∀ n t, T[n]? = some t → tokS (s ++ endB) t = tokS s t := fun n t h => by
  have := hT.2 t (List.mem_of_getElem? h)
  exact cut_left s endB _ _ (by omega)
 refine ⟨fun n => rfl, fun n => ?_, fun n y => ?_, fun n => ?_⟩
 · unfold textT
   cases h : T[n]? with
   | none => rfl
   | some t => exact hx n t h
 · unfold isT
   cases h : T[n]? with
   | none => rfl
   | some t => show ((tokS (s ++ endB) t).toList == y.toList) = _; rw [hx n t h]
 · unfold posOf
   cases h : T[n]? with
   | none => exact .inr ⟨rfl, by show ((s ++ endB).size : Int) = _; omega⟩
   | some t => exact .inl rfl
def RTw {α : Type} (ok : Int → Int → Prop) (r r' : α × Int × Int) : Prop := r'.1 = r.1 ∧ r'.2.2 = r.2.2 ∧ (r.2.2 ≠ 0 → ok r.2.1 r'.2.1)
theorem RTw.err {α : Type} {ok : Int → Int → Prop} {z : α} {p p' e : Int} (h : ok p p') : RTw ok (z, p, e) (z, p', e) := ⟨rfl, rfl, fun _ => h⟩
theorem RTw.same {α : Type} {ok : Int → Int → Prop} (q : α) : RTw ok (q, 0, 0) (q, 0, 0) := ⟨rfl, rfl, fun h => absurd rfl h⟩
theorem clause_behindB (s : ByteArray) (h : s.size + 1 ≤ 4096) : RTw (okB s) (clauseA s) (clauseA (s ++ endB)) := by
 have hA := all_behindB s h
 exact parse_tw (ok := okB s) (by rw [hA]; exact twin_behindB s _ (allT_ok s)) (by rw [hA]) (by rw [hA]) (fun _ => by rw [hA]; exact .inl rfl)
theorem lit_behindB (s : ByteArray) (h : s.size + 1 ≤ 4096) : RTw (okB s) (litA s) (litA (s ++ endB)) := by
 have hA := all_behindB s h
 exact parseLit_tw (ok := okB s) (by rw [hA]; exact twin_behindB s _ (allT_ok s)) (by rw [hA]) (by rw [hA]) (fun _ => by rw [hA]; exact .inl rfl)
structure TwinR (ok : Int → Int → Prop) (T : List Tok) (s : ByteArray) (T' : List Tok) (s' : ByteArray) : Prop where
 w : ∀ n c, wordB T' s' n c = wordB T s n c
 l : T'.length = T.length
 p : ∀ n, ok (posOf T s n) (posOf T' s' n)
 c : ∀ n, RTw (fun q q' => ok (posOf T s n + q) (posOf T' s' n + q')) (clauseA (restS s (posOf T s n))) (clauseA (restS s' (posOf T' s' n)))
 t : ∀ n, RTw (fun q q' => ok (posOf T s n + q) (posOf T' s' n + q')) (litA (restS s (posOf T s n))) (litA (restS s' (posOf T' s' n)))
section
variable {ok : Int → Int → Prop} {T T' : List Tok} {s s' : ByteArray} (h : TwinR ok T s T' s')
include h
theorem asAns_tw (label : ByteArray) (life : Int) (n : Nat) : RTw ok (asAns label life (posOf T s n) (clauseA (restS s (posOf T s n)))) (asAns label life (posOf T' s' n) (clauseA (restS s' (posOf T' s' n)))) := by
 obtain ⟨h1, h2, h3⟩ := h.c n
 unfold asAns
 rw [h1, h2]
 split
 · rename_i he
   exact RTw.err (h3 (by simpa using he))
 · exact RTw.same _
theorem asT_tw : RTw ok (asT T s) (asT T' s') := by
 unfold asT longB
 simp only [h.w]
 split
 · exact RTw.err (h.p 1)
 · split
   · split
     · exact RTw.err (h.p 3)
     · exact asAns_tw h _ _ 4
   · exact asAns_tw h _ _ 2
theorem reT_tw : RTw ok (reT T s) (reT T' s') := by
 unfold reT
 simp only [h.w, h.l]
 split
 · exact RTw.err (h.p 1)
 · split
   · exact RTw.err (h.p 2)
   · exact RTw.same _
theorem liT_tw (k : Int) : RTw ok (liT k T s) (liT k T' s') := by
 obtain ⟨h1, h2, h3⟩ := h.t 1
 unfold liT
 rw [h1, h2]
 split
 · rename_i he
   exact RTw.err (h3 (by simpa using he))
 · exact RTw.same _
theorem auT_tw : RTw ok (auT T s) (auT T' s') := by
 unfold auT
 simp only [h.l]
 split
 · exact RTw.err (h.p 1)
 · exact RTw.same _
theorem reqT_tw : RTw ok (reqT T s) (reqT T' s') := by
 unfold reqT
 simp only [h.w]
 split
 · exact asT_tw h
 · split
   · exact reT_tw h
   · split
     · exact liT_tw h 3
     · split
       · exact liT_tw h 4
       · split
         · exact auT_tw h
         · exact RTw.err (h.p 0)
end
theorem reqA_tw {ok : Int → Int → Prop} {s s' : ByteArray} (h : TwinR ok (allT s).1 s (allT s').1 s') (he : (allT s').2.2 = (allT s).2.2) (hp : (allT s).2.2 ≠ 0 → ok (allT s).2.1 (allT s').2.1) : RTw ok (reqA s) (reqA s') := by
 unfold reqA
 rw [he]
 split
 · rename_i hc
   exact RTw.err (hp (by simpa using hc))
 · exact reqT_tw h
theorem rest_right (a s : ByteArray) {p : Int} (hp : 0 ≤ p) : restS (a ++ s) (p + a.size) = restS s p := by
 show (a ++ s).extract (p + a.size).toNat (a ++ s).size = s.extract p.toNat s.size
 rw [show (p + a.size).toNat = p.toNat + a.size by omega, ByteArray.size_append, Nat.add_comm a.size s.size, cut_right]
theorem req_ahead (a s : ByteArray) (ha : ∀ i : Nat, i < a.size → blankB (bt a i)) (h : a.size + s.size ≤ 4096) : RTw (fun p p' => p' = p + a.size) (reqA s) (reqA (a ++ s)) := by
 have hA := all_ahead' a s ha h
 have hT := allT_ok s
 have tw := twin_ahead a s _ hT
 refine reqA_tw ?_ (by rw [hA]) (fun hc => by rw [hA]; exact if_neg hc)
 rw [hA]
 refine ⟨fun n c => ?_, List.length_map _, fun n => tw.p n, fun n => ?_, fun n => ?_⟩
 · unfold wordB
   rw [List.getElem?_map]
   cases hn : (allT s).1[n]? with
   | none => rfl
   | some t =>
     have := hT.2 t (List.mem_of_getElem? hn)
     show (if t.kind == c then tokS (a ++ s) (shT a.size t) else noStr) = _
     rw [tok_ahead a s t (by omega) (by omega)]
 · have hp : posOf ((allT s).1.map (shT a.size)) (a ++ s) n = posOf (allT s).1 s n + a.size := tw.p n
   have hr := pos_range hT n
   rw [hp, rest_right a s hr.1]
   exact ⟨rfl, rfl, fun _ => by omega⟩
 · have hp : posOf ((allT s).1.map (shT a.size)) (a ++ s) n = posOf (allT s).1 s n + a.size := tw.p n
   have hr := pos_range hT n
   rw [hp, rest_right a s hr.1]
   exact ⟨rfl, rfl, fun _ => by omega⟩
theorem rest_left (s : ByteArray) {p : Int} (h : p ≤ s.size) : restS (s ++ endB) p = restS s p ++ endB := by
 have hz : (s ++ endB).size = s.size + 1 := by rw [ByteArray.size_append]; rfl
 show (s ++ endB).extract p.toNat (s ++ endB).size = s.extract p.toNat s.size ++ endB
 rw [hz]
 apply ByteArray.ext
 rw [ByteArray.data_extract, ByteArray.data_append, ByteArray.data_append, ByteArray.data_extract, Array.extract_append]
 have e1 : s.data.size = s.size := rfl
 rw [e1, show p.toNat - s.size = 0 by omega, show s.size + 1 - s.size = 1 by omega]
 have e2 : s.data.extract p.toNat (s.size + 1) = s.data.extract p.toNat s.size := by
  apply Array.ext'
  simp [Array.toList_extract, e1]
 rw [e2]
 rfl
theorem rest_none (s : ByteArray) {p : Int} (h : p = s.size) : restS s p = noStr := by
 subst h
 apply ByteArray.ext
 show (s.extract (s.size : Int).toNat s.size).data = #[]
 rw [Int.toNat_natCast]
 simp
theorem rtw_behind {α : Type} {f : ByteArray → α × Int × Int} (hf : ∀ s : ByteArray, s.size + 1 ≤ 4096 → RTw (okB s) (f s) (f (s ++ endB))) (hr : ∀ s, 0 ≤ (f s).2.1 ∧ (f s).2.1 ≤ s.size) {s : ByteArray} (h : s.size + 1 ≤ 4096) (n : Nat) :
 RTw (fun q q' => okB s (posOf (allT s).1 s n + q) (posOf (allT s).1 (s ++ endB) n + q')) (f (restS s (posOf (allT s).1 s n))) (f (restS (s ++ endB) (posOf (allT s).1 (s ++ endB) n))) := by
 have hT := allT_ok s
 have hz : (s ++ endB).size = s.size + 1 := by rw [ByteArray.size_append]; rfl
 have hp := pos_range hT n
 cases hn : (allT s).1[n]? with
 | none =>
   have e1 : posOf (allT s).1 s n = s.size := by unfold posOf; rw [hn]
   have e2 : posOf (allT s).1 (s ++ endB) n = (s ++ endB).size := by unfold posOf; rw [hn]
   rw [rest_none s e1, rest_none _ e2]
   refine ⟨rfl, rfl, fun _ => ?_⟩
   have := hr noStr
   rw [show (noStr.size : Int) = 0 from rfl] at this
   exact .inr (by omega)
 | some t =>
   have e2 : posOf (allT s).1 (s ++ endB) n = posOf (allT s).1 s n := by unfold posOf; rw [hn]
   rw [e2, rest_left s hp.2]
   have hl := rest_le hp
   have hs := rest_size s (posOf (allT s).1 s n)
   obtain ⟨g1, g2, g3⟩ := hf (restS s (posOf (allT s).1 s n)) (by omega)
   refine ⟨g1, g2, fun he => ?_⟩
   rcases g3 he with e | ⟨e, e'⟩
   · exact .inl (by rw [e])
   · exact .inr (by omega)
theorem req_behind (s : ByteArray) (h : s.size + 1 ≤ 4096) : RTw (okB s) (reqA s) (reqA (s ++ endB)) := by
 have hA := all_behindB s h
 have hT := allT_ok s
 have tw := twin_behindB s _ hT
 refine reqA_tw ?_ (by rw [hA]) (fun hc => by rw [hA]; exact .inl rfl)
 rw [hA]
 refine ⟨fun n c => ?_, rfl, fun n => tw.p n, fun n => rtw_behind clause_behindB clauseA_rng h n, fun n => rtw_behind lit_behindB litA_rng h n⟩
 unfold wordB
 cases hn : (allT s).1[n]? with
 | none => rfl
 | some t =>
   have := hT.2 t (List.mem_of_getElem? hn)
   show (if t.kind == c then tokS (s ++ endB) t else noStr) = if t.kind == c then tokS s t else noStr
   rw [show tokS (s ++ endB) t = tokS s t from cut_left s endB _ _ (by omega)]
end Go.Proofs.YtfhpecgknmfnnaaDoor.M
end
section
namespace Go.Proofs.YtfhpecgknmfnnaaDoor.M
open Go.R
def tabs : Nat → ByteArray
 | 0 => ⟨#[]⟩
 | k + 1 => tabs k ++ (⟨#[9]⟩ : ByteArray)
theorem tabs_size : ∀ k, (tabs k).size = k
 | 0 => rfl
 | k + 1 => by
   show (tabs k ++ (⟨#[9]⟩ : ByteArray)).size = _
   rw [ByteArray.size_append, tabs_size k]
   rfl
theorem tabs_bt : ∀ (k i : Nat), i < k → blankB (Go.Proofs.YtfhpecgknmfnnaaDoorW.PrintWords.bt (tabs k) i)
 | 0, i, h => by omega
 | k + 1, i, h => by
   show blankB (Go.Proofs.YtfhpecgknmfnnaaDoorW.PrintWords.bt (tabs k ++ (⟨#[9]⟩ : ByteArray)) i)
   rcases Nat.lt_or_ge i k with q | q
   · rw [bt_left _ _ _ (by rw [tabs_size]; exact q)]
     exact tabs_bt k i q
   · have e := bt_right (tabs k) (⟨#[9]⟩ : ByteArray) 0
     rw [tabs_size, Nat.zero_add] at e
     rw [show i = k by omega, e]
     rfl
theorem rtw_ex {ok : Int → Int → Prop} {r r' : Req × Int × Int} (h : RTw ok r r') : r' = (r.1, r'.2.1, r.2.2) := by
 obtain ⟨h1, h2, _⟩ := h
 exact Prod.ext h1 (Prod.ext rfl h2)
theorem ahead_req (k : Nat) (s : ByteArray) (h : k + s.size ≤ 4096) : ∃ c p p' e, reqA s = (c, p, e) ∧ reqA (tabs k ++ s) = (c, p', e) ∧ (e ≠ 0 → p' = p + k) := by
 have := req_ahead (tabs k) s (fun i hi => tabs_bt k i (by rw [tabs_size] at hi; exact hi)) (by rw [tabs_size]; exact h)
 have hx := rtw_ex this
 rw [tabs_size] at this
 exact ⟨_, _, _, _, rfl, hx, this.2.2⟩
theorem behind_req (s : ByteArray) (h : s.size + 1 ≤ 4096) : ∃ q, reqA (s ++ endB) = ((reqA s).1, q, (reqA s).2.2) ∧ ((reqA s).2.2 ≠ 0 → okB s (reqA s).2.1 q) := by
 have := req_behind s h
 exact ⟨_, rtw_ex this, this.2.2⟩
theorem wrap_id {u : Int} (h0 : 0 ≤ u) (h1 : u ≤ 255) : IntKind.i64.wrap u = u := by
 rw [IntKind.wrap_i64]
 omega
abbrev law6S : Fs := .pureIf (g2p aStr aU8 fun s n => (s.size : Int) ≤ 9223372036854775807 ∧ 0 ≤ n ∧ n ≤ 255) (g2 aStr aU8 fun _ _ => vB true)
def inR (s : ByteArray) (r : Req × Int × Int) : Prop := 0 ≤ r.2.1 ∧ r.2.1 ≤ s.size
theorem ite_in {s : ByteArray} {c : Prop} [Decidable c] {a b : Req × Int × Int} (ha : inR s a) (hb : inR s b) : inR s (if c then a else b) := by
 split
 · exact ha
 · exact hb
theorem req_pos (s : ByteArray) : inR s (reqA s) := by
 have hT := allT_ok s
 have hr := fun he => all_range s he
 unfold reqA
 generalize hq : allT s = r at hT hr
 obtain ⟨T, q, e⟩ := r
 have hp : ∀ n, 0 ≤ posOf T s n ∧ posOf T s n ≤ s.size := fun n => pos_range hT n
 have p : ∀ (x : Req) n (e : Int), inR s (x, posOf T s n, e) := fun x n e => hp n
 have z : ∀ (x : Req) (e : Int), inR s (x, 0, e) := fun x e => ⟨Int.le_refl _, Int.natCast_nonneg _⟩
 have hc : ∀ (x : Req) n (e : Int), inR s (x, posOf T s n + (clauseA (restS s (posOf T s n))).2.1, e) := fun x n e => by
  have h1 := hp n
  have h2 := clauseA_rng (restS s (posOf T s n))
  have h3 := rest_le h1
  show 0 ≤ posOf T s n + (clauseA (restS s (posOf T s n))).2.1 ∧ posOf T s n + (clauseA (restS s (posOf T s n))).2.1 ≤ s.size
  omega
 have hl : ∀ (x : Req) n (e : Int), inR s (x, posOf T s n + (litA (restS s (posOf T s n))).2.1, e) := fun x n e => by
  have h1 := hp n
  have h2 := litA_rng (restS s (posOf T s n))
  have h3 := rest_le h1
  show 0 ≤ posOf T s n + (litA (restS s (posOf T s n))).2.1 ∧ posOf T s n + (litA (restS s (posOf T s n))).2.1 ≤ s.size
  omega
 have ha : ∀ l f n, inR s (asAns l f (posOf T s n) (clauseA (restS s (posOf T s n)))) := fun l f n => by
  unfold asAns
  exact ite_in (hc _ n _) (z _ _)
 have hli : ∀ k, inR s (liT k T s) := fun k => by
  unfold liT
  exact ite_in (hl _ 1 _) (z _ _)
 have has : inR s (asT T s) := by
  unfold asT
  exact ite_in (p _ 1 _) (ite_in (ite_in (p _ 3 _) (ha _ _ 4)) (ha _ _ 2))
 have hre : inR s (reT T s) := by
  unfold reT
  exact ite_in (p _ 1 _) (ite_in (p _ 2 _) (z _ _))
 have hau : inR s (auT T s) := by
  unfold auT
  exact ite_in (p _ 1 _) (z _ _)
 show inR s (if (e != 0) = true then (Req.z, q, e) else reqT T s)
 split
 · rename_i he
   exact hr (by simpa using he)
 · unfold reqT
   exact ite_in has (ite_in hre (ite_in (hli 3) (ite_in (hli 4) (ite_in hau (p _ 0 _)))))
set_option maxRecDepth 20000 in
set_option maxHeartbeats 8000000 in
theorem law6_ok : FsOk Tryd.prog 4 law6S := by
 refine of_Y2 (E := EqT.no _) (F := ((Ft.no.put 8 preqS).put 5 fixedS).put 9 rsameS) vS (fun n => .d (.v (.int .u8 n))) (fun _ _ => aStr_le) (fun _ _ h => by rw [aU8_eq h]; exact AV.le.refl _) Tryd.func4 rfl (by kernel_rfl) [.tmp 4] rfl Tryd.ntmps4 (by decide) ((((FtOk.no _).put preq_ok).put fixed_ok).put rsame_ok) ?_
 intro s u h n hp hok
 obtain ⟨hs, hu0, hu1⟩ := hp
 rcases Nat.lt_or_ge 2000 s.size with big | sm
 · have hb : decide ((2000 : Int) < s.size) = true := decide_eq_true (by omega)
   repeat' (first | (with_reducible first | refine XG_split (fun hq => ?_) (fun hq => ?_) | refine MX1.of 4000 (by simp) ?_ | refine MX2.of 4000 (by simp) ?_ | refine And.intro ?_ ?_) | ((with_reducible first | refine Or.inl (And.intro (And.intro mixedP ?_) ?_) | refine Or.inl (And.intro mixedP ?_)); kernel_rfl) | simp only [go_sem,Nat.reduceEqDiff,Nat.reduceAdd,Nat.reduceMul,Nat.reduceLeDiff,Int.reduceBEq,hb])
   all_goals first | omega | (unfold maxLen; omega) | (right; omega) | (left; simp; done) | (simp only [wk3,wkL2,wk2,wkL,wk1_d,wk1_own,wk1_nil,and_self]; done) | (intro i hi; simp only [upd]; (repeat' split); all_goals first | rfl | omega) | skip
 · have hb : decide ((2000 : Int) < s.size) = false := decide_eq_false (by omega)
   repeat' (first | (with_reducible first | refine XG_split (fun hq => ?_) (fun hq => ?_) | refine MX1.of 4000 (by simp) ?_ | refine MX2.of 4000 (by simp) ?_ | refine And.intro ?_ ?_) | ((with_reducible first | refine Or.inl (And.intro (And.intro mixedP ?_) ?_) | refine Or.inl (And.intro mixedP ?_)); kernel_rfl) | simp only [go_sem,Nat.reduceEqDiff,Nat.reduceAdd,Nat.reduceMul,Nat.reduceLeDiff,Int.reduceBEq,hb])
   all_goals first | omega | (unfold maxLen; omega) | (right; omega) | (left; simp; done) | (simp only [wk3,wkL2,wk2,wkL,wk1_d,wk1_own,wk1_nil,and_self]; done) | (intro i hi; simp only [upd]; (repeat' split); all_goals first | rfl | omega) | skip
   refine AW.loopJ (E := EqT.no _) (S := fun k : Nat => ⟨fr [(0, vS s), (1, .d (.v (.int .u8 u))), (4, vB false), (5, vS (tabs k)), (6, vI k)] (List.replicate 99 .any), h, n, n⟩) (I := fun k => (k : Int) ≤ Int.tmod u 20) (μ := fun k => (Int.tmod u 20).toNat - k) 0 ?_ ?_ 4000 (fun _ => by simp only [fr_len, List.length_replicate]; decide) ?_
   · show ((0 : Nat) : Int) ≤ Int.tmod u 20
     exact Int.tmod_nonneg _ hu0
   · exact Wk.same (by simp only [go_sem]; exact Or.inr (wk3_eq rfl)) hok (Nat.le_refl _) (by simp only [go_sem])
   · intro k hk
     have hk : (k : Int) ≤ Int.tmod u 20 := hk
     have hm : Int.tmod u 20 < 20 := Int.tmod_lt_of_pos _ (by decide)
     have hz := tabs_size k
     have f1 : (#[(9 : UInt8)]).size = 1 := rfl
     have f2 : (#[(32 : UInt8)]).size = 1 := rfl
     have hwr : IntKind.i64.wrap u = u := wrap_id hu0 hu1
     by_cases hkl : (k : Int) < Int.tmod u 20
     · repeat' (first | (with_reducible first | refine XG_split (fun hq => ?_) (fun hq => ?_) | refine MX1.of 4000 (by simp) ?_ | refine MX2.of 4000 (by simp) ?_ | refine And.intro ?_ ?_) | ((with_reducible first | refine Or.inl (And.intro (And.intro mixedP ?_) ?_) | refine Or.inl (And.intro mixedP ?_)); kernel_rfl) | simp only [go_sem,Nat.reduceEqDiff,Nat.reduceAdd,Nat.reduceMul,Nat.reduceLeDiff,Int.reduceBEq,hwr,decide_eq_true hkl])
       all_goals first | omega | (rw [f1,hz]; omega) | skip
       all_goals first | omega | (unfold maxLen; omega) | (right; omega) | (left; simp; done) | (simp only [wk3,wkL2,wk2,wkL,wk1_d,wk1_own,wk1_nil,and_self]; done) | (intro i hi; simp only [upd]; (repeat' split); all_goals first | rfl | omega) | skip
       exact ⟨k + 1, by show ((k + 1 : Nat) : Int) ≤ _; omega, Wk.same (by simp only [go_sem, tabs]) hok (Nat.le_refl _) (by simp only [go_sem]), by omega⟩
     · have hke : (k : Int) = Int.tmod u 20 := by omega
       have hsm := req_small s
       obtain ⟨c, p, p', e, hA, hB, hpos⟩ := ahead_req k s (by omega)
       obtain ⟨q, hC, hq⟩ := behind_req s (by omega)
       have hr : 0 ≤ (reqA s).2.1 ∧ (reqA s).2.1 ≤ s.size := req_pos s
       rw [hA] at hC hq hr hsm
       simp only at hC hq hr hsm
       have hC : reqA (s ++ (⟨#[32]⟩ : ByteArray)) = (c, q, e) := hC
       by_cases he : e = 0
       · subst he
         repeat' (first | (with_reducible first | refine XG_split (fun hq => ?_) (fun hq => ?_) | refine MX1.of 4000 (by simp) ?_ | refine MX2.of 4000 (by simp) ?_ | refine And.intro ?_ ?_) | ((with_reducible first | refine Or.inl (And.intro (And.intro mixedP ?_) ?_) | refine Or.inl (And.intro mixedP ?_)); kernel_rfl) | simp only [go_sem,Nat.reduceEqDiff,Nat.reduceAdd,Nat.reduceMul,Nat.reduceLeDiff,Int.reduceBEq,hwr,decide_eq_false hkl,hA,hB,hC,Req.av,Req.ds,eqB_self,bne_self_eq_false,beq_self_eq_true,hz])
         all_goals first | omega | (rw [f1]; omega) | (rw [f2]; omega) | exact hsm | skip
         all_goals first | omega | (unfold maxLen; omega) | (right; omega) | (left; simp; done) | (simp only [wk3,wkL2,wk2,wkL,wk1_d,wk1_own,wk1_nil,and_self]; done) | (intro i hi; simp only [upd]; (repeat' split); all_goals first | rfl | omega) | skip
       · have hb : (e == 0) = false := beq_false_of_ne he
         obtain rfl := hpos he
         rcases hq he with rfl | ⟨rfl, rfl⟩
         · repeat' (first | (with_reducible first | refine XG_split (fun hq => ?_) (fun hq => ?_) | refine MX1.of 4000 (by simp) ?_ | refine MX2.of 4000 (by simp) ?_ | refine And.intro ?_ ?_) | ((with_reducible first | refine Or.inl (And.intro (And.intro mixedP ?_) ?_) | refine Or.inl (And.intro mixedP ?_)); kernel_rfl) | simp only [go_sem,Nat.reduceEqDiff,Nat.reduceAdd,Nat.reduceMul,Nat.reduceLeDiff,Int.reduceBEq,hwr,decide_eq_false hkl,hA,hB,hC,hb,Req.av,Req.ds,eqB_self,bne_self_eq_false,beq_self_eq_true,hz])
           all_goals first | omega | (rw [f1]; omega) | (rw [f2]; omega) | exact hsm | skip
           all_goals first | omega | (unfold maxLen; omega) | (right; omega) | (left; simp; done) | (simp only [wk3,wkL2,wk2,wkL,wk1_d,wk1_own,wk1_nil,and_self]; done) | (intro i hi; simp only [upd]; (repeat' split); all_goals first | rfl | omega) | skip
         · have hx : ((s.size : Int) + 1 == s.size) = false := beq_false_of_ne (by omega)
           repeat' (first | (with_reducible first | refine XG_split (fun hq => ?_) (fun hq => ?_) | refine MX1.of 4000 (by simp) ?_ | refine MX2.of 4000 (by simp) ?_ | refine And.intro ?_ ?_) | ((with_reducible first | refine Or.inl (And.intro (And.intro mixedP ?_) ?_) | refine Or.inl (And.intro mixedP ?_)); kernel_rfl) | simp only [go_sem,Nat.reduceEqDiff,Nat.reduceAdd,Nat.reduceMul,Nat.reduceLeDiff,Int.reduceBEq,hwr,decide_eq_false hkl,hA,hB,hC,hb,hx,Req.av,Req.ds,eqB_self,bne_self_eq_false,beq_self_eq_true,hz])
           all_goals first | omega | (rw [f1]; omega) | (rw [f2]; omega) | exact hsm | skip
           all_goals first | omega | (unfold maxLen; omega) | (right; omega) | (left; simp; done) | (simp only [wk3,wkL2,wk2,wkL,wk1_d,wk1_own,wk1_nil,and_self]; done) | (intro i hi; simp only [upd]; (repeat' split); all_goals first | rfl | omega) | skip
abbrev law5S : Fs := .pureIf (g2p aReq aStr fun q s => allQ q ∧ (s.size : Int) ≤ 9223372036854775807) (g2 aReq aStr fun _ _ => vB true)
set_option maxRecDepth 20000 in
set_option maxHeartbeats 8000000 in
theorem law5_ok : FsOk Tryd.prog 3 law5S := by
 refine of_Y2 (E := EqT.no _) (F := (((((Ft.no.put 8 preqS).put 6 printQS).put 5 fixedS).put 9 rsameS).put 7 rcopyS).put 10 checkQS) Req.av vS (fun _ _ => aReq_le) (fun _ _ => aStr_le) Tryd.func3 rfl (by kernel_rfl) [.tmp 4] rfl Tryd.ntmps3 (by decide) (((((((FtOk.no _).put preq_ok).put printQ_ok).put fixed_ok).put rsame_ok).put rcopy_ok).put checkQ_ok) ?_
 intro q s h n hp hok
 obtain ⟨hq, hs⟩ := hp
 have hsm := all_small hq
 obtain ⟨hcp, hi, hz, hl⟩ := hq
 have a0 : (⟨q.kind, q.label, q.life, ⟨⟨q.clause.head.kind, ⟨q.clause.head.who.var, ⟨q.clause.head.who.val.sym, q.clause.head.who.val.num⟩⟩, q.clause.head.pred, q.clause.head.args⟩, q.clause.body⟩, q.no, ⟨q.lit.kind, ⟨q.lit.who.var, ⟨q.lit.who.val.sym, q.lit.who.val.num⟩⟩, q.lit.pred, q.lit.args⟩⟩ : Req) = q := rfl
 obtain ⟨t, e, hP⟩ : ∃ t e, printQ q = (t, e) := ⟨_, _, rfl⟩
 have hback : e = 0 → reqA t = (q, 0, 0) ∧ (t.size : Int) ≤ 9223372036854775807 := by
  rintro rfl
  have hc : checkQ q = true := by
   cases hc : checkQ q with
   | true => rfl
   | false => unfold printQ at hP; rw [hc] at hP; cases hP
  rcases print_fine hc hi with ⟨t', h1, h2, h3⟩ | h1
  · rw [hP] at h1
    cases h1
    exact ⟨h2, h3⟩
  · rw [hP] at h1
    cases h1
 have hxs := req_small s
 obtain ⟨x, p, g, hX⟩ : ∃ x p g, reqA s = (x, p, g) := ⟨_, _, _, rfl⟩
 rw [hX] at hxs
 have hxs : smallR x := hxs
 have a1 : (⟨x.kind, x.label, x.life, ⟨⟨x.clause.head.kind, ⟨x.clause.head.who.var, ⟨x.clause.head.who.val.sym, x.clause.head.who.val.num⟩⟩, x.clause.head.pred, x.clause.head.args⟩, x.clause.body⟩, x.no, ⟨x.lit.kind, ⟨x.lit.who.var, ⟨x.lit.who.val.sym, x.lit.who.val.num⟩⟩, x.lit.pred, x.lit.args⟩⟩ : Req) = x := rfl
 have second : g = 0 → checkQ x = true ∧ reqI x ∧ szQ x ∧ ((∃ u, printQ x = (u, 0) ∧ reqA u = (x, 0, 0) ∧ (u.size : Int) ≤ 9223372036854775807) ∨ printQ x = (noStr, 2)) := by
  rintro rfl
  have hf := fine_read hX
  exact ⟨hf.1, hf.2.1, hf.2.2.1, print_fine hf.1 hf.2.1⟩
 obtain ⟨y0, p0, i0, hY0⟩ : ∃ y p i, reqA (⟨#[]⟩ : ByteArray) = (y, p, i) := ⟨_, _, _, rfl⟩
 have hz0 : (0 : Int) ≤ 9223372036854775807 := by decide
 by_cases he : e = 0
 · obtain ⟨hT, hTs⟩ := hback he
   subst he
   by_cases hg : g = 0
   · obtain ⟨k1, k2, k3, k4⟩ := second hg
     subst hg
     rcases k4 with ⟨u, k4, k5, k6⟩ | k4
     · repeat' (first | (with_reducible first | refine XG_split (fun hq => ?_) (fun hq => ?_) | refine MX1.of 4000 (by simp) ?_ | refine MX2.of 4000 (by simp) ?_ | refine And.intro ?_ ?_) | ((with_reducible first | refine Or.inl (And.intro (And.intro mixedP ?_) ?_) | refine Or.inl (And.intro mixedP ?_)); kernel_rfl) | simp only [go_sem,Nat.reduceEqDiff,Nat.reduceAdd,Nat.reduceMul,Nat.reduceLeDiff,Int.reduceBEq,Req.av,Req.ds,a0,a1,hP,hX,eqB_self,bne_self_eq_false,beq_self_eq_true,noStr,hT,k1,k4,k5])
       all_goals first | omega | exact hs | exact hcp | exact ⟨hi,hz⟩ | exact hsm | exact hxs | exact ⟨k2,k3⟩ | exact k3 | skip
       all_goals first | omega | (unfold maxLen; omega) | (right; omega) | (left; simp; done) | (simp only [wk3,wkL2,wk2,wkL,wk1_d,wk1_own,wk1_nil,and_self]; done) | (intro i hi; simp only [upd]; (repeat' split); all_goals first | rfl | omega) | skip
     · repeat' (first | (with_reducible first | refine XG_split (fun hq => ?_) (fun hq => ?_) | refine MX1.of 4000 (by simp) ?_ | refine MX2.of 4000 (by simp) ?_ | refine And.intro ?_ ?_) | ((with_reducible first | refine Or.inl (And.intro (And.intro mixedP ?_) ?_) | refine Or.inl (And.intro mixedP ?_)); kernel_rfl) | simp only [go_sem,Nat.reduceEqDiff,Nat.reduceAdd,Nat.reduceMul,Nat.reduceLeDiff,Int.reduceBEq,Req.av,Req.ds,a0,a1,hP,hX,eqB_self,bne_self_eq_false,beq_self_eq_true,noStr,hT,k1,k4,hY0])
       all_goals first | omega | exact hs | exact hcp | exact ⟨hi,hz⟩ | exact hsm | exact hxs | exact ⟨k2,k3⟩ | exact k3 | skip
       all_goals first | omega | (unfold maxLen; omega) | (right; omega) | (left; simp; done) | (simp only [wk3,wkL2,wk2,wkL,wk1_d,wk1_own,wk1_nil,and_self]; done) | (intro i hi; simp only [upd]; (repeat' split); all_goals first | rfl | omega) | skip
   · have hb : (g != 0) = true := by simpa using hg
     repeat' (first | (with_reducible first | refine XG_split (fun hq => ?_) (fun hq => ?_) | refine MX1.of 4000 (by simp) ?_ | refine MX2.of 4000 (by simp) ?_ | refine And.intro ?_ ?_) | ((with_reducible first | refine Or.inl (And.intro (And.intro mixedP ?_) ?_) | refine Or.inl (And.intro mixedP ?_)); kernel_rfl) | simp only [go_sem,Nat.reduceEqDiff,Nat.reduceAdd,Nat.reduceMul,Nat.reduceLeDiff,Int.reduceBEq,Req.av,Req.ds,a0,a1,hP,hX,eqB_self,bne_self_eq_false,beq_self_eq_true,noStr,hT,hb])
     all_goals first | omega | exact hs | exact hcp | exact ⟨hi,hz⟩ | exact hsm | exact hxs | exact ⟨k2,k3⟩ | exact k3 | skip
     all_goals first | omega | (unfold maxLen; omega) | (right; omega) | (left; simp; done) | (simp only [wk3,wkL2,wk2,wkL,wk1_d,wk1_own,wk1_nil,and_self]; done) | (intro i hi; simp only [upd]; (repeat' split); all_goals first | rfl | omega) | skip
 · have hb1 : (e == 0) = false := beq_false_of_ne he
   by_cases hg : g = 0
   · obtain ⟨k1, k2, k3, k4⟩ := second hg
     subst hg
     rcases k4 with ⟨u, k4, k5, k6⟩ | k4
     · repeat' (first | (with_reducible first | refine XG_split (fun hq => ?_) (fun hq => ?_) | refine MX1.of 4000 (by simp) ?_ | refine MX2.of 4000 (by simp) ?_ | refine And.intro ?_ ?_) | ((with_reducible first | refine Or.inl (And.intro (And.intro mixedP ?_) ?_) | refine Or.inl (And.intro mixedP ?_)); kernel_rfl) | simp only [go_sem,Nat.reduceEqDiff,Nat.reduceAdd,Nat.reduceMul,Nat.reduceLeDiff,Int.reduceBEq,Req.av,Req.ds,a0,a1,hP,hX,eqB_self,bne_self_eq_false,beq_self_eq_true,noStr,hb1,k1,k4,k5])
       all_goals first | omega | exact hs | exact hcp | exact ⟨hi,hz⟩ | exact hsm | exact hxs | exact ⟨k2,k3⟩ | exact k3 | skip
       all_goals first | omega | (unfold maxLen; omega) | (right; omega) | (left; simp; done) | (simp only [wk3,wkL2,wk2,wkL,wk1_d,wk1_own,wk1_nil,and_self]; done) | (intro i hi; simp only [upd]; (repeat' split); all_goals first | rfl | omega) | skip
     · repeat' (first | (with_reducible first | refine XG_split (fun hq => ?_) (fun hq => ?_) | refine MX1.of 4000 (by simp) ?_ | refine MX2.of 4000 (by simp) ?_ | refine And.intro ?_ ?_) | ((with_reducible first | refine Or.inl (And.intro (And.intro mixedP ?_) ?_) | refine Or.inl (And.intro mixedP ?_)); kernel_rfl) | simp only [go_sem,Nat.reduceEqDiff,Nat.reduceAdd,Nat.reduceMul,Nat.reduceLeDiff,Int.reduceBEq,Req.av,Req.ds,a0,a1,hP,hX,eqB_self,bne_self_eq_false,beq_self_eq_true,noStr,hb1,k1,k4,hY0])
       all_goals first | omega | exact hs | exact hcp | exact ⟨hi,hz⟩ | exact hsm | exact hxs | exact ⟨k2,k3⟩ | exact k3 | skip
       all_goals first | omega | (unfold maxLen; omega) | (right; omega) | (left; simp; done) | (simp only [wk3,wkL2,wk2,wkL,wk1_d,wk1_own,wk1_nil,and_self]; done) | (intro i hi; simp only [upd]; (repeat' split); all_goals first | rfl | omega) | skip
   · have hb : (g != 0) = true := by simpa using hg
     repeat' (first | (with_reducible first | refine XG_split (fun hq => ?_) (fun hq => ?_) | refine MX1.of 4000 (by simp) ?_ | refine MX2.of 4000 (by simp) ?_ | refine And.intro ?_ ?_) | ((with_reducible first | refine Or.inl (And.intro (And.intro mixedP ?_) ?_) | refine Or.inl (And.intro mixedP ?_)); kernel_rfl) | simp only [go_sem,Nat.reduceEqDiff,Nat.reduceAdd,Nat.reduceMul,Nat.reduceLeDiff,Int.reduceBEq,Req.av,Req.ds,a0,a1,hP,hX,eqB_self,bne_self_eq_false,beq_self_eq_true,noStr,hb1,hb])
     all_goals first | omega | exact hs | exact hcp | exact ⟨hi,hz⟩ | exact hsm | exact hxs | exact ⟨k2,k3⟩ | exact k3 | skip
     all_goals first | omega | (unfold maxLen; omega) | (right; omega) | (left; simp; done) | (simp only [wk3,wkL2,wk2,wkL,wk1_d,wk1_own,wk1_nil,and_self]; done) | (intro i hi; simp only [upd]; (repeat' split); all_goals first | rfl | omega) | skip
end Go.Proofs.YtfhpecgknmfnnaaDoor.M
end
section
namespace Go.Proofs.YtfhpecgknmfnnaaDoor.M
open Go.R Go.ChangeShapes Go.WideShapes Go.RowKit
section
variable {w : World} {v0 v1 : Value}
theorem args2 {x0 x1 : AV} (h0 : ARep (Cx.fast w) AH.none w v0 x0) (h1 : ARep (Cx.fast w) AH.none w v1 x1) : ∀ (j : Nat) v x, [v0, v1][j]? = some v → [x0, x1][j]? = some x → ARep (Cx.fast w) AH.none w v x := by
 intro j v x hv hx
 cases j with
 | zero =>
   cases hv
   cases hx
   exact h0
 | succ j =>
   cases j with
   | zero =>
     cases hv
     cases hx
     exact h1
   | succ j => simp at hv
theorem back_calls {q : Req} (h0 : ARep (Cx.fast w) AH.none w v0 q.av) (q0 : reqQ q 1048576) (s : ByteArray) (h1 : s.size ≤ maxLen) (hL : laidMet Tryd.prog laidRow w) :
 Calls Tryd.prog 3 #[v0, .string s] w fun e w' => e = .returned (.bool true) ∧ Below w.heap.size w w' :=
 calls_of_fs (vals := [v0, .string s]) (args := [q.av, vS s]) law5_ok rfl (args2 h0 (.d _ _ (.v _ rfl))) (by
  simp only [go_sem, Req.av, Req.ds]
  unfold maxLen at h1
  exact ⟨allQ_of q0, by omega⟩) (by simp only [go_sem, Req.av, Req.ds]) (laid_all hL)
theorem blanks_calls (s : ByteArray) (h0 : s.size ≤ maxLen) (u : Int) (h1 : (Go.Lit.int .u8 u).wf = true) (hL : laidMet Tryd.prog laidRow w) :
 Calls Tryd.prog 4 #[.string s, .int .u8 u] w fun e w' => e = .returned (.bool true) ∧ Below w.heap.size w w' :=
 calls_of_fs (vals := [.string s, .int .u8 u]) (args := [vS s, .d (.v (.int .u8 u))]) law6_ok rfl (args2 (.d _ _ (.v _ rfl)) (.d _ _ (.v _ rfl))) (by
  have hx : 0 ≤ u ∧ u ≤ 255 := by simpa [Go.Lit.wf, IntKind.min, IntKind.max, IntKind.signed, IntKind.bits] using h1
  intro v hv x hx'
  cases hv
  cases hx'
  unfold maxLen at h0
  exact ⟨by omega, hx⟩) rfl (laid_all hL)
end
end Go.Proofs.YtfhpecgknmfnnaaDoor.M
end
