import Derived.Test.YtdhocmakbapfpaaS9
import Derived.Test.YtdhocmakbapfpaaRows
import Derived.Deep.Slices
import Derived.Carry
import Derived.Test.YtdhocmakbapfpaaS8
set_option linter.unusedVariables false
set_option linter.unusedSimpArgs false
section
namespace Go.R
open Go.RowKit Go.ChangeShapes Go.WideShapes
open Go.Proofs.Ytdhocmakbapfpaa.Rows (uptoBulk uptoBulkAll)
section
variable {H : Type}
theorem bulk_one (d : DataW H) : 1 ≤ uptoBulk d := by
 cases d with
 | lit l => cases l <;> simp [uptoBulk]
 | nil => simp [uptoBulk]
 | ptr d => simp [uptoBulk]
 | slice elems spare => simp [uptoBulk]
 | agg parts => simp [uptoBulk]
 | iface t d => simp [uptoBulk]
 | map entries => simp [uptoBulk]
 | held h => simp [uptoBulk]
theorem bulk_part {d : DataW H} {l : List (DataW H)} (h : d ∈ l) : uptoBulk d ≤ uptoBulkAll l := by
 induction l with
 | nil => cases h
 | cons x r ih =>
   simp only [uptoBulkAll]
   cases List.mem_cons.1 h with
   | inl e => subst e; omega
   | inr e => have := ih e; omega
theorem bulk_len (l : List (DataW H)) : l.length ≤ uptoBulkAll l := by
 induction l with
 | nil => simp [uptoBulkAll]
 | cons x r ih => have := bulk_one x; simp only [uptoBulkAll, List.length_cons]; omega
end
structure Opens (P : Program) (t : TypeId) {α : Type} (c : α → List DV) (Q : α → Nat → Prop) : Prop where
 mono : ∀ a m n, Q a m → m ≤ n → Q a n
 get : ∀ {H : Type} (enc : TypeId × Value → H) (w : World) (held : Bool) (fuel : Nat) (cs : List Value) (x : DataW H × List MemPlace), DataW.trod enc P w 0 (fun _ => true) held fuel t cs = some x →
  ∃ a, cs.length = (c a).length ∧ Q a (uptoBulk x.1) ∧ ∀ (j : Nat) v y, cs[j]? = some v → (c a)[j]? = some y → DRep (Cx.fast w) w v y
structure OpensF (P : Program) (fs : List Field) (k : Nat) {α : Type} (c : α → List DV) (Q : α → Nat → Prop) : Prop where
 mono : ∀ a m n, Q a m → m ≤ n → Q a n
 get : ∀ {H : Type} (enc : TypeId × Value → H) (w : World) (held : Bool) (n : Nat) (cs : List Value) (xs : List (DataW H × List MemPlace)), xs.length = fs.length →
  (∀ (i : Nat) (f : Field), fs[i]? = some f → DataW.trod enc P w 0 (fun _ => true) held n f.type ((cs.drop f.offset).take (P.cellsOf f.type)) = xs[i]?) →
  ∃ a, Q a (uptoBulkAll (xs.map (·.1))) ∧ ∀ (j : Nat) v y, cs[k + j]? = some v → (c a)[j]? = some y → DRep (Cx.fast w) w v y
section
variable {P : Program} {t e : TypeId} {α β : Type}
theorem opens_string (ht : P.underlying t = some .string) : Opens P t (fun s : ByteArray => [.v (.string s)]) (fun s n => s.size ≤ n) where
 mono := fun a m n h h' => Nat.le_trans h h'
 get := fun enc w held fuel cs x h => by
  obtain ⟨s, rfl, rfl, _⟩ := DataW.trod_string ht h
  refine ⟨s, rfl, ?_, fun j v y hv hy => ?_⟩
  · have : s.data.toList.length = s.size := by rw [Array.length_toList]; rfl
    show s.size ≤ uptoBulk (.lit (.string s.data.toList))
    simp only [uptoBulk]
    omega
  · cases j with
    | zero =>
      cases hv
      cases hy
      exact .v _ rfl
    | succ j => cases hv
theorem opens_int {k : IntKind} (ht : P.underlying t = some (.int k)) : Opens P t (fun n : Int => [.v (.int k n)]) (fun n _ => k.min ≤ n ∧ n ≤ k.max) where
 mono := fun a m n h _ => h
 get := fun enc w held fuel cs x h => by
  obtain ⟨n, rfl, rfl, hw⟩ := DataW.trod_int ht h
  refine ⟨n, rfl, ?_, fun j v y hv hy => ?_⟩
  · simpa [Go.Lit.wf] using hw
  · cases j with
    | zero =>
      cases hv
      cases hy
      exact .v _ rfl
    | succ j => cases hv
theorem Opens.map {c : α → List DV} {Q : α → Nat → Prop} (h : Opens P t c Q) {c' : β → List DV} {Q' : β → Nat → Prop} (g : α → β) (hc : ∀ a, c' (g a) = c a) (hm : ∀ a m n, Q' a m → m ≤ n → Q' a n) (hQ : ∀ a n, Q a n → Q' (g a) n) : Opens P t c' Q' where
 mono := hm
 get := fun enc w held fuel cs x ht => by
  obtain ⟨a, h1, h2, h3⟩ := h.get enc w held fuel cs x ht
  exact ⟨g a, by rw [hc]; exact h1, hQ _ _ h2, fun j v y hv hy => h3 j v y hv (by rw [← hc]; exact hy)⟩
theorem opensF_nil (k : Nat) : OpensF P [] k (fun _ : Unit => []) (fun _ _ => True) where
 mono := fun _ _ _ h _ => h
 get := fun enc w held n cs xs _ _ => ⟨(), trivial, fun j v y _ hy => by simp at hy⟩
theorem opensF_cons {f : Field} {fs : List Field} {k z : Nat} {c : α → List DV} {Q : α → Nat → Prop} {c' : β → List DV} {Q' : β → Nat → Prop} (h : Opens P f.type c Q) (ho : f.offset = k) (hz : P.cellsOf f.type = z) (hc : ∀ a, (c a).length = z) (hr : OpensF P fs (k + z) c' Q') :
 OpensF P (f :: fs) k (fun x : α × β => c x.1 ++ c' x.2) (fun x n => Q x.1 n ∧ Q' x.2 n) where
 mono := fun a m n ha hn => ⟨h.mono _ _ _ ha.1 hn, hr.mono _ _ _ ha.2 hn⟩
 get := fun enc w held n cs xs hl hx => by
  cases xs with
  | nil => simp at hl
  | cons x xs =>
    have h0 := hx 0 f rfl
    rw [ho, hz] at h0
    obtain ⟨a, h1, h2, h3⟩ := h.get enc w held n _ x h0
    obtain ⟨b, h4, h5⟩ := hr.get enc w held n cs xs (by simpa using hl) (fun i f hf => by simpa using hx (i + 1) f (by simpa using hf))
    refine ⟨(a, b), ⟨h.mono _ _ _ h2 ?_, hr.mono _ _ _ h4 ?_⟩, fun j v y hv hy => ?_⟩
    · simp only [List.map_cons, uptoBulkAll]; omega
    · simp only [List.map_cons, uptoBulkAll]; omega
    · rcases Nat.lt_or_ge j z with hj | hj
      · rw [List.getElem?_append_left (by rw [hc]; exact hj)] at hy
        refine h3 j v y ?_ hy
        rw [List.getElem?_take_of_lt hj, List.getElem?_drop]
        exact hv
      · rw [List.getElem?_append_right (by rw [hc]; exact hj), hc] at hy
        refine h5 (j - z) v y ?_ hy
        rw [show k + z + (j - z) = k + j by omega]
        exact hv
theorem opens_struct {fs : Array Field} {c : α → List DV} {Q : α → Nat → Prop} (ht : P.underlying t = some (.struct fs)) (h : OpensF P fs.toList 0 c Q) (hc : ∀ a, (c a).length = P.cellsOf t) : Opens P t c Q where
 mono := h.mono
 get := fun enc w held fuel cs x hx => by
  obtain ⟨xs, n, _, rfl, hl, hn, hf⟩ := DataW.trod_struct ht hx
  obtain ⟨a, h1, h2⟩ := h.get enc w held n cs xs (by simpa using hn) (fun i f hi => hf i f (by simpa using hi))
  refine ⟨a, by rw [hl, hc], h.mono _ _ _ h1 ?_, fun j v y hv hy => h2 j v y (by rw [Nat.zero_add]; exact hv) hy⟩
  simp only [uptoBulk]
  omega
theorem opens_slice [Inhabited α] {z : Nat} {c : α → List DV} {Q : α → Nat → Prop} (ht : P.underlying t = some (.slice e)) (hz : P.cellsOf e = z) (h0 : 0 < z) (hc : ∀ a, (c a).length = z) (he : Opens P e c Q) :
 Opens P t (fun l : List α => [.sl z (l.map c)]) (fun l n => l.length ≤ n ∧ ∀ a ∈ l, Q a n) where
 mono := fun l m n h hn => ⟨Nat.le_trans h.1 hn, fun a ha => he.mono _ _ _ (h.2 a ha) hn⟩
 get := fun enc w held fuel cs x hx => by
  rcases Go.Deep.open_slice ht hx with ⟨rfl, rfl⟩ | ⟨a, len, cap, m, n, D, Pl, rfl, hb, hlc, hcm, hm, rfl, hel⟩
  · refine ⟨[], rfl, ⟨Nat.zero_le _, fun a ha => absurd ha List.not_mem_nil⟩, fun j v y hv hy => ?_⟩
    cases j with
    | zero =>
      cases hv
      cases hy
      exact .sl none 0 z [] (fun _ _ => undef) (Nat.le_refl _) (fun _ h => absurd h List.not_mem_nil) (fun a h => by cases h) (fun _ => ⟨rfl, rfl⟩) (fun a h => by cases h) (fun i j row x h => by simp at h)
    | succ j => cases hv
  · have hm : m = cap := by simpa using hm
    subst hm
    rw [hz] at hel
    have hone : ∀ i, i < len → ∃ y : α × List Value, w.cells? 0 (a.add (i * z)) z = some y.2 ∧ y.2.length = (c y.1).length ∧ Q y.1 (uptoBulk (D i)) ∧ ∀ (j : Nat) v x, y.2[j]? = some v → (c y.1)[j]? = some x → DRep (Cx.fast w) w v x := fun i hi => by
     obtain ⟨cs', h1, h2⟩ := hel i (by omega)
     obtain ⟨b, h3, h4, h5⟩ := he.get enc w held n cs' _ h2
     exact ⟨(b, cs'), h1, h3, h4, h5⟩
    obtain ⟨Y, hY⟩ := Go.Deep.choose_lt hone
    have hsp : a.spot = none ∨ m = 0 := by
     rcases Nat.eq_zero_or_pos m with q | q
     · exact .inr q
     · left
       obtain ⟨cs', h1, _⟩ := hel 0 q
       obtain ⟨_, h3, h4⟩ := World.cells?_some h1
       have h5 := h4 0 h0
       rw [Nat.zero_mul, Go.Deep.add_add] at h5
       have h6 : w.cell? (a.add (0 + 0)) = some cs'[0] := by rw [h5]; exact List.getElem?_eq_getElem (by omega)
       have e : a.add (0 + 0) = a := by simp [Addr.add]
       rw [e] at h6
       unfold World.cell? at h6
       split at h6
       · split at h6
         · cases h6
         · rename_i hs
           cases hq : a.spot with
           | none => rfl
           | some s => simp [hq] at hs
       · cases h6
    refine ⟨(List.range len).map fun i => (Y i).1, rfl, ⟨?_, fun b hb' => ?_⟩, fun j v y hv hy => ?_⟩
    · rw [List.length_map, List.length_range]
      have := bulk_len ((List.range len).map D)
      rw [List.length_map, List.length_range] at this
      simp only [uptoBulk]
      omega
    · obtain ⟨i, hi, rfl⟩ := List.mem_map.1 hb'
      refine he.mono _ _ _ (hY i (List.mem_range.1 hi)).2.2.1 ?_
      have := bulk_part (List.mem_map_of_mem (f := D) hi)
      simp only [uptoBulk]
      omega
    · cases j with
      | succ j => cases hv
      | zero =>
        cases hv
        cases hy
        have hll : (((List.range len).map fun i => (Y i).1).map c).length = len := by simp
        have key := DRep.sl (c := Cx.fast w) (w := w) (some a) m z (((List.range len).map fun i => (Y i).1).map c) (fun i j => (Y i).2.getD j undef) (by rw [hll]; exact hlc)
         (fun row hr => by
           obtain ⟨b, _, rfl⟩ := List.mem_map.1 hr
           exact hc b)
         (fun a' ha => by cases ha; exact hsp) (fun h => by cases h)
         (fun a' ha i j row x hi hj => by
           cases ha
           have hil : i < len := by
            have := (List.getElem?_eq_some_iff.1 hi).1
            rwa [hll] at this
           have hrow : row = c (Y i).1 := by simpa [hil] using hi.symm
           subst hrow
           have hjz : j < z := by
            have := (List.getElem?_eq_some_iff.1 hj).1
            rwa [hc] at this
           have hsp' := hsp.resolve_right (by omega)
           obtain ⟨_, h3, h4⟩ := World.cells?_some (hY i hil).1
           have h5 := h4 j hjz
           rw [Go.Deep.add_add, addr_add' hsp', ← Nat.add_assoc] at h5
           have h6 : w.cell? ⟨a.block, a.off + i * z + j, none⟩ = some ((Y i).2.getD j undef) := by
            rw [h5, List.getD_eq_getElem?_getD, List.getElem?_eq_getElem (by omega)]
            rfl
           refine ⟨h6, ?_⟩
           have hlt : a.block < w.heap.size := by
            unfold World.cell? at h6
            split at h6
            · rename_i hh
              exact (Array.getElem?_eq_some_iff.1 hh).1
            · cases h6
           unfold Cx.lo Cx.fast
           simp only [hlt, if_true])
         (fun i j row x hi hj => by
           have hil : i < len := by
            have := (List.getElem?_eq_some_iff.1 hi).1
            rwa [hll] at this
           have hrow : row = c (Y i).1 := by simpa [hil] using hi.symm
           subst hrow
           have hjl : j < (Y i).2.length := by
            rw [(hY i hil).2.1]
            exact (List.getElem?_eq_some_iff.1 hj).1
           refine (hY i hil).2.2.2 j _ x ?_ hj
           rw [List.getD_eq_getElem?_getD, List.getElem?_eq_getElem hjl]
           rfl)
        rw [hll] at key
        exact key
theorem opens_arg {fs : Array Field} {c : α → List DV} {Q : α → Nat → Prop} (h : Opens P t c Q) (ht : P.underlying t = some (.struct fs)) {H : Type} {enc : TypeId × Value → H} {w : World} {base : Nat} {v : Value} {d : DataW H} {ps : List MemPlace}
 (hval : Value.okWide P w .any base t v) (hd : DataW.Trod enc P w 0 (fun _ => true) true t v d ps) : ∃ a, Q a (uptoBulk d) ∧ ARep (Cx.fast w) AH.none w v (.agg ((c a).map .d)) := by
 unfold Value.okWide at hval
 rw [ht] at hval
 obtain ⟨cs, rfl, _, _⟩ := hval
 obtain ⟨fuel, hf⟩ := hd
 obtain ⟨a, h1, h2, h3⟩ := h.get enc w true fuel _ _ hf
 have hcs : (Value.agg cs).cells.toList = cs.toList := rfl
 rw [hcs] at h1 h3
 refine ⟨a, h2, ?_⟩
 have := ARep.agg (c := Cx.fast w) (h := AH.none) (w := w) cs.toList ((c a).map .d) (by rw [List.length_map]; exact h1) (fun j v x hv hx => by
  rw [List.getElem?_map] at hx
  cases hy : (c a)[j]? with
  | none => rw [hy] at hx; cases hx
  | some y =>
    rw [hy] at hx
    cases hx
    exact .d _ _ (h3 j v y hv hy))
 exact this
theorem arg_again {H : Type} {enc : TypeId × Value → H} (hl : laidOutB P = true) (hr : P.readableRec t = true) (hrow : t < P.types.size) {W W' : World} {v : Value} {d : DataW H} {ps before : List MemPlace}
 (h : DataW.Trod enc P W 0 (fun _ => true) true t v d ps) (hb : Below W.heap.size W W') (hlt : ∀ x ∈ ps, x.block < W.heap.size) (hin : ∀ x ∈ ps, x ∈ before) (sp : Nat → Bool) (hs : ∀ p ∈ before, sp p.block = true) :
 DataW.Trod enc P W' 0 sp true t v d ps :=
 WideElems.Trod_stays hl hr hrow h (fun x hx => hb.same (hlt x hx)) (fun x hx => hs x (hin x hx))
end
end Go.R
end
section
namespace Go.Proofs.Ytdhocmakbapfpaa.M
open Go.R Go.ChangeShapes Go.WideShapes
open Go.Proofs.Ytdhocmakbapfpaa.Rows (uptoBulk uptoBulkAll)
instance : Inhabited Term := ⟨Term.z⟩
instance : Inhabited Lit := ⟨Lit.z⟩
def valQ (v : Val) (n : Nat) : Prop := v.sym.size ≤ n ∧ (-9223372036854775808 ≤ v.num ∧ v.num ≤ 9223372036854775807)
def termQ (t : Term) (n : Nat) : Prop := t.var.size ≤ n ∧ valQ t.val n
def litQ (l : Lit) (n : Nat) : Prop := (0 ≤ l.kind ∧ l.kind ≤ 255) ∧ termQ l.who n ∧ l.pred.size ≤ n ∧ l.args.length ≤ n ∧ ∀ t ∈ l.args, termQ t n
def clauseQ (c : Clause) (n : Nat) : Prop := litQ c.head n ∧ c.body.length ≤ n ∧ ∀ l ∈ c.body, litQ l n
theorem valQ_mono (v : Val) (m n : Nat) (h : valQ v m) (hn : m ≤ n) : valQ v n := ⟨Nat.le_trans h.1 hn, h.2⟩
theorem termQ_mono (t : Term) (m n : Nat) (h : termQ t m) (hn : m ≤ n) : termQ t n := ⟨Nat.le_trans h.1 hn, valQ_mono _ _ _ h.2 hn⟩
theorem litQ_mono (l : Lit) (m n : Nat) (h : litQ l m) (hn : m ≤ n) : litQ l n :=
 ⟨h.1, termQ_mono _ _ _ h.2.1 hn, Nat.le_trans h.2.2.1 hn, Nat.le_trans h.2.2.2.1 hn, fun t ht => termQ_mono _ _ _ (h.2.2.2.2 t ht) hn⟩
theorem clauseQ_mono (c : Clause) (m n : Nat) (h : clauseQ c m) (hn : m ≤ n) : clauseQ c n := ⟨litQ_mono _ _ _ h.1 hn, Nat.le_trans h.2.1 hn, fun l hl => litQ_mono _ _ _ (h.2.2 l hl) hn⟩
theorem cells_val : Try.prog.cellsOf 23 = 2 := by kernel_rfl
theorem cells_term : Try.prog.cellsOf 25 = 3 := by kernel_rfl
theorem cells_lit : Try.prog.cellsOf 28 = 6 := by kernel_rfl
theorem cells_clause : Try.prog.cellsOf 31 = 7 := by kernel_rfl
theorem opens_val : Opens Try.prog 23 Val.cells valQ :=
 (opens_struct Try.underlying23 (opensF_cons (opens_string Try.underlying9) rfl (by kernel_rfl) (fun _ => rfl) (opensF_cons (opens_int Try.underlying2) rfl (by kernel_rfl) (fun _ => rfl) (opensF_nil _)))
   (fun _ => cells_val.symm)).map (fun x => ⟨x.1, x.2.1⟩) (fun _ => rfl) valQ_mono (fun x n h => ⟨h.1, h.2.1⟩)
theorem opens_term : Opens Try.prog 25 Term.cells termQ :=
 (opens_struct Try.underlying25 (opensF_cons (opens_string Try.underlying9) rfl (by kernel_rfl) (fun _ => rfl) (opensF_cons opens_val rfl cells_val (fun _ => rfl) (opensF_nil _)))
   (fun _ => cells_term.symm)).map (fun x => ⟨x.1, x.2.1⟩) (fun _ => rfl) termQ_mono (fun x n h => ⟨h.1, h.2.1⟩)
theorem opens_lit : Opens Try.prog 28 Lit.cells litQ :=
 (opens_struct Try.underlying28 (opensF_cons (opens_int Try.underlying5) rfl (by kernel_rfl) (fun _ => rfl) (opensF_cons opens_term rfl cells_term (fun _ => rfl)
   (opensF_cons (opens_string Try.underlying9) rfl (by kernel_rfl) (fun _ => rfl) (opensF_cons (opens_slice Try.underlying26 cells_term (by decide) (fun _ => rfl) opens_term) rfl (by kernel_rfl) (fun _ => rfl) (opensF_nil _)))))
   (fun _ => cells_lit.symm)).map (fun x => ⟨x.1, x.2.1, x.2.2.1, x.2.2.2.1⟩) (fun _ => rfl) litQ_mono (fun x n h => ⟨h.1, h.2.1, h.2.2.1, h.2.2.2.1⟩)
theorem opens_clause : Opens Try.prog 31 Clause.cells clauseQ :=
 (opens_struct Try.underlying31 (opensF_cons opens_lit rfl cells_lit (fun _ => rfl) (opensF_cons (opens_slice Try.underlying29 cells_lit (by decide) (fun _ => rfl) opens_lit) rfl (by kernel_rfl) (fun _ => rfl) (opensF_nil _)))
   (fun _ => cells_clause.symm)).map (fun x => ⟨x.1, x.2.1⟩) (fun _ => rfl) clauseQ_mono (fun x n h => ⟨h.1, h.2.1⟩)
section
variable {H : Type} {enc : TypeId × Value → H} {w : World} {base : Nat} {v : Value} {d : DataW H} {ps : List MemPlace}
set_option maxRecDepth 100000 in
theorem open_lit (hval : Value.okWide Try.prog w .any base 28 v) (hd : DataW.Trod enc Try.prog w 0 (fun _ => true) true 28 v d ps) : ∃ l : Lit, litQ l (uptoBulk d) ∧ ARep (Cx.fast w) AH.none w v l.av := by
 obtain ⟨a, h1, h2⟩ := opens_arg opens_lit Try.underlying28 hval hd
 exact ⟨a, h1, h2⟩
set_option maxRecDepth 100000 in
theorem open_clause (hval : Value.okWide Try.prog w .any base 31 v) (hd : DataW.Trod enc Try.prog w 0 (fun _ => true) true 31 v d ps) : ∃ c : Clause, clauseQ c (uptoBulk d) ∧ ARep (Cx.fast w) AH.none w v c.av := by
 obtain ⟨a, h1, h2⟩ := opens_arg opens_clause Try.underlying31 hval hd
 exact ⟨a, h1, h2⟩
end
theorem laid : laidOutB Try.prog = true := by kernel_rfl
theorem read_lit : Try.prog.readableRec 28 = true := by kernel_rfl
theorem read_clause : Try.prog.readableRec 31 = true := by kernel_rfl
theorem row_lit : 28 < Try.prog.types.size := of_decide_eq_true (by kernel_rfl)
theorem row_clause : 31 < Try.prog.types.size := of_decide_eq_true (by kernel_rfl)
end Go.Proofs.Ytdhocmakbapfpaa.M
end
section
namespace Go.Proofs.Ytdhocmakbapfpaa.M
open Go.R
theorem litI_of {l : Lit} {n : Nat} (h : litQ l n) : litI l := ⟨h.2.1.2.2, fun t ht => (h.2.2.2.2 t ht).2.2⟩
theorem szL_of {l : Lit} (h : litQ l 1048576) : szL l := by
 obtain ⟨_, h1, _, h3, h4⟩ := h
 exact ⟨by unfold szT szS; have := h1.1; omega, by omega, fun t ht => by unfold szT szS; have := (h4 t ht).1; omega⟩
theorem allL_of {l : Lit} (h : litQ l 1048576) : allL l := ⟨by have := h.2.2.2.1; omega, litI_of h, szL_of h⟩
theorem allC_of {c : Clause} (h : clauseQ c 1048576) : allC c := by
 obtain ⟨h1, h2, h3⟩ := h
 exact ⟨⟨by omega, by have := h1.2.2.2.1; omega, fun l hl => by have := (h3 l hl).2.2.2.1; omega⟩, ⟨litI_of h1, fun l hl => litI_of (h3 l hl)⟩, ⟨szL_of h1, by omega, fun l hl => szL_of (h3 l hl)⟩⟩
section
variable {w : World} {v0 v1 : Value} {c : Clause} {l : Lit}
theorem args1 {x0 : AV} (h : ARep (Cx.fast w) AH.none w v0 x0) : ∀ (j : Nat) v x, [v0][j]? = some v → [x0][j]? = some x → ARep (Cx.fast w) AH.none w v x := by
 intro j v x hv hx
 cases j with
 | zero =>
   cases hv
   cases hx
   exact h
 | succ j => simp at hv
theorem args2 {x0 x1 : AV} (h : ARep (Cx.fast w) AH.none w v0 x0) (h1 : ARep (Cx.fast w) AH.none w v1 x1) : ∀ (j : Nat) v x, [v0, v1][j]? = some v → [x0, x1][j]? = some x → ARep (Cx.fast w) AH.none w v x := by
 intro j v x hv hx
 cases j with
 | zero =>
   cases hv
   cases hx
   exact h
 | succ j =>
   cases j with
   | zero =>
     cases hv
     cases hx
     exact h1
   | succ j => simp at hv
theorem prints_calls (h0 : ARep (Cx.fast w) AH.none w v0 c.av) (q0 : clauseQ c 1048576) (h1 : ARep (Cx.fast w) AH.none w v1 l.av) (q1 : litQ l 1048576) :
 Calls Try.prog 5 #[v0, v1] w fun e w' => e = .returned (.bool true) ∧ Go.RowKit.Below w.heap.size w w' :=
 calls_of_fs (vals := [v0, v1]) (args := [c.av, l.av]) law3_ok rfl (args2 h0 h1) (by
  simp only [go_sem, Clause.av, Lit.av]
  exact ⟨allC_of q0, allL_of q1⟩) (by simp only [go_sem, Clause.av, Lit.av])
theorem vars_calls (h0 : ARep (Cx.fast w) AH.none w v0 c.av) (q0 : clauseQ c 1048576) :
 Calls Try.prog 6 #[v0] w fun e w' => e = .returned (.bool true) ∧ Go.RowKit.Below w.heap.size w w' :=
 calls_of_fs (vals := [v0]) (args := [c.av]) law4_ok rfl (args1 h0) (by
  simp only [go_sem, Clause.av]
  exact allC_of q0) (by simp only [go_sem, Clause.av])
theorem facts_calls (h0 : ARep (Cx.fast w) AH.none w v0 c.av) (q0 : clauseQ c 1048576) :
 Calls Try.prog 10 #[v0] w fun e w' => e = .returned (.bool true) ∧ Go.RowKit.Below w.heap.size w w' :=
 calls_of_fs (vals := [v0]) (args := [c.av]) law10_ok rfl (args1 h0) (by
  simp only [go_sem, Clause.av]
  exact allC_of q0) (by simp only [go_sem, Clause.av])
theorem back_calls {s : ByteArray} (h0 : ARep (Cx.fast w) AH.none w v0 c.av) (q0 : clauseQ c 1048576) (h1 : s.size ≤ maxLen) :
 Calls Try.prog 7 #[v0, .string s] w fun e w' => e = .returned (.bool true) ∧ Go.RowKit.Below w.heap.size w w' :=
 calls_of_fs (vals := [v0, .string s]) (args := [c.av, vS s]) law7_ok rfl (args2 h0 (.d _ _ (.v _ rfl))) (by
  simp only [go_sem, Clause.av]
  unfold maxLen at h1
  exact ⟨allC_of q0, by omega⟩) (by simp only [go_sem, Clause.av])
theorem asked_calls {s : ByteArray} (h0 : ARep (Cx.fast w) AH.none w v0 l.av) (q0 : litQ l 1048576) (h1 : s.size ≤ maxLen) :
 Calls Try.prog 8 #[v0, .string s] w fun e w' => e = .returned (.bool true) ∧ Go.RowKit.Below w.heap.size w w' :=
 calls_of_fs (vals := [v0, .string s]) (args := [l.av, vS s]) law8_ok rfl (args2 h0 (.d _ _ (.v _ rfl))) (by
  simp only [go_sem, Lit.av]
  unfold maxLen at h1
  exact ⟨allL_of q0, by omega⟩) (by simp only [go_sem, Lit.av])
theorem blanks_calls {s : ByteArray} {u : Int} (h0 : s.size ≤ maxLen) (h1 : (Go.Lit.int .u8 u).wf = true) :
 Calls Try.prog 9 #[.string s, .int .u8 u] w fun e w' => e = .returned (.bool true) ∧ Go.RowKit.Below w.heap.size w w' :=
 calls_of_fs (vals := [.string s, .int .u8 u]) (args := [vS s, .d (.v (.int .u8 u))]) law9_ok rfl (args2 (.d _ _ (.v _ rfl)) (.d _ _ (.v _ rfl))) (by
  have hx : 0 ≤ u ∧ u ≤ 255 := by simpa [Go.Lit.wf, IntKind.min, IntKind.max, IntKind.signed, IntKind.bits] using h1
  intro v hv x hx'
  cases hv
  cases hx'
  unfold maxLen at h0
  exact ⟨by omega, hx⟩) rfl
end
end Go.Proofs.Ytdhocmakbapfpaa.M
end
